/- What the types of this seat's program are: by program (gen_types.py). -/
import Derived.Test.YtneddfiohekhiaaProg
import Derived.Test.YtneddfiohekhiaaHoldM
import Derived.KernelRfl
namespace Go.Proofs.Ytneddfiohekhiaa
-- 1: func()
theorem z1 : ∀ w, (zeroValue 1).run Try.prog w = .ok (.nilFunc) w := fun w => by kernel_rfl
instance : ZeroT Try.prog 1 (.nilFunc) #[.nilFunc] := ⟨z1, rfl⟩
instance : ScalarT Try.prog 1 := ⟨fun w => by kernel_rfl, by kernel_rfl⟩
instance : ElemT Try.prog 1 1 8 (.nilFunc) := ⟨by kernel_rfl⟩
-- 2: int64
theorem z2 : ∀ w, (zeroValue 2).run Try.prog w = .ok (.int .i64 0) w := fun w => by kernel_rfl
instance : ZeroT Try.prog 2 (.int .i64 0) #[.int .i64 0] := ⟨z2, rfl⟩
instance : ScalarT Try.prog 2 := ⟨fun w => by kernel_rfl, by kernel_rfl⟩
instance : ElemT Try.prog 2 1 8 (.int .i64 0) := ⟨by kernel_rfl⟩
-- 3: int
theorem z3 : ∀ w, (zeroValue 3).run Try.prog w = .ok (.int .i64 0) w := fun w => by kernel_rfl
instance : ZeroT Try.prog 3 (.int .i64 0) #[.int .i64 0] := ⟨z3, rfl⟩
instance : ScalarT Try.prog 3 := ⟨fun w => by kernel_rfl, by kernel_rfl⟩
instance : ElemT Try.prog 3 1 8 (.int .i64 0) := ⟨by kernel_rfl⟩
-- 4: bool
theorem z4 : ∀ w, (zeroValue 4).run Try.prog w = .ok (.bool false) w := fun w => by kernel_rfl
instance : ZeroT Try.prog 4 (.bool false) #[.bool false] := ⟨z4, rfl⟩
instance : ScalarT Try.prog 4 := ⟨fun w => by kernel_rfl, by kernel_rfl⟩
instance : ElemT Try.prog 4 1 1 (.bool false) := ⟨by kernel_rfl⟩
-- 5: uint8
theorem z5 : ∀ w, (zeroValue 5).run Try.prog w = .ok (.int .u8 0) w := fun w => by kernel_rfl
instance : ZeroT Try.prog 5 (.int .u8 0) #[.int .u8 0] := ⟨z5, rfl⟩
instance : ScalarT Try.prog 5 := ⟨fun w => by kernel_rfl, by kernel_rfl⟩
instance : ElemT Try.prog 5 1 1 (.int .u8 0) := ⟨by kernel_rfl⟩
-- 9: string
theorem z9 : ∀ w, (zeroValue 9).run Try.prog w = .ok (.string ByteArray.empty) w := fun w => by kernel_rfl
instance : ZeroT Try.prog 9 (.string ByteArray.empty) #[.string ByteArray.empty] := ⟨z9, rfl⟩
instance : ScalarT Try.prog 9 := ⟨fun w => by kernel_rfl, by kernel_rfl⟩
instance : ElemT Try.prog 9 1 16 (.string ByteArray.empty) := ⟨by kernel_rfl⟩
-- 12: uintptr
theorem z12 : ∀ w, (zeroValue 12).run Try.prog w = .ok (.int .u64 0) w := fun w => by kernel_rfl
instance : ZeroT Try.prog 12 (.int .u64 0) #[.int .u64 0] := ⟨z12, rfl⟩
instance : ScalarT Try.prog 12 := ⟨fun w => by kernel_rfl, by kernel_rfl⟩
instance : ElemT Try.prog 12 1 8 (.int .u64 0) := ⟨by kernel_rfl⟩
-- 17: *abi.Type
theorem z17 : ∀ w, (zeroValue 17).run Try.prog w = .ok (.pointer none) w := fun w => by kernel_rfl
instance : ZeroT Try.prog 17 (.pointer none) #[.pointer none] := ⟨z17, rfl⟩
instance : ScalarT Try.prog 17 := ⟨fun w => by kernel_rfl, by kernel_rfl⟩
instance : ElemT Try.prog 17 1 8 (.pointer none) := ⟨by kernel_rfl⟩
-- 21: int32
theorem z21 : ∀ w, (zeroValue 21).run Try.prog w = .ok (.int .i32 0) w := fun w => by kernel_rfl
instance : ZeroT Try.prog 21 (.int .i32 0) #[.int .i32 0] := ⟨z21, rfl⟩
instance : ScalarT Try.prog 21 := ⟨fun w => by kernel_rfl, by kernel_rfl⟩
instance : ElemT Try.prog 21 1 4 (.int .i32 0) := ⟨by kernel_rfl⟩
-- 22: []api.Seg
theorem z22 : ∀ w, (zeroValue 22).run Try.prog w = .ok (.slice none 0 0) w := fun w => by kernel_rfl
instance : ZeroT Try.prog 22 (.slice none 0 0) #[.slice none 0 0] := ⟨z22, rfl⟩
instance : ScalarT Try.prog 22 := ⟨fun w => by kernel_rfl, by kernel_rfl⟩
instance : ElemT Try.prog 22 1 24 (.slice none 0 0) := ⟨by kernel_rfl⟩
instance : SliceT Try.prog 22 45 := ⟨Try.underlying22⟩
-- 23: func() bool
theorem z23 : ∀ w, (zeroValue 23).run Try.prog w = .ok (.nilFunc) w := fun w => by kernel_rfl
instance : ZeroT Try.prog 23 (.nilFunc) #[.nilFunc] := ⟨z23, rfl⟩
instance : ScalarT Try.prog 23 := ⟨fun w => by kernel_rfl, by kernel_rfl⟩
instance : ElemT Try.prog 23 1 8 (.nilFunc) := ⟨by kernel_rfl⟩
-- 24: []uint8
theorem z24 : ∀ w, (zeroValue 24).run Try.prog w = .ok (.slice none 0 0) w := fun w => by kernel_rfl
instance : ZeroT Try.prog 24 (.slice none 0 0) #[.slice none 0 0] := ⟨z24, rfl⟩
instance : ScalarT Try.prog 24 := ⟨fun w => by kernel_rfl, by kernel_rfl⟩
instance : ElemT Try.prog 24 1 24 (.slice none 0 0) := ⟨by kernel_rfl⟩
instance : SliceT Try.prog 24 5 := ⟨Try.underlying24⟩
-- 25: W
theorem z25 : ∀ w, (zeroValue 25).run Try.prog w = .ok (.agg #[.int .i64 0, .int .i64 0, .slice none 0 0]) w := fun w => by kernel_rfl
instance : ZeroT Try.prog 25 (.agg #[.int .i64 0, .int .i64 0, .slice none 0 0]) #[.int .i64 0, .int .i64 0, .slice none 0 0] := ⟨z25, rfl⟩
instance : RowT Try.prog 25 3 := ⟨fun w => by kernel_rfl, by kernel_rfl⟩
instance : ElemT Try.prog 25 3 40 (.agg #[.int .i64 0, .int .i64 0, .slice none 0 0]) := ⟨by kernel_rfl⟩
-- 26: tympan/api.Mask
theorem z26 : ∀ w, (zeroValue 26).run Try.prog w = .ok (.agg #[.int .i64 0, .int .i64 0, .slice none 0 0]) w := fun w => by kernel_rfl
instance : ZeroT Try.prog 26 (.agg #[.int .i64 0, .int .i64 0, .slice none 0 0]) #[.int .i64 0, .int .i64 0, .slice none 0 0] := ⟨z26, rfl⟩
instance : RowT Try.prog 26 3 := ⟨fun w => by kernel_rfl, by kernel_rfl⟩
instance : ElemT Try.prog 26 3 40 (.agg #[.int .i64 0, .int .i64 0, .slice none 0 0]) := ⟨by kernel_rfl⟩
-- 27: tympan/api.Errno
theorem z27 : ∀ w, (zeroValue 27).run Try.prog w = .ok (.int .i64 0) w := fun w => by kernel_rfl
instance : ZeroT Try.prog 27 (.int .i64 0) #[.int .i64 0] := ⟨z27, rfl⟩
instance : ScalarT Try.prog 27 := ⟨fun w => by kernel_rfl, by kernel_rfl⟩
instance : ElemT Try.prog 27 1 8 (.int .i64 0) := ⟨by kernel_rfl⟩
-- 29: func([]api.Seg, int, int, int) (api.Mask, api.Errno)
theorem z29 : ∀ w, (zeroValue 29).run Try.prog w = .ok (.nilFunc) w := fun w => by kernel_rfl
instance : ZeroT Try.prog 29 (.nilFunc) #[.nilFunc] := ⟨z29, rfl⟩
instance : ScalarT Try.prog 29 := ⟨fun w => by kernel_rfl, by kernel_rfl⟩
instance : ElemT Try.prog 29 1 8 (.nilFunc) := ⟨by kernel_rfl⟩
-- 31: func([]api.Seg, int, int, int) (api.Mask, int)
theorem z31 : ∀ w, (zeroValue 31).run Try.prog w = .ok (.nilFunc) w := fun w => by kernel_rfl
instance : ZeroT Try.prog 31 (.nilFunc) #[.nilFunc] := ⟨z31, rfl⟩
instance : ScalarT Try.prog 31 := ⟨fun w => by kernel_rfl, by kernel_rfl⟩
instance : ElemT Try.prog 31 1 8 (.nilFunc) := ⟨by kernel_rfl⟩
-- 32: func(api.Mask, api.Mask) bool
theorem z32 : ∀ w, (zeroValue 32).run Try.prog w = .ok (.nilFunc) w := fun w => by kernel_rfl
instance : ZeroT Try.prog 32 (.nilFunc) #[.nilFunc] := ⟨z32, rfl⟩
instance : ScalarT Try.prog 32 := ⟨fun w => by kernel_rfl, by kernel_rfl⟩
instance : ElemT Try.prog 32 1 8 (.nilFunc) := ⟨by kernel_rfl⟩
-- 33: func([]api.Seg, int, int, int) bool
theorem z33 : ∀ w, (zeroValue 33).run Try.prog w = .ok (.nilFunc) w := fun w => by kernel_rfl
instance : ZeroT Try.prog 33 (.nilFunc) #[.nilFunc] := ⟨z33, rfl⟩
instance : ScalarT Try.prog 33 := ⟨fun w => by kernel_rfl, by kernel_rfl⟩
instance : ElemT Try.prog 33 1 8 (.nilFunc) := ⟨by kernel_rfl⟩
-- 34: []int
theorem z34 : ∀ w, (zeroValue 34).run Try.prog w = .ok (.slice none 0 0) w := fun w => by kernel_rfl
instance : ZeroT Try.prog 34 (.slice none 0 0) #[.slice none 0 0] := ⟨z34, rfl⟩
instance : ScalarT Try.prog 34 := ⟨fun w => by kernel_rfl, by kernel_rfl⟩
instance : ElemT Try.prog 34 1 24 (.slice none 0 0) := ⟨by kernel_rfl⟩
instance : SliceT Try.prog 34 3 := ⟨Try.underlying34⟩
-- 35: func([]int, bool) []api.Seg
theorem z35 : ∀ w, (zeroValue 35).run Try.prog w = .ok (.nilFunc) w := fun w => by kernel_rfl
instance : ZeroT Try.prog 35 (.nilFunc) #[.nilFunc] := ⟨z35, rfl⟩
instance : ScalarT Try.prog 35 := ⟨fun w => by kernel_rfl, by kernel_rfl⟩
instance : ElemT Try.prog 35 1 8 (.nilFunc) := ⟨by kernel_rfl⟩
-- 36: func(int, int) int
theorem z36 : ∀ w, (zeroValue 36).run Try.prog w = .ok (.nilFunc) w := fun w => by kernel_rfl
instance : ZeroT Try.prog 36 (.nilFunc) #[.nilFunc] := ⟨z36, rfl⟩
instance : ScalarT Try.prog 36 := ⟨fun w => by kernel_rfl, by kernel_rfl⟩
instance : ElemT Try.prog 36 1 8 (.nilFunc) := ⟨by kernel_rfl⟩
-- 37: func(int) int
theorem z37 : ∀ w, (zeroValue 37).run Try.prog w = .ok (.nilFunc) w := fun w => by kernel_rfl
instance : ZeroT Try.prog 37 (.nilFunc) #[.nilFunc] := ⟨z37, rfl⟩
instance : ScalarT Try.prog 37 := ⟨fun w => by kernel_rfl, by kernel_rfl⟩
instance : ElemT Try.prog 37 1 8 (.nilFunc) := ⟨by kernel_rfl⟩
-- 38: func(api.Mask) bool
theorem z38 : ∀ w, (zeroValue 38).run Try.prog w = .ok (.nilFunc) w := fun w => by kernel_rfl
instance : ZeroT Try.prog 38 (.nilFunc) #[.nilFunc] := ⟨z38, rfl⟩
instance : ScalarT Try.prog 38 := ⟨fun w => by kernel_rfl, by kernel_rfl⟩
instance : ElemT Try.prog 38 1 8 (.nilFunc) := ⟨by kernel_rfl⟩
-- 39: func(api.Mask) int
theorem z39 : ∀ w, (zeroValue 39).run Try.prog w = .ok (.nilFunc) w := fun w => by kernel_rfl
instance : ZeroT Try.prog 39 (.nilFunc) #[.nilFunc] := ⟨z39, rfl⟩
instance : ScalarT Try.prog 39 := ⟨fun w => by kernel_rfl, by kernel_rfl⟩
instance : ElemT Try.prog 39 1 8 (.nilFunc) := ⟨by kernel_rfl⟩
-- 40: func([]int, int, int, int) bool
theorem z40 : ∀ w, (zeroValue 40).run Try.prog w = .ok (.nilFunc) w := fun w => by kernel_rfl
instance : ZeroT Try.prog 40 (.nilFunc) #[.nilFunc] := ⟨z40, rfl⟩
instance : ScalarT Try.prog 40 := ⟨fun w => by kernel_rfl, by kernel_rfl⟩
instance : ElemT Try.prog 40 1 8 (.nilFunc) := ⟨by kernel_rfl⟩
-- 41: func([]int) []api.Seg
theorem z41 : ∀ w, (zeroValue 41).run Try.prog w = .ok (.nilFunc) w := fun w => by kernel_rfl
instance : ZeroT Try.prog 41 (.nilFunc) #[.nilFunc] := ⟨z41, rfl⟩
instance : ScalarT Try.prog 41 := ⟨fun w => by kernel_rfl, by kernel_rfl⟩
instance : ElemT Try.prog 41 1 8 (.nilFunc) := ⟨by kernel_rfl⟩
-- 42: []api.Edge
theorem z42 : ∀ w, (zeroValue 42).run Try.prog w = .ok (.slice none 0 0) w := fun w => by kernel_rfl
instance : ZeroT Try.prog 42 (.slice none 0 0) #[.slice none 0 0] := ⟨z42, rfl⟩
instance : ScalarT Try.prog 42 := ⟨fun w => by kernel_rfl, by kernel_rfl⟩
instance : ElemT Try.prog 42 1 24 (.slice none 0 0) := ⟨by kernel_rfl⟩
instance : SliceT Try.prog 42 47 := ⟨Try.underlying42⟩
-- 43: func([]api.Seg) []api.Edge
theorem z43 : ∀ w, (zeroValue 43).run Try.prog w = .ok (.nilFunc) w := fun w => by kernel_rfl
instance : ZeroT Try.prog 43 (.nilFunc) #[.nilFunc] := ⟨z43, rfl⟩
instance : ScalarT Try.prog 43 := ⟨fun w => by kernel_rfl, by kernel_rfl⟩
instance : ElemT Try.prog 43 1 8 (.nilFunc) := ⟨by kernel_rfl⟩
-- 44: Kind
theorem z44 : ∀ w, (zeroValue 44).run Try.prog w = .ok (.agg #[.int .i64 0, .int .i64 0, .int .i64 0, .int .i64 0, .int .i64 0]) w := fun w => by kernel_rfl
instance : ZeroT Try.prog 44 (.agg #[.int .i64 0, .int .i64 0, .int .i64 0, .int .i64 0, .int .i64 0]) #[.int .i64 0, .int .i64 0, .int .i64 0, .int .i64 0, .int .i64 0] := ⟨z44, rfl⟩
instance : RowT Try.prog 44 5 := ⟨fun w => by kernel_rfl, by kernel_rfl⟩
instance : ElemT Try.prog 44 5 40 (.agg #[.int .i64 0, .int .i64 0, .int .i64 0, .int .i64 0, .int .i64 0]) := ⟨by kernel_rfl⟩
-- 45: tympan/api.Seg
theorem z45 : ∀ w, (zeroValue 45).run Try.prog w = .ok (.agg #[.int .i64 0, .int .i64 0, .int .i64 0, .int .i64 0, .int .i64 0]) w := fun w => by kernel_rfl
instance : ZeroT Try.prog 45 (.agg #[.int .i64 0, .int .i64 0, .int .i64 0, .int .i64 0, .int .i64 0]) #[.int .i64 0, .int .i64 0, .int .i64 0, .int .i64 0, .int .i64 0] := ⟨z45, rfl⟩
instance : RowT Try.prog 45 5 := ⟨fun w => by kernel_rfl, by kernel_rfl⟩
instance : ElemT Try.prog 45 5 40 (.agg #[.int .i64 0, .int .i64 0, .int .i64 0, .int .i64 0, .int .i64 0]) := ⟨by kernel_rfl⟩
-- 46: X0
theorem z46 : ∀ w, (zeroValue 46).run Try.prog w = .ok (.agg #[.int .i64 0, .int .i64 0, .bool false, .int .i64 0, .int .i64 0, .int .i64 0, .int .i64 0]) w := fun w => by kernel_rfl
instance : ZeroT Try.prog 46 (.agg #[.int .i64 0, .int .i64 0, .bool false, .int .i64 0, .int .i64 0, .int .i64 0, .int .i64 0]) #[.int .i64 0, .int .i64 0, .bool false, .int .i64 0, .int .i64 0, .int .i64 0, .int .i64 0] := ⟨z46, rfl⟩
instance : RowT Try.prog 46 7 := ⟨fun w => by kernel_rfl, by kernel_rfl⟩
instance : ElemT Try.prog 46 7 56 (.agg #[.int .i64 0, .int .i64 0, .bool false, .int .i64 0, .int .i64 0, .int .i64 0, .int .i64 0]) := ⟨by kernel_rfl⟩
-- 47: tympan/api.Edge
theorem z47 : ∀ w, (zeroValue 47).run Try.prog w = .ok (.agg #[.int .i64 0, .int .i64 0, .bool false, .int .i64 0, .int .i64 0, .int .i64 0, .int .i64 0]) w := fun w => by kernel_rfl
instance : ZeroT Try.prog 47 (.agg #[.int .i64 0, .int .i64 0, .bool false, .int .i64 0, .int .i64 0, .int .i64 0, .int .i64 0]) #[.int .i64 0, .int .i64 0, .bool false, .int .i64 0, .int .i64 0, .int .i64 0, .int .i64 0] := ⟨z47, rfl⟩
instance : RowT Try.prog 47 7 := ⟨fun w => by kernel_rfl, by kernel_rfl⟩
instance : ElemT Try.prog 47 7 56 (.agg #[.int .i64 0, .int .i64 0, .bool false, .int .i64 0, .int .i64 0, .int .i64 0, .int .i64 0]) := ⟨by kernel_rfl⟩
-- 48: func(api.Mask, api.Mask) (api.Mask, api.Errno)
theorem z48 : ∀ w, (zeroValue 48).run Try.prog w = .ok (.nilFunc) w := fun w => by kernel_rfl
instance : ZeroT Try.prog 48 (.nilFunc) #[.nilFunc] := ⟨z48, rfl⟩
instance : ScalarT Try.prog 48 := ⟨fun w => by kernel_rfl, by kernel_rfl⟩
instance : ElemT Try.prog 48 1 8 (.nilFunc) := ⟨by kernel_rfl⟩
-- 49: func([]int, int, int) bool
theorem z49 : ∀ w, (zeroValue 49).run Try.prog w = .ok (.nilFunc) w := fun w => by kernel_rfl
instance : ZeroT Try.prog 49 (.nilFunc) #[.nilFunc] := ⟨z49, rfl⟩
instance : ScalarT Try.prog 49 := ⟨fun w => by kernel_rfl, by kernel_rfl⟩
instance : ElemT Try.prog 49 1 8 (.nilFunc) := ⟨by kernel_rfl⟩
-- 50: [4]int
theorem z50 : ∀ w, (zeroValue 50).run Try.prog w = .ok (.agg #[.int .i64 0, .int .i64 0, .int .i64 0, .int .i64 0]) w := fun w => by kernel_rfl
instance : ZeroT Try.prog 50 (.agg #[.int .i64 0, .int .i64 0, .int .i64 0, .int .i64 0]) #[.int .i64 0, .int .i64 0, .int .i64 0, .int .i64 0] := ⟨z50, rfl⟩
instance : RowT Try.prog 50 4 := ⟨fun w => by kernel_rfl, by kernel_rfl⟩
instance : ElemT Try.prog 50 4 32 (.agg #[.int .i64 0, .int .i64 0, .int .i64 0, .int .i64 0]) := ⟨by kernel_rfl⟩
instance : ArrT Try.prog 50 4 3 := ⟨Try.underlying50, fun w => by kernel_rfl, by kernel_rfl⟩
-- 52: func([]api.Seg) (int, int, int, int, bool)
theorem z52 : ∀ w, (zeroValue 52).run Try.prog w = .ok (.nilFunc) w := fun w => by kernel_rfl
instance : ZeroT Try.prog 52 (.nilFunc) #[.nilFunc] := ⟨z52, rfl⟩
instance : ScalarT Try.prog 52 := ⟨fun w => by kernel_rfl, by kernel_rfl⟩
instance : ElemT Try.prog 52 1 8 (.nilFunc) := ⟨by kernel_rfl⟩
-- 53: func(api.Mask, int, int) bool
theorem z53 : ∀ w, (zeroValue 53).run Try.prog w = .ok (.nilFunc) w := fun w => by kernel_rfl
instance : ZeroT Try.prog 53 (.nilFunc) #[.nilFunc] := ⟨z53, rfl⟩
instance : ScalarT Try.prog 53 := ⟨fun w => by kernel_rfl, by kernel_rfl⟩
instance : ElemT Try.prog 53 1 8 (.nilFunc) := ⟨by kernel_rfl⟩
-- 54: func([]int, int, [4]int) bool
theorem z54 : ∀ w, (zeroValue 54).run Try.prog w = .ok (.nilFunc) w := fun w => by kernel_rfl
instance : ZeroT Try.prog 54 (.nilFunc) #[.nilFunc] := ⟨z54, rfl⟩
instance : ScalarT Try.prog 54 := ⟨fun w => by kernel_rfl, by kernel_rfl⟩
instance : ElemT Try.prog 54 1 8 (.nilFunc) := ⟨by kernel_rfl⟩
-- 56: func([]api.Seg, int, int) ([]api.Seg, api.Errno)
theorem z56 : ∀ w, (zeroValue 56).run Try.prog w = .ok (.nilFunc) w := fun w => by kernel_rfl
instance : ZeroT Try.prog 56 (.nilFunc) #[.nilFunc] := ⟨z56, rfl⟩
instance : ScalarT Try.prog 56 := ⟨fun w => by kernel_rfl, by kernel_rfl⟩
instance : ElemT Try.prog 56 1 8 (.nilFunc) := ⟨by kernel_rfl⟩
-- 57: func([]int, [4]int) bool
theorem z57 : ∀ w, (zeroValue 57).run Try.prog w = .ok (.nilFunc) w := fun w => by kernel_rfl
instance : ZeroT Try.prog 57 (.nilFunc) #[.nilFunc] := ⟨z57, rfl⟩
instance : ScalarT Try.prog 57 := ⟨fun w => by kernel_rfl, by kernel_rfl⟩
instance : ElemT Try.prog 57 1 8 (.nilFunc) := ⟨by kernel_rfl⟩
-- 58: func(int, api.Mask, api.Mask) (api.Mask, int)
theorem z58 : ∀ w, (zeroValue 58).run Try.prog w = .ok (.nilFunc) w := fun w => by kernel_rfl
instance : ZeroT Try.prog 58 (.nilFunc) #[.nilFunc] := ⟨z58, rfl⟩
instance : ScalarT Try.prog 58 := ⟨fun w => by kernel_rfl, by kernel_rfl⟩
instance : ElemT Try.prog 58 1 8 (.nilFunc) := ⟨by kernel_rfl⟩
-- 59: func(api.Mask, api.Mask, int, int) bool
theorem z59 : ∀ w, (zeroValue 59).run Try.prog w = .ok (.nilFunc) w := fun w => by kernel_rfl
instance : ZeroT Try.prog 59 (.nilFunc) #[.nilFunc] := ⟨z59, rfl⟩
instance : ScalarT Try.prog 59 := ⟨fun w => by kernel_rfl, by kernel_rfl⟩
instance : ElemT Try.prog 59 1 8 (.nilFunc) := ⟨by kernel_rfl⟩
-- 60: func(int, int, int, int) []api.Seg
theorem z60 : ∀ w, (zeroValue 60).run Try.prog w = .ok (.nilFunc) w := fun w => by kernel_rfl
instance : ZeroT Try.prog 60 (.nilFunc) #[.nilFunc] := ⟨z60, rfl⟩
instance : ScalarT Try.prog 60 := ⟨fun w => by kernel_rfl, by kernel_rfl⟩
instance : ElemT Try.prog 60 1 8 (.nilFunc) := ⟨by kernel_rfl⟩
-- 61: func([]api.Seg) []api.Seg
theorem z61 : ∀ w, (zeroValue 61).run Try.prog w = .ok (.nilFunc) w := fun w => by kernel_rfl
instance : ZeroT Try.prog 61 (.nilFunc) #[.nilFunc] := ⟨z61, rfl⟩
instance : ScalarT Try.prog 61 := ⟨fun w => by kernel_rfl, by kernel_rfl⟩
instance : ElemT Try.prog 61 1 8 (.nilFunc) := ⟨by kernel_rfl⟩
-- 62: func([4]int, bool) bool
theorem z62 : ∀ w, (zeroValue 62).run Try.prog w = .ok (.nilFunc) w := fun w => by kernel_rfl
instance : ZeroT Try.prog 62 (.nilFunc) #[.nilFunc] := ⟨z62, rfl⟩
instance : ScalarT Try.prog 62 := ⟨fun w => by kernel_rfl, by kernel_rfl⟩
instance : ElemT Try.prog 62 1 8 (.nilFunc) := ⟨by kernel_rfl⟩
-- 63: func([]api.Seg, []api.Seg) ([]api.Seg, api.Errno)
theorem z63 : ∀ w, (zeroValue 63).run Try.prog w = .ok (.nilFunc) w := fun w => by kernel_rfl
instance : ZeroT Try.prog 63 (.nilFunc) #[.nilFunc] := ⟨z63, rfl⟩
instance : ScalarT Try.prog 63 := ⟨fun w => by kernel_rfl, by kernel_rfl⟩
instance : ElemT Try.prog 63 1 8 (.nilFunc) := ⟨by kernel_rfl⟩
-- 64: func([]int, []int) bool
theorem z64 : ∀ w, (zeroValue 64).run Try.prog w = .ok (.nilFunc) w := fun w => by kernel_rfl
instance : ZeroT Try.prog 64 (.nilFunc) #[.nilFunc] := ⟨z64, rfl⟩
instance : ScalarT Try.prog 64 := ⟨fun w => by kernel_rfl, by kernel_rfl⟩
instance : ElemT Try.prog 64 1 8 (.nilFunc) := ⟨by kernel_rfl⟩
-- 65: func([]api.Seg) bool
theorem z65 : ∀ w, (zeroValue 65).run Try.prog w = .ok (.nilFunc) w := fun w => by kernel_rfl
instance : ZeroT Try.prog 65 (.nilFunc) #[.nilFunc] := ⟨z65, rfl⟩
instance : ScalarT Try.prog 65 := ⟨fun w => by kernel_rfl, by kernel_rfl⟩
instance : ElemT Try.prog 65 1 8 (.nilFunc) := ⟨by kernel_rfl⟩
-- 66: func(int) bool
theorem z66 : ∀ w, (zeroValue 66).run Try.prog w = .ok (.nilFunc) w := fun w => by kernel_rfl
instance : ZeroT Try.prog 66 (.nilFunc) #[.nilFunc] := ⟨z66, rfl⟩
instance : ScalarT Try.prog 66 := ⟨fun w => by kernel_rfl, by kernel_rfl⟩
instance : ElemT Try.prog 66 1 8 (.nilFunc) := ⟨by kernel_rfl⟩
-- 67: func([]api.Edge, int, int, int) bool
theorem z67 : ∀ w, (zeroValue 67).run Try.prog w = .ok (.nilFunc) w := fun w => by kernel_rfl
instance : ZeroT Try.prog 67 (.nilFunc) #[.nilFunc] := ⟨z67, rfl⟩
instance : ScalarT Try.prog 67 := ⟨fun w => by kernel_rfl, by kernel_rfl⟩
instance : ElemT Try.prog 67 1 8 (.nilFunc) := ⟨by kernel_rfl⟩
-- 68: func([]uint8, []uint8) bool
theorem z68 : ∀ w, (zeroValue 68).run Try.prog w = .ok (.nilFunc) w := fun w => by kernel_rfl
instance : ZeroT Try.prog 68 (.nilFunc) #[.nilFunc] := ⟨z68, rfl⟩
instance : ScalarT Try.prog 68 := ⟨fun w => by kernel_rfl, by kernel_rfl⟩
instance : ElemT Try.prog 68 1 8 (.nilFunc) := ⟨by kernel_rfl⟩
-- 69: *tympanlaw25.L
theorem z69 : ∀ w, (zeroValue 69).run Try.prog w = .ok (.pointer none) w := fun w => by kernel_rfl
instance : ZeroT Try.prog 69 (.pointer none) #[.pointer none] := ⟨z69, rfl⟩
instance : ScalarT Try.prog 69 := ⟨fun w => by kernel_rfl, by kernel_rfl⟩
instance : ElemT Try.prog 69 1 8 (.pointer none) := ⟨by kernel_rfl⟩
-- 70: N
theorem z70 : ∀ w, (zeroValue 70).run Try.prog w = .ok (.agg #[.slice none 0 0]) w := fun w => by kernel_rfl
instance : ZeroT Try.prog 70 (.agg #[.slice none 0 0]) #[.slice none 0 0] := ⟨z70, rfl⟩
instance : RowT Try.prog 70 1 := ⟨fun w => by kernel_rfl, by kernel_rfl⟩
instance : ElemT Try.prog 70 1 24 (.agg #[.slice none 0 0]) := ⟨by kernel_rfl⟩
-- 71: tympan/tympanlaw25.L
theorem z71 : ∀ w, (zeroValue 71).run Try.prog w = .ok (.agg #[.slice none 0 0]) w := fun w => by kernel_rfl
instance : ZeroT Try.prog 71 (.agg #[.slice none 0 0]) #[.slice none 0 0] := ⟨z71, rfl⟩
instance : RowT Try.prog 71 1 := ⟨fun w => by kernel_rfl, by kernel_rfl⟩
instance : ElemT Try.prog 71 1 24 (.agg #[.slice none 0 0]) := ⟨by kernel_rfl⟩
-- 72: func([]api.Seg, bool) []api.Seg
theorem z72 : ∀ w, (zeroValue 72).run Try.prog w = .ok (.nilFunc) w := fun w => by kernel_rfl
instance : ZeroT Try.prog 72 (.nilFunc) #[.nilFunc] := ⟨z72, rfl⟩
instance : ScalarT Try.prog 72 := ⟨fun w => by kernel_rfl, by kernel_rfl⟩
instance : ElemT Try.prog 72 1 8 (.nilFunc) := ⟨by kernel_rfl⟩
-- 73: func() int
theorem z73 : ∀ w, (zeroValue 73).run Try.prog w = .ok (.nilFunc) w := fun w => by kernel_rfl
instance : ZeroT Try.prog 73 (.nilFunc) #[.nilFunc] := ⟨z73, rfl⟩
instance : ScalarT Try.prog 73 := ⟨fun w => by kernel_rfl, by kernel_rfl⟩
instance : ElemT Try.prog 73 1 8 (.nilFunc) := ⟨by kernel_rfl⟩
-- 74: []path.Contour
theorem z74 : ∀ w, (zeroValue 74).run Try.prog w = .ok (.slice none 0 0) w := fun w => by kernel_rfl
instance : ZeroT Try.prog 74 (.slice none 0 0) #[.slice none 0 0] := ⟨z74, rfl⟩
instance : ScalarT Try.prog 74 := ⟨fun w => by kernel_rfl, by kernel_rfl⟩
instance : ElemT Try.prog 74 1 24 (.slice none 0 0) := ⟨by kernel_rfl⟩
instance : SliceT Try.prog 74 77 := ⟨Try.underlying74⟩
-- 75: func([]api.Seg) []path.Contour
theorem z75 : ∀ w, (zeroValue 75).run Try.prog w = .ok (.nilFunc) w := fun w => by kernel_rfl
instance : ZeroT Try.prog 75 (.nilFunc) #[.nilFunc] := ⟨z75, rfl⟩
instance : ScalarT Try.prog 75 := ⟨fun w => by kernel_rfl, by kernel_rfl⟩
instance : ElemT Try.prog 75 1 8 (.nilFunc) := ⟨by kernel_rfl⟩
-- 76: X
theorem z76 : ∀ w, (zeroValue 76).run Try.prog w = .ok (.agg #[.int .i64 0, .int .i64 0, .slice none 0 0, .bool false]) w := fun w => by kernel_rfl
instance : ZeroT Try.prog 76 (.agg #[.int .i64 0, .int .i64 0, .slice none 0 0, .bool false]) #[.int .i64 0, .int .i64 0, .slice none 0 0, .bool false] := ⟨z76, rfl⟩
instance : RowT Try.prog 76 4 := ⟨fun w => by kernel_rfl, by kernel_rfl⟩
instance : ElemT Try.prog 76 4 48 (.agg #[.int .i64 0, .int .i64 0, .slice none 0 0, .bool false]) := ⟨by kernel_rfl⟩
-- 77: tympan/path.Contour
theorem z77 : ∀ w, (zeroValue 77).run Try.prog w = .ok (.agg #[.int .i64 0, .int .i64 0, .slice none 0 0, .bool false]) w := fun w => by kernel_rfl
instance : ZeroT Try.prog 77 (.agg #[.int .i64 0, .int .i64 0, .slice none 0 0, .bool false]) #[.int .i64 0, .int .i64 0, .slice none 0 0, .bool false] := ⟨z77, rfl⟩
instance : RowT Try.prog 77 4 := ⟨fun w => by kernel_rfl, by kernel_rfl⟩
instance : ElemT Try.prog 77 4 48 (.agg #[.int .i64 0, .int .i64 0, .slice none 0 0, .bool false]) := ⟨by kernel_rfl⟩
-- 78: func(api.Mask, api.Mask, func(uint8, uint8) uint8) (api.Mask
theorem z78 : ∀ w, (zeroValue 78).run Try.prog w = .ok (.nilFunc) w := fun w => by kernel_rfl
instance : ZeroT Try.prog 78 (.nilFunc) #[.nilFunc] := ⟨z78, rfl⟩
instance : ScalarT Try.prog 78 := ⟨fun w => by kernel_rfl, by kernel_rfl⟩
instance : ElemT Try.prog 78 1 8 (.nilFunc) := ⟨by kernel_rfl⟩
-- 79: func(uint8, uint8) uint8
theorem z79 : ∀ w, (zeroValue 79).run Try.prog w = .ok (.nilFunc) w := fun w => by kernel_rfl
instance : ZeroT Try.prog 79 (.nilFunc) #[.nilFunc] := ⟨z79, rfl⟩
instance : ScalarT Try.prog 79 := ⟨fun w => by kernel_rfl, by kernel_rfl⟩
instance : ElemT Try.prog 79 1 8 (.nilFunc) := ⟨by kernel_rfl⟩
-- 80: func(int, int)
theorem z80 : ∀ w, (zeroValue 80).run Try.prog w = .ok (.nilFunc) w := fun w => by kernel_rfl
instance : ZeroT Try.prog 80 (.nilFunc) #[.nilFunc] := ⟨z80, rfl⟩
instance : ScalarT Try.prog 80 := ⟨fun w => by kernel_rfl, by kernel_rfl⟩
instance : ElemT Try.prog 80 1 8 (.nilFunc) := ⟨by kernel_rfl⟩
-- 81: func(...int) bool
theorem z81 : ∀ w, (zeroValue 81).run Try.prog w = .ok (.nilFunc) w := fun w => by kernel_rfl
instance : ZeroT Try.prog 81 (.nilFunc) #[.nilFunc] := ⟨z81, rfl⟩
instance : ScalarT Try.prog 81 := ⟨fun w => by kernel_rfl, by kernel_rfl⟩
instance : ElemT Try.prog 81 1 8 (.nilFunc) := ⟨by kernel_rfl⟩
-- 82: func(int, bool, bool) bool
theorem z82 : ∀ w, (zeroValue 82).run Try.prog w = .ok (.nilFunc) w := fun w => by kernel_rfl
instance : ZeroT Try.prog 82 (.nilFunc) #[.nilFunc] := ⟨z82, rfl⟩
instance : ScalarT Try.prog 82 := ⟨fun w => by kernel_rfl, by kernel_rfl⟩
instance : ElemT Try.prog 82 1 8 (.nilFunc) := ⟨by kernel_rfl⟩
-- 83: func([]api.Seg) int
theorem z83 : ∀ w, (zeroValue 83).run Try.prog w = .ok (.nilFunc) w := fun w => by kernel_rfl
instance : ZeroT Try.prog 83 (.nilFunc) #[.nilFunc] := ⟨z83, rfl⟩
instance : ScalarT Try.prog 83 := ⟨fun w => by kernel_rfl, by kernel_rfl⟩
instance : ElemT Try.prog 83 1 8 (.nilFunc) := ⟨by kernel_rfl⟩
-- 84: func([]api.Seg, ...api.Seg) ([]api.Seg, api.Errno)
theorem z84 : ∀ w, (zeroValue 84).run Try.prog w = .ok (.nilFunc) w := fun w => by kernel_rfl
instance : ZeroT Try.prog 84 (.nilFunc) #[.nilFunc] := ⟨z84, rfl⟩
instance : ScalarT Try.prog 84 := ⟨fun w => by kernel_rfl, by kernel_rfl⟩
instance : ElemT Try.prog 84 1 8 (.nilFunc) := ⟨by kernel_rfl⟩
-- 85: func(api.Seg, int) bool
theorem z85 : ∀ w, (zeroValue 85).run Try.prog w = .ok (.nilFunc) w := fun w => by kernel_rfl
instance : ZeroT Try.prog 85 (.nilFunc) #[.nilFunc] := ⟨z85, rfl⟩
instance : ScalarT Try.prog 85 := ⟨fun w => by kernel_rfl, by kernel_rfl⟩
instance : ElemT Try.prog 85 1 8 (.nilFunc) := ⟨by kernel_rfl⟩
-- 86: func([]api.Edge, int, int) int
theorem z86 : ∀ w, (zeroValue 86).run Try.prog w = .ok (.nilFunc) w := fun w => by kernel_rfl
instance : ZeroT Try.prog 86 (.nilFunc) #[.nilFunc] := ⟨z86, rfl⟩
instance : ScalarT Try.prog 86 := ⟨fun w => by kernel_rfl, by kernel_rfl⟩
instance : ElemT Try.prog 86 1 8 (.nilFunc) := ⟨by kernel_rfl⟩
-- 87: []tympanref25.Contour
theorem z87 : ∀ w, (zeroValue 87).run Try.prog w = .ok (.slice none 0 0) w := fun w => by kernel_rfl
instance : ZeroT Try.prog 87 (.slice none 0 0) #[.slice none 0 0] := ⟨z87, rfl⟩
instance : ScalarT Try.prog 87 := ⟨fun w => by kernel_rfl, by kernel_rfl⟩
instance : ElemT Try.prog 87 1 24 (.slice none 0 0) := ⟨by kernel_rfl⟩
instance : SliceT Try.prog 87 89 := ⟨Try.underlying87⟩
-- 88: func([]api.Seg) []tympanref25.Contour
theorem z88 : ∀ w, (zeroValue 88).run Try.prog w = .ok (.nilFunc) w := fun w => by kernel_rfl
instance : ZeroT Try.prog 88 (.nilFunc) #[.nilFunc] := ⟨z88, rfl⟩
instance : ScalarT Try.prog 88 := ⟨fun w => by kernel_rfl, by kernel_rfl⟩
instance : ElemT Try.prog 88 1 8 (.nilFunc) := ⟨by kernel_rfl⟩
-- 89: tympan/tympanref25.Contour
theorem z89 : ∀ w, (zeroValue 89).run Try.prog w = .ok (.agg #[.int .i64 0, .int .i64 0, .slice none 0 0, .bool false]) w := fun w => by kernel_rfl
instance : ZeroT Try.prog 89 (.agg #[.int .i64 0, .int .i64 0, .slice none 0 0, .bool false]) #[.int .i64 0, .int .i64 0, .slice none 0 0, .bool false] := ⟨z89, rfl⟩
instance : RowT Try.prog 89 4 := ⟨fun w => by kernel_rfl, by kernel_rfl⟩
instance : ElemT Try.prog 89 4 48 (.agg #[.int .i64 0, .int .i64 0, .slice none 0 0, .bool false]) := ⟨by kernel_rfl⟩
-- 91: func() (int, int)
theorem z91 : ∀ w, (zeroValue 91).run Try.prog w = .ok (.nilFunc) w := fun w => by kernel_rfl
instance : ZeroT Try.prog 91 (.nilFunc) #[.nilFunc] := ⟨z91, rfl⟩
instance : ScalarT Try.prog 91 := ⟨fun w => by kernel_rfl, by kernel_rfl⟩
instance : ElemT Try.prog 91 1 8 (.nilFunc) := ⟨by kernel_rfl⟩
-- 92: func(int, int) bool
theorem z92 : ∀ w, (zeroValue 92).run Try.prog w = .ok (.nilFunc) w := fun w => by kernel_rfl
instance : ZeroT Try.prog 92 (.nilFunc) #[.nilFunc] := ⟨z92, rfl⟩
instance : ScalarT Try.prog 92 := ⟨fun w => by kernel_rfl, by kernel_rfl⟩
instance : ElemT Try.prog 92 1 8 (.nilFunc) := ⟨by kernel_rfl⟩
-- 93: *path.Contour
theorem z93 : ∀ w, (zeroValue 93).run Try.prog w = .ok (.pointer none) w := fun w => by kernel_rfl
instance : ZeroT Try.prog 93 (.pointer none) #[.pointer none] := ⟨z93, rfl⟩
instance : ScalarT Try.prog 93 := ⟨fun w => by kernel_rfl, by kernel_rfl⟩
instance : ElemT Try.prog 93 1 8 (.pointer none) := ⟨by kernel_rfl⟩
-- 94: *wind.point
theorem z94 : ∀ w, (zeroValue 94).run Try.prog w = .ok (.pointer none) w := fun w => by kernel_rfl
instance : ZeroT Try.prog 94 (.pointer none) #[.pointer none] := ⟨z94, rfl⟩
instance : ScalarT Try.prog 94 := ⟨fun w => by kernel_rfl, by kernel_rfl⟩
instance : ElemT Try.prog 94 1 8 (.pointer none) := ⟨by kernel_rfl⟩
-- 95: x
theorem z95 : ∀ w, (zeroValue 95).run Try.prog w = .ok (.agg #[.int .i64 0, .int .i64 0, .int .i64 0]) w := fun w => by kernel_rfl
instance : ZeroT Try.prog 95 (.agg #[.int .i64 0, .int .i64 0, .int .i64 0]) #[.int .i64 0, .int .i64 0, .int .i64 0] := ⟨z95, rfl⟩
instance : RowT Try.prog 95 3 := ⟨fun w => by kernel_rfl, by kernel_rfl⟩
instance : ElemT Try.prog 95 3 24 (.agg #[.int .i64 0, .int .i64 0, .int .i64 0]) := ⟨by kernel_rfl⟩
-- 96: tympan/wind.point
theorem z96 : ∀ w, (zeroValue 96).run Try.prog w = .ok (.agg #[.int .i64 0, .int .i64 0, .int .i64 0]) w := fun w => by kernel_rfl
instance : ZeroT Try.prog 96 (.agg #[.int .i64 0, .int .i64 0, .int .i64 0]) #[.int .i64 0, .int .i64 0, .int .i64 0] := ⟨z96, rfl⟩
instance : RowT Try.prog 96 3 := ⟨fun w => by kernel_rfl, by kernel_rfl⟩
instance : ElemT Try.prog 96 3 24 (.agg #[.int .i64 0, .int .i64 0, .int .i64 0]) := ⟨by kernel_rfl⟩
-- 97: func(api.Edge)
theorem z97 : ∀ w, (zeroValue 97).run Try.prog w = .ok (.nilFunc) w := fun w => by kernel_rfl
instance : ZeroT Try.prog 97 (.nilFunc) #[.nilFunc] := ⟨z97, rfl⟩
instance : ScalarT Try.prog 97 := ⟨fun w => by kernel_rfl, by kernel_rfl⟩
instance : ElemT Try.prog 97 1 8 (.nilFunc) := ⟨by kernel_rfl⟩
-- 98: func(api.Seg) bool
theorem z98 : ∀ w, (zeroValue 98).run Try.prog w = .ok (.nilFunc) w := fun w => by kernel_rfl
instance : ZeroT Try.prog 98 (.nilFunc) #[.nilFunc] := ⟨z98, rfl⟩
instance : ScalarT Try.prog 98 := ⟨fun w => by kernel_rfl, by kernel_rfl⟩
instance : ElemT Try.prog 98 1 8 (.nilFunc) := ⟨by kernel_rfl⟩
-- 99: func(api.Edge, int, int) int
theorem z99 : ∀ w, (zeroValue 99).run Try.prog w = .ok (.nilFunc) w := fun w => by kernel_rfl
instance : ZeroT Try.prog 99 (.nilFunc) #[.nilFunc] := ⟨z99, rfl⟩
instance : ScalarT Try.prog 99 := ⟨fun w => by kernel_rfl, by kernel_rfl⟩
instance : ElemT Try.prog 99 1 8 (.nilFunc) := ⟨by kernel_rfl⟩
-- 100: func(api.Edge) bool
theorem z100 : ∀ w, (zeroValue 100).run Try.prog w = .ok (.nilFunc) w := fun w => by kernel_rfl
instance : ZeroT Try.prog 100 (.nilFunc) #[.nilFunc] := ⟨z100, rfl⟩
instance : ScalarT Try.prog 100 := ⟨fun w => by kernel_rfl, by kernel_rfl⟩
instance : ElemT Try.prog 100 1 8 (.nilFunc) := ⟨by kernel_rfl⟩
-- 101: []tympanref26.Hit
theorem z101 : ∀ w, (zeroValue 101).run Try.prog w = .ok (.slice none 0 0) w := fun w => by kernel_rfl
instance : ZeroT Try.prog 101 (.slice none 0 0) #[.slice none 0 0] := ⟨z101, rfl⟩
instance : ScalarT Try.prog 101 := ⟨fun w => by kernel_rfl, by kernel_rfl⟩
instance : ElemT Try.prog 101 1 24 (.slice none 0 0) := ⟨by kernel_rfl⟩
instance : SliceT Try.prog 101 104 := ⟨Try.underlying101⟩
-- 102: func(api.Edge, int) []tympanref26.Hit
theorem z102 : ∀ w, (zeroValue 102).run Try.prog w = .ok (.nilFunc) w := fun w => by kernel_rfl
instance : ZeroT Try.prog 102 (.nilFunc) #[.nilFunc] := ⟨z102, rfl⟩
instance : ScalarT Try.prog 102 := ⟨fun w => by kernel_rfl, by kernel_rfl⟩
instance : ElemT Try.prog 102 1 8 (.nilFunc) := ⟨by kernel_rfl⟩
-- 103: Turn
theorem z103 : ∀ w, (zeroValue 103).run Try.prog w = .ok (.agg #[.int .i64 0, .int .i64 0, .int .i64 0, .int .i64 0, .int .i64 0]) w := fun w => by kernel_rfl
instance : ZeroT Try.prog 103 (.agg #[.int .i64 0, .int .i64 0, .int .i64 0, .int .i64 0, .int .i64 0]) #[.int .i64 0, .int .i64 0, .int .i64 0, .int .i64 0, .int .i64 0] := ⟨z103, rfl⟩
instance : RowT Try.prog 103 5 := ⟨fun w => by kernel_rfl, by kernel_rfl⟩
instance : ElemT Try.prog 103 5 40 (.agg #[.int .i64 0, .int .i64 0, .int .i64 0, .int .i64 0, .int .i64 0]) := ⟨by kernel_rfl⟩
-- 104: tympan/tympanref26.Hit
theorem z104 : ∀ w, (zeroValue 104).run Try.prog w = .ok (.agg #[.int .i64 0, .int .i64 0, .int .i64 0, .int .i64 0, .int .i64 0]) w := fun w => by kernel_rfl
instance : ZeroT Try.prog 104 (.agg #[.int .i64 0, .int .i64 0, .int .i64 0, .int .i64 0, .int .i64 0]) #[.int .i64 0, .int .i64 0, .int .i64 0, .int .i64 0, .int .i64 0] := ⟨z104, rfl⟩
instance : RowT Try.prog 104 5 := ⟨fun w => by kernel_rfl, by kernel_rfl⟩
instance : ElemT Try.prog 104 5 40 (.agg #[.int .i64 0, .int .i64 0, .int .i64 0, .int .i64 0, .int .i64 0]) := ⟨by kernel_rfl⟩
-- 105: turn
theorem z105 : ∀ w, (zeroValue 105).run Try.prog w = .ok (.agg #[.int .i64 0, .int .i64 0, .int .i64 0, .int .i64 0, .int .i64 0]) w := fun w => by kernel_rfl
instance : ZeroT Try.prog 105 (.agg #[.int .i64 0, .int .i64 0, .int .i64 0, .int .i64 0, .int .i64 0]) #[.int .i64 0, .int .i64 0, .int .i64 0, .int .i64 0, .int .i64 0] := ⟨z105, rfl⟩
instance : RowT Try.prog 105 5 := ⟨fun w => by kernel_rfl, by kernel_rfl⟩
instance : ElemT Try.prog 105 5 40 (.agg #[.int .i64 0, .int .i64 0, .int .i64 0, .int .i64 0, .int .i64 0]) := ⟨by kernel_rfl⟩
-- 106: tympan/bow.spot
theorem z106 : ∀ w, (zeroValue 106).run Try.prog w = .ok (.agg #[.int .i64 0, .int .i64 0, .int .i64 0, .int .i64 0, .int .i64 0]) w := fun w => by kernel_rfl
instance : ZeroT Try.prog 106 (.agg #[.int .i64 0, .int .i64 0, .int .i64 0, .int .i64 0, .int .i64 0]) #[.int .i64 0, .int .i64 0, .int .i64 0, .int .i64 0, .int .i64 0] := ⟨z106, rfl⟩
instance : RowT Try.prog 106 5 := ⟨fun w => by kernel_rfl, by kernel_rfl⟩
instance : ElemT Try.prog 106 5 40 (.agg #[.int .i64 0, .int .i64 0, .int .i64 0, .int .i64 0, .int .i64 0]) := ⟨by kernel_rfl⟩
-- 107: [2]bow.spot
theorem z107 : ∀ w, (zeroValue 107).run Try.prog w = .ok (.agg #[.int .i64 0, .int .i64 0, .int .i64 0, .int .i64 0, .int .i64 0, .int .i64 0, .int .i64 0, .int .i64 0, .int .i64 0, .int .i64 0]) w := fun w => by kernel_rfl
instance : ZeroT Try.prog 107 (.agg #[.int .i64 0, .int .i64 0, .int .i64 0, .int .i64 0, .int .i64 0, .int .i64 0, .int .i64 0, .int .i64 0, .int .i64 0, .int .i64 0]) #[.int .i64 0, .int .i64 0, .int .i64 0, .int .i64 0, .int .i64 0, .int .i64 0, .int .i64 0, .int .i64 0, .int .i64 0, .int .i64 0] := ⟨z107, rfl⟩
instance : RowT Try.prog 107 10 := ⟨fun w => by kernel_rfl, by kernel_rfl⟩
instance : ElemT Try.prog 107 10 80 (.agg #[.int .i64 0, .int .i64 0, .int .i64 0, .int .i64 0, .int .i64 0, .int .i64 0, .int .i64 0, .int .i64 0, .int .i64 0, .int .i64 0]) := ⟨by kernel_rfl⟩
-- 108: func(api.Edge, int) [2]bow.spot
theorem z108 : ∀ w, (zeroValue 108).run Try.prog w = .ok (.nilFunc) w := fun w => by kernel_rfl
instance : ZeroT Try.prog 108 (.nilFunc) #[.nilFunc] := ⟨z108, rfl⟩
instance : ScalarT Try.prog 108 := ⟨fun w => by kernel_rfl, by kernel_rfl⟩
instance : ElemT Try.prog 108 1 8 (.nilFunc) := ⟨by kernel_rfl⟩
-- 109: func(int, int, int) int
theorem z109 : ∀ w, (zeroValue 109).run Try.prog w = .ok (.nilFunc) w := fun w => by kernel_rfl
instance : ZeroT Try.prog 109 (.nilFunc) #[.nilFunc] := ⟨z109, rfl⟩
instance : ScalarT Try.prog 109 := ⟨fun w => by kernel_rfl, by kernel_rfl⟩
instance : ElemT Try.prog 109 1 8 (.nilFunc) := ⟨by kernel_rfl⟩
-- 110: func(api.Edge, int, int) []tympanref26.Hit
theorem z110 : ∀ w, (zeroValue 110).run Try.prog w = .ok (.nilFunc) w := fun w => by kernel_rfl
instance : ZeroT Try.prog 110 (.nilFunc) #[.nilFunc] := ⟨z110, rfl⟩
instance : ScalarT Try.prog 110 := ⟨fun w => by kernel_rfl, by kernel_rfl⟩
instance : ElemT Try.prog 110 1 8 (.nilFunc) := ⟨by kernel_rfl⟩
-- 111: func(int, int, int, int) bool
theorem z111 : ∀ w, (zeroValue 111).run Try.prog w = .ok (.nilFunc) w := fun w => by kernel_rfl
instance : ZeroT Try.prog 111 (.nilFunc) #[.nilFunc] := ⟨z111, rfl⟩
instance : ScalarT Try.prog 111 := ⟨fun w => by kernel_rfl, by kernel_rfl⟩
instance : ElemT Try.prog 111 1 8 (.nilFunc) := ⟨by kernel_rfl⟩
-- 112: func(int, int, int, int, bool) bool
theorem z112 : ∀ w, (zeroValue 112).run Try.prog w = .ok (.nilFunc) w := fun w => by kernel_rfl
instance : ZeroT Try.prog 112 (.nilFunc) #[.nilFunc] := ⟨z112, rfl⟩
instance : ScalarT Try.prog 112 := ⟨fun w => by kernel_rfl, by kernel_rfl⟩
instance : ElemT Try.prog 112 1 8 (.nilFunc) := ⟨by kernel_rfl⟩
-- 113: func(api.Edge, int, int, int, int) tympanref26.Hit
theorem z113 : ∀ w, (zeroValue 113).run Try.prog w = .ok (.nilFunc) w := fun w => by kernel_rfl
instance : ZeroT Try.prog 113 (.nilFunc) #[.nilFunc] := ⟨z113, rfl⟩
instance : ScalarT Try.prog 113 := ⟨fun w => by kernel_rfl, by kernel_rfl⟩
instance : ElemT Try.prog 113 1 8 (.nilFunc) := ⟨by kernel_rfl⟩
-- 114: func(api.Edge, int) bow.spot
theorem z114 : ∀ w, (zeroValue 114).run Try.prog w = .ok (.nilFunc) w := fun w => by kernel_rfl
instance : ZeroT Try.prog 114 (.nilFunc) #[.nilFunc] := ⟨z114, rfl⟩
instance : ScalarT Try.prog 114 := ⟨fun w => by kernel_rfl, by kernel_rfl⟩
instance : ElemT Try.prog 114 1 8 (.nilFunc) := ⟨by kernel_rfl⟩
-- 116: func(int, int, int) (int, bool)
theorem z116 : ∀ w, (zeroValue 116).run Try.prog w = .ok (.nilFunc) w := fun w => by kernel_rfl
instance : ZeroT Try.prog 116 (.nilFunc) #[.nilFunc] := ⟨z116, rfl⟩
instance : ScalarT Try.prog 116 := ⟨fun w => by kernel_rfl, by kernel_rfl⟩
instance : ElemT Try.prog 116 1 8 (.nilFunc) := ⟨by kernel_rfl⟩
-- 117: func(int, int, int, int) int
theorem z117 : ∀ w, (zeroValue 117).run Try.prog w = .ok (.nilFunc) w := fun w => by kernel_rfl
instance : ZeroT Try.prog 117 (.nilFunc) #[.nilFunc] := ⟨z117, rfl⟩
instance : ScalarT Try.prog 117 := ⟨fun w => by kernel_rfl, by kernel_rfl⟩
instance : ElemT Try.prog 117 1 8 (.nilFunc) := ⟨by kernel_rfl⟩
-- 118: uint64
theorem z118 : ∀ w, (zeroValue 118).run Try.prog w = .ok (.int .u64 0) w := fun w => by kernel_rfl
instance : ZeroT Try.prog 118 (.int .u64 0) #[.int .u64 0] := ⟨z118, rfl⟩
instance : ScalarT Try.prog 118 := ⟨fun w => by kernel_rfl, by kernel_rfl⟩
instance : ElemT Try.prog 118 1 8 (.int .u64 0) := ⟨by kernel_rfl⟩
-- 119: Hi
theorem z119 : ∀ w, (zeroValue 119).run Try.prog w = .ok (.agg #[.int .u64 0, .int .u64 0]) w := fun w => by kernel_rfl
instance : ZeroT Try.prog 119 (.agg #[.int .u64 0, .int .u64 0]) #[.int .u64 0, .int .u64 0] := ⟨z119, rfl⟩
instance : RowT Try.prog 119 2 := ⟨fun w => by kernel_rfl, by kernel_rfl⟩
instance : ElemT Try.prog 119 2 16 (.agg #[.int .u64 0, .int .u64 0]) := ⟨by kernel_rfl⟩
-- 120: tympan/tympanref24.Wide
theorem z120 : ∀ w, (zeroValue 120).run Try.prog w = .ok (.agg #[.int .u64 0, .int .u64 0]) w := fun w => by kernel_rfl
instance : ZeroT Try.prog 120 (.agg #[.int .u64 0, .int .u64 0]) #[.int .u64 0, .int .u64 0] := ⟨z120, rfl⟩
instance : RowT Try.prog 120 2 := ⟨fun w => by kernel_rfl, by kernel_rfl⟩
instance : ElemT Try.prog 120 2 16 (.agg #[.int .u64 0, .int .u64 0]) := ⟨by kernel_rfl⟩
-- 121: func(uint64, uint64) tympanref24.Wide
theorem z121 : ∀ w, (zeroValue 121).run Try.prog w = .ok (.nilFunc) w := fun w => by kernel_rfl
instance : ZeroT Try.prog 121 (.nilFunc) #[.nilFunc] := ⟨z121, rfl⟩
instance : ScalarT Try.prog 121 := ⟨fun w => by kernel_rfl, by kernel_rfl⟩
instance : ElemT Try.prog 121 1 8 (.nilFunc) := ⟨by kernel_rfl⟩
-- 122: func(int) uint64
theorem z122 : ∀ w, (zeroValue 122).run Try.prog w = .ok (.nilFunc) w := fun w => by kernel_rfl
instance : ZeroT Try.prog 122 (.nilFunc) #[.nilFunc] := ⟨z122, rfl⟩
instance : ScalarT Try.prog 122 := ⟨fun w => by kernel_rfl, by kernel_rfl⟩
instance : ElemT Try.prog 122 1 8 (.nilFunc) := ⟨by kernel_rfl⟩
-- 123: func(tympanref24.Wide, uint64, tympanref24.Wide) int
theorem z123 : ∀ w, (zeroValue 123).run Try.prog w = .ok (.nilFunc) w := fun w => by kernel_rfl
instance : ZeroT Try.prog 123 (.nilFunc) #[.nilFunc] := ⟨z123, rfl⟩
instance : ScalarT Try.prog 123 := ⟨fun w => by kernel_rfl, by kernel_rfl⟩
instance : ElemT Try.prog 123 1 8 (.nilFunc) := ⟨by kernel_rfl⟩
-- 124: func(int, int, int, int, int) bow.spot
theorem z124 : ∀ w, (zeroValue 124).run Try.prog w = .ok (.nilFunc) w := fun w => by kernel_rfl
instance : ZeroT Try.prog 124 (.nilFunc) #[.nilFunc] := ⟨z124, rfl⟩
instance : ScalarT Try.prog 124 := ⟨fun w => by kernel_rfl, by kernel_rfl⟩
instance : ElemT Try.prog 124 1 8 (.nilFunc) := ⟨by kernel_rfl⟩
-- 125: [2]int
theorem z125 : ∀ w, (zeroValue 125).run Try.prog w = .ok (.agg #[.int .i64 0, .int .i64 0]) w := fun w => by kernel_rfl
instance : ZeroT Try.prog 125 (.agg #[.int .i64 0, .int .i64 0]) #[.int .i64 0, .int .i64 0] := ⟨z125, rfl⟩
instance : RowT Try.prog 125 2 := ⟨fun w => by kernel_rfl, by kernel_rfl⟩
instance : ElemT Try.prog 125 2 16 (.agg #[.int .i64 0, .int .i64 0]) := ⟨by kernel_rfl⟩
instance : ArrT Try.prog 125 2 3 := ⟨Try.underlying125, fun w => by kernel_rfl, by kernel_rfl⟩
-- 126: uint
theorem z126 : ∀ w, (zeroValue 126).run Try.prog w = .ok (.int .u64 0) w := fun w => by kernel_rfl
instance : ZeroT Try.prog 126 (.int .u64 0) #[.int .u64 0] := ⟨z126, rfl⟩
instance : ScalarT Try.prog 126 := ⟨fun w => by kernel_rfl, by kernel_rfl⟩
instance : ElemT Try.prog 126 1 8 (.int .u64 0) := ⟨by kernel_rfl⟩
-- 127: func(tympanref24.Wide, tympanref24.Wide) int
theorem z127 : ∀ w, (zeroValue 127).run Try.prog w = .ok (.nilFunc) w := fun w => by kernel_rfl
instance : ZeroT Try.prog 127 (.nilFunc) #[.nilFunc] := ⟨z127, rfl⟩
instance : ScalarT Try.prog 127 := ⟨fun w => by kernel_rfl, by kernel_rfl⟩
instance : ElemT Try.prog 127 1 8 (.nilFunc) := ⟨by kernel_rfl⟩
-- 129: func(int, int) (int, uint64)
theorem z129 : ∀ w, (zeroValue 129).run Try.prog w = .ok (.nilFunc) w := fun w => by kernel_rfl
instance : ZeroT Try.prog 129 (.nilFunc) #[.nilFunc] := ⟨z129, rfl⟩
instance : ScalarT Try.prog 129 := ⟨fun w => by kernel_rfl, by kernel_rfl⟩
instance : ElemT Try.prog 129 1 8 (.nilFunc) := ⟨by kernel_rfl⟩
-- 131: func(uint64, uint64) (uint64, uint64)
theorem z131 : ∀ w, (zeroValue 131).run Try.prog w = .ok (.nilFunc) w := fun w => by kernel_rfl
instance : ZeroT Try.prog 131 (.nilFunc) #[.nilFunc] := ⟨z131, rfl⟩
instance : ScalarT Try.prog 131 := ⟨fun w => by kernel_rfl, by kernel_rfl⟩
instance : ElemT Try.prog 131 1 8 (.nilFunc) := ⟨by kernel_rfl⟩
-- 132: [4]uint64
theorem z132 : ∀ w, (zeroValue 132).run Try.prog w = .ok (.agg #[.int .u64 0, .int .u64 0, .int .u64 0, .int .u64 0]) w := fun w => by kernel_rfl
instance : ZeroT Try.prog 132 (.agg #[.int .u64 0, .int .u64 0, .int .u64 0, .int .u64 0]) #[.int .u64 0, .int .u64 0, .int .u64 0, .int .u64 0] := ⟨z132, rfl⟩
instance : RowT Try.prog 132 4 := ⟨fun w => by kernel_rfl, by kernel_rfl⟩
instance : ElemT Try.prog 132 4 32 (.agg #[.int .u64 0, .int .u64 0, .int .u64 0, .int .u64 0]) := ⟨by kernel_rfl⟩
instance : ArrT Try.prog 132 4 118 := ⟨Try.underlying132, fun w => by kernel_rfl, by kernel_rfl⟩
-- 133: func() string
theorem z133 : ∀ w, (zeroValue 133).run Try.prog w = .ok (.nilFunc) w := fun w => by kernel_rfl
instance : ZeroT Try.prog 133 (.nilFunc) #[.nilFunc] := ⟨z133, rfl⟩
instance : ScalarT Try.prog 133 := ⟨fun w => by kernel_rfl, by kernel_rfl⟩
instance : ElemT Try.prog 133 1 8 (.nilFunc) := ⟨by kernel_rfl⟩
-- 139: uint32
theorem z139 : ∀ w, (zeroValue 139).run Try.prog w = .ok (.int .u32 0) w := fun w => by kernel_rfl
instance : ZeroT Try.prog 139 (.int .u32 0) #[.int .u32 0] := ⟨z139, rfl⟩
instance : ScalarT Try.prog 139 := ⟨fun w => by kernel_rfl, by kernel_rfl⟩
instance : ElemT Try.prog 139 1 4 (.int .u32 0) := ⟨by kernel_rfl⟩
-- 142: func(unsafe.Pointer, unsafe.Pointer) bool
theorem z142 : ∀ w, (zeroValue 142).run Try.prog w = .ok (.nilFunc) w := fun w => by kernel_rfl
instance : ZeroT Try.prog 142 (.nilFunc) #[.nilFunc] := ⟨z142, rfl⟩
instance : ScalarT Try.prog 142 := ⟨fun w => by kernel_rfl, by kernel_rfl⟩
instance : ElemT Try.prog 142 1 8 (.nilFunc) := ⟨by kernel_rfl⟩
-- 143: *uint8
theorem z143 : ∀ w, (zeroValue 143).run Try.prog w = .ok (.pointer none) w := fun w => by kernel_rfl
instance : ZeroT Try.prog 143 (.pointer none) #[.pointer none] := ⟨z143, rfl⟩
instance : ScalarT Try.prog 143 := ⟨fun w => by kernel_rfl, by kernel_rfl⟩
instance : ElemT Try.prog 143 1 8 (.pointer none) := ⟨by kernel_rfl⟩
-- 146: Size_
theorem z146 : ∀ w, (zeroValue 146).run Try.prog w = .ok (.agg #[.int .u64 0, .int .u64 0, .int .u32 0, .int .u8 0, .int .u8 0, .int .u8 0, .int .u8 0, .nilFunc, .pointer none, .int .i32 0, .int .i32 0]) w := fun w => by kernel_rfl
instance : ZeroT Try.prog 146 (.agg #[.int .u64 0, .int .u64 0, .int .u32 0, .int .u8 0, .int .u8 0, .int .u8 0, .int .u8 0, .nilFunc, .pointer none, .int .i32 0, .int .i32 0]) #[.int .u64 0, .int .u64 0, .int .u32 0, .int .u8 0, .int .u8 0, .int .u8 0, .int .u8 0, .nilFunc, .pointer none, .int .i32 0, .int .i32 0] := ⟨z146, rfl⟩
instance : RowT Try.prog 146 11 := ⟨fun w => by kernel_rfl, by kernel_rfl⟩
instance : ElemT Try.prog 146 11 48 (.agg #[.int .u64 0, .int .u64 0, .int .u32 0, .int .u8 0, .int .u8 0, .int .u8 0, .int .u8 0, .nilFunc, .pointer none, .int .i32 0, .int .i32 0]) := ⟨by kernel_rfl⟩
end Go.Proofs.Ytneddfiohekhiaa
