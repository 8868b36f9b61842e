/- What the types of this seat's program are: by program (gen_types.py). -/
import Derived.Test.YtmoabhfpibkcnaaProg
import Derived.Test.YtmoabhfpibkcnaaHoldM
import Derived.KernelRfl
namespace Go.Proofs.Ytmoabhfpibkcnaa
-- 1: func()
theorem z1 : ∀ w, (zeroValue 1).run Try.prog w = .ok (.nilFunc) w := fun w => by kernel_rfl
instance : ZeroT Try.prog 1 (.nilFunc) #[.nilFunc] := ⟨z1, rfl⟩
instance : ScalarT Try.prog 1 := ⟨fun w => by kernel_rfl, by kernel_rfl⟩
instance : ElemT Try.prog 1 1 8 (.nilFunc) := ⟨by kernel_rfl⟩
-- 2: int64
theorem z2 : ∀ w, (zeroValue 2).run Try.prog w = .ok (.int .i64 0) w := fun w => by kernel_rfl
instance : ZeroT Try.prog 2 (.int .i64 0) #[.int .i64 0] := ⟨z2, rfl⟩
instance : ScalarT Try.prog 2 := ⟨fun w => by kernel_rfl, by kernel_rfl⟩
instance : ElemT Try.prog 2 1 8 (.int .i64 0) := ⟨by kernel_rfl⟩
-- 3: int
theorem z3 : ∀ w, (zeroValue 3).run Try.prog w = .ok (.int .i64 0) w := fun w => by kernel_rfl
instance : ZeroT Try.prog 3 (.int .i64 0) #[.int .i64 0] := ⟨z3, rfl⟩
instance : ScalarT Try.prog 3 := ⟨fun w => by kernel_rfl, by kernel_rfl⟩
instance : ElemT Try.prog 3 1 8 (.int .i64 0) := ⟨by kernel_rfl⟩
-- 4: bool
theorem z4 : ∀ w, (zeroValue 4).run Try.prog w = .ok (.bool false) w := fun w => by kernel_rfl
instance : ZeroT Try.prog 4 (.bool false) #[.bool false] := ⟨z4, rfl⟩
instance : ScalarT Try.prog 4 := ⟨fun w => by kernel_rfl, by kernel_rfl⟩
instance : ElemT Try.prog 4 1 1 (.bool false) := ⟨by kernel_rfl⟩
-- 5: uint8
theorem z5 : ∀ w, (zeroValue 5).run Try.prog w = .ok (.int .u8 0) w := fun w => by kernel_rfl
instance : ZeroT Try.prog 5 (.int .u8 0) #[.int .u8 0] := ⟨z5, rfl⟩
instance : ScalarT Try.prog 5 := ⟨fun w => by kernel_rfl, by kernel_rfl⟩
instance : ElemT Try.prog 5 1 1 (.int .u8 0) := ⟨by kernel_rfl⟩
-- 9: string
theorem z9 : ∀ w, (zeroValue 9).run Try.prog w = .ok (.string ByteArray.empty) w := fun w => by kernel_rfl
instance : ZeroT Try.prog 9 (.string ByteArray.empty) #[.string ByteArray.empty] := ⟨z9, rfl⟩
instance : ScalarT Try.prog 9 := ⟨fun w => by kernel_rfl, by kernel_rfl⟩
instance : ElemT Try.prog 9 1 16 (.string ByteArray.empty) := ⟨by kernel_rfl⟩
-- 12: uintptr
theorem z12 : ∀ w, (zeroValue 12).run Try.prog w = .ok (.int .u64 0) w := fun w => by kernel_rfl
instance : ZeroT Try.prog 12 (.int .u64 0) #[.int .u64 0] := ⟨z12, rfl⟩
instance : ScalarT Try.prog 12 := ⟨fun w => by kernel_rfl, by kernel_rfl⟩
instance : ElemT Try.prog 12 1 8 (.int .u64 0) := ⟨by kernel_rfl⟩
-- 17: *abi.Type
theorem z17 : ∀ w, (zeroValue 17).run Try.prog w = .ok (.pointer none) w := fun w => by kernel_rfl
instance : ZeroT Try.prog 17 (.pointer none) #[.pointer none] := ⟨z17, rfl⟩
instance : ScalarT Try.prog 17 := ⟨fun w => by kernel_rfl, by kernel_rfl⟩
instance : ElemT Try.prog 17 1 8 (.pointer none) := ⟨by kernel_rfl⟩
-- 21: int32
theorem z21 : ∀ w, (zeroValue 21).run Try.prog w = .ok (.int .i32 0) w := fun w => by kernel_rfl
instance : ZeroT Try.prog 21 (.int .i32 0) #[.int .i32 0] := ⟨z21, rfl⟩
instance : ScalarT Try.prog 21 := ⟨fun w => by kernel_rfl, by kernel_rfl⟩
instance : ElemT Try.prog 21 1 4 (.int .i32 0) := ⟨by kernel_rfl⟩
-- 22: []api.Edge
theorem z22 : ∀ w, (zeroValue 22).run Try.prog w = .ok (.slice none 0 0) w := fun w => by kernel_rfl
instance : ZeroT Try.prog 22 (.slice none 0 0) #[.slice none 0 0] := ⟨z22, rfl⟩
instance : ScalarT Try.prog 22 := ⟨fun w => by kernel_rfl, by kernel_rfl⟩
instance : ElemT Try.prog 22 1 24 (.slice none 0 0) := ⟨by kernel_rfl⟩
instance : SliceT Try.prog 22 30 := ⟨Try.underlying22⟩
-- 23: func() bool
theorem z23 : ∀ w, (zeroValue 23).run Try.prog w = .ok (.nilFunc) w := fun w => by kernel_rfl
instance : ZeroT Try.prog 23 (.nilFunc) #[.nilFunc] := ⟨z23, rfl⟩
instance : ScalarT Try.prog 23 := ⟨fun w => by kernel_rfl, by kernel_rfl⟩
instance : ElemT Try.prog 23 1 8 (.nilFunc) := ⟨by kernel_rfl⟩
-- 24: func([]api.Edge, int, int) int
theorem z24 : ∀ w, (zeroValue 24).run Try.prog w = .ok (.nilFunc) w := fun w => by kernel_rfl
instance : ZeroT Try.prog 24 (.nilFunc) #[.nilFunc] := ⟨z24, rfl⟩
instance : ScalarT Try.prog 24 := ⟨fun w => by kernel_rfl, by kernel_rfl⟩
instance : ElemT Try.prog 24 1 8 (.nilFunc) := ⟨by kernel_rfl⟩
-- 25: func([]api.Edge, int, int, int) bool
theorem z25 : ∀ w, (zeroValue 25).run Try.prog w = .ok (.nilFunc) w := fun w => by kernel_rfl
instance : ZeroT Try.prog 25 (.nilFunc) #[.nilFunc] := ⟨z25, rfl⟩
instance : ScalarT Try.prog 25 := ⟨fun w => by kernel_rfl, by kernel_rfl⟩
instance : ElemT Try.prog 25 1 8 (.nilFunc) := ⟨by kernel_rfl⟩
-- 26: [6]int
theorem z26 : ∀ w, (zeroValue 26).run Try.prog w = .ok (.agg #[.int .i64 0, .int .i64 0, .int .i64 0, .int .i64 0, .int .i64 0, .int .i64 0]) w := fun w => by kernel_rfl
instance : ZeroT Try.prog 26 (.agg #[.int .i64 0, .int .i64 0, .int .i64 0, .int .i64 0, .int .i64 0, .int .i64 0]) #[.int .i64 0, .int .i64 0, .int .i64 0, .int .i64 0, .int .i64 0, .int .i64 0] := ⟨z26, rfl⟩
instance : RowT Try.prog 26 6 := ⟨fun w => by kernel_rfl, by kernel_rfl⟩
instance : ElemT Try.prog 26 6 48 (.agg #[.int .i64 0, .int .i64 0, .int .i64 0, .int .i64 0, .int .i64 0, .int .i64 0]) := ⟨by kernel_rfl⟩
instance : ArrT Try.prog 26 6 3 := ⟨Try.underlying26, fun w => by kernel_rfl, by kernel_rfl⟩
-- 27: func(int) int
theorem z27 : ∀ w, (zeroValue 27).run Try.prog w = .ok (.nilFunc) w := fun w => by kernel_rfl
instance : ZeroT Try.prog 27 (.nilFunc) #[.nilFunc] := ⟨z27, rfl⟩
instance : ScalarT Try.prog 27 := ⟨fun w => by kernel_rfl, by kernel_rfl⟩
instance : ElemT Try.prog 27 1 8 (.nilFunc) := ⟨by kernel_rfl⟩
-- 28: func(int, int, int, int, int, int) int
theorem z28 : ∀ w, (zeroValue 28).run Try.prog w = .ok (.nilFunc) w := fun w => by kernel_rfl
instance : ZeroT Try.prog 28 (.nilFunc) #[.nilFunc] := ⟨z28, rfl⟩
instance : ScalarT Try.prog 28 := ⟨fun w => by kernel_rfl, by kernel_rfl⟩
instance : ElemT Try.prog 28 1 8 (.nilFunc) := ⟨by kernel_rfl⟩
-- 29: X0
theorem z29 : ∀ w, (zeroValue 29).run Try.prog w = .ok (.agg #[.int .i64 0, .int .i64 0, .bool false, .int .i64 0, .int .i64 0, .int .i64 0, .int .i64 0]) w := fun w => by kernel_rfl
instance : ZeroT Try.prog 29 (.agg #[.int .i64 0, .int .i64 0, .bool false, .int .i64 0, .int .i64 0, .int .i64 0, .int .i64 0]) #[.int .i64 0, .int .i64 0, .bool false, .int .i64 0, .int .i64 0, .int .i64 0, .int .i64 0] := ⟨z29, rfl⟩
instance : RowT Try.prog 29 7 := ⟨fun w => by kernel_rfl, by kernel_rfl⟩
instance : ElemT Try.prog 29 7 56 (.agg #[.int .i64 0, .int .i64 0, .bool false, .int .i64 0, .int .i64 0, .int .i64 0, .int .i64 0]) := ⟨by kernel_rfl⟩
-- 30: tympan/api.Edge
theorem z30 : ∀ w, (zeroValue 30).run Try.prog w = .ok (.agg #[.int .i64 0, .int .i64 0, .bool false, .int .i64 0, .int .i64 0, .int .i64 0, .int .i64 0]) w := fun w => by kernel_rfl
instance : ZeroT Try.prog 30 (.agg #[.int .i64 0, .int .i64 0, .bool false, .int .i64 0, .int .i64 0, .int .i64 0, .int .i64 0]) #[.int .i64 0, .int .i64 0, .bool false, .int .i64 0, .int .i64 0, .int .i64 0, .int .i64 0] := ⟨z30, rfl⟩
instance : RowT Try.prog 30 7 := ⟨fun w => by kernel_rfl, by kernel_rfl⟩
instance : ElemT Try.prog 30 7 56 (.agg #[.int .i64 0, .int .i64 0, .bool false, .int .i64 0, .int .i64 0, .int .i64 0, .int .i64 0]) := ⟨by kernel_rfl⟩
-- 31: func([6]int, int, int) bool
theorem z31 : ∀ w, (zeroValue 31).run Try.prog w = .ok (.nilFunc) w := fun w => by kernel_rfl
instance : ZeroT Try.prog 31 (.nilFunc) #[.nilFunc] := ⟨z31, rfl⟩
instance : ScalarT Try.prog 31 := ⟨fun w => by kernel_rfl, by kernel_rfl⟩
instance : ElemT Try.prog 31 1 8 (.nilFunc) := ⟨by kernel_rfl⟩
-- 32: []int
theorem z32 : ∀ w, (zeroValue 32).run Try.prog w = .ok (.slice none 0 0) w := fun w => by kernel_rfl
instance : ZeroT Try.prog 32 (.slice none 0 0) #[.slice none 0 0] := ⟨z32, rfl⟩
instance : ScalarT Try.prog 32 := ⟨fun w => by kernel_rfl, by kernel_rfl⟩
instance : ElemT Try.prog 32 1 24 (.slice none 0 0) := ⟨by kernel_rfl⟩
instance : SliceT Try.prog 32 3 := ⟨Try.underlying32⟩
-- 33: *tympanlaw25.L
theorem z33 : ∀ w, (zeroValue 33).run Try.prog w = .ok (.pointer none) w := fun w => by kernel_rfl
instance : ZeroT Try.prog 33 (.pointer none) #[.pointer none] := ⟨z33, rfl⟩
instance : ScalarT Try.prog 33 := ⟨fun w => by kernel_rfl, by kernel_rfl⟩
instance : ElemT Try.prog 33 1 8 (.pointer none) := ⟨by kernel_rfl⟩
-- 34: N
theorem z34 : ∀ w, (zeroValue 34).run Try.prog w = .ok (.agg #[.slice none 0 0]) w := fun w => by kernel_rfl
instance : ZeroT Try.prog 34 (.agg #[.slice none 0 0]) #[.slice none 0 0] := ⟨z34, rfl⟩
instance : RowT Try.prog 34 1 := ⟨fun w => by kernel_rfl, by kernel_rfl⟩
instance : ElemT Try.prog 34 1 24 (.agg #[.slice none 0 0]) := ⟨by kernel_rfl⟩
-- 35: tympan/tympanlaw25.L
theorem z35 : ∀ w, (zeroValue 35).run Try.prog w = .ok (.agg #[.slice none 0 0]) w := fun w => by kernel_rfl
instance : ZeroT Try.prog 35 (.agg #[.slice none 0 0]) #[.slice none 0 0] := ⟨z35, rfl⟩
instance : RowT Try.prog 35 1 := ⟨fun w => by kernel_rfl, by kernel_rfl⟩
instance : ElemT Try.prog 35 1 24 (.agg #[.slice none 0 0]) := ⟨by kernel_rfl⟩
-- 36: func() int
theorem z36 : ∀ w, (zeroValue 36).run Try.prog w = .ok (.nilFunc) w := fun w => by kernel_rfl
instance : ZeroT Try.prog 36 (.nilFunc) #[.nilFunc] := ⟨z36, rfl⟩
instance : ScalarT Try.prog 36 := ⟨fun w => by kernel_rfl, by kernel_rfl⟩
instance : ElemT Try.prog 36 1 8 (.nilFunc) := ⟨by kernel_rfl⟩
-- 37: func([]int, int, int) bool
theorem z37 : ∀ w, (zeroValue 37).run Try.prog w = .ok (.nilFunc) w := fun w => by kernel_rfl
instance : ZeroT Try.prog 37 (.nilFunc) #[.nilFunc] := ⟨z37, rfl⟩
instance : ScalarT Try.prog 37 := ⟨fun w => by kernel_rfl, by kernel_rfl⟩
instance : ElemT Try.prog 37 1 8 (.nilFunc) := ⟨by kernel_rfl⟩
-- 38: func([]api.Seg) []api.Edge
theorem z38 : ∀ w, (zeroValue 38).run Try.prog w = .ok (.nilFunc) w := fun w => by kernel_rfl
instance : ZeroT Try.prog 38 (.nilFunc) #[.nilFunc] := ⟨z38, rfl⟩
instance : ScalarT Try.prog 38 := ⟨fun w => by kernel_rfl, by kernel_rfl⟩
instance : ElemT Try.prog 38 1 8 (.nilFunc) := ⟨by kernel_rfl⟩
-- 39: []api.Seg
theorem z39 : ∀ w, (zeroValue 39).run Try.prog w = .ok (.slice none 0 0) w := fun w => by kernel_rfl
instance : ZeroT Try.prog 39 (.slice none 0 0) #[.slice none 0 0] := ⟨z39, rfl⟩
instance : ScalarT Try.prog 39 := ⟨fun w => by kernel_rfl, by kernel_rfl⟩
instance : ElemT Try.prog 39 1 24 (.slice none 0 0) := ⟨by kernel_rfl⟩
instance : SliceT Try.prog 39 67 := ⟨Try.underlying39⟩
-- 40: func([]int, bool) []api.Seg
theorem z40 : ∀ w, (zeroValue 40).run Try.prog w = .ok (.nilFunc) w := fun w => by kernel_rfl
instance : ZeroT Try.prog 40 (.nilFunc) #[.nilFunc] := ⟨z40, rfl⟩
instance : ScalarT Try.prog 40 := ⟨fun w => by kernel_rfl, by kernel_rfl⟩
instance : ElemT Try.prog 40 1 8 (.nilFunc) := ⟨by kernel_rfl⟩
-- 41: func([]int) []api.Seg
theorem z41 : ∀ w, (zeroValue 41).run Try.prog w = .ok (.nilFunc) w := fun w => by kernel_rfl
instance : ZeroT Try.prog 41 (.nilFunc) #[.nilFunc] := ⟨z41, rfl⟩
instance : ScalarT Try.prog 41 := ⟨fun w => by kernel_rfl, by kernel_rfl⟩
instance : ElemT Try.prog 41 1 8 (.nilFunc) := ⟨by kernel_rfl⟩
-- 42: func([]int, int, int, int, int) bool
theorem z42 : ∀ w, (zeroValue 42).run Try.prog w = .ok (.nilFunc) w := fun w => by kernel_rfl
instance : ZeroT Try.prog 42 (.nilFunc) #[.nilFunc] := ⟨z42, rfl⟩
instance : ScalarT Try.prog 42 := ⟨fun w => by kernel_rfl, by kernel_rfl⟩
instance : ElemT Try.prog 42 1 8 (.nilFunc) := ⟨by kernel_rfl⟩
-- 44: func([]api.Seg) (int, int, int, int, bool)
theorem z44 : ∀ w, (zeroValue 44).run Try.prog w = .ok (.nilFunc) w := fun w => by kernel_rfl
instance : ZeroT Try.prog 44 (.nilFunc) #[.nilFunc] := ⟨z44, rfl⟩
instance : ScalarT Try.prog 44 := ⟨fun w => by kernel_rfl, by kernel_rfl⟩
instance : ElemT Try.prog 44 1 8 (.nilFunc) := ⟨by kernel_rfl⟩
-- 45: func(int, int) int
theorem z45 : ∀ w, (zeroValue 45).run Try.prog w = .ok (.nilFunc) w := fun w => by kernel_rfl
instance : ZeroT Try.prog 45 (.nilFunc) #[.nilFunc] := ⟨z45, rfl⟩
instance : ScalarT Try.prog 45 := ⟨fun w => by kernel_rfl, by kernel_rfl⟩
instance : ElemT Try.prog 45 1 8 (.nilFunc) := ⟨by kernel_rfl⟩
-- 46: func([]int, int, int, int) bool
theorem z46 : ∀ w, (zeroValue 46).run Try.prog w = .ok (.nilFunc) w := fun w => by kernel_rfl
instance : ZeroT Try.prog 46 (.nilFunc) #[.nilFunc] := ⟨z46, rfl⟩
instance : ScalarT Try.prog 46 := ⟨fun w => by kernel_rfl, by kernel_rfl⟩
instance : ElemT Try.prog 46 1 8 (.nilFunc) := ⟨by kernel_rfl⟩
-- 47: tympan/api.Errno
theorem z47 : ∀ w, (zeroValue 47).run Try.prog w = .ok (.int .i64 0) w := fun w => by kernel_rfl
instance : ZeroT Try.prog 47 (.int .i64 0) #[.int .i64 0] := ⟨z47, rfl⟩
instance : ScalarT Try.prog 47 := ⟨fun w => by kernel_rfl, by kernel_rfl⟩
instance : ElemT Try.prog 47 1 8 (.int .i64 0) := ⟨by kernel_rfl⟩
-- 49: func([]api.Seg, int, int) ([]api.Seg, api.Errno)
theorem z49 : ∀ w, (zeroValue 49).run Try.prog w = .ok (.nilFunc) w := fun w => by kernel_rfl
instance : ZeroT Try.prog 49 (.nilFunc) #[.nilFunc] := ⟨z49, rfl⟩
instance : ScalarT Try.prog 49 := ⟨fun w => by kernel_rfl, by kernel_rfl⟩
instance : ElemT Try.prog 49 1 8 (.nilFunc) := ⟨by kernel_rfl⟩
-- 50: func([]int, int, int, int, int, int) bool
theorem z50 : ∀ w, (zeroValue 50).run Try.prog w = .ok (.nilFunc) w := fun w => by kernel_rfl
instance : ZeroT Try.prog 50 (.nilFunc) #[.nilFunc] := ⟨z50, rfl⟩
instance : ScalarT Try.prog 50 := ⟨fun w => by kernel_rfl, by kernel_rfl⟩
instance : ElemT Try.prog 50 1 8 (.nilFunc) := ⟨by kernel_rfl⟩
-- 51: func([]api.Seg) []api.Seg
theorem z51 : ∀ w, (zeroValue 51).run Try.prog w = .ok (.nilFunc) w := fun w => by kernel_rfl
instance : ZeroT Try.prog 51 (.nilFunc) #[.nilFunc] := ⟨z51, rfl⟩
instance : ScalarT Try.prog 51 := ⟨fun w => by kernel_rfl, by kernel_rfl⟩
instance : ElemT Try.prog 51 1 8 (.nilFunc) := ⟨by kernel_rfl⟩
-- 53: func(api.Edge) (api.Edge, api.Edge, bool)
theorem z53 : ∀ w, (zeroValue 53).run Try.prog w = .ok (.nilFunc) w := fun w => by kernel_rfl
instance : ZeroT Try.prog 53 (.nilFunc) #[.nilFunc] := ⟨z53, rfl⟩
instance : ScalarT Try.prog 53 := ⟨fun w => by kernel_rfl, by kernel_rfl⟩
instance : ElemT Try.prog 53 1 8 (.nilFunc) := ⟨by kernel_rfl⟩
-- 54: func([]api.Seg) ([]api.Seg, api.Errno)
theorem z54 : ∀ w, (zeroValue 54).run Try.prog w = .ok (.nilFunc) w := fun w => by kernel_rfl
instance : ZeroT Try.prog 54 (.nilFunc) #[.nilFunc] := ⟨z54, rfl⟩
instance : ScalarT Try.prog 54 := ⟨fun w => by kernel_rfl, by kernel_rfl⟩
instance : ElemT Try.prog 54 1 8 (.nilFunc) := ⟨by kernel_rfl⟩
-- 55: *wind.point
theorem z55 : ∀ w, (zeroValue 55).run Try.prog w = .ok (.pointer none) w := fun w => by kernel_rfl
instance : ZeroT Try.prog 55 (.pointer none) #[.pointer none] := ⟨z55, rfl⟩
instance : ScalarT Try.prog 55 := ⟨fun w => by kernel_rfl, by kernel_rfl⟩
instance : ElemT Try.prog 55 1 8 (.pointer none) := ⟨by kernel_rfl⟩
-- 56: x
theorem z56 : ∀ w, (zeroValue 56).run Try.prog w = .ok (.agg #[.int .i64 0, .int .i64 0, .int .i64 0]) w := fun w => by kernel_rfl
instance : ZeroT Try.prog 56 (.agg #[.int .i64 0, .int .i64 0, .int .i64 0]) #[.int .i64 0, .int .i64 0, .int .i64 0] := ⟨z56, rfl⟩
instance : RowT Try.prog 56 3 := ⟨fun w => by kernel_rfl, by kernel_rfl⟩
instance : ElemT Try.prog 56 3 24 (.agg #[.int .i64 0, .int .i64 0, .int .i64 0]) := ⟨by kernel_rfl⟩
-- 57: tympan/wind.point
theorem z57 : ∀ w, (zeroValue 57).run Try.prog w = .ok (.agg #[.int .i64 0, .int .i64 0, .int .i64 0]) w := fun w => by kernel_rfl
instance : ZeroT Try.prog 57 (.agg #[.int .i64 0, .int .i64 0, .int .i64 0]) #[.int .i64 0, .int .i64 0, .int .i64 0] := ⟨z57, rfl⟩
instance : RowT Try.prog 57 3 := ⟨fun w => by kernel_rfl, by kernel_rfl⟩
instance : ElemT Try.prog 57 3 24 (.agg #[.int .i64 0, .int .i64 0, .int .i64 0]) := ⟨by kernel_rfl⟩
-- 58: func(api.Edge)
theorem z58 : ∀ w, (zeroValue 58).run Try.prog w = .ok (.nilFunc) w := fun w => by kernel_rfl
instance : ZeroT Try.prog 58 (.nilFunc) #[.nilFunc] := ⟨z58, rfl⟩
instance : ScalarT Try.prog 58 := ⟨fun w => by kernel_rfl, by kernel_rfl⟩
instance : ElemT Try.prog 58 1 8 (.nilFunc) := ⟨by kernel_rfl⟩
-- 59: func(api.Edge, int, int) int
theorem z59 : ∀ w, (zeroValue 59).run Try.prog w = .ok (.nilFunc) w := fun w => by kernel_rfl
instance : ZeroT Try.prog 59 (.nilFunc) #[.nilFunc] := ⟨z59, rfl⟩
instance : ScalarT Try.prog 59 := ⟨fun w => by kernel_rfl, by kernel_rfl⟩
instance : ElemT Try.prog 59 1 8 (.nilFunc) := ⟨by kernel_rfl⟩
-- 60: func(int, int) bool
theorem z60 : ∀ w, (zeroValue 60).run Try.prog w = .ok (.nilFunc) w := fun w => by kernel_rfl
instance : ZeroT Try.prog 60 (.nilFunc) #[.nilFunc] := ⟨z60, rfl⟩
instance : ScalarT Try.prog 60 := ⟨fun w => by kernel_rfl, by kernel_rfl⟩
instance : ElemT Try.prog 60 1 8 (.nilFunc) := ⟨by kernel_rfl⟩
-- 61: []path.Contour
theorem z61 : ∀ w, (zeroValue 61).run Try.prog w = .ok (.slice none 0 0) w := fun w => by kernel_rfl
instance : ZeroT Try.prog 61 (.slice none 0 0) #[.slice none 0 0] := ⟨z61, rfl⟩
instance : ScalarT Try.prog 61 := ⟨fun w => by kernel_rfl, by kernel_rfl⟩
instance : ElemT Try.prog 61 1 24 (.slice none 0 0) := ⟨by kernel_rfl⟩
instance : SliceT Try.prog 61 64 := ⟨Try.underlying61⟩
-- 62: func([]api.Seg) []path.Contour
theorem z62 : ∀ w, (zeroValue 62).run Try.prog w = .ok (.nilFunc) w := fun w => by kernel_rfl
instance : ZeroT Try.prog 62 (.nilFunc) #[.nilFunc] := ⟨z62, rfl⟩
instance : ScalarT Try.prog 62 := ⟨fun w => by kernel_rfl, by kernel_rfl⟩
instance : ElemT Try.prog 62 1 8 (.nilFunc) := ⟨by kernel_rfl⟩
-- 63: X
theorem z63 : ∀ w, (zeroValue 63).run Try.prog w = .ok (.agg #[.int .i64 0, .int .i64 0, .slice none 0 0, .bool false]) w := fun w => by kernel_rfl
instance : ZeroT Try.prog 63 (.agg #[.int .i64 0, .int .i64 0, .slice none 0 0, .bool false]) #[.int .i64 0, .int .i64 0, .slice none 0 0, .bool false] := ⟨z63, rfl⟩
instance : RowT Try.prog 63 4 := ⟨fun w => by kernel_rfl, by kernel_rfl⟩
instance : ElemT Try.prog 63 4 48 (.agg #[.int .i64 0, .int .i64 0, .slice none 0 0, .bool false]) := ⟨by kernel_rfl⟩
-- 64: tympan/path.Contour
theorem z64 : ∀ w, (zeroValue 64).run Try.prog w = .ok (.agg #[.int .i64 0, .int .i64 0, .slice none 0 0, .bool false]) w := fun w => by kernel_rfl
instance : ZeroT Try.prog 64 (.agg #[.int .i64 0, .int .i64 0, .slice none 0 0, .bool false]) #[.int .i64 0, .int .i64 0, .slice none 0 0, .bool false] := ⟨z64, rfl⟩
instance : RowT Try.prog 64 4 := ⟨fun w => by kernel_rfl, by kernel_rfl⟩
instance : ElemT Try.prog 64 4 48 (.agg #[.int .i64 0, .int .i64 0, .slice none 0 0, .bool false]) := ⟨by kernel_rfl⟩
-- 65: func([]api.Seg, bool) []api.Seg
theorem z65 : ∀ w, (zeroValue 65).run Try.prog w = .ok (.nilFunc) w := fun w => by kernel_rfl
instance : ZeroT Try.prog 65 (.nilFunc) #[.nilFunc] := ⟨z65, rfl⟩
instance : ScalarT Try.prog 65 := ⟨fun w => by kernel_rfl, by kernel_rfl⟩
instance : ElemT Try.prog 65 1 8 (.nilFunc) := ⟨by kernel_rfl⟩
-- 66: Kind
theorem z66 : ∀ w, (zeroValue 66).run Try.prog w = .ok (.agg #[.int .i64 0, .int .i64 0, .int .i64 0, .int .i64 0, .int .i64 0]) w := fun w => by kernel_rfl
instance : ZeroT Try.prog 66 (.agg #[.int .i64 0, .int .i64 0, .int .i64 0, .int .i64 0, .int .i64 0]) #[.int .i64 0, .int .i64 0, .int .i64 0, .int .i64 0, .int .i64 0] := ⟨z66, rfl⟩
instance : RowT Try.prog 66 5 := ⟨fun w => by kernel_rfl, by kernel_rfl⟩
instance : ElemT Try.prog 66 5 40 (.agg #[.int .i64 0, .int .i64 0, .int .i64 0, .int .i64 0, .int .i64 0]) := ⟨by kernel_rfl⟩
-- 67: tympan/api.Seg
theorem z67 : ∀ w, (zeroValue 67).run Try.prog w = .ok (.agg #[.int .i64 0, .int .i64 0, .int .i64 0, .int .i64 0, .int .i64 0]) w := fun w => by kernel_rfl
instance : ZeroT Try.prog 67 (.agg #[.int .i64 0, .int .i64 0, .int .i64 0, .int .i64 0, .int .i64 0]) #[.int .i64 0, .int .i64 0, .int .i64 0, .int .i64 0, .int .i64 0] := ⟨z67, rfl⟩
instance : RowT Try.prog 67 5 := ⟨fun w => by kernel_rfl, by kernel_rfl⟩
instance : ElemT Try.prog 67 5 40 (.agg #[.int .i64 0, .int .i64 0, .int .i64 0, .int .i64 0, .int .i64 0]) := ⟨by kernel_rfl⟩
-- 68: func([]api.Seg) bool
theorem z68 : ∀ w, (zeroValue 68).run Try.prog w = .ok (.nilFunc) w := fun w => by kernel_rfl
instance : ZeroT Try.prog 68 (.nilFunc) #[.nilFunc] := ⟨z68, rfl⟩
instance : ScalarT Try.prog 68 := ⟨fun w => by kernel_rfl, by kernel_rfl⟩
instance : ElemT Try.prog 68 1 8 (.nilFunc) := ⟨by kernel_rfl⟩
-- 69: func(int, int)
theorem z69 : ∀ w, (zeroValue 69).run Try.prog w = .ok (.nilFunc) w := fun w => by kernel_rfl
instance : ZeroT Try.prog 69 (.nilFunc) #[.nilFunc] := ⟨z69, rfl⟩
instance : ScalarT Try.prog 69 := ⟨fun w => by kernel_rfl, by kernel_rfl⟩
instance : ElemT Try.prog 69 1 8 (.nilFunc) := ⟨by kernel_rfl⟩
-- 70: func(...int) bool
theorem z70 : ∀ w, (zeroValue 70).run Try.prog w = .ok (.nilFunc) w := fun w => by kernel_rfl
instance : ZeroT Try.prog 70 (.nilFunc) #[.nilFunc] := ⟨z70, rfl⟩
instance : ScalarT Try.prog 70 := ⟨fun w => by kernel_rfl, by kernel_rfl⟩
instance : ElemT Try.prog 70 1 8 (.nilFunc) := ⟨by kernel_rfl⟩
-- 71: func(api.Edge) bool
theorem z71 : ∀ w, (zeroValue 71).run Try.prog w = .ok (.nilFunc) w := fun w => by kernel_rfl
instance : ZeroT Try.prog 71 (.nilFunc) #[.nilFunc] := ⟨z71, rfl⟩
instance : ScalarT Try.prog 71 := ⟨fun w => by kernel_rfl, by kernel_rfl⟩
instance : ElemT Try.prog 71 1 8 (.nilFunc) := ⟨by kernel_rfl⟩
-- 72: func(api.Edge) []api.Edge
theorem z72 : ∀ w, (zeroValue 72).run Try.prog w = .ok (.nilFunc) w := fun w => by kernel_rfl
instance : ZeroT Try.prog 72 (.nilFunc) #[.nilFunc] := ⟨z72, rfl⟩
instance : ScalarT Try.prog 72 := ⟨fun w => by kernel_rfl, by kernel_rfl⟩
instance : ElemT Try.prog 72 1 8 (.nilFunc) := ⟨by kernel_rfl⟩
-- 73: func(int) bool
theorem z73 : ∀ w, (zeroValue 73).run Try.prog w = .ok (.nilFunc) w := fun w => by kernel_rfl
instance : ZeroT Try.prog 73 (.nilFunc) #[.nilFunc] := ⟨z73, rfl⟩
instance : ScalarT Try.prog 73 := ⟨fun w => by kernel_rfl, by kernel_rfl⟩
instance : ElemT Try.prog 73 1 8 (.nilFunc) := ⟨by kernel_rfl⟩
-- 74: []tympanref26.Hit
theorem z74 : ∀ w, (zeroValue 74).run Try.prog w = .ok (.slice none 0 0) w := fun w => by kernel_rfl
instance : ZeroT Try.prog 74 (.slice none 0 0) #[.slice none 0 0] := ⟨z74, rfl⟩
instance : ScalarT Try.prog 74 := ⟨fun w => by kernel_rfl, by kernel_rfl⟩
instance : ElemT Try.prog 74 1 24 (.slice none 0 0) := ⟨by kernel_rfl⟩
instance : SliceT Try.prog 74 77 := ⟨Try.underlying74⟩
-- 75: func(api.Edge, int) []tympanref26.Hit
theorem z75 : ∀ w, (zeroValue 75).run Try.prog w = .ok (.nilFunc) w := fun w => by kernel_rfl
instance : ZeroT Try.prog 75 (.nilFunc) #[.nilFunc] := ⟨z75, rfl⟩
instance : ScalarT Try.prog 75 := ⟨fun w => by kernel_rfl, by kernel_rfl⟩
instance : ElemT Try.prog 75 1 8 (.nilFunc) := ⟨by kernel_rfl⟩
-- 76: Turn
theorem z76 : ∀ w, (zeroValue 76).run Try.prog w = .ok (.agg #[.int .i64 0, .int .i64 0, .int .i64 0, .int .i64 0, .int .i64 0]) w := fun w => by kernel_rfl
instance : ZeroT Try.prog 76 (.agg #[.int .i64 0, .int .i64 0, .int .i64 0, .int .i64 0, .int .i64 0]) #[.int .i64 0, .int .i64 0, .int .i64 0, .int .i64 0, .int .i64 0] := ⟨z76, rfl⟩
instance : RowT Try.prog 76 5 := ⟨fun w => by kernel_rfl, by kernel_rfl⟩
instance : ElemT Try.prog 76 5 40 (.agg #[.int .i64 0, .int .i64 0, .int .i64 0, .int .i64 0, .int .i64 0]) := ⟨by kernel_rfl⟩
-- 77: tympan/tympanref26.Hit
theorem z77 : ∀ w, (zeroValue 77).run Try.prog w = .ok (.agg #[.int .i64 0, .int .i64 0, .int .i64 0, .int .i64 0, .int .i64 0]) w := fun w => by kernel_rfl
instance : ZeroT Try.prog 77 (.agg #[.int .i64 0, .int .i64 0, .int .i64 0, .int .i64 0, .int .i64 0]) #[.int .i64 0, .int .i64 0, .int .i64 0, .int .i64 0, .int .i64 0] := ⟨z77, rfl⟩
instance : RowT Try.prog 77 5 := ⟨fun w => by kernel_rfl, by kernel_rfl⟩
instance : ElemT Try.prog 77 5 40 (.agg #[.int .i64 0, .int .i64 0, .int .i64 0, .int .i64 0, .int .i64 0]) := ⟨by kernel_rfl⟩
-- 78: *path.Contour
theorem z78 : ∀ w, (zeroValue 78).run Try.prog w = .ok (.pointer none) w := fun w => by kernel_rfl
instance : ZeroT Try.prog 78 (.pointer none) #[.pointer none] := ⟨z78, rfl⟩
instance : ScalarT Try.prog 78 := ⟨fun w => by kernel_rfl, by kernel_rfl⟩
instance : ElemT Try.prog 78 1 8 (.pointer none) := ⟨by kernel_rfl⟩
-- 79: func(api.Seg, int) bool
theorem z79 : ∀ w, (zeroValue 79).run Try.prog w = .ok (.nilFunc) w := fun w => by kernel_rfl
instance : ZeroT Try.prog 79 (.nilFunc) #[.nilFunc] := ⟨z79, rfl⟩
instance : ScalarT Try.prog 79 := ⟨fun w => by kernel_rfl, by kernel_rfl⟩
instance : ElemT Try.prog 79 1 8 (.nilFunc) := ⟨by kernel_rfl⟩
-- 80: func(api.Edge) int
theorem z80 : ∀ w, (zeroValue 80).run Try.prog w = .ok (.nilFunc) w := fun w => by kernel_rfl
instance : ZeroT Try.prog 80 (.nilFunc) #[.nilFunc] := ⟨z80, rfl⟩
instance : ScalarT Try.prog 80 := ⟨fun w => by kernel_rfl, by kernel_rfl⟩
instance : ElemT Try.prog 80 1 8 (.nilFunc) := ⟨by kernel_rfl⟩
-- 81: func(int) (int, int)
theorem z81 : ∀ w, (zeroValue 81).run Try.prog w = .ok (.nilFunc) w := fun w => by kernel_rfl
instance : ZeroT Try.prog 81 (.nilFunc) #[.nilFunc] := ⟨z81, rfl⟩
instance : ScalarT Try.prog 81 := ⟨fun w => by kernel_rfl, by kernel_rfl⟩
instance : ElemT Try.prog 81 1 8 (.nilFunc) := ⟨by kernel_rfl⟩
-- 83: turn
theorem z83 : ∀ w, (zeroValue 83).run Try.prog w = .ok (.agg #[.int .i64 0, .int .i64 0, .int .i64 0, .int .i64 0, .int .i64 0]) w := fun w => by kernel_rfl
instance : ZeroT Try.prog 83 (.agg #[.int .i64 0, .int .i64 0, .int .i64 0, .int .i64 0, .int .i64 0]) #[.int .i64 0, .int .i64 0, .int .i64 0, .int .i64 0, .int .i64 0] := ⟨z83, rfl⟩
instance : RowT Try.prog 83 5 := ⟨fun w => by kernel_rfl, by kernel_rfl⟩
instance : ElemT Try.prog 83 5 40 (.agg #[.int .i64 0, .int .i64 0, .int .i64 0, .int .i64 0, .int .i64 0]) := ⟨by kernel_rfl⟩
-- 84: tympan/bow.spot
theorem z84 : ∀ w, (zeroValue 84).run Try.prog w = .ok (.agg #[.int .i64 0, .int .i64 0, .int .i64 0, .int .i64 0, .int .i64 0]) w := fun w => by kernel_rfl
instance : ZeroT Try.prog 84 (.agg #[.int .i64 0, .int .i64 0, .int .i64 0, .int .i64 0, .int .i64 0]) #[.int .i64 0, .int .i64 0, .int .i64 0, .int .i64 0, .int .i64 0] := ⟨z84, rfl⟩
instance : RowT Try.prog 84 5 := ⟨fun w => by kernel_rfl, by kernel_rfl⟩
instance : ElemT Try.prog 84 5 40 (.agg #[.int .i64 0, .int .i64 0, .int .i64 0, .int .i64 0, .int .i64 0]) := ⟨by kernel_rfl⟩
-- 85: [2]bow.spot
theorem z85 : ∀ w, (zeroValue 85).run Try.prog w = .ok (.agg #[.int .i64 0, .int .i64 0, .int .i64 0, .int .i64 0, .int .i64 0, .int .i64 0, .int .i64 0, .int .i64 0, .int .i64 0, .int .i64 0]) w := fun w => by kernel_rfl
instance : ZeroT Try.prog 85 (.agg #[.int .i64 0, .int .i64 0, .int .i64 0, .int .i64 0, .int .i64 0, .int .i64 0, .int .i64 0, .int .i64 0, .int .i64 0, .int .i64 0]) #[.int .i64 0, .int .i64 0, .int .i64 0, .int .i64 0, .int .i64 0, .int .i64 0, .int .i64 0, .int .i64 0, .int .i64 0, .int .i64 0] := ⟨z85, rfl⟩
instance : RowT Try.prog 85 10 := ⟨fun w => by kernel_rfl, by kernel_rfl⟩
instance : ElemT Try.prog 85 10 80 (.agg #[.int .i64 0, .int .i64 0, .int .i64 0, .int .i64 0, .int .i64 0, .int .i64 0, .int .i64 0, .int .i64 0, .int .i64 0, .int .i64 0]) := ⟨by kernel_rfl⟩
-- 86: func(api.Edge, int) [2]bow.spot
theorem z86 : ∀ w, (zeroValue 86).run Try.prog w = .ok (.nilFunc) w := fun w => by kernel_rfl
instance : ZeroT Try.prog 86 (.nilFunc) #[.nilFunc] := ⟨z86, rfl⟩
instance : ScalarT Try.prog 86 := ⟨fun w => by kernel_rfl, by kernel_rfl⟩
instance : ElemT Try.prog 86 1 8 (.nilFunc) := ⟨by kernel_rfl⟩
-- 87: func(int, int, int) int
theorem z87 : ∀ w, (zeroValue 87).run Try.prog w = .ok (.nilFunc) w := fun w => by kernel_rfl
instance : ZeroT Try.prog 87 (.nilFunc) #[.nilFunc] := ⟨z87, rfl⟩
instance : ScalarT Try.prog 87 := ⟨fun w => by kernel_rfl, by kernel_rfl⟩
instance : ElemT Try.prog 87 1 8 (.nilFunc) := ⟨by kernel_rfl⟩
-- 88: func(api.Edge, int, int) []tympanref26.Hit
theorem z88 : ∀ w, (zeroValue 88).run Try.prog w = .ok (.nilFunc) w := fun w => by kernel_rfl
instance : ZeroT Try.prog 88 (.nilFunc) #[.nilFunc] := ⟨z88, rfl⟩
instance : ScalarT Try.prog 88 := ⟨fun w => by kernel_rfl, by kernel_rfl⟩
instance : ElemT Try.prog 88 1 8 (.nilFunc) := ⟨by kernel_rfl⟩
-- 89: func(int, int, int, int) bool
theorem z89 : ∀ w, (zeroValue 89).run Try.prog w = .ok (.nilFunc) w := fun w => by kernel_rfl
instance : ZeroT Try.prog 89 (.nilFunc) #[.nilFunc] := ⟨z89, rfl⟩
instance : ScalarT Try.prog 89 := ⟨fun w => by kernel_rfl, by kernel_rfl⟩
instance : ElemT Try.prog 89 1 8 (.nilFunc) := ⟨by kernel_rfl⟩
-- 90: func(int, int, int, int, bool) bool
theorem z90 : ∀ w, (zeroValue 90).run Try.prog w = .ok (.nilFunc) w := fun w => by kernel_rfl
instance : ZeroT Try.prog 90 (.nilFunc) #[.nilFunc] := ⟨z90, rfl⟩
instance : ScalarT Try.prog 90 := ⟨fun w => by kernel_rfl, by kernel_rfl⟩
instance : ElemT Try.prog 90 1 8 (.nilFunc) := ⟨by kernel_rfl⟩
-- 91: func(api.Edge, int, int, int, int) tympanref26.Hit
theorem z91 : ∀ w, (zeroValue 91).run Try.prog w = .ok (.nilFunc) w := fun w => by kernel_rfl
instance : ZeroT Try.prog 91 (.nilFunc) #[.nilFunc] := ⟨z91, rfl⟩
instance : ScalarT Try.prog 91 := ⟨fun w => by kernel_rfl, by kernel_rfl⟩
instance : ElemT Try.prog 91 1 8 (.nilFunc) := ⟨by kernel_rfl⟩
-- 92: func(api.Edge, int) bow.spot
theorem z92 : ∀ w, (zeroValue 92).run Try.prog w = .ok (.nilFunc) w := fun w => by kernel_rfl
instance : ZeroT Try.prog 92 (.nilFunc) #[.nilFunc] := ⟨z92, rfl⟩
instance : ScalarT Try.prog 92 := ⟨fun w => by kernel_rfl, by kernel_rfl⟩
instance : ElemT Try.prog 92 1 8 (.nilFunc) := ⟨by kernel_rfl⟩
-- 94: func(int, int, int) (int, bool)
theorem z94 : ∀ w, (zeroValue 94).run Try.prog w = .ok (.nilFunc) w := fun w => by kernel_rfl
instance : ZeroT Try.prog 94 (.nilFunc) #[.nilFunc] := ⟨z94, rfl⟩
instance : ScalarT Try.prog 94 := ⟨fun w => by kernel_rfl, by kernel_rfl⟩
instance : ElemT Try.prog 94 1 8 (.nilFunc) := ⟨by kernel_rfl⟩
-- 95: func(int, int, int, int) int
theorem z95 : ∀ w, (zeroValue 95).run Try.prog w = .ok (.nilFunc) w := fun w => by kernel_rfl
instance : ZeroT Try.prog 95 (.nilFunc) #[.nilFunc] := ⟨z95, rfl⟩
instance : ScalarT Try.prog 95 := ⟨fun w => by kernel_rfl, by kernel_rfl⟩
instance : ElemT Try.prog 95 1 8 (.nilFunc) := ⟨by kernel_rfl⟩
-- 96: uint64
theorem z96 : ∀ w, (zeroValue 96).run Try.prog w = .ok (.int .u64 0) w := fun w => by kernel_rfl
instance : ZeroT Try.prog 96 (.int .u64 0) #[.int .u64 0] := ⟨z96, rfl⟩
instance : ScalarT Try.prog 96 := ⟨fun w => by kernel_rfl, by kernel_rfl⟩
instance : ElemT Try.prog 96 1 8 (.int .u64 0) := ⟨by kernel_rfl⟩
-- 97: Hi
theorem z97 : ∀ w, (zeroValue 97).run Try.prog w = .ok (.agg #[.int .u64 0, .int .u64 0]) w := fun w => by kernel_rfl
instance : ZeroT Try.prog 97 (.agg #[.int .u64 0, .int .u64 0]) #[.int .u64 0, .int .u64 0] := ⟨z97, rfl⟩
instance : RowT Try.prog 97 2 := ⟨fun w => by kernel_rfl, by kernel_rfl⟩
instance : ElemT Try.prog 97 2 16 (.agg #[.int .u64 0, .int .u64 0]) := ⟨by kernel_rfl⟩
-- 98: tympan/tympanref24.Wide
theorem z98 : ∀ w, (zeroValue 98).run Try.prog w = .ok (.agg #[.int .u64 0, .int .u64 0]) w := fun w => by kernel_rfl
instance : ZeroT Try.prog 98 (.agg #[.int .u64 0, .int .u64 0]) #[.int .u64 0, .int .u64 0] := ⟨z98, rfl⟩
instance : RowT Try.prog 98 2 := ⟨fun w => by kernel_rfl, by kernel_rfl⟩
instance : ElemT Try.prog 98 2 16 (.agg #[.int .u64 0, .int .u64 0]) := ⟨by kernel_rfl⟩
-- 99: func(uint64, uint64) tympanref24.Wide
theorem z99 : ∀ w, (zeroValue 99).run Try.prog w = .ok (.nilFunc) w := fun w => by kernel_rfl
instance : ZeroT Try.prog 99 (.nilFunc) #[.nilFunc] := ⟨z99, rfl⟩
instance : ScalarT Try.prog 99 := ⟨fun w => by kernel_rfl, by kernel_rfl⟩
instance : ElemT Try.prog 99 1 8 (.nilFunc) := ⟨by kernel_rfl⟩
-- 100: func(int) uint64
theorem z100 : ∀ w, (zeroValue 100).run Try.prog w = .ok (.nilFunc) w := fun w => by kernel_rfl
instance : ZeroT Try.prog 100 (.nilFunc) #[.nilFunc] := ⟨z100, rfl⟩
instance : ScalarT Try.prog 100 := ⟨fun w => by kernel_rfl, by kernel_rfl⟩
instance : ElemT Try.prog 100 1 8 (.nilFunc) := ⟨by kernel_rfl⟩
-- 101: func(tympanref24.Wide, uint64, tympanref24.Wide) int
theorem z101 : ∀ w, (zeroValue 101).run Try.prog w = .ok (.nilFunc) w := fun w => by kernel_rfl
instance : ZeroT Try.prog 101 (.nilFunc) #[.nilFunc] := ⟨z101, rfl⟩
instance : ScalarT Try.prog 101 := ⟨fun w => by kernel_rfl, by kernel_rfl⟩
instance : ElemT Try.prog 101 1 8 (.nilFunc) := ⟨by kernel_rfl⟩
-- 102: func(int, int, int, int, int) bow.spot
theorem z102 : ∀ w, (zeroValue 102).run Try.prog w = .ok (.nilFunc) w := fun w => by kernel_rfl
instance : ZeroT Try.prog 102 (.nilFunc) #[.nilFunc] := ⟨z102, rfl⟩
instance : ScalarT Try.prog 102 := ⟨fun w => by kernel_rfl, by kernel_rfl⟩
instance : ElemT Try.prog 102 1 8 (.nilFunc) := ⟨by kernel_rfl⟩
-- 103: [2]int
theorem z103 : ∀ w, (zeroValue 103).run Try.prog w = .ok (.agg #[.int .i64 0, .int .i64 0]) w := fun w => by kernel_rfl
instance : ZeroT Try.prog 103 (.agg #[.int .i64 0, .int .i64 0]) #[.int .i64 0, .int .i64 0] := ⟨z103, rfl⟩
instance : RowT Try.prog 103 2 := ⟨fun w => by kernel_rfl, by kernel_rfl⟩
instance : ElemT Try.prog 103 2 16 (.agg #[.int .i64 0, .int .i64 0]) := ⟨by kernel_rfl⟩
instance : ArrT Try.prog 103 2 3 := ⟨Try.underlying103, fun w => by kernel_rfl, by kernel_rfl⟩
-- 104: uint
theorem z104 : ∀ w, (zeroValue 104).run Try.prog w = .ok (.int .u64 0) w := fun w => by kernel_rfl
instance : ZeroT Try.prog 104 (.int .u64 0) #[.int .u64 0] := ⟨z104, rfl⟩
instance : ScalarT Try.prog 104 := ⟨fun w => by kernel_rfl, by kernel_rfl⟩
instance : ElemT Try.prog 104 1 8 (.int .u64 0) := ⟨by kernel_rfl⟩
-- 105: func(tympanref24.Wide, tympanref24.Wide) int
theorem z105 : ∀ w, (zeroValue 105).run Try.prog w = .ok (.nilFunc) w := fun w => by kernel_rfl
instance : ZeroT Try.prog 105 (.nilFunc) #[.nilFunc] := ⟨z105, rfl⟩
instance : ScalarT Try.prog 105 := ⟨fun w => by kernel_rfl, by kernel_rfl⟩
instance : ElemT Try.prog 105 1 8 (.nilFunc) := ⟨by kernel_rfl⟩
-- 107: func(int, int) (int, uint64)
theorem z107 : ∀ w, (zeroValue 107).run Try.prog w = .ok (.nilFunc) w := fun w => by kernel_rfl
instance : ZeroT Try.prog 107 (.nilFunc) #[.nilFunc] := ⟨z107, rfl⟩
instance : ScalarT Try.prog 107 := ⟨fun w => by kernel_rfl, by kernel_rfl⟩
instance : ElemT Try.prog 107 1 8 (.nilFunc) := ⟨by kernel_rfl⟩
-- 109: func(uint64, uint64) (uint64, uint64)
theorem z109 : ∀ w, (zeroValue 109).run Try.prog w = .ok (.nilFunc) w := fun w => by kernel_rfl
instance : ZeroT Try.prog 109 (.nilFunc) #[.nilFunc] := ⟨z109, rfl⟩
instance : ScalarT Try.prog 109 := ⟨fun w => by kernel_rfl, by kernel_rfl⟩
instance : ElemT Try.prog 109 1 8 (.nilFunc) := ⟨by kernel_rfl⟩
-- 110: [4]uint64
theorem z110 : ∀ w, (zeroValue 110).run Try.prog w = .ok (.agg #[.int .u64 0, .int .u64 0, .int .u64 0, .int .u64 0]) w := fun w => by kernel_rfl
instance : ZeroT Try.prog 110 (.agg #[.int .u64 0, .int .u64 0, .int .u64 0, .int .u64 0]) #[.int .u64 0, .int .u64 0, .int .u64 0, .int .u64 0] := ⟨z110, rfl⟩
instance : RowT Try.prog 110 4 := ⟨fun w => by kernel_rfl, by kernel_rfl⟩
instance : ElemT Try.prog 110 4 32 (.agg #[.int .u64 0, .int .u64 0, .int .u64 0, .int .u64 0]) := ⟨by kernel_rfl⟩
instance : ArrT Try.prog 110 4 96 := ⟨Try.underlying110, fun w => by kernel_rfl, by kernel_rfl⟩
-- 111: func() string
theorem z111 : ∀ w, (zeroValue 111).run Try.prog w = .ok (.nilFunc) w := fun w => by kernel_rfl
instance : ZeroT Try.prog 111 (.nilFunc) #[.nilFunc] := ⟨z111, rfl⟩
instance : ScalarT Try.prog 111 := ⟨fun w => by kernel_rfl, by kernel_rfl⟩
instance : ElemT Try.prog 111 1 8 (.nilFunc) := ⟨by kernel_rfl⟩
-- 117: uint32
theorem z117 : ∀ w, (zeroValue 117).run Try.prog w = .ok (.int .u32 0) w := fun w => by kernel_rfl
instance : ZeroT Try.prog 117 (.int .u32 0) #[.int .u32 0] := ⟨z117, rfl⟩
instance : ScalarT Try.prog 117 := ⟨fun w => by kernel_rfl, by kernel_rfl⟩
instance : ElemT Try.prog 117 1 4 (.int .u32 0) := ⟨by kernel_rfl⟩
-- 120: func(unsafe.Pointer, unsafe.Pointer) bool
theorem z120 : ∀ w, (zeroValue 120).run Try.prog w = .ok (.nilFunc) w := fun w => by kernel_rfl
instance : ZeroT Try.prog 120 (.nilFunc) #[.nilFunc] := ⟨z120, rfl⟩
instance : ScalarT Try.prog 120 := ⟨fun w => by kernel_rfl, by kernel_rfl⟩
instance : ElemT Try.prog 120 1 8 (.nilFunc) := ⟨by kernel_rfl⟩
-- 121: *uint8
theorem z121 : ∀ w, (zeroValue 121).run Try.prog w = .ok (.pointer none) w := fun w => by kernel_rfl
instance : ZeroT Try.prog 121 (.pointer none) #[.pointer none] := ⟨z121, rfl⟩
instance : ScalarT Try.prog 121 := ⟨fun w => by kernel_rfl, by kernel_rfl⟩
instance : ElemT Try.prog 121 1 8 (.pointer none) := ⟨by kernel_rfl⟩
-- 124: Size_
theorem z124 : ∀ w, (zeroValue 124).run Try.prog w = .ok (.agg #[.int .u64 0, .int .u64 0, .int .u32 0, .int .u8 0, .int .u8 0, .int .u8 0, .int .u8 0, .nilFunc, .pointer none, .int .i32 0, .int .i32 0]) w := fun w => by kernel_rfl
instance : ZeroT Try.prog 124 (.agg #[.int .u64 0, .int .u64 0, .int .u32 0, .int .u8 0, .int .u8 0, .int .u8 0, .int .u8 0, .nilFunc, .pointer none, .int .i32 0, .int .i32 0]) #[.int .u64 0, .int .u64 0, .int .u32 0, .int .u8 0, .int .u8 0, .int .u8 0, .int .u8 0, .nilFunc, .pointer none, .int .i32 0, .int .i32 0] := ⟨z124, rfl⟩
instance : RowT Try.prog 124 11 := ⟨fun w => by kernel_rfl, by kernel_rfl⟩
instance : ElemT Try.prog 124 11 48 (.agg #[.int .u64 0, .int .u64 0, .int .u32 0, .int .u8 0, .int .u8 0, .int .u8 0, .int .u8 0, .nilFunc, .pointer none, .int .i32 0, .int .i32 0]) := ⟨by kernel_rfl⟩
end Go.Proofs.Ytmoabhfpibkcnaa
