/- What the types of this seat's program are: by program (gen_types.py). -/
import Derived.Test.YtkgblkaihblgeaaProg
import Derived.Test.YtkgblkaihblgeaaHoldM
import Derived.KernelRfl
namespace Go.Proofs.Ytkgblkaihblgeaa
-- 1: func()
theorem z1 : ∀ w, (zeroValue 1).run Try.prog w = .ok (.nilFunc) w := fun w => by kernel_rfl
instance : ZeroT Try.prog 1 (.nilFunc) #[.nilFunc] := ⟨z1, rfl⟩
instance : ScalarT Try.prog 1 := ⟨fun w => by kernel_rfl, by kernel_rfl⟩
instance : ElemT Try.prog 1 1 8 (.nilFunc) := ⟨by kernel_rfl⟩
-- 2: int64
theorem z2 : ∀ w, (zeroValue 2).run Try.prog w = .ok (.int .i64 0) w := fun w => by kernel_rfl
instance : ZeroT Try.prog 2 (.int .i64 0) #[.int .i64 0] := ⟨z2, rfl⟩
instance : ScalarT Try.prog 2 := ⟨fun w => by kernel_rfl, by kernel_rfl⟩
instance : ElemT Try.prog 2 1 8 (.int .i64 0) := ⟨by kernel_rfl⟩
-- 3: int
theorem z3 : ∀ w, (zeroValue 3).run Try.prog w = .ok (.int .i64 0) w := fun w => by kernel_rfl
instance : ZeroT Try.prog 3 (.int .i64 0) #[.int .i64 0] := ⟨z3, rfl⟩
instance : ScalarT Try.prog 3 := ⟨fun w => by kernel_rfl, by kernel_rfl⟩
instance : ElemT Try.prog 3 1 8 (.int .i64 0) := ⟨by kernel_rfl⟩
-- 4: bool
theorem z4 : ∀ w, (zeroValue 4).run Try.prog w = .ok (.bool false) w := fun w => by kernel_rfl
instance : ZeroT Try.prog 4 (.bool false) #[.bool false] := ⟨z4, rfl⟩
instance : ScalarT Try.prog 4 := ⟨fun w => by kernel_rfl, by kernel_rfl⟩
instance : ElemT Try.prog 4 1 1 (.bool false) := ⟨by kernel_rfl⟩
-- 5: uint8
theorem z5 : ∀ w, (zeroValue 5).run Try.prog w = .ok (.int .u8 0) w := fun w => by kernel_rfl
instance : ZeroT Try.prog 5 (.int .u8 0) #[.int .u8 0] := ⟨z5, rfl⟩
instance : ScalarT Try.prog 5 := ⟨fun w => by kernel_rfl, by kernel_rfl⟩
instance : ElemT Try.prog 5 1 1 (.int .u8 0) := ⟨by kernel_rfl⟩
-- 9: string
theorem z9 : ∀ w, (zeroValue 9).run Try.prog w = .ok (.string ByteArray.empty) w := fun w => by kernel_rfl
instance : ZeroT Try.prog 9 (.string ByteArray.empty) #[.string ByteArray.empty] := ⟨z9, rfl⟩
instance : ScalarT Try.prog 9 := ⟨fun w => by kernel_rfl, by kernel_rfl⟩
instance : ElemT Try.prog 9 1 16 (.string ByteArray.empty) := ⟨by kernel_rfl⟩
-- 12: uintptr
theorem z12 : ∀ w, (zeroValue 12).run Try.prog w = .ok (.int .u64 0) w := fun w => by kernel_rfl
instance : ZeroT Try.prog 12 (.int .u64 0) #[.int .u64 0] := ⟨z12, rfl⟩
instance : ScalarT Try.prog 12 := ⟨fun w => by kernel_rfl, by kernel_rfl⟩
instance : ElemT Try.prog 12 1 8 (.int .u64 0) := ⟨by kernel_rfl⟩
-- 17: *abi.Type
theorem z17 : ∀ w, (zeroValue 17).run Try.prog w = .ok (.pointer none) w := fun w => by kernel_rfl
instance : ZeroT Try.prog 17 (.pointer none) #[.pointer none] := ⟨z17, rfl⟩
instance : ScalarT Try.prog 17 := ⟨fun w => by kernel_rfl, by kernel_rfl⟩
instance : ElemT Try.prog 17 1 8 (.pointer none) := ⟨by kernel_rfl⟩
-- 21: int32
theorem z21 : ∀ w, (zeroValue 21).run Try.prog w = .ok (.int .i32 0) w := fun w => by kernel_rfl
instance : ZeroT Try.prog 21 (.int .i32 0) #[.int .i32 0] := ⟨z21, rfl⟩
instance : ScalarT Try.prog 21 := ⟨fun w => by kernel_rfl, by kernel_rfl⟩
instance : ElemT Try.prog 21 1 4 (.int .i32 0) := ⟨by kernel_rfl⟩
-- 22: []api.Edge
theorem z22 : ∀ w, (zeroValue 22).run Try.prog w = .ok (.slice none 0 0) w := fun w => by kernel_rfl
instance : ZeroT Try.prog 22 (.slice none 0 0) #[.slice none 0 0] := ⟨z22, rfl⟩
instance : ScalarT Try.prog 22 := ⟨fun w => by kernel_rfl, by kernel_rfl⟩
instance : ElemT Try.prog 22 1 24 (.slice none 0 0) := ⟨by kernel_rfl⟩
instance : SliceT Try.prog 22 55 := ⟨Try.underlying22⟩
-- 23: func() bool
theorem z23 : ∀ w, (zeroValue 23).run Try.prog w = .ok (.nilFunc) w := fun w => by kernel_rfl
instance : ZeroT Try.prog 23 (.nilFunc) #[.nilFunc] := ⟨z23, rfl⟩
instance : ScalarT Try.prog 23 := ⟨fun w => by kernel_rfl, by kernel_rfl⟩
instance : ElemT Try.prog 23 1 8 (.nilFunc) := ⟨by kernel_rfl⟩
-- 24: func([]api.Run, []api.Run) bool
theorem z24 : ∀ w, (zeroValue 24).run Try.prog w = .ok (.nilFunc) w := fun w => by kernel_rfl
instance : ZeroT Try.prog 24 (.nilFunc) #[.nilFunc] := ⟨z24, rfl⟩
instance : ScalarT Try.prog 24 := ⟨fun w => by kernel_rfl, by kernel_rfl⟩
instance : ElemT Try.prog 24 1 8 (.nilFunc) := ⟨by kernel_rfl⟩
-- 25: From
theorem z25 : ∀ w, (zeroValue 25).run Try.prog w = .ok (.agg #[.int .i64 0, .int .i64 0]) w := fun w => by kernel_rfl
instance : ZeroT Try.prog 25 (.agg #[.int .i64 0, .int .i64 0]) #[.int .i64 0, .int .i64 0] := ⟨z25, rfl⟩
instance : RowT Try.prog 25 2 := ⟨fun w => by kernel_rfl, by kernel_rfl⟩
instance : ElemT Try.prog 25 2 16 (.agg #[.int .i64 0, .int .i64 0]) := ⟨by kernel_rfl⟩
-- 26: tympan/api.Run
theorem z26 : ∀ w, (zeroValue 26).run Try.prog w = .ok (.agg #[.int .i64 0, .int .i64 0]) w := fun w => by kernel_rfl
instance : ZeroT Try.prog 26 (.agg #[.int .i64 0, .int .i64 0]) #[.int .i64 0, .int .i64 0] := ⟨z26, rfl⟩
instance : RowT Try.prog 26 2 := ⟨fun w => by kernel_rfl, by kernel_rfl⟩
instance : ElemT Try.prog 26 2 16 (.agg #[.int .i64 0, .int .i64 0]) := ⟨by kernel_rfl⟩
-- 27: []api.Run
theorem z27 : ∀ w, (zeroValue 27).run Try.prog w = .ok (.slice none 0 0) w := fun w => by kernel_rfl
instance : ZeroT Try.prog 27 (.slice none 0 0) #[.slice none 0 0] := ⟨z27, rfl⟩
instance : ScalarT Try.prog 27 := ⟨fun w => by kernel_rfl, by kernel_rfl⟩
instance : ElemT Try.prog 27 1 24 (.slice none 0 0) := ⟨by kernel_rfl⟩
instance : SliceT Try.prog 27 26 := ⟨Try.underlying27⟩
-- 28: func([]api.Edge, int, int, int) []api.Run
theorem z28 : ∀ w, (zeroValue 28).run Try.prog w = .ok (.nilFunc) w := fun w => by kernel_rfl
instance : ZeroT Try.prog 28 (.nilFunc) #[.nilFunc] := ⟨z28, rfl⟩
instance : ScalarT Try.prog 28 := ⟨fun w => by kernel_rfl, by kernel_rfl⟩
instance : ElemT Try.prog 28 1 8 (.nilFunc) := ⟨by kernel_rfl⟩
-- 29: func([]api.Edge, int, int, int) bool
theorem z29 : ∀ w, (zeroValue 29).run Try.prog w = .ok (.nilFunc) w := fun w => by kernel_rfl
instance : ZeroT Try.prog 29 (.nilFunc) #[.nilFunc] := ⟨z29, rfl⟩
instance : ScalarT Try.prog 29 := ⟨fun w => by kernel_rfl, by kernel_rfl⟩
instance : ElemT Try.prog 29 1 8 (.nilFunc) := ⟨by kernel_rfl⟩
-- 30: []api.Seg
theorem z30 : ∀ w, (zeroValue 30).run Try.prog w = .ok (.slice none 0 0) w := fun w => by kernel_rfl
instance : ZeroT Try.prog 30 (.slice none 0 0) #[.slice none 0 0] := ⟨z30, rfl⟩
instance : ScalarT Try.prog 30 := ⟨fun w => by kernel_rfl, by kernel_rfl⟩
instance : ElemT Try.prog 30 1 24 (.slice none 0 0) := ⟨by kernel_rfl⟩
instance : SliceT Try.prog 30 93 := ⟨Try.underlying30⟩
-- 31: [][]api.Run
theorem z31 : ∀ w, (zeroValue 31).run Try.prog w = .ok (.slice none 0 0) w := fun w => by kernel_rfl
instance : ZeroT Try.prog 31 (.slice none 0 0) #[.slice none 0 0] := ⟨z31, rfl⟩
instance : ScalarT Try.prog 31 := ⟨fun w => by kernel_rfl, by kernel_rfl⟩
instance : ElemT Try.prog 31 1 24 (.slice none 0 0) := ⟨by kernel_rfl⟩
instance : SliceT Try.prog 31 27 := ⟨Try.underlying31⟩
-- 32: W
theorem z32 : ∀ w, (zeroValue 32).run Try.prog w = .ok (.agg #[.int .i64 0, .int .i64 0, .slice none 0 0]) w := fun w => by kernel_rfl
instance : ZeroT Try.prog 32 (.agg #[.int .i64 0, .int .i64 0, .slice none 0 0]) #[.int .i64 0, .int .i64 0, .slice none 0 0] := ⟨z32, rfl⟩
instance : RowT Try.prog 32 3 := ⟨fun w => by kernel_rfl, by kernel_rfl⟩
instance : ElemT Try.prog 32 3 40 (.agg #[.int .i64 0, .int .i64 0, .slice none 0 0]) := ⟨by kernel_rfl⟩
-- 33: tympan/api.Region
theorem z33 : ∀ w, (zeroValue 33).run Try.prog w = .ok (.agg #[.int .i64 0, .int .i64 0, .slice none 0 0]) w := fun w => by kernel_rfl
instance : ZeroT Try.prog 33 (.agg #[.int .i64 0, .int .i64 0, .slice none 0 0]) #[.int .i64 0, .int .i64 0, .slice none 0 0] := ⟨z33, rfl⟩
instance : RowT Try.prog 33 3 := ⟨fun w => by kernel_rfl, by kernel_rfl⟩
instance : ElemT Try.prog 33 3 40 (.agg #[.int .i64 0, .int .i64 0, .slice none 0 0]) := ⟨by kernel_rfl⟩
-- 34: tympan/api.Errno
theorem z34 : ∀ w, (zeroValue 34).run Try.prog w = .ok (.int .i64 0) w := fun w => by kernel_rfl
instance : ZeroT Try.prog 34 (.int .i64 0) #[.int .i64 0] := ⟨z34, rfl⟩
instance : ScalarT Try.prog 34 := ⟨fun w => by kernel_rfl, by kernel_rfl⟩
instance : ElemT Try.prog 34 1 8 (.int .i64 0) := ⟨by kernel_rfl⟩
-- 36: func([]api.Seg, int, int, int) (api.Region, api.Errno)
theorem z36 : ∀ w, (zeroValue 36).run Try.prog w = .ok (.nilFunc) w := fun w => by kernel_rfl
instance : ZeroT Try.prog 36 (.nilFunc) #[.nilFunc] := ⟨z36, rfl⟩
instance : ScalarT Try.prog 36 := ⟨fun w => by kernel_rfl, by kernel_rfl⟩
instance : ElemT Try.prog 36 1 8 (.nilFunc) := ⟨by kernel_rfl⟩
-- 37: []uint8
theorem z37 : ∀ w, (zeroValue 37).run Try.prog w = .ok (.slice none 0 0) w := fun w => by kernel_rfl
instance : ZeroT Try.prog 37 (.slice none 0 0) #[.slice none 0 0] := ⟨z37, rfl⟩
instance : ScalarT Try.prog 37 := ⟨fun w => by kernel_rfl, by kernel_rfl⟩
instance : ElemT Try.prog 37 1 24 (.slice none 0 0) := ⟨by kernel_rfl⟩
instance : SliceT Try.prog 37 5 := ⟨Try.underlying37⟩
-- 38: W
theorem z38 : ∀ w, (zeroValue 38).run Try.prog w = .ok (.agg #[.int .i64 0, .int .i64 0, .slice none 0 0]) w := fun w => by kernel_rfl
instance : ZeroT Try.prog 38 (.agg #[.int .i64 0, .int .i64 0, .slice none 0 0]) #[.int .i64 0, .int .i64 0, .slice none 0 0] := ⟨z38, rfl⟩
instance : RowT Try.prog 38 3 := ⟨fun w => by kernel_rfl, by kernel_rfl⟩
instance : ElemT Try.prog 38 3 40 (.agg #[.int .i64 0, .int .i64 0, .slice none 0 0]) := ⟨by kernel_rfl⟩
-- 39: tympan/api.Mask
theorem z39 : ∀ w, (zeroValue 39).run Try.prog w = .ok (.agg #[.int .i64 0, .int .i64 0, .slice none 0 0]) w := fun w => by kernel_rfl
instance : ZeroT Try.prog 39 (.agg #[.int .i64 0, .int .i64 0, .slice none 0 0]) #[.int .i64 0, .int .i64 0, .slice none 0 0] := ⟨z39, rfl⟩
instance : RowT Try.prog 39 3 := ⟨fun w => by kernel_rfl, by kernel_rfl⟩
instance : ElemT Try.prog 39 3 40 (.agg #[.int .i64 0, .int .i64 0, .slice none 0 0]) := ⟨by kernel_rfl⟩
-- 41: func([]api.Seg, int, int, int) (api.Mask, int)
theorem z41 : ∀ w, (zeroValue 41).run Try.prog w = .ok (.nilFunc) w := fun w => by kernel_rfl
instance : ZeroT Try.prog 41 (.nilFunc) #[.nilFunc] := ⟨z41, rfl⟩
instance : ScalarT Try.prog 41 := ⟨fun w => by kernel_rfl, by kernel_rfl⟩
instance : ElemT Try.prog 41 1 8 (.nilFunc) := ⟨by kernel_rfl⟩
-- 42: func(api.Region, api.Region) bool
theorem z42 : ∀ w, (zeroValue 42).run Try.prog w = .ok (.nilFunc) w := fun w => by kernel_rfl
instance : ZeroT Try.prog 42 (.nilFunc) #[.nilFunc] := ⟨z42, rfl⟩
instance : ScalarT Try.prog 42 := ⟨fun w => by kernel_rfl, by kernel_rfl⟩
instance : ElemT Try.prog 42 1 8 (.nilFunc) := ⟨by kernel_rfl⟩
-- 44: func(api.Mask) (api.Region, int)
theorem z44 : ∀ w, (zeroValue 44).run Try.prog w = .ok (.nilFunc) w := fun w => by kernel_rfl
instance : ZeroT Try.prog 44 (.nilFunc) #[.nilFunc] := ⟨z44, rfl⟩
instance : ScalarT Try.prog 44 := ⟨fun w => by kernel_rfl, by kernel_rfl⟩
instance : ElemT Try.prog 44 1 8 (.nilFunc) := ⟨by kernel_rfl⟩
-- 45: func([]api.Seg, int, int, int) bool
theorem z45 : ∀ w, (zeroValue 45).run Try.prog w = .ok (.nilFunc) w := fun w => by kernel_rfl
instance : ZeroT Try.prog 45 (.nilFunc) #[.nilFunc] := ⟨z45, rfl⟩
instance : ScalarT Try.prog 45 := ⟨fun w => by kernel_rfl, by kernel_rfl⟩
instance : ElemT Try.prog 45 1 8 (.nilFunc) := ⟨by kernel_rfl⟩
-- 46: []int
theorem z46 : ∀ w, (zeroValue 46).run Try.prog w = .ok (.slice none 0 0) w := fun w => by kernel_rfl
instance : ZeroT Try.prog 46 (.slice none 0 0) #[.slice none 0 0] := ⟨z46, rfl⟩
instance : ScalarT Try.prog 46 := ⟨fun w => by kernel_rfl, by kernel_rfl⟩
instance : ElemT Try.prog 46 1 24 (.slice none 0 0) := ⟨by kernel_rfl⟩
instance : SliceT Try.prog 46 3 := ⟨Try.underlying46⟩
-- 47: func([]int, bool) []api.Seg
theorem z47 : ∀ w, (zeroValue 47).run Try.prog w = .ok (.nilFunc) w := fun w => by kernel_rfl
instance : ZeroT Try.prog 47 (.nilFunc) #[.nilFunc] := ⟨z47, rfl⟩
instance : ScalarT Try.prog 47 := ⟨fun w => by kernel_rfl, by kernel_rfl⟩
instance : ElemT Try.prog 47 1 8 (.nilFunc) := ⟨by kernel_rfl⟩
-- 48: func(int, int) int
theorem z48 : ∀ w, (zeroValue 48).run Try.prog w = .ok (.nilFunc) w := fun w => by kernel_rfl
instance : ZeroT Try.prog 48 (.nilFunc) #[.nilFunc] := ⟨z48, rfl⟩
instance : ScalarT Try.prog 48 := ⟨fun w => by kernel_rfl, by kernel_rfl⟩
instance : ElemT Try.prog 48 1 8 (.nilFunc) := ⟨by kernel_rfl⟩
-- 49: func(int) int
theorem z49 : ∀ w, (zeroValue 49).run Try.prog w = .ok (.nilFunc) w := fun w => by kernel_rfl
instance : ZeroT Try.prog 49 (.nilFunc) #[.nilFunc] := ⟨z49, rfl⟩
instance : ScalarT Try.prog 49 := ⟨fun w => by kernel_rfl, by kernel_rfl⟩
instance : ElemT Try.prog 49 1 8 (.nilFunc) := ⟨by kernel_rfl⟩
-- 50: func([]api.Run, int) []api.Run
theorem z50 : ∀ w, (zeroValue 50).run Try.prog w = .ok (.nilFunc) w := fun w => by kernel_rfl
instance : ZeroT Try.prog 50 (.nilFunc) #[.nilFunc] := ⟨z50, rfl⟩
instance : ScalarT Try.prog 50 := ⟨fun w => by kernel_rfl, by kernel_rfl⟩
instance : ElemT Try.prog 50 1 8 (.nilFunc) := ⟨by kernel_rfl⟩
-- 51: func([]int, int, int, int) bool
theorem z51 : ∀ w, (zeroValue 51).run Try.prog w = .ok (.nilFunc) w := fun w => by kernel_rfl
instance : ZeroT Try.prog 51 (.nilFunc) #[.nilFunc] := ⟨z51, rfl⟩
instance : ScalarT Try.prog 51 := ⟨fun w => by kernel_rfl, by kernel_rfl⟩
instance : ElemT Try.prog 51 1 8 (.nilFunc) := ⟨by kernel_rfl⟩
-- 52: func([]api.Seg) []api.Edge
theorem z52 : ∀ w, (zeroValue 52).run Try.prog w = .ok (.nilFunc) w := fun w => by kernel_rfl
instance : ZeroT Try.prog 52 (.nilFunc) #[.nilFunc] := ⟨z52, rfl⟩
instance : ScalarT Try.prog 52 := ⟨fun w => by kernel_rfl, by kernel_rfl⟩
instance : ElemT Try.prog 52 1 8 (.nilFunc) := ⟨by kernel_rfl⟩
-- 53: func([]int) []api.Seg
theorem z53 : ∀ w, (zeroValue 53).run Try.prog w = .ok (.nilFunc) w := fun w => by kernel_rfl
instance : ZeroT Try.prog 53 (.nilFunc) #[.nilFunc] := ⟨z53, rfl⟩
instance : ScalarT Try.prog 53 := ⟨fun w => by kernel_rfl, by kernel_rfl⟩
instance : ElemT Try.prog 53 1 8 (.nilFunc) := ⟨by kernel_rfl⟩
-- 54: X0
theorem z54 : ∀ w, (zeroValue 54).run Try.prog w = .ok (.agg #[.int .i64 0, .int .i64 0, .bool false, .int .i64 0, .int .i64 0, .int .i64 0, .int .i64 0]) w := fun w => by kernel_rfl
instance : ZeroT Try.prog 54 (.agg #[.int .i64 0, .int .i64 0, .bool false, .int .i64 0, .int .i64 0, .int .i64 0, .int .i64 0]) #[.int .i64 0, .int .i64 0, .bool false, .int .i64 0, .int .i64 0, .int .i64 0, .int .i64 0] := ⟨z54, rfl⟩
instance : RowT Try.prog 54 7 := ⟨fun w => by kernel_rfl, by kernel_rfl⟩
instance : ElemT Try.prog 54 7 56 (.agg #[.int .i64 0, .int .i64 0, .bool false, .int .i64 0, .int .i64 0, .int .i64 0, .int .i64 0]) := ⟨by kernel_rfl⟩
-- 55: tympan/api.Edge
theorem z55 : ∀ w, (zeroValue 55).run Try.prog w = .ok (.agg #[.int .i64 0, .int .i64 0, .bool false, .int .i64 0, .int .i64 0, .int .i64 0, .int .i64 0]) w := fun w => by kernel_rfl
instance : ZeroT Try.prog 55 (.agg #[.int .i64 0, .int .i64 0, .bool false, .int .i64 0, .int .i64 0, .int .i64 0, .int .i64 0]) #[.int .i64 0, .int .i64 0, .bool false, .int .i64 0, .int .i64 0, .int .i64 0, .int .i64 0] := ⟨z55, rfl⟩
instance : RowT Try.prog 55 7 := ⟨fun w => by kernel_rfl, by kernel_rfl⟩
instance : ElemT Try.prog 55 7 56 (.agg #[.int .i64 0, .int .i64 0, .bool false, .int .i64 0, .int .i64 0, .int .i64 0, .int .i64 0]) := ⟨by kernel_rfl⟩
-- 56: func([]api.Run, []api.Run) []api.Run
theorem z56 : ∀ w, (zeroValue 56).run Try.prog w = .ok (.nilFunc) w := fun w => by kernel_rfl
instance : ZeroT Try.prog 56 (.nilFunc) #[.nilFunc] := ⟨z56, rfl⟩
instance : ScalarT Try.prog 56 := ⟨fun w => by kernel_rfl, by kernel_rfl⟩
instance : ElemT Try.prog 56 1 8 (.nilFunc) := ⟨by kernel_rfl⟩
-- 58: func([]api.Seg, int, int) ([]api.Seg, api.Errno)
theorem z58 : ∀ w, (zeroValue 58).run Try.prog w = .ok (.nilFunc) w := fun w => by kernel_rfl
instance : ZeroT Try.prog 58 (.nilFunc) #[.nilFunc] := ⟨z58, rfl⟩
instance : ScalarT Try.prog 58 := ⟨fun w => by kernel_rfl, by kernel_rfl⟩
instance : ElemT Try.prog 58 1 8 (.nilFunc) := ⟨by kernel_rfl⟩
-- 59: func([]api.Run, int, int) []api.Run
theorem z59 : ∀ w, (zeroValue 59).run Try.prog w = .ok (.nilFunc) w := fun w => by kernel_rfl
instance : ZeroT Try.prog 59 (.nilFunc) #[.nilFunc] := ⟨z59, rfl⟩
instance : ScalarT Try.prog 59 := ⟨fun w => by kernel_rfl, by kernel_rfl⟩
instance : ElemT Try.prog 59 1 8 (.nilFunc) := ⟨by kernel_rfl⟩
-- 61: func(api.Edge) (api.Edge, api.Edge, bool)
theorem z61 : ∀ w, (zeroValue 61).run Try.prog w = .ok (.nilFunc) w := fun w => by kernel_rfl
instance : ZeroT Try.prog 61 (.nilFunc) #[.nilFunc] := ⟨z61, rfl⟩
instance : ScalarT Try.prog 61 := ⟨fun w => by kernel_rfl, by kernel_rfl⟩
instance : ElemT Try.prog 61 1 8 (.nilFunc) := ⟨by kernel_rfl⟩
-- 62: func([]int, int) bool
theorem z62 : ∀ w, (zeroValue 62).run Try.prog w = .ok (.nilFunc) w := fun w => by kernel_rfl
instance : ZeroT Try.prog 62 (.nilFunc) #[.nilFunc] := ⟨z62, rfl⟩
instance : ScalarT Try.prog 62 := ⟨fun w => by kernel_rfl, by kernel_rfl⟩
instance : ElemT Try.prog 62 1 8 (.nilFunc) := ⟨by kernel_rfl⟩
-- 63: func([]api.Seg) []api.Seg
theorem z63 : ∀ w, (zeroValue 63).run Try.prog w = .ok (.nilFunc) w := fun w => by kernel_rfl
instance : ZeroT Try.prog 63 (.nilFunc) #[.nilFunc] := ⟨z63, rfl⟩
instance : ScalarT Try.prog 63 := ⟨fun w => by kernel_rfl, by kernel_rfl⟩
instance : ElemT Try.prog 63 1 8 (.nilFunc) := ⟨by kernel_rfl⟩
-- 64: func([]api.Seg, []api.Seg) ([]api.Seg, api.Errno)
theorem z64 : ∀ w, (zeroValue 64).run Try.prog w = .ok (.nilFunc) w := fun w => by kernel_rfl
instance : ZeroT Try.prog 64 (.nilFunc) #[.nilFunc] := ⟨z64, rfl⟩
instance : ScalarT Try.prog 64 := ⟨fun w => by kernel_rfl, by kernel_rfl⟩
instance : ElemT Try.prog 64 1 8 (.nilFunc) := ⟨by kernel_rfl⟩
-- 65: func([]int, []int) bool
theorem z65 : ∀ w, (zeroValue 65).run Try.prog w = .ok (.nilFunc) w := fun w => by kernel_rfl
instance : ZeroT Try.prog 65 (.nilFunc) #[.nilFunc] := ⟨z65, rfl⟩
instance : ScalarT Try.prog 65 := ⟨fun w => by kernel_rfl, by kernel_rfl⟩
instance : ElemT Try.prog 65 1 8 (.nilFunc) := ⟨by kernel_rfl⟩
-- 66: func([]api.Run, int) bool
theorem z66 : ∀ w, (zeroValue 66).run Try.prog w = .ok (.nilFunc) w := fun w => by kernel_rfl
instance : ZeroT Try.prog 66 (.nilFunc) #[.nilFunc] := ⟨z66, rfl⟩
instance : ScalarT Try.prog 66 := ⟨fun w => by kernel_rfl, by kernel_rfl⟩
instance : ElemT Try.prog 66 1 8 (.nilFunc) := ⟨by kernel_rfl⟩
-- 67: func([]int, int, int) bool
theorem z67 : ∀ w, (zeroValue 67).run Try.prog w = .ok (.nilFunc) w := fun w => by kernel_rfl
instance : ZeroT Try.prog 67 (.nilFunc) #[.nilFunc] := ⟨z67, rfl⟩
instance : ScalarT Try.prog 67 := ⟨fun w => by kernel_rfl, by kernel_rfl⟩
instance : ElemT Try.prog 67 1 8 (.nilFunc) := ⟨by kernel_rfl⟩
-- 69: func([]api.Seg, int, int, int) (api.Mask, api.Errno)
theorem z69 : ∀ w, (zeroValue 69).run Try.prog w = .ok (.nilFunc) w := fun w => by kernel_rfl
instance : ZeroT Try.prog 69 (.nilFunc) #[.nilFunc] := ⟨z69, rfl⟩
instance : ScalarT Try.prog 69 := ⟨fun w => by kernel_rfl, by kernel_rfl⟩
instance : ElemT Try.prog 69 1 8 (.nilFunc) := ⟨by kernel_rfl⟩
-- 70: func(api.Mask, int, int) bool
theorem z70 : ∀ w, (zeroValue 70).run Try.prog w = .ok (.nilFunc) w := fun w => by kernel_rfl
instance : ZeroT Try.prog 70 (.nilFunc) #[.nilFunc] := ⟨z70, rfl⟩
instance : ScalarT Try.prog 70 := ⟨fun w => by kernel_rfl, by kernel_rfl⟩
instance : ElemT Try.prog 70 1 8 (.nilFunc) := ⟨by kernel_rfl⟩
-- 71: func(int, int, int, int) []api.Seg
theorem z71 : ∀ w, (zeroValue 71).run Try.prog w = .ok (.nilFunc) w := fun w => by kernel_rfl
instance : ZeroT Try.prog 71 (.nilFunc) #[.nilFunc] := ⟨z71, rfl⟩
instance : ScalarT Try.prog 71 := ⟨fun w => by kernel_rfl, by kernel_rfl⟩
instance : ElemT Try.prog 71 1 8 (.nilFunc) := ⟨by kernel_rfl⟩
-- 72: [65]int
theorem z72 : ∀ w, (zeroValue 72).run Try.prog w = .ok (.agg (arrI 65 fun _ => 0)) w := fun w => by rw [arrI_zero]; kernel_rfl
instance : ZeroT Try.prog 72 (.agg (arrI 65 fun _ => 0)) (arrI 65 fun _ => 0) := ⟨z72, rfl⟩
instance : RowT Try.prog 72 65 := ⟨fun w => by kernel_rfl, by kernel_rfl⟩
instance : ElemT Try.prog 72 65 520 (.agg (arrI 65 fun _ => 0)) := ⟨by rw [arrI_zero]; kernel_rfl⟩
instance : ArrT Try.prog 72 65 3 := ⟨Try.underlying72, fun w => by kernel_rfl, by kernel_rfl⟩
-- 73: []bow.Cross
theorem z73 : ∀ w, (zeroValue 73).run Try.prog w = .ok (.slice none 0 0) w := fun w => by kernel_rfl
instance : ZeroT Try.prog 73 (.slice none 0 0) #[.slice none 0 0] := ⟨z73, rfl⟩
instance : ScalarT Try.prog 73 := ⟨fun w => by kernel_rfl, by kernel_rfl⟩
instance : ElemT Try.prog 73 1 24 (.slice none 0 0) := ⟨by kernel_rfl⟩
instance : SliceT Try.prog 73 76 := ⟨Try.underlying73⟩
-- 74: func(api.Edge, int, int) []bow.Cross
theorem z74 : ∀ w, (zeroValue 74).run Try.prog w = .ok (.nilFunc) w := fun w => by kernel_rfl
instance : ZeroT Try.prog 74 (.nilFunc) #[.nilFunc] := ⟨z74, rfl⟩
instance : ScalarT Try.prog 74 := ⟨fun w => by kernel_rfl, by kernel_rfl⟩
instance : ElemT Try.prog 74 1 8 (.nilFunc) := ⟨by kernel_rfl⟩
-- 75: Turn
theorem z75 : ∀ w, (zeroValue 75).run Try.prog w = .ok (.agg #[.int .i64 0, .int .i64 0]) w := fun w => by kernel_rfl
instance : ZeroT Try.prog 75 (.agg #[.int .i64 0, .int .i64 0]) #[.int .i64 0, .int .i64 0] := ⟨z75, rfl⟩
instance : RowT Try.prog 75 2 := ⟨fun w => by kernel_rfl, by kernel_rfl⟩
instance : ElemT Try.prog 75 2 16 (.agg #[.int .i64 0, .int .i64 0]) := ⟨by kernel_rfl⟩
-- 76: tympan/bow.Cross
theorem z76 : ∀ w, (zeroValue 76).run Try.prog w = .ok (.agg #[.int .i64 0, .int .i64 0]) w := fun w => by kernel_rfl
instance : ZeroT Try.prog 76 (.agg #[.int .i64 0, .int .i64 0]) #[.int .i64 0, .int .i64 0] := ⟨z76, rfl⟩
instance : RowT Try.prog 76 2 := ⟨fun w => by kernel_rfl, by kernel_rfl⟩
instance : ElemT Try.prog 76 2 16 (.agg #[.int .i64 0, .int .i64 0]) := ⟨by kernel_rfl⟩
-- 77: [64]bool
theorem z77 : ∀ w, (zeroValue 77).run Try.prog w = .ok (.agg (arrB fun _ => false)) w := fun w => by rw [arrB_zero]; kernel_rfl
instance : ZeroT Try.prog 77 (.agg (arrB fun _ => false)) (arrB fun _ => false) := ⟨z77, rfl⟩
instance : RowT Try.prog 77 64 := ⟨fun w => by kernel_rfl, by kernel_rfl⟩
instance : ElemT Try.prog 77 64 64 (.agg (arrB fun _ => false)) := ⟨by rw [arrB_zero]; kernel_rfl⟩
instance : ArrT Try.prog 77 64 4 := ⟨Try.underlying77, fun w => by kernel_rfl, by kernel_rfl⟩
-- 78: tympan/tympanref30.Row
theorem z78 : ∀ w, (zeroValue 78).run Try.prog w = .ok (.agg (arrB fun _ => false)) w := fun w => by rw [arrB_zero]; kernel_rfl
instance : ZeroT Try.prog 78 (.agg (arrB fun _ => false)) (arrB fun _ => false) := ⟨z78, rfl⟩
instance : RowT Try.prog 78 64 := ⟨fun w => by kernel_rfl, by kernel_rfl⟩
instance : ElemT Try.prog 78 64 64 (.agg (arrB fun _ => false)) := ⟨by rw [arrB_zero]; kernel_rfl⟩
instance : ArrT Try.prog 78 64 4 := ⟨Try.underlying78, fun w => by kernel_rfl, by kernel_rfl⟩
-- 79: func(tympanref30.Row, int) []api.Run
theorem z79 : ∀ w, (zeroValue 79).run Try.prog w = .ok (.nilFunc) w := fun w => by kernel_rfl
instance : ZeroT Try.prog 79 (.nilFunc) #[.nilFunc] := ⟨z79, rfl⟩
instance : ScalarT Try.prog 79 := ⟨fun w => by kernel_rfl, by kernel_rfl⟩
instance : ElemT Try.prog 79 1 8 (.nilFunc) := ⟨by kernel_rfl⟩
-- 80: func([]api.Seg) bool
theorem z80 : ∀ w, (zeroValue 80).run Try.prog w = .ok (.nilFunc) w := fun w => by kernel_rfl
instance : ZeroT Try.prog 80 (.nilFunc) #[.nilFunc] := ⟨z80, rfl⟩
instance : ScalarT Try.prog 80 := ⟨fun w => by kernel_rfl, by kernel_rfl⟩
instance : ElemT Try.prog 80 1 8 (.nilFunc) := ⟨by kernel_rfl⟩
-- 81: func([][]api.Run, [][]api.Run) bool
theorem z81 : ∀ w, (zeroValue 81).run Try.prog w = .ok (.nilFunc) w := fun w => by kernel_rfl
instance : ZeroT Try.prog 81 (.nilFunc) #[.nilFunc] := ⟨z81, rfl⟩
instance : ScalarT Try.prog 81 := ⟨fun w => by kernel_rfl, by kernel_rfl⟩
instance : ElemT Try.prog 81 1 8 (.nilFunc) := ⟨by kernel_rfl⟩
-- 82: func(api.Mask) bool
theorem z82 : ∀ w, (zeroValue 82).run Try.prog w = .ok (.nilFunc) w := fun w => by kernel_rfl
instance : ZeroT Try.prog 82 (.nilFunc) #[.nilFunc] := ⟨z82, rfl⟩
instance : ScalarT Try.prog 82 := ⟨fun w => by kernel_rfl, by kernel_rfl⟩
instance : ElemT Try.prog 82 1 8 (.nilFunc) := ⟨by kernel_rfl⟩
-- 83: *tympanlaw25.L
theorem z83 : ∀ w, (zeroValue 83).run Try.prog w = .ok (.pointer none) w := fun w => by kernel_rfl
instance : ZeroT Try.prog 83 (.pointer none) #[.pointer none] := ⟨z83, rfl⟩
instance : ScalarT Try.prog 83 := ⟨fun w => by kernel_rfl, by kernel_rfl⟩
instance : ElemT Try.prog 83 1 8 (.pointer none) := ⟨by kernel_rfl⟩
-- 84: N
theorem z84 : ∀ w, (zeroValue 84).run Try.prog w = .ok (.agg #[.slice none 0 0]) w := fun w => by kernel_rfl
instance : ZeroT Try.prog 84 (.agg #[.slice none 0 0]) #[.slice none 0 0] := ⟨z84, rfl⟩
instance : RowT Try.prog 84 1 := ⟨fun w => by kernel_rfl, by kernel_rfl⟩
instance : ElemT Try.prog 84 1 24 (.agg #[.slice none 0 0]) := ⟨by kernel_rfl⟩
-- 85: tympan/tympanlaw25.L
theorem z85 : ∀ w, (zeroValue 85).run Try.prog w = .ok (.agg #[.slice none 0 0]) w := fun w => by kernel_rfl
instance : ZeroT Try.prog 85 (.agg #[.slice none 0 0]) #[.slice none 0 0] := ⟨z85, rfl⟩
instance : RowT Try.prog 85 1 := ⟨fun w => by kernel_rfl, by kernel_rfl⟩
instance : ElemT Try.prog 85 1 24 (.agg #[.slice none 0 0]) := ⟨by kernel_rfl⟩
-- 86: func([]api.Seg, bool) []api.Seg
theorem z86 : ∀ w, (zeroValue 86).run Try.prog w = .ok (.nilFunc) w := fun w => by kernel_rfl
instance : ZeroT Try.prog 86 (.nilFunc) #[.nilFunc] := ⟨z86, rfl⟩
instance : ScalarT Try.prog 86 := ⟨fun w => by kernel_rfl, by kernel_rfl⟩
instance : ElemT Try.prog 86 1 8 (.nilFunc) := ⟨by kernel_rfl⟩
-- 87: []path.Contour
theorem z87 : ∀ w, (zeroValue 87).run Try.prog w = .ok (.slice none 0 0) w := fun w => by kernel_rfl
instance : ZeroT Try.prog 87 (.slice none 0 0) #[.slice none 0 0] := ⟨z87, rfl⟩
instance : ScalarT Try.prog 87 := ⟨fun w => by kernel_rfl, by kernel_rfl⟩
instance : ElemT Try.prog 87 1 24 (.slice none 0 0) := ⟨by kernel_rfl⟩
instance : SliceT Try.prog 87 90 := ⟨Try.underlying87⟩
-- 88: func([]api.Seg) []path.Contour
theorem z88 : ∀ w, (zeroValue 88).run Try.prog w = .ok (.nilFunc) w := fun w => by kernel_rfl
instance : ZeroT Try.prog 88 (.nilFunc) #[.nilFunc] := ⟨z88, rfl⟩
instance : ScalarT Try.prog 88 := ⟨fun w => by kernel_rfl, by kernel_rfl⟩
instance : ElemT Try.prog 88 1 8 (.nilFunc) := ⟨by kernel_rfl⟩
-- 89: X
theorem z89 : ∀ w, (zeroValue 89).run Try.prog w = .ok (.agg #[.int .i64 0, .int .i64 0, .slice none 0 0, .bool false]) w := fun w => by kernel_rfl
instance : ZeroT Try.prog 89 (.agg #[.int .i64 0, .int .i64 0, .slice none 0 0, .bool false]) #[.int .i64 0, .int .i64 0, .slice none 0 0, .bool false] := ⟨z89, rfl⟩
instance : RowT Try.prog 89 4 := ⟨fun w => by kernel_rfl, by kernel_rfl⟩
instance : ElemT Try.prog 89 4 48 (.agg #[.int .i64 0, .int .i64 0, .slice none 0 0, .bool false]) := ⟨by kernel_rfl⟩
-- 90: tympan/path.Contour
theorem z90 : ∀ w, (zeroValue 90).run Try.prog w = .ok (.agg #[.int .i64 0, .int .i64 0, .slice none 0 0, .bool false]) w := fun w => by kernel_rfl
instance : ZeroT Try.prog 90 (.agg #[.int .i64 0, .int .i64 0, .slice none 0 0, .bool false]) #[.int .i64 0, .int .i64 0, .slice none 0 0, .bool false] := ⟨z90, rfl⟩
instance : RowT Try.prog 90 4 := ⟨fun w => by kernel_rfl, by kernel_rfl⟩
instance : ElemT Try.prog 90 4 48 (.agg #[.int .i64 0, .int .i64 0, .slice none 0 0, .bool false]) := ⟨by kernel_rfl⟩
-- 91: func() int
theorem z91 : ∀ w, (zeroValue 91).run Try.prog w = .ok (.nilFunc) w := fun w => by kernel_rfl
instance : ZeroT Try.prog 91 (.nilFunc) #[.nilFunc] := ⟨z91, rfl⟩
instance : ScalarT Try.prog 91 := ⟨fun w => by kernel_rfl, by kernel_rfl⟩
instance : ElemT Try.prog 91 1 8 (.nilFunc) := ⟨by kernel_rfl⟩
-- 92: Kind
theorem z92 : ∀ w, (zeroValue 92).run Try.prog w = .ok (.agg #[.int .i64 0, .int .i64 0, .int .i64 0, .int .i64 0, .int .i64 0]) w := fun w => by kernel_rfl
instance : ZeroT Try.prog 92 (.agg #[.int .i64 0, .int .i64 0, .int .i64 0, .int .i64 0, .int .i64 0]) #[.int .i64 0, .int .i64 0, .int .i64 0, .int .i64 0, .int .i64 0] := ⟨z92, rfl⟩
instance : RowT Try.prog 92 5 := ⟨fun w => by kernel_rfl, by kernel_rfl⟩
instance : ElemT Try.prog 92 5 40 (.agg #[.int .i64 0, .int .i64 0, .int .i64 0, .int .i64 0, .int .i64 0]) := ⟨by kernel_rfl⟩
-- 93: tympan/api.Seg
theorem z93 : ∀ w, (zeroValue 93).run Try.prog w = .ok (.agg #[.int .i64 0, .int .i64 0, .int .i64 0, .int .i64 0, .int .i64 0]) w := fun w => by kernel_rfl
instance : ZeroT Try.prog 93 (.agg #[.int .i64 0, .int .i64 0, .int .i64 0, .int .i64 0, .int .i64 0]) #[.int .i64 0, .int .i64 0, .int .i64 0, .int .i64 0, .int .i64 0] := ⟨z93, rfl⟩
instance : RowT Try.prog 93 5 := ⟨fun w => by kernel_rfl, by kernel_rfl⟩
instance : ElemT Try.prog 93 5 40 (.agg #[.int .i64 0, .int .i64 0, .int .i64 0, .int .i64 0, .int .i64 0]) := ⟨by kernel_rfl⟩
-- 94: func([]api.Run, []api.Run, func(bool, bool) bool) []api.Run
theorem z94 : ∀ w, (zeroValue 94).run Try.prog w = .ok (.nilFunc) w := fun w => by kernel_rfl
instance : ZeroT Try.prog 94 (.nilFunc) #[.nilFunc] := ⟨z94, rfl⟩
instance : ScalarT Try.prog 94 := ⟨fun w => by kernel_rfl, by kernel_rfl⟩
instance : ElemT Try.prog 94 1 8 (.nilFunc) := ⟨by kernel_rfl⟩
-- 95: func(bool, bool) bool
theorem z95 : ∀ w, (zeroValue 95).run Try.prog w = .ok (.nilFunc) w := fun w => by kernel_rfl
instance : ZeroT Try.prog 95 (.nilFunc) #[.nilFunc] := ⟨z95, rfl⟩
instance : ScalarT Try.prog 95 := ⟨fun w => by kernel_rfl, by kernel_rfl⟩
instance : ElemT Try.prog 95 1 8 (.nilFunc) := ⟨by kernel_rfl⟩
-- 96: func(...int) bool
theorem z96 : ∀ w, (zeroValue 96).run Try.prog w = .ok (.nilFunc) w := fun w => by kernel_rfl
instance : ZeroT Try.prog 96 (.nilFunc) #[.nilFunc] := ⟨z96, rfl⟩
instance : ScalarT Try.prog 96 := ⟨fun w => by kernel_rfl, by kernel_rfl⟩
instance : ElemT Try.prog 96 1 8 (.nilFunc) := ⟨by kernel_rfl⟩
-- 97: tympan/span.places
theorem z97 : ∀ w, (zeroValue 97).run Try.prog w = .ok (.agg (arrB fun _ => false)) w := fun w => by rw [arrB_zero]; kernel_rfl
instance : ZeroT Try.prog 97 (.agg (arrB fun _ => false)) (arrB fun _ => false) := ⟨z97, rfl⟩
instance : RowT Try.prog 97 64 := ⟨fun w => by kernel_rfl, by kernel_rfl⟩
instance : ElemT Try.prog 97 64 64 (.agg (arrB fun _ => false)) := ⟨by rw [arrB_zero]; kernel_rfl⟩
instance : ArrT Try.prog 97 64 4 := ⟨Try.underlying97, fun w => by kernel_rfl, by kernel_rfl⟩
-- 98: func([]api.Run) span.places
theorem z98 : ∀ w, (zeroValue 98).run Try.prog w = .ok (.nilFunc) w := fun w => by kernel_rfl
instance : ZeroT Try.prog 98 (.nilFunc) #[.nilFunc] := ⟨z98, rfl⟩
instance : ScalarT Try.prog 98 := ⟨fun w => by kernel_rfl, by kernel_rfl⟩
instance : ElemT Try.prog 98 1 8 (.nilFunc) := ⟨by kernel_rfl⟩
-- 99: func() []api.Run
theorem z99 : ∀ w, (zeroValue 99).run Try.prog w = .ok (.nilFunc) w := fun w => by kernel_rfl
instance : ZeroT Try.prog 99 (.nilFunc) #[.nilFunc] := ⟨z99, rfl⟩
instance : ScalarT Try.prog 99 := ⟨fun w => by kernel_rfl, by kernel_rfl⟩
instance : ElemT Try.prog 99 1 8 (.nilFunc) := ⟨by kernel_rfl⟩
-- 100: func(api.Edge) bool
theorem z100 : ∀ w, (zeroValue 100).run Try.prog w = .ok (.nilFunc) w := fun w => by kernel_rfl
instance : ZeroT Try.prog 100 (.nilFunc) #[.nilFunc] := ⟨z100, rfl⟩
instance : ScalarT Try.prog 100 := ⟨fun w => by kernel_rfl, by kernel_rfl⟩
instance : ElemT Try.prog 100 1 8 (.nilFunc) := ⟨by kernel_rfl⟩
-- 101: func([]api.Seg) int
theorem z101 : ∀ w, (zeroValue 101).run Try.prog w = .ok (.nilFunc) w := fun w => by kernel_rfl
instance : ZeroT Try.prog 101 (.nilFunc) #[.nilFunc] := ⟨z101, rfl⟩
instance : ScalarT Try.prog 101 := ⟨fun w => by kernel_rfl, by kernel_rfl⟩
instance : ElemT Try.prog 101 1 8 (.nilFunc) := ⟨by kernel_rfl⟩
-- 102: func([]api.Seg, ...api.Seg) ([]api.Seg, api.Errno)
theorem z102 : ∀ w, (zeroValue 102).run Try.prog w = .ok (.nilFunc) w := fun w => by kernel_rfl
instance : ZeroT Try.prog 102 (.nilFunc) #[.nilFunc] := ⟨z102, rfl⟩
instance : ScalarT Try.prog 102 := ⟨fun w => by kernel_rfl, by kernel_rfl⟩
instance : ElemT Try.prog 102 1 8 (.nilFunc) := ⟨by kernel_rfl⟩
-- 103: func([]api.Edge, int, int) int
theorem z103 : ∀ w, (zeroValue 103).run Try.prog w = .ok (.nilFunc) w := fun w => by kernel_rfl
instance : ZeroT Try.prog 103 (.nilFunc) #[.nilFunc] := ⟨z103, rfl⟩
instance : ScalarT Try.prog 103 := ⟨fun w => by kernel_rfl, by kernel_rfl⟩
instance : ElemT Try.prog 103 1 8 (.nilFunc) := ⟨by kernel_rfl⟩
-- 104: func(int) bool
theorem z104 : ∀ w, (zeroValue 104).run Try.prog w = .ok (.nilFunc) w := fun w => by kernel_rfl
instance : ZeroT Try.prog 104 (.nilFunc) #[.nilFunc] := ⟨z104, rfl⟩
instance : ScalarT Try.prog 104 := ⟨fun w => by kernel_rfl, by kernel_rfl⟩
instance : ElemT Try.prog 104 1 8 (.nilFunc) := ⟨by kernel_rfl⟩
-- 105: turn
theorem z105 : ∀ w, (zeroValue 105).run Try.prog w = .ok (.agg #[.int .i64 0, .int .i64 0, .int .i64 0, .int .i64 0, .int .i64 0]) w := fun w => by kernel_rfl
instance : ZeroT Try.prog 105 (.agg #[.int .i64 0, .int .i64 0, .int .i64 0, .int .i64 0, .int .i64 0]) #[.int .i64 0, .int .i64 0, .int .i64 0, .int .i64 0, .int .i64 0] := ⟨z105, rfl⟩
instance : RowT Try.prog 105 5 := ⟨fun w => by kernel_rfl, by kernel_rfl⟩
instance : ElemT Try.prog 105 5 40 (.agg #[.int .i64 0, .int .i64 0, .int .i64 0, .int .i64 0, .int .i64 0]) := ⟨by kernel_rfl⟩
-- 106: tympan/bow.spot
theorem z106 : ∀ w, (zeroValue 106).run Try.prog w = .ok (.agg #[.int .i64 0, .int .i64 0, .int .i64 0, .int .i64 0, .int .i64 0]) w := fun w => by kernel_rfl
instance : ZeroT Try.prog 106 (.agg #[.int .i64 0, .int .i64 0, .int .i64 0, .int .i64 0, .int .i64 0]) #[.int .i64 0, .int .i64 0, .int .i64 0, .int .i64 0, .int .i64 0] := ⟨z106, rfl⟩
instance : RowT Try.prog 106 5 := ⟨fun w => by kernel_rfl, by kernel_rfl⟩
instance : ElemT Try.prog 106 5 40 (.agg #[.int .i64 0, .int .i64 0, .int .i64 0, .int .i64 0, .int .i64 0]) := ⟨by kernel_rfl⟩
-- 107: [2]bow.spot
theorem z107 : ∀ w, (zeroValue 107).run Try.prog w = .ok (.agg #[.int .i64 0, .int .i64 0, .int .i64 0, .int .i64 0, .int .i64 0, .int .i64 0, .int .i64 0, .int .i64 0, .int .i64 0, .int .i64 0]) w := fun w => by kernel_rfl
instance : ZeroT Try.prog 107 (.agg #[.int .i64 0, .int .i64 0, .int .i64 0, .int .i64 0, .int .i64 0, .int .i64 0, .int .i64 0, .int .i64 0, .int .i64 0, .int .i64 0]) #[.int .i64 0, .int .i64 0, .int .i64 0, .int .i64 0, .int .i64 0, .int .i64 0, .int .i64 0, .int .i64 0, .int .i64 0, .int .i64 0] := ⟨z107, rfl⟩
instance : RowT Try.prog 107 10 := ⟨fun w => by kernel_rfl, by kernel_rfl⟩
instance : ElemT Try.prog 107 10 80 (.agg #[.int .i64 0, .int .i64 0, .int .i64 0, .int .i64 0, .int .i64 0, .int .i64 0, .int .i64 0, .int .i64 0, .int .i64 0, .int .i64 0]) := ⟨by kernel_rfl⟩
-- 108: func(api.Edge, int) [2]bow.spot
theorem z108 : ∀ w, (zeroValue 108).run Try.prog w = .ok (.nilFunc) w := fun w => by kernel_rfl
instance : ZeroT Try.prog 108 (.nilFunc) #[.nilFunc] := ⟨z108, rfl⟩
instance : ScalarT Try.prog 108 := ⟨fun w => by kernel_rfl, by kernel_rfl⟩
instance : ElemT Try.prog 108 1 8 (.nilFunc) := ⟨by kernel_rfl⟩
-- 110: func(int, int, int, int) (int, bool)
theorem z110 : ∀ w, (zeroValue 110).run Try.prog w = .ok (.nilFunc) w := fun w => by kernel_rfl
instance : ZeroT Try.prog 110 (.nilFunc) #[.nilFunc] := ⟨z110, rfl⟩
instance : ScalarT Try.prog 110 := ⟨fun w => by kernel_rfl, by kernel_rfl⟩
instance : ElemT Try.prog 110 1 8 (.nilFunc) := ⟨by kernel_rfl⟩
-- 111: func(int, int) bool
theorem z111 : ∀ w, (zeroValue 111).run Try.prog w = .ok (.nilFunc) w := fun w => by kernel_rfl
instance : ZeroT Try.prog 111 (.nilFunc) #[.nilFunc] := ⟨z111, rfl⟩
instance : ScalarT Try.prog 111 := ⟨fun w => by kernel_rfl, by kernel_rfl⟩
instance : ElemT Try.prog 111 1 8 (.nilFunc) := ⟨by kernel_rfl⟩
-- 112: func(api.Seg, int) bool
theorem z112 : ∀ w, (zeroValue 112).run Try.prog w = .ok (.nilFunc) w := fun w => by kernel_rfl
instance : ZeroT Try.prog 112 (.nilFunc) #[.nilFunc] := ⟨z112, rfl⟩
instance : ScalarT Try.prog 112 := ⟨fun w => by kernel_rfl, by kernel_rfl⟩
instance : ElemT Try.prog 112 1 8 (.nilFunc) := ⟨by kernel_rfl⟩
-- 113: []tympanref25.Contour
theorem z113 : ∀ w, (zeroValue 113).run Try.prog w = .ok (.slice none 0 0) w := fun w => by kernel_rfl
instance : ZeroT Try.prog 113 (.slice none 0 0) #[.slice none 0 0] := ⟨z113, rfl⟩
instance : ScalarT Try.prog 113 := ⟨fun w => by kernel_rfl, by kernel_rfl⟩
instance : ElemT Try.prog 113 1 24 (.slice none 0 0) := ⟨by kernel_rfl⟩
instance : SliceT Try.prog 113 115 := ⟨Try.underlying113⟩
-- 114: func([]api.Seg) []tympanref25.Contour
theorem z114 : ∀ w, (zeroValue 114).run Try.prog w = .ok (.nilFunc) w := fun w => by kernel_rfl
instance : ZeroT Try.prog 114 (.nilFunc) #[.nilFunc] := ⟨z114, rfl⟩
instance : ScalarT Try.prog 114 := ⟨fun w => by kernel_rfl, by kernel_rfl⟩
instance : ElemT Try.prog 114 1 8 (.nilFunc) := ⟨by kernel_rfl⟩
-- 115: tympan/tympanref25.Contour
theorem z115 : ∀ w, (zeroValue 115).run Try.prog w = .ok (.agg #[.int .i64 0, .int .i64 0, .slice none 0 0, .bool false]) w := fun w => by kernel_rfl
instance : ZeroT Try.prog 115 (.agg #[.int .i64 0, .int .i64 0, .slice none 0 0, .bool false]) #[.int .i64 0, .int .i64 0, .slice none 0 0, .bool false] := ⟨z115, rfl⟩
instance : RowT Try.prog 115 4 := ⟨fun w => by kernel_rfl, by kernel_rfl⟩
instance : ElemT Try.prog 115 4 48 (.agg #[.int .i64 0, .int .i64 0, .slice none 0 0, .bool false]) := ⟨by kernel_rfl⟩
-- 117: func() (int, int)
theorem z117 : ∀ w, (zeroValue 117).run Try.prog w = .ok (.nilFunc) w := fun w => by kernel_rfl
instance : ZeroT Try.prog 117 (.nilFunc) #[.nilFunc] := ⟨z117, rfl⟩
instance : ScalarT Try.prog 117 := ⟨fun w => by kernel_rfl, by kernel_rfl⟩
instance : ElemT Try.prog 117 1 8 (.nilFunc) := ⟨by kernel_rfl⟩
-- 118: *path.Contour
theorem z118 : ∀ w, (zeroValue 118).run Try.prog w = .ok (.pointer none) w := fun w => by kernel_rfl
instance : ZeroT Try.prog 118 (.pointer none) #[.pointer none] := ⟨z118, rfl⟩
instance : ScalarT Try.prog 118 := ⟨fun w => by kernel_rfl, by kernel_rfl⟩
instance : ElemT Try.prog 118 1 8 (.pointer none) := ⟨by kernel_rfl⟩
-- 119: func([64]bool, [64]bool, func(bool, bool) bool) [64]bool
theorem z119 : ∀ w, (zeroValue 119).run Try.prog w = .ok (.nilFunc) w := fun w => by kernel_rfl
instance : ZeroT Try.prog 119 (.nilFunc) #[.nilFunc] := ⟨z119, rfl⟩
instance : ScalarT Try.prog 119 := ⟨fun w => by kernel_rfl, by kernel_rfl⟩
instance : ElemT Try.prog 119 1 8 (.nilFunc) := ⟨by kernel_rfl⟩
-- 120: *wind.point
theorem z120 : ∀ w, (zeroValue 120).run Try.prog w = .ok (.pointer none) w := fun w => by kernel_rfl
instance : ZeroT Try.prog 120 (.pointer none) #[.pointer none] := ⟨z120, rfl⟩
instance : ScalarT Try.prog 120 := ⟨fun w => by kernel_rfl, by kernel_rfl⟩
instance : ElemT Try.prog 120 1 8 (.pointer none) := ⟨by kernel_rfl⟩
-- 121: x
theorem z121 : ∀ w, (zeroValue 121).run Try.prog w = .ok (.agg #[.int .i64 0, .int .i64 0, .int .i64 0]) w := fun w => by kernel_rfl
instance : ZeroT Try.prog 121 (.agg #[.int .i64 0, .int .i64 0, .int .i64 0]) #[.int .i64 0, .int .i64 0, .int .i64 0] := ⟨z121, rfl⟩
instance : RowT Try.prog 121 3 := ⟨fun w => by kernel_rfl, by kernel_rfl⟩
instance : ElemT Try.prog 121 3 24 (.agg #[.int .i64 0, .int .i64 0, .int .i64 0]) := ⟨by kernel_rfl⟩
-- 122: tympan/wind.point
theorem z122 : ∀ w, (zeroValue 122).run Try.prog w = .ok (.agg #[.int .i64 0, .int .i64 0, .int .i64 0]) w := fun w => by kernel_rfl
instance : ZeroT Try.prog 122 (.agg #[.int .i64 0, .int .i64 0, .int .i64 0]) #[.int .i64 0, .int .i64 0, .int .i64 0] := ⟨z122, rfl⟩
instance : RowT Try.prog 122 3 := ⟨fun w => by kernel_rfl, by kernel_rfl⟩
instance : ElemT Try.prog 122 3 24 (.agg #[.int .i64 0, .int .i64 0, .int .i64 0]) := ⟨by kernel_rfl⟩
-- 123: func(api.Edge)
theorem z123 : ∀ w, (zeroValue 123).run Try.prog w = .ok (.nilFunc) w := fun w => by kernel_rfl
instance : ZeroT Try.prog 123 (.nilFunc) #[.nilFunc] := ⟨z123, rfl⟩
instance : ScalarT Try.prog 123 := ⟨fun w => by kernel_rfl, by kernel_rfl⟩
instance : ElemT Try.prog 123 1 8 (.nilFunc) := ⟨by kernel_rfl⟩
-- 124: func(api.Edge, int) bow.spot
theorem z124 : ∀ w, (zeroValue 124).run Try.prog w = .ok (.nilFunc) w := fun w => by kernel_rfl
instance : ZeroT Try.prog 124 (.nilFunc) #[.nilFunc] := ⟨z124, rfl⟩
instance : ScalarT Try.prog 124 := ⟨fun w => by kernel_rfl, by kernel_rfl⟩
instance : ElemT Try.prog 124 1 8 (.nilFunc) := ⟨by kernel_rfl⟩
-- 125: func(int, int, int) (int, bool)
theorem z125 : ∀ w, (zeroValue 125).run Try.prog w = .ok (.nilFunc) w := fun w => by kernel_rfl
instance : ZeroT Try.prog 125 (.nilFunc) #[.nilFunc] := ⟨z125, rfl⟩
instance : ScalarT Try.prog 125 := ⟨fun w => by kernel_rfl, by kernel_rfl⟩
instance : ElemT Try.prog 125 1 8 (.nilFunc) := ⟨by kernel_rfl⟩
-- 126: func(api.Edge, int, int) int
theorem z126 : ∀ w, (zeroValue 126).run Try.prog w = .ok (.nilFunc) w := fun w => by kernel_rfl
instance : ZeroT Try.prog 126 (.nilFunc) #[.nilFunc] := ⟨z126, rfl⟩
instance : ScalarT Try.prog 126 := ⟨fun w => by kernel_rfl, by kernel_rfl⟩
instance : ElemT Try.prog 126 1 8 (.nilFunc) := ⟨by kernel_rfl⟩
-- 127: func(api.Seg) bool
theorem z127 : ∀ w, (zeroValue 127).run Try.prog w = .ok (.nilFunc) w := fun w => by kernel_rfl
instance : ZeroT Try.prog 127 (.nilFunc) #[.nilFunc] := ⟨z127, rfl⟩
instance : ScalarT Try.prog 127 := ⟨fun w => by kernel_rfl, by kernel_rfl⟩
instance : ElemT Try.prog 127 1 8 (.nilFunc) := ⟨by kernel_rfl⟩
-- 128: func(int, int, int, int, int) bow.spot
theorem z128 : ∀ w, (zeroValue 128).run Try.prog w = .ok (.nilFunc) w := fun w => by kernel_rfl
instance : ZeroT Try.prog 128 (.nilFunc) #[.nilFunc] := ⟨z128, rfl⟩
instance : ScalarT Try.prog 128 := ⟨fun w => by kernel_rfl, by kernel_rfl⟩
instance : ElemT Try.prog 128 1 8 (.nilFunc) := ⟨by kernel_rfl⟩
-- 129: [2]int
theorem z129 : ∀ w, (zeroValue 129).run Try.prog w = .ok (.agg #[.int .i64 0, .int .i64 0]) w := fun w => by kernel_rfl
instance : ZeroT Try.prog 129 (.agg #[.int .i64 0, .int .i64 0]) #[.int .i64 0, .int .i64 0] := ⟨z129, rfl⟩
instance : RowT Try.prog 129 2 := ⟨fun w => by kernel_rfl, by kernel_rfl⟩
instance : ElemT Try.prog 129 2 16 (.agg #[.int .i64 0, .int .i64 0]) := ⟨by kernel_rfl⟩
instance : ArrT Try.prog 129 2 3 := ⟨Try.underlying129, fun w => by kernel_rfl, by kernel_rfl⟩
-- 130: func(int, int, int) int
theorem z130 : ∀ w, (zeroValue 130).run Try.prog w = .ok (.nilFunc) w := fun w => by kernel_rfl
instance : ZeroT Try.prog 130 (.nilFunc) #[.nilFunc] := ⟨z130, rfl⟩
instance : ScalarT Try.prog 130 := ⟨fun w => by kernel_rfl, by kernel_rfl⟩
instance : ElemT Try.prog 130 1 8 (.nilFunc) := ⟨by kernel_rfl⟩
-- 131: func(int, int, int, int) int
theorem z131 : ∀ w, (zeroValue 131).run Try.prog w = .ok (.nilFunc) w := fun w => by kernel_rfl
instance : ZeroT Try.prog 131 (.nilFunc) #[.nilFunc] := ⟨z131, rfl⟩
instance : ScalarT Try.prog 131 := ⟨fun w => by kernel_rfl, by kernel_rfl⟩
instance : ElemT Try.prog 131 1 8 (.nilFunc) := ⟨by kernel_rfl⟩
-- 132: []tympanref26.Hit
theorem z132 : ∀ w, (zeroValue 132).run Try.prog w = .ok (.slice none 0 0) w := fun w => by kernel_rfl
instance : ZeroT Try.prog 132 (.slice none 0 0) #[.slice none 0 0] := ⟨z132, rfl⟩
instance : ScalarT Try.prog 132 := ⟨fun w => by kernel_rfl, by kernel_rfl⟩
instance : ElemT Try.prog 132 1 24 (.slice none 0 0) := ⟨by kernel_rfl⟩
instance : SliceT Try.prog 132 135 := ⟨Try.underlying132⟩
-- 133: func(api.Edge, int) []tympanref26.Hit
theorem z133 : ∀ w, (zeroValue 133).run Try.prog w = .ok (.nilFunc) w := fun w => by kernel_rfl
instance : ZeroT Try.prog 133 (.nilFunc) #[.nilFunc] := ⟨z133, rfl⟩
instance : ScalarT Try.prog 133 := ⟨fun w => by kernel_rfl, by kernel_rfl⟩
instance : ElemT Try.prog 133 1 8 (.nilFunc) := ⟨by kernel_rfl⟩
-- 134: Turn
theorem z134 : ∀ w, (zeroValue 134).run Try.prog w = .ok (.agg #[.int .i64 0, .int .i64 0, .int .i64 0, .int .i64 0, .int .i64 0]) w := fun w => by kernel_rfl
instance : ZeroT Try.prog 134 (.agg #[.int .i64 0, .int .i64 0, .int .i64 0, .int .i64 0, .int .i64 0]) #[.int .i64 0, .int .i64 0, .int .i64 0, .int .i64 0, .int .i64 0] := ⟨z134, rfl⟩
instance : RowT Try.prog 134 5 := ⟨fun w => by kernel_rfl, by kernel_rfl⟩
instance : ElemT Try.prog 134 5 40 (.agg #[.int .i64 0, .int .i64 0, .int .i64 0, .int .i64 0, .int .i64 0]) := ⟨by kernel_rfl⟩
-- 135: tympan/tympanref26.Hit
theorem z135 : ∀ w, (zeroValue 135).run Try.prog w = .ok (.agg #[.int .i64 0, .int .i64 0, .int .i64 0, .int .i64 0, .int .i64 0]) w := fun w => by kernel_rfl
instance : ZeroT Try.prog 135 (.agg #[.int .i64 0, .int .i64 0, .int .i64 0, .int .i64 0, .int .i64 0]) #[.int .i64 0, .int .i64 0, .int .i64 0, .int .i64 0, .int .i64 0] := ⟨z135, rfl⟩
instance : RowT Try.prog 135 5 := ⟨fun w => by kernel_rfl, by kernel_rfl⟩
instance : ElemT Try.prog 135 5 40 (.agg #[.int .i64 0, .int .i64 0, .int .i64 0, .int .i64 0, .int .i64 0]) := ⟨by kernel_rfl⟩
-- 136: uint64
theorem z136 : ∀ w, (zeroValue 136).run Try.prog w = .ok (.int .u64 0) w := fun w => by kernel_rfl
instance : ZeroT Try.prog 136 (.int .u64 0) #[.int .u64 0] := ⟨z136, rfl⟩
instance : ScalarT Try.prog 136 := ⟨fun w => by kernel_rfl, by kernel_rfl⟩
instance : ElemT Try.prog 136 1 8 (.int .u64 0) := ⟨by kernel_rfl⟩
-- 138: func(int, int) (int, uint64)
theorem z138 : ∀ w, (zeroValue 138).run Try.prog w = .ok (.nilFunc) w := fun w => by kernel_rfl
instance : ZeroT Try.prog 138 (.nilFunc) #[.nilFunc] := ⟨z138, rfl⟩
instance : ScalarT Try.prog 138 := ⟨fun w => by kernel_rfl, by kernel_rfl⟩
instance : ElemT Try.prog 138 1 8 (.nilFunc) := ⟨by kernel_rfl⟩
-- 139: func(api.Edge, int, int) []tympanref26.Hit
theorem z139 : ∀ w, (zeroValue 139).run Try.prog w = .ok (.nilFunc) w := fun w => by kernel_rfl
instance : ZeroT Try.prog 139 (.nilFunc) #[.nilFunc] := ⟨z139, rfl⟩
instance : ScalarT Try.prog 139 := ⟨fun w => by kernel_rfl, by kernel_rfl⟩
instance : ElemT Try.prog 139 1 8 (.nilFunc) := ⟨by kernel_rfl⟩
-- 140: func(int, int, int, int) bool
theorem z140 : ∀ w, (zeroValue 140).run Try.prog w = .ok (.nilFunc) w := fun w => by kernel_rfl
instance : ZeroT Try.prog 140 (.nilFunc) #[.nilFunc] := ⟨z140, rfl⟩
instance : ScalarT Try.prog 140 := ⟨fun w => by kernel_rfl, by kernel_rfl⟩
instance : ElemT Try.prog 140 1 8 (.nilFunc) := ⟨by kernel_rfl⟩
-- 141: func(int, int, int, int, bool) bool
theorem z141 : ∀ w, (zeroValue 141).run Try.prog w = .ok (.nilFunc) w := fun w => by kernel_rfl
instance : ZeroT Try.prog 141 (.nilFunc) #[.nilFunc] := ⟨z141, rfl⟩
instance : ScalarT Try.prog 141 := ⟨fun w => by kernel_rfl, by kernel_rfl⟩
instance : ElemT Try.prog 141 1 8 (.nilFunc) := ⟨by kernel_rfl⟩
-- 142: func(api.Edge, int, int, int, int) tympanref26.Hit
theorem z142 : ∀ w, (zeroValue 142).run Try.prog w = .ok (.nilFunc) w := fun w => by kernel_rfl
instance : ZeroT Try.prog 142 (.nilFunc) #[.nilFunc] := ⟨z142, rfl⟩
instance : ScalarT Try.prog 142 := ⟨fun w => by kernel_rfl, by kernel_rfl⟩
instance : ElemT Try.prog 142 1 8 (.nilFunc) := ⟨by kernel_rfl⟩
-- 144: func(uint64, uint64) (uint64, uint64)
theorem z144 : ∀ w, (zeroValue 144).run Try.prog w = .ok (.nilFunc) w := fun w => by kernel_rfl
instance : ZeroT Try.prog 144 (.nilFunc) #[.nilFunc] := ⟨z144, rfl⟩
instance : ScalarT Try.prog 144 := ⟨fun w => by kernel_rfl, by kernel_rfl⟩
instance : ElemT Try.prog 144 1 8 (.nilFunc) := ⟨by kernel_rfl⟩
-- 145: func(int) uint64
theorem z145 : ∀ w, (zeroValue 145).run Try.prog w = .ok (.nilFunc) w := fun w => by kernel_rfl
instance : ZeroT Try.prog 145 (.nilFunc) #[.nilFunc] := ⟨z145, rfl⟩
instance : ScalarT Try.prog 145 := ⟨fun w => by kernel_rfl, by kernel_rfl⟩
instance : ElemT Try.prog 145 1 8 (.nilFunc) := ⟨by kernel_rfl⟩
-- 146: Hi
theorem z146 : ∀ w, (zeroValue 146).run Try.prog w = .ok (.agg #[.int .u64 0, .int .u64 0]) w := fun w => by kernel_rfl
instance : ZeroT Try.prog 146 (.agg #[.int .u64 0, .int .u64 0]) #[.int .u64 0, .int .u64 0] := ⟨z146, rfl⟩
instance : RowT Try.prog 146 2 := ⟨fun w => by kernel_rfl, by kernel_rfl⟩
instance : ElemT Try.prog 146 2 16 (.agg #[.int .u64 0, .int .u64 0]) := ⟨by kernel_rfl⟩
-- 147: tympan/tympanref24.Wide
theorem z147 : ∀ w, (zeroValue 147).run Try.prog w = .ok (.agg #[.int .u64 0, .int .u64 0]) w := fun w => by kernel_rfl
instance : ZeroT Try.prog 147 (.agg #[.int .u64 0, .int .u64 0]) #[.int .u64 0, .int .u64 0] := ⟨z147, rfl⟩
instance : RowT Try.prog 147 2 := ⟨fun w => by kernel_rfl, by kernel_rfl⟩
instance : ElemT Try.prog 147 2 16 (.agg #[.int .u64 0, .int .u64 0]) := ⟨by kernel_rfl⟩
-- 148: func(uint64, uint64) tympanref24.Wide
theorem z148 : ∀ w, (zeroValue 148).run Try.prog w = .ok (.nilFunc) w := fun w => by kernel_rfl
instance : ZeroT Try.prog 148 (.nilFunc) #[.nilFunc] := ⟨z148, rfl⟩
instance : ScalarT Try.prog 148 := ⟨fun w => by kernel_rfl, by kernel_rfl⟩
instance : ElemT Try.prog 148 1 8 (.nilFunc) := ⟨by kernel_rfl⟩
-- 149: func(tympanref24.Wide, uint64, tympanref24.Wide) int
theorem z149 : ∀ w, (zeroValue 149).run Try.prog w = .ok (.nilFunc) w := fun w => by kernel_rfl
instance : ZeroT Try.prog 149 (.nilFunc) #[.nilFunc] := ⟨z149, rfl⟩
instance : ScalarT Try.prog 149 := ⟨fun w => by kernel_rfl, by kernel_rfl⟩
instance : ElemT Try.prog 149 1 8 (.nilFunc) := ⟨by kernel_rfl⟩
-- 150: uint
theorem z150 : ∀ w, (zeroValue 150).run Try.prog w = .ok (.int .u64 0) w := fun w => by kernel_rfl
instance : ZeroT Try.prog 150 (.int .u64 0) #[.int .u64 0] := ⟨z150, rfl⟩
instance : ScalarT Try.prog 150 := ⟨fun w => by kernel_rfl, by kernel_rfl⟩
instance : ElemT Try.prog 150 1 8 (.int .u64 0) := ⟨by kernel_rfl⟩
-- 151: [4]uint64
theorem z151 : ∀ w, (zeroValue 151).run Try.prog w = .ok (.agg #[.int .u64 0, .int .u64 0, .int .u64 0, .int .u64 0]) w := fun w => by kernel_rfl
instance : ZeroT Try.prog 151 (.agg #[.int .u64 0, .int .u64 0, .int .u64 0, .int .u64 0]) #[.int .u64 0, .int .u64 0, .int .u64 0, .int .u64 0] := ⟨z151, rfl⟩
instance : RowT Try.prog 151 4 := ⟨fun w => by kernel_rfl, by kernel_rfl⟩
instance : ElemT Try.prog 151 4 32 (.agg #[.int .u64 0, .int .u64 0, .int .u64 0, .int .u64 0]) := ⟨by kernel_rfl⟩
instance : ArrT Try.prog 151 4 136 := ⟨Try.underlying151, fun w => by kernel_rfl, by kernel_rfl⟩
-- 152: func(tympanref24.Wide, tympanref24.Wide) int
theorem z152 : ∀ w, (zeroValue 152).run Try.prog w = .ok (.nilFunc) w := fun w => by kernel_rfl
instance : ZeroT Try.prog 152 (.nilFunc) #[.nilFunc] := ⟨z152, rfl⟩
instance : ScalarT Try.prog 152 := ⟨fun w => by kernel_rfl, by kernel_rfl⟩
instance : ElemT Try.prog 152 1 8 (.nilFunc) := ⟨by kernel_rfl⟩
-- 153: func() string
theorem z153 : ∀ w, (zeroValue 153).run Try.prog w = .ok (.nilFunc) w := fun w => by kernel_rfl
instance : ZeroT Try.prog 153 (.nilFunc) #[.nilFunc] := ⟨z153, rfl⟩
instance : ScalarT Try.prog 153 := ⟨fun w => by kernel_rfl, by kernel_rfl⟩
instance : ElemT Try.prog 153 1 8 (.nilFunc) := ⟨by kernel_rfl⟩
-- 159: uint32
theorem z159 : ∀ w, (zeroValue 159).run Try.prog w = .ok (.int .u32 0) w := fun w => by kernel_rfl
instance : ZeroT Try.prog 159 (.int .u32 0) #[.int .u32 0] := ⟨z159, rfl⟩
instance : ScalarT Try.prog 159 := ⟨fun w => by kernel_rfl, by kernel_rfl⟩
instance : ElemT Try.prog 159 1 4 (.int .u32 0) := ⟨by kernel_rfl⟩
-- 162: func(unsafe.Pointer, unsafe.Pointer) bool
theorem z162 : ∀ w, (zeroValue 162).run Try.prog w = .ok (.nilFunc) w := fun w => by kernel_rfl
instance : ZeroT Try.prog 162 (.nilFunc) #[.nilFunc] := ⟨z162, rfl⟩
instance : ScalarT Try.prog 162 := ⟨fun w => by kernel_rfl, by kernel_rfl⟩
instance : ElemT Try.prog 162 1 8 (.nilFunc) := ⟨by kernel_rfl⟩
-- 163: *uint8
theorem z163 : ∀ w, (zeroValue 163).run Try.prog w = .ok (.pointer none) w := fun w => by kernel_rfl
instance : ZeroT Try.prog 163 (.pointer none) #[.pointer none] := ⟨z163, rfl⟩
instance : ScalarT Try.prog 163 := ⟨fun w => by kernel_rfl, by kernel_rfl⟩
instance : ElemT Try.prog 163 1 8 (.pointer none) := ⟨by kernel_rfl⟩
-- 166: Size_
theorem z166 : ∀ w, (zeroValue 166).run Try.prog w = .ok (.agg #[.int .u64 0, .int .u64 0, .int .u32 0, .int .u8 0, .int .u8 0, .int .u8 0, .int .u8 0, .nilFunc, .pointer none, .int .i32 0, .int .i32 0]) w := fun w => by kernel_rfl
instance : ZeroT Try.prog 166 (.agg #[.int .u64 0, .int .u64 0, .int .u32 0, .int .u8 0, .int .u8 0, .int .u8 0, .int .u8 0, .nilFunc, .pointer none, .int .i32 0, .int .i32 0]) #[.int .u64 0, .int .u64 0, .int .u32 0, .int .u8 0, .int .u8 0, .int .u8 0, .int .u8 0, .nilFunc, .pointer none, .int .i32 0, .int .i32 0] := ⟨z166, rfl⟩
instance : RowT Try.prog 166 11 := ⟨fun w => by kernel_rfl, by kernel_rfl⟩
instance : ElemT Try.prog 166 11 48 (.agg #[.int .u64 0, .int .u64 0, .int .u32 0, .int .u8 0, .int .u8 0, .int .u8 0, .int .u8 0, .nilFunc, .pointer none, .int .i32 0, .int .i32 0]) := ⟨by kernel_rfl⟩
end Go.Proofs.Ytkgblkaihblgeaa
