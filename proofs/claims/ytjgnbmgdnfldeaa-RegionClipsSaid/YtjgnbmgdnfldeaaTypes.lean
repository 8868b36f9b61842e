/- What the types of this seat's program are: by program (gen_types.py). -/
import Derived.Test.YtjgnbmgdnfldeaaProg
import Derived.Test.YtjgnbmgdnfldeaaHoldM
import Derived.KernelRfl
namespace Go.Proofs.Ytjgnbmgdnfldeaa
-- 1: func()
theorem z1 : ∀ w, (zeroValue 1).run Try.prog w = .ok (.nilFunc) w := fun w => by kernel_rfl
instance : ZeroT Try.prog 1 (.nilFunc) #[.nilFunc] := ⟨z1, rfl⟩
instance : ScalarT Try.prog 1 := ⟨fun w => by kernel_rfl, by kernel_rfl⟩
instance : ElemT Try.prog 1 1 8 (.nilFunc) := ⟨by kernel_rfl⟩
-- 2: int64
theorem z2 : ∀ w, (zeroValue 2).run Try.prog w = .ok (.int .i64 0) w := fun w => by kernel_rfl
instance : ZeroT Try.prog 2 (.int .i64 0) #[.int .i64 0] := ⟨z2, rfl⟩
instance : ScalarT Try.prog 2 := ⟨fun w => by kernel_rfl, by kernel_rfl⟩
instance : ElemT Try.prog 2 1 8 (.int .i64 0) := ⟨by kernel_rfl⟩
-- 3: int
theorem z3 : ∀ w, (zeroValue 3).run Try.prog w = .ok (.int .i64 0) w := fun w => by kernel_rfl
instance : ZeroT Try.prog 3 (.int .i64 0) #[.int .i64 0] := ⟨z3, rfl⟩
instance : ScalarT Try.prog 3 := ⟨fun w => by kernel_rfl, by kernel_rfl⟩
instance : ElemT Try.prog 3 1 8 (.int .i64 0) := ⟨by kernel_rfl⟩
-- 4: bool
theorem z4 : ∀ w, (zeroValue 4).run Try.prog w = .ok (.bool false) w := fun w => by kernel_rfl
instance : ZeroT Try.prog 4 (.bool false) #[.bool false] := ⟨z4, rfl⟩
instance : ScalarT Try.prog 4 := ⟨fun w => by kernel_rfl, by kernel_rfl⟩
instance : ElemT Try.prog 4 1 1 (.bool false) := ⟨by kernel_rfl⟩
-- 5: uint8
theorem z5 : ∀ w, (zeroValue 5).run Try.prog w = .ok (.int .u8 0) w := fun w => by kernel_rfl
instance : ZeroT Try.prog 5 (.int .u8 0) #[.int .u8 0] := ⟨z5, rfl⟩
instance : ScalarT Try.prog 5 := ⟨fun w => by kernel_rfl, by kernel_rfl⟩
instance : ElemT Try.prog 5 1 1 (.int .u8 0) := ⟨by kernel_rfl⟩
-- 9: string
theorem z9 : ∀ w, (zeroValue 9).run Try.prog w = .ok (.string ByteArray.empty) w := fun w => by kernel_rfl
instance : ZeroT Try.prog 9 (.string ByteArray.empty) #[.string ByteArray.empty] := ⟨z9, rfl⟩
instance : ScalarT Try.prog 9 := ⟨fun w => by kernel_rfl, by kernel_rfl⟩
instance : ElemT Try.prog 9 1 16 (.string ByteArray.empty) := ⟨by kernel_rfl⟩
-- 12: uintptr
theorem z12 : ∀ w, (zeroValue 12).run Try.prog w = .ok (.int .u64 0) w := fun w => by kernel_rfl
instance : ZeroT Try.prog 12 (.int .u64 0) #[.int .u64 0] := ⟨z12, rfl⟩
instance : ScalarT Try.prog 12 := ⟨fun w => by kernel_rfl, by kernel_rfl⟩
instance : ElemT Try.prog 12 1 8 (.int .u64 0) := ⟨by kernel_rfl⟩
-- 17: *abi.Type
theorem z17 : ∀ w, (zeroValue 17).run Try.prog w = .ok (.pointer none) w := fun w => by kernel_rfl
instance : ZeroT Try.prog 17 (.pointer none) #[.pointer none] := ⟨z17, rfl⟩
instance : ScalarT Try.prog 17 := ⟨fun w => by kernel_rfl, by kernel_rfl⟩
instance : ElemT Try.prog 17 1 8 (.pointer none) := ⟨by kernel_rfl⟩
-- 21: int32
theorem z21 : ∀ w, (zeroValue 21).run Try.prog w = .ok (.int .i32 0) w := fun w => by kernel_rfl
instance : ZeroT Try.prog 21 (.int .i32 0) #[.int .i32 0] := ⟨z21, rfl⟩
instance : ScalarT Try.prog 21 := ⟨fun w => by kernel_rfl, by kernel_rfl⟩
instance : ElemT Try.prog 21 1 4 (.int .i32 0) := ⟨by kernel_rfl⟩
-- 22: []int
theorem z22 : ∀ w, (zeroValue 22).run Try.prog w = .ok (.slice none 0 0) w := fun w => by kernel_rfl
instance : ZeroT Try.prog 22 (.slice none 0 0) #[.slice none 0 0] := ⟨z22, rfl⟩
instance : ScalarT Try.prog 22 := ⟨fun w => by kernel_rfl, by kernel_rfl⟩
instance : ElemT Try.prog 22 1 24 (.slice none 0 0) := ⟨by kernel_rfl⟩
instance : SliceT Try.prog 22 3 := ⟨Try.underlying22⟩
-- 23: func() bool
theorem z23 : ∀ w, (zeroValue 23).run Try.prog w = .ok (.nilFunc) w := fun w => by kernel_rfl
instance : ZeroT Try.prog 23 (.nilFunc) #[.nilFunc] := ⟨z23, rfl⟩
instance : ScalarT Try.prog 23 := ⟨fun w => by kernel_rfl, by kernel_rfl⟩
instance : ElemT Try.prog 23 1 8 (.nilFunc) := ⟨by kernel_rfl⟩
-- 24: [][]api.Run
theorem z24 : ∀ w, (zeroValue 24).run Try.prog w = .ok (.slice none 0 0) w := fun w => by kernel_rfl
instance : ZeroT Try.prog 24 (.slice none 0 0) #[.slice none 0 0] := ⟨z24, rfl⟩
instance : ScalarT Try.prog 24 := ⟨fun w => by kernel_rfl, by kernel_rfl⟩
instance : ElemT Try.prog 24 1 24 (.slice none 0 0) := ⟨by kernel_rfl⟩
instance : SliceT Try.prog 24 36 := ⟨Try.underlying24⟩
-- 25: W
theorem z25 : ∀ w, (zeroValue 25).run Try.prog w = .ok (.agg #[.int .i64 0, .int .i64 0, .slice none 0 0]) w := fun w => by kernel_rfl
instance : ZeroT Try.prog 25 (.agg #[.int .i64 0, .int .i64 0, .slice none 0 0]) #[.int .i64 0, .int .i64 0, .slice none 0 0] := ⟨z25, rfl⟩
instance : RowT Try.prog 25 3 := ⟨fun w => by kernel_rfl, by kernel_rfl⟩
instance : ElemT Try.prog 25 3 40 (.agg #[.int .i64 0, .int .i64 0, .slice none 0 0]) := ⟨by kernel_rfl⟩
-- 26: tympan/api.Region
theorem z26 : ∀ w, (zeroValue 26).run Try.prog w = .ok (.agg #[.int .i64 0, .int .i64 0, .slice none 0 0]) w := fun w => by kernel_rfl
instance : ZeroT Try.prog 26 (.agg #[.int .i64 0, .int .i64 0, .slice none 0 0]) #[.int .i64 0, .int .i64 0, .slice none 0 0] := ⟨z26, rfl⟩
instance : RowT Try.prog 26 3 := ⟨fun w => by kernel_rfl, by kernel_rfl⟩
instance : ElemT Try.prog 26 3 40 (.agg #[.int .i64 0, .int .i64 0, .slice none 0 0]) := ⟨by kernel_rfl⟩
-- 27: func([]int, int, int) api.Region
theorem z27 : ∀ w, (zeroValue 27).run Try.prog w = .ok (.nilFunc) w := fun w => by kernel_rfl
instance : ZeroT Try.prog 27 (.nilFunc) #[.nilFunc] := ⟨z27, rfl⟩
instance : ScalarT Try.prog 27 := ⟨fun w => by kernel_rfl, by kernel_rfl⟩
instance : ElemT Try.prog 27 1 8 (.nilFunc) := ⟨by kernel_rfl⟩
-- 28: func(int) int
theorem z28 : ∀ w, (zeroValue 28).run Try.prog w = .ok (.nilFunc) w := fun w => by kernel_rfl
instance : ZeroT Try.prog 28 (.nilFunc) #[.nilFunc] := ⟨z28, rfl⟩
instance : ScalarT Try.prog 28 := ⟨fun w => by kernel_rfl, by kernel_rfl⟩
instance : ElemT Try.prog 28 1 8 (.nilFunc) := ⟨by kernel_rfl⟩
-- 29: tympan/api.Errno
theorem z29 : ∀ w, (zeroValue 29).run Try.prog w = .ok (.int .i64 0) w := fun w => by kernel_rfl
instance : ZeroT Try.prog 29 (.int .i64 0) #[.int .i64 0] := ⟨z29, rfl⟩
instance : ScalarT Try.prog 29 := ⟨fun w => by kernel_rfl, by kernel_rfl⟩
instance : ElemT Try.prog 29 1 8 (.int .i64 0) := ⟨by kernel_rfl⟩
-- 31: func(api.Region, api.Region) (api.Region, api.Errno)
theorem z31 : ∀ w, (zeroValue 31).run Try.prog w = .ok (.nilFunc) w := fun w => by kernel_rfl
instance : ZeroT Try.prog 31 (.nilFunc) #[.nilFunc] := ⟨z31, rfl⟩
instance : ScalarT Try.prog 31 := ⟨fun w => by kernel_rfl, by kernel_rfl⟩
instance : ElemT Try.prog 31 1 8 (.nilFunc) := ⟨by kernel_rfl⟩
-- 32: func(api.Region) (api.Region, api.Errno)
theorem z32 : ∀ w, (zeroValue 32).run Try.prog w = .ok (.nilFunc) w := fun w => by kernel_rfl
instance : ZeroT Try.prog 32 (.nilFunc) #[.nilFunc] := ⟨z32, rfl⟩
instance : ScalarT Try.prog 32 := ⟨fun w => by kernel_rfl, by kernel_rfl⟩
instance : ElemT Try.prog 32 1 8 (.nilFunc) := ⟨by kernel_rfl⟩
-- 33: func([]api.Run, []api.Run) bool
theorem z33 : ∀ w, (zeroValue 33).run Try.prog w = .ok (.nilFunc) w := fun w => by kernel_rfl
instance : ZeroT Try.prog 33 (.nilFunc) #[.nilFunc] := ⟨z33, rfl⟩
instance : ScalarT Try.prog 33 := ⟨fun w => by kernel_rfl, by kernel_rfl⟩
instance : ElemT Try.prog 33 1 8 (.nilFunc) := ⟨by kernel_rfl⟩
-- 34: From
theorem z34 : ∀ w, (zeroValue 34).run Try.prog w = .ok (.agg #[.int .i64 0, .int .i64 0]) w := fun w => by kernel_rfl
instance : ZeroT Try.prog 34 (.agg #[.int .i64 0, .int .i64 0]) #[.int .i64 0, .int .i64 0] := ⟨z34, rfl⟩
instance : RowT Try.prog 34 2 := ⟨fun w => by kernel_rfl, by kernel_rfl⟩
instance : ElemT Try.prog 34 2 16 (.agg #[.int .i64 0, .int .i64 0]) := ⟨by kernel_rfl⟩
-- 35: tympan/api.Run
theorem z35 : ∀ w, (zeroValue 35).run Try.prog w = .ok (.agg #[.int .i64 0, .int .i64 0]) w := fun w => by kernel_rfl
instance : ZeroT Try.prog 35 (.agg #[.int .i64 0, .int .i64 0]) #[.int .i64 0, .int .i64 0] := ⟨z35, rfl⟩
instance : RowT Try.prog 35 2 := ⟨fun w => by kernel_rfl, by kernel_rfl⟩
instance : ElemT Try.prog 35 2 16 (.agg #[.int .i64 0, .int .i64 0]) := ⟨by kernel_rfl⟩
-- 36: []api.Run
theorem z36 : ∀ w, (zeroValue 36).run Try.prog w = .ok (.slice none 0 0) w := fun w => by kernel_rfl
instance : ZeroT Try.prog 36 (.slice none 0 0) #[.slice none 0 0] := ⟨z36, rfl⟩
instance : ScalarT Try.prog 36 := ⟨fun w => by kernel_rfl, by kernel_rfl⟩
instance : ElemT Try.prog 36 1 24 (.slice none 0 0) := ⟨by kernel_rfl⟩
instance : SliceT Try.prog 36 35 := ⟨Try.underlying36⟩
-- 37: func([]api.Run, []api.Run) []api.Run
theorem z37 : ∀ w, (zeroValue 37).run Try.prog w = .ok (.nilFunc) w := fun w => by kernel_rfl
instance : ZeroT Try.prog 37 (.nilFunc) #[.nilFunc] := ⟨z37, rfl⟩
instance : ScalarT Try.prog 37 := ⟨fun w => by kernel_rfl, by kernel_rfl⟩
instance : ElemT Try.prog 37 1 8 (.nilFunc) := ⟨by kernel_rfl⟩
-- 38: func([]api.Run, int) []api.Run
theorem z38 : ∀ w, (zeroValue 38).run Try.prog w = .ok (.nilFunc) w := fun w => by kernel_rfl
instance : ZeroT Try.prog 38 (.nilFunc) #[.nilFunc] := ⟨z38, rfl⟩
instance : ScalarT Try.prog 38 := ⟨fun w => by kernel_rfl, by kernel_rfl⟩
instance : ElemT Try.prog 38 1 8 (.nilFunc) := ⟨by kernel_rfl⟩
-- 39: func([]int, []int, int, int) bool
theorem z39 : ∀ w, (zeroValue 39).run Try.prog w = .ok (.nilFunc) w := fun w => by kernel_rfl
instance : ZeroT Try.prog 39 (.nilFunc) #[.nilFunc] := ⟨z39, rfl⟩
instance : ScalarT Try.prog 39 := ⟨fun w => by kernel_rfl, by kernel_rfl⟩
instance : ElemT Try.prog 39 1 8 (.nilFunc) := ⟨by kernel_rfl⟩
-- 40: [4]int
theorem z40 : ∀ w, (zeroValue 40).run Try.prog w = .ok (.agg #[.int .i64 0, .int .i64 0, .int .i64 0, .int .i64 0]) w := fun w => by kernel_rfl
instance : ZeroT Try.prog 40 (.agg #[.int .i64 0, .int .i64 0, .int .i64 0, .int .i64 0]) #[.int .i64 0, .int .i64 0, .int .i64 0, .int .i64 0] := ⟨z40, rfl⟩
instance : RowT Try.prog 40 4 := ⟨fun w => by kernel_rfl, by kernel_rfl⟩
instance : ElemT Try.prog 40 4 32 (.agg #[.int .i64 0, .int .i64 0, .int .i64 0, .int .i64 0]) := ⟨by kernel_rfl⟩
instance : ArrT Try.prog 40 4 3 := ⟨Try.underlying40, fun w => by kernel_rfl, by kernel_rfl⟩
-- 41: []uint8
theorem z41 : ∀ w, (zeroValue 41).run Try.prog w = .ok (.slice none 0 0) w := fun w => by kernel_rfl
instance : ZeroT Try.prog 41 (.slice none 0 0) #[.slice none 0 0] := ⟨z41, rfl⟩
instance : ScalarT Try.prog 41 := ⟨fun w => by kernel_rfl, by kernel_rfl⟩
instance : ElemT Try.prog 41 1 24 (.slice none 0 0) := ⟨by kernel_rfl⟩
instance : SliceT Try.prog 41 5 := ⟨Try.underlying41⟩
-- 42: W
theorem z42 : ∀ w, (zeroValue 42).run Try.prog w = .ok (.agg #[.int .i64 0, .int .i64 0, .slice none 0 0]) w := fun w => by kernel_rfl
instance : ZeroT Try.prog 42 (.agg #[.int .i64 0, .int .i64 0, .slice none 0 0]) #[.int .i64 0, .int .i64 0, .slice none 0 0] := ⟨z42, rfl⟩
instance : RowT Try.prog 42 3 := ⟨fun w => by kernel_rfl, by kernel_rfl⟩
instance : ElemT Try.prog 42 3 40 (.agg #[.int .i64 0, .int .i64 0, .slice none 0 0]) := ⟨by kernel_rfl⟩
-- 43: tympan/api.Mask
theorem z43 : ∀ w, (zeroValue 43).run Try.prog w = .ok (.agg #[.int .i64 0, .int .i64 0, .slice none 0 0]) w := fun w => by kernel_rfl
instance : ZeroT Try.prog 43 (.agg #[.int .i64 0, .int .i64 0, .slice none 0 0]) #[.int .i64 0, .int .i64 0, .slice none 0 0] := ⟨z43, rfl⟩
instance : RowT Try.prog 43 3 := ⟨fun w => by kernel_rfl, by kernel_rfl⟩
instance : ElemT Try.prog 43 3 40 (.agg #[.int .i64 0, .int .i64 0, .slice none 0 0]) := ⟨by kernel_rfl⟩
-- 44: func(int, int, int, int, int, int) (api.Region, api.Errno)
theorem z44 : ∀ w, (zeroValue 44).run Try.prog w = .ok (.nilFunc) w := fun w => by kernel_rfl
instance : ZeroT Try.prog 44 (.nilFunc) #[.nilFunc] := ⟨z44, rfl⟩
instance : ScalarT Try.prog 44 := ⟨fun w => by kernel_rfl, by kernel_rfl⟩
instance : ElemT Try.prog 44 1 8 (.nilFunc) := ⟨by kernel_rfl⟩
-- 46: func(int, int, int, int, int, int) (api.Region, int)
theorem z46 : ∀ w, (zeroValue 46).run Try.prog w = .ok (.nilFunc) w := fun w => by kernel_rfl
instance : ZeroT Try.prog 46 (.nilFunc) #[.nilFunc] := ⟨z46, rfl⟩
instance : ScalarT Try.prog 46 := ⟨fun w => by kernel_rfl, by kernel_rfl⟩
instance : ElemT Try.prog 46 1 8 (.nilFunc) := ⟨by kernel_rfl⟩
-- 47: func(api.Region, api.Region) bool
theorem z47 : ∀ w, (zeroValue 47).run Try.prog w = .ok (.nilFunc) w := fun w => by kernel_rfl
instance : ZeroT Try.prog 47 (.nilFunc) #[.nilFunc] := ⟨z47, rfl⟩
instance : ScalarT Try.prog 47 := ⟨fun w => by kernel_rfl, by kernel_rfl⟩
instance : ElemT Try.prog 47 1 8 (.nilFunc) := ⟨by kernel_rfl⟩
-- 48: func(int, int) (api.Region, api.Errno)
theorem z48 : ∀ w, (zeroValue 48).run Try.prog w = .ok (.nilFunc) w := fun w => by kernel_rfl
instance : ZeroT Try.prog 48 (.nilFunc) #[.nilFunc] := ⟨z48, rfl⟩
instance : ScalarT Try.prog 48 := ⟨fun w => by kernel_rfl, by kernel_rfl⟩
instance : ElemT Try.prog 48 1 8 (.nilFunc) := ⟨by kernel_rfl⟩
-- 49: func(api.Mask) (api.Region, api.Errno)
theorem z49 : ∀ w, (zeroValue 49).run Try.prog w = .ok (.nilFunc) w := fun w => by kernel_rfl
instance : ZeroT Try.prog 49 (.nilFunc) #[.nilFunc] := ⟨z49, rfl⟩
instance : ScalarT Try.prog 49 := ⟨fun w => by kernel_rfl, by kernel_rfl⟩
instance : ElemT Try.prog 49 1 8 (.nilFunc) := ⟨by kernel_rfl⟩
-- 50: func(api.Mask) (api.Region, int)
theorem z50 : ∀ w, (zeroValue 50).run Try.prog w = .ok (.nilFunc) w := fun w => by kernel_rfl
instance : ZeroT Try.prog 50 (.nilFunc) #[.nilFunc] := ⟨z50, rfl⟩
instance : ScalarT Try.prog 50 := ⟨fun w => by kernel_rfl, by kernel_rfl⟩
instance : ElemT Try.prog 50 1 8 (.nilFunc) := ⟨by kernel_rfl⟩
-- 51: func(int, int, [4]int, api.Mask) bool
theorem z51 : ∀ w, (zeroValue 51).run Try.prog w = .ok (.nilFunc) w := fun w => by kernel_rfl
instance : ZeroT Try.prog 51 (.nilFunc) #[.nilFunc] := ⟨z51, rfl⟩
instance : ScalarT Try.prog 51 := ⟨fun w => by kernel_rfl, by kernel_rfl⟩
instance : ElemT Try.prog 51 1 8 (.nilFunc) := ⟨by kernel_rfl⟩
-- 52: func(int, int) int
theorem z52 : ∀ w, (zeroValue 52).run Try.prog w = .ok (.nilFunc) w := fun w => by kernel_rfl
instance : ZeroT Try.prog 52 (.nilFunc) #[.nilFunc] := ⟨z52, rfl⟩
instance : ScalarT Try.prog 52 := ⟨fun w => by kernel_rfl, by kernel_rfl⟩
instance : ElemT Try.prog 52 1 8 (.nilFunc) := ⟨by kernel_rfl⟩
-- 53: func(api.Region) int
theorem z53 : ∀ w, (zeroValue 53).run Try.prog w = .ok (.nilFunc) w := fun w => by kernel_rfl
instance : ZeroT Try.prog 53 (.nilFunc) #[.nilFunc] := ⟨z53, rfl⟩
instance : ScalarT Try.prog 53 := ⟨fun w => by kernel_rfl, by kernel_rfl⟩
instance : ElemT Try.prog 53 1 8 (.nilFunc) := ⟨by kernel_rfl⟩
-- 54: func([4]int, [4]int) bool
theorem z54 : ∀ w, (zeroValue 54).run Try.prog w = .ok (.nilFunc) w := fun w => by kernel_rfl
instance : ZeroT Try.prog 54 (.nilFunc) #[.nilFunc] := ⟨z54, rfl⟩
instance : ScalarT Try.prog 54 := ⟨fun w => by kernel_rfl, by kernel_rfl⟩
instance : ElemT Try.prog 54 1 8 (.nilFunc) := ⟨by kernel_rfl⟩
-- 55: func(api.Region) bool
theorem z55 : ∀ w, (zeroValue 55).run Try.prog w = .ok (.nilFunc) w := fun w => by kernel_rfl
instance : ZeroT Try.prog 55 (.nilFunc) #[.nilFunc] := ⟨z55, rfl⟩
instance : ScalarT Try.prog 55 := ⟨fun w => by kernel_rfl, by kernel_rfl⟩
instance : ElemT Try.prog 55 1 8 (.nilFunc) := ⟨by kernel_rfl⟩
-- 56: func(api.Region, int, int) bool
theorem z56 : ∀ w, (zeroValue 56).run Try.prog w = .ok (.nilFunc) w := fun w => by kernel_rfl
instance : ZeroT Try.prog 56 (.nilFunc) #[.nilFunc] := ⟨z56, rfl⟩
instance : ScalarT Try.prog 56 := ⟨fun w => by kernel_rfl, by kernel_rfl⟩
instance : ElemT Try.prog 56 1 8 (.nilFunc) := ⟨by kernel_rfl⟩
-- 57: func(api.Region) (api.Region, int)
theorem z57 : ∀ w, (zeroValue 57).run Try.prog w = .ok (.nilFunc) w := fun w => by kernel_rfl
instance : ZeroT Try.prog 57 (.nilFunc) #[.nilFunc] := ⟨z57, rfl⟩
instance : ScalarT Try.prog 57 := ⟨fun w => by kernel_rfl, by kernel_rfl⟩
instance : ElemT Try.prog 57 1 8 (.nilFunc) := ⟨by kernel_rfl⟩
-- 58: func(api.Region, int, int) (api.Region, api.Errno)
theorem z58 : ∀ w, (zeroValue 58).run Try.prog w = .ok (.nilFunc) w := fun w => by kernel_rfl
instance : ZeroT Try.prog 58 (.nilFunc) #[.nilFunc] := ⟨z58, rfl⟩
instance : ScalarT Try.prog 58 := ⟨fun w => by kernel_rfl, by kernel_rfl⟩
instance : ElemT Try.prog 58 1 8 (.nilFunc) := ⟨by kernel_rfl⟩
-- 59: func(api.Region, int, int) (api.Region, int)
theorem z59 : ∀ w, (zeroValue 59).run Try.prog w = .ok (.nilFunc) w := fun w => by kernel_rfl
instance : ZeroT Try.prog 59 (.nilFunc) #[.nilFunc] := ⟨z59, rfl⟩
instance : ScalarT Try.prog 59 := ⟨fun w => by kernel_rfl, by kernel_rfl⟩
instance : ElemT Try.prog 59 1 8 (.nilFunc) := ⟨by kernel_rfl⟩
-- 61: func(api.Region) (api.Mask, api.Errno)
theorem z61 : ∀ w, (zeroValue 61).run Try.prog w = .ok (.nilFunc) w := fun w => by kernel_rfl
instance : ZeroT Try.prog 61 (.nilFunc) #[.nilFunc] := ⟨z61, rfl⟩
instance : ScalarT Try.prog 61 := ⟨fun w => by kernel_rfl, by kernel_rfl⟩
instance : ElemT Try.prog 61 1 8 (.nilFunc) := ⟨by kernel_rfl⟩
-- 63: func(api.Region) (api.Mask, int)
theorem z63 : ∀ w, (zeroValue 63).run Try.prog w = .ok (.nilFunc) w := fun w => by kernel_rfl
instance : ZeroT Try.prog 63 (.nilFunc) #[.nilFunc] := ⟨z63, rfl⟩
instance : ScalarT Try.prog 63 := ⟨fun w => by kernel_rfl, by kernel_rfl⟩
instance : ElemT Try.prog 63 1 8 (.nilFunc) := ⟨by kernel_rfl⟩
-- 64: func(api.Mask, api.Mask) bool
theorem z64 : ∀ w, (zeroValue 64).run Try.prog w = .ok (.nilFunc) w := fun w => by kernel_rfl
instance : ZeroT Try.prog 64 (.nilFunc) #[.nilFunc] := ⟨z64, rfl⟩
instance : ScalarT Try.prog 64 := ⟨fun w => by kernel_rfl, by kernel_rfl⟩
instance : ElemT Try.prog 64 1 8 (.nilFunc) := ⟨by kernel_rfl⟩
-- 65: func([]int, int, int, int, int) bool
theorem z65 : ∀ w, (zeroValue 65).run Try.prog w = .ok (.nilFunc) w := fun w => by kernel_rfl
instance : ZeroT Try.prog 65 (.nilFunc) #[.nilFunc] := ⟨z65, rfl⟩
instance : ScalarT Try.prog 65 := ⟨fun w => by kernel_rfl, by kernel_rfl⟩
instance : ElemT Try.prog 65 1 8 (.nilFunc) := ⟨by kernel_rfl⟩
-- 66: func(api.Mask) bool
theorem z66 : ∀ w, (zeroValue 66).run Try.prog w = .ok (.nilFunc) w := fun w => by kernel_rfl
instance : ZeroT Try.prog 66 (.nilFunc) #[.nilFunc] := ⟨z66, rfl⟩
instance : ScalarT Try.prog 66 := ⟨fun w => by kernel_rfl, by kernel_rfl⟩
instance : ElemT Try.prog 66 1 8 (.nilFunc) := ⟨by kernel_rfl⟩
-- 67: func(api.Mask) int
theorem z67 : ∀ w, (zeroValue 67).run Try.prog w = .ok (.nilFunc) w := fun w => by kernel_rfl
instance : ZeroT Try.prog 67 (.nilFunc) #[.nilFunc] := ⟨z67, rfl⟩
instance : ScalarT Try.prog 67 := ⟨fun w => by kernel_rfl, by kernel_rfl⟩
instance : ElemT Try.prog 67 1 8 (.nilFunc) := ⟨by kernel_rfl⟩
-- 68: func(api.Mask, api.Mask) (api.Mask, api.Errno)
theorem z68 : ∀ w, (zeroValue 68).run Try.prog w = .ok (.nilFunc) w := fun w => by kernel_rfl
instance : ZeroT Try.prog 68 (.nilFunc) #[.nilFunc] := ⟨z68, rfl⟩
instance : ScalarT Try.prog 68 := ⟨fun w => by kernel_rfl, by kernel_rfl⟩
instance : ElemT Try.prog 68 1 8 (.nilFunc) := ⟨by kernel_rfl⟩
-- 69: func([]api.Seg, int, int, int) (api.Region, api.Errno)
theorem z69 : ∀ w, (zeroValue 69).run Try.prog w = .ok (.nilFunc) w := fun w => by kernel_rfl
instance : ZeroT Try.prog 69 (.nilFunc) #[.nilFunc] := ⟨z69, rfl⟩
instance : ScalarT Try.prog 69 := ⟨fun w => by kernel_rfl, by kernel_rfl⟩
instance : ElemT Try.prog 69 1 8 (.nilFunc) := ⟨by kernel_rfl⟩
-- 70: []api.Seg
theorem z70 : ∀ w, (zeroValue 70).run Try.prog w = .ok (.slice none 0 0) w := fun w => by kernel_rfl
instance : ZeroT Try.prog 70 (.slice none 0 0) #[.slice none 0 0] := ⟨z70, rfl⟩
instance : ScalarT Try.prog 70 := ⟨fun w => by kernel_rfl, by kernel_rfl⟩
instance : ElemT Try.prog 70 1 24 (.slice none 0 0) := ⟨by kernel_rfl⟩
instance : SliceT Try.prog 70 108 := ⟨Try.underlying70⟩
-- 71: func([]int, bool) []api.Seg
theorem z71 : ∀ w, (zeroValue 71).run Try.prog w = .ok (.nilFunc) w := fun w => by kernel_rfl
instance : ZeroT Try.prog 71 (.nilFunc) #[.nilFunc] := ⟨z71, rfl⟩
instance : ScalarT Try.prog 71 := ⟨fun w => by kernel_rfl, by kernel_rfl⟩
instance : ElemT Try.prog 71 1 8 (.nilFunc) := ⟨by kernel_rfl⟩
-- 72: func([]int, []int, []int, [4]int) bool
theorem z72 : ∀ w, (zeroValue 72).run Try.prog w = .ok (.nilFunc) w := fun w => by kernel_rfl
instance : ZeroT Try.prog 72 (.nilFunc) #[.nilFunc] := ⟨z72, rfl⟩
instance : ScalarT Try.prog 72 := ⟨fun w => by kernel_rfl, by kernel_rfl⟩
instance : ElemT Try.prog 72 1 8 (.nilFunc) := ⟨by kernel_rfl⟩
-- 73: func([]api.Seg, int, int, int) (api.Mask, api.Errno)
theorem z73 : ∀ w, (zeroValue 73).run Try.prog w = .ok (.nilFunc) w := fun w => by kernel_rfl
instance : ZeroT Try.prog 73 (.nilFunc) #[.nilFunc] := ⟨z73, rfl⟩
instance : ScalarT Try.prog 73 := ⟨fun w => by kernel_rfl, by kernel_rfl⟩
instance : ElemT Try.prog 73 1 8 (.nilFunc) := ⟨by kernel_rfl⟩
-- 74: func([]int, int, int, int) bool
theorem z74 : ∀ w, (zeroValue 74).run Try.prog w = .ok (.nilFunc) w := fun w => by kernel_rfl
instance : ZeroT Try.prog 74 (.nilFunc) #[.nilFunc] := ⟨z74, rfl⟩
instance : ScalarT Try.prog 74 := ⟨fun w => by kernel_rfl, by kernel_rfl⟩
instance : ElemT Try.prog 74 1 8 (.nilFunc) := ⟨by kernel_rfl⟩
-- 75: [64]bool
theorem z75 : ∀ w, (zeroValue 75).run Try.prog w = .ok (.agg (arrB fun _ => false)) w := fun w => by rw [arrB_zero]; kernel_rfl
instance : ZeroT Try.prog 75 (.agg (arrB fun _ => false)) (arrB fun _ => false) := ⟨z75, rfl⟩
instance : RowT Try.prog 75 64 := ⟨fun w => by kernel_rfl, by kernel_rfl⟩
instance : ElemT Try.prog 75 64 64 (.agg (arrB fun _ => false)) := ⟨by rw [arrB_zero]; kernel_rfl⟩
instance : ArrT Try.prog 75 64 4 := ⟨Try.underlying75, fun w => by kernel_rfl, by kernel_rfl⟩
-- 76: tympan/tympanref30.Row
theorem z76 : ∀ w, (zeroValue 76).run Try.prog w = .ok (.agg (arrB fun _ => false)) w := fun w => by rw [arrB_zero]; kernel_rfl
instance : ZeroT Try.prog 76 (.agg (arrB fun _ => false)) (arrB fun _ => false) := ⟨z76, rfl⟩
instance : RowT Try.prog 76 64 := ⟨fun w => by kernel_rfl, by kernel_rfl⟩
instance : ElemT Try.prog 76 64 64 (.agg (arrB fun _ => false)) := ⟨by rw [arrB_zero]; kernel_rfl⟩
instance : ArrT Try.prog 76 64 4 := ⟨Try.underlying76, fun w => by kernel_rfl, by kernel_rfl⟩
-- 77: uint
theorem z77 : ∀ w, (zeroValue 77).run Try.prog w = .ok (.int .u64 0) w := fun w => by kernel_rfl
instance : ZeroT Try.prog 77 (.int .u64 0) #[.int .u64 0] := ⟨z77, rfl⟩
instance : ScalarT Try.prog 77 := ⟨fun w => by kernel_rfl, by kernel_rfl⟩
instance : ElemT Try.prog 77 1 8 (.int .u64 0) := ⟨by kernel_rfl⟩
-- 78: func(tympanref30.Row, int) []api.Run
theorem z78 : ∀ w, (zeroValue 78).run Try.prog w = .ok (.nilFunc) w := fun w => by kernel_rfl
instance : ZeroT Try.prog 78 (.nilFunc) #[.nilFunc] := ⟨z78, rfl⟩
instance : ScalarT Try.prog 78 := ⟨fun w => by kernel_rfl, by kernel_rfl⟩
instance : ElemT Try.prog 78 1 8 (.nilFunc) := ⟨by kernel_rfl⟩
-- 79: func(api.Region, api.Region, func([]api.Run, []api.Run) []ap
theorem z79 : ∀ w, (zeroValue 79).run Try.prog w = .ok (.nilFunc) w := fun w => by kernel_rfl
instance : ZeroT Try.prog 79 (.nilFunc) #[.nilFunc] := ⟨z79, rfl⟩
instance : ScalarT Try.prog 79 := ⟨fun w => by kernel_rfl, by kernel_rfl⟩
instance : ElemT Try.prog 79 1 8 (.nilFunc) := ⟨by kernel_rfl⟩
-- 80: func(api.Region, func(int) []api.Run) (api.Region, api.Errno
theorem z80 : ∀ w, (zeroValue 80).run Try.prog w = .ok (.nilFunc) w := fun w => by kernel_rfl
instance : ZeroT Try.prog 80 (.nilFunc) #[.nilFunc] := ⟨z80, rfl⟩
instance : ScalarT Try.prog 80 := ⟨fun w => by kernel_rfl, by kernel_rfl⟩
instance : ElemT Try.prog 80 1 8 (.nilFunc) := ⟨by kernel_rfl⟩
-- 81: func(int) []api.Run
theorem z81 : ∀ w, (zeroValue 81).run Try.prog w = .ok (.nilFunc) w := fun w => by kernel_rfl
instance : ZeroT Try.prog 81 (.nilFunc) #[.nilFunc] := ⟨z81, rfl⟩
instance : ScalarT Try.prog 81 := ⟨fun w => by kernel_rfl, by kernel_rfl⟩
instance : ElemT Try.prog 81 1 8 (.nilFunc) := ⟨by kernel_rfl⟩
-- 82: func([]api.Run, []api.Run, func(bool, bool) bool) []api.Run
theorem z82 : ∀ w, (zeroValue 82).run Try.prog w = .ok (.nilFunc) w := fun w => by kernel_rfl
instance : ZeroT Try.prog 82 (.nilFunc) #[.nilFunc] := ⟨z82, rfl⟩
instance : ScalarT Try.prog 82 := ⟨fun w => by kernel_rfl, by kernel_rfl⟩
instance : ElemT Try.prog 82 1 8 (.nilFunc) := ⟨by kernel_rfl⟩
-- 83: func(bool, bool) bool
theorem z83 : ∀ w, (zeroValue 83).run Try.prog w = .ok (.nilFunc) w := fun w => by kernel_rfl
instance : ZeroT Try.prog 83 (.nilFunc) #[.nilFunc] := ⟨z83, rfl⟩
instance : ScalarT Try.prog 83 := ⟨fun w => by kernel_rfl, by kernel_rfl⟩
instance : ElemT Try.prog 83 1 8 (.nilFunc) := ⟨by kernel_rfl⟩
-- 84: func(int, int, func(int) []api.Run) (api.Region, api.Errno)
theorem z84 : ∀ w, (zeroValue 84).run Try.prog w = .ok (.nilFunc) w := fun w => by kernel_rfl
instance : ZeroT Try.prog 84 (.nilFunc) #[.nilFunc] := ⟨z84, rfl⟩
instance : ScalarT Try.prog 84 := ⟨fun w => by kernel_rfl, by kernel_rfl⟩
instance : ElemT Try.prog 84 1 8 (.nilFunc) := ⟨by kernel_rfl⟩
-- 85: func(int) bool
theorem z85 : ∀ w, (zeroValue 85).run Try.prog w = .ok (.nilFunc) w := fun w => by kernel_rfl
instance : ZeroT Try.prog 85 (.nilFunc) #[.nilFunc] := ⟨z85, rfl⟩
instance : ScalarT Try.prog 85 := ⟨fun w => by kernel_rfl, by kernel_rfl⟩
instance : ElemT Try.prog 85 1 8 (.nilFunc) := ⟨by kernel_rfl⟩
-- 86: func([][]api.Run, [][]api.Run) bool
theorem z86 : ∀ w, (zeroValue 86).run Try.prog w = .ok (.nilFunc) w := fun w => by kernel_rfl
instance : ZeroT Try.prog 86 (.nilFunc) #[.nilFunc] := ⟨z86, rfl⟩
instance : ScalarT Try.prog 86 := ⟨fun w => by kernel_rfl, by kernel_rfl⟩
instance : ElemT Try.prog 86 1 8 (.nilFunc) := ⟨by kernel_rfl⟩
-- 87: func([]api.Run) int
theorem z87 : ∀ w, (zeroValue 87).run Try.prog w = .ok (.nilFunc) w := fun w => by kernel_rfl
instance : ZeroT Try.prog 87 (.nilFunc) #[.nilFunc] := ⟨z87, rfl⟩
instance : ScalarT Try.prog 87 := ⟨fun w => by kernel_rfl, by kernel_rfl⟩
instance : ElemT Try.prog 87 1 8 (.nilFunc) := ⟨by kernel_rfl⟩
-- 88: func([]api.Run, int) bool
theorem z88 : ∀ w, (zeroValue 88).run Try.prog w = .ok (.nilFunc) w := fun w => by kernel_rfl
instance : ZeroT Try.prog 88 (.nilFunc) #[.nilFunc] := ⟨z88, rfl⟩
instance : ScalarT Try.prog 88 := ⟨fun w => by kernel_rfl, by kernel_rfl⟩
instance : ElemT Try.prog 88 1 8 (.nilFunc) := ⟨by kernel_rfl⟩
-- 89: func([]api.Run, int, int) []api.Run
theorem z89 : ∀ w, (zeroValue 89).run Try.prog w = .ok (.nilFunc) w := fun w => by kernel_rfl
instance : ZeroT Try.prog 89 (.nilFunc) #[.nilFunc] := ⟨z89, rfl⟩
instance : ScalarT Try.prog 89 := ⟨fun w => by kernel_rfl, by kernel_rfl⟩
instance : ElemT Try.prog 89 1 8 (.nilFunc) := ⟨by kernel_rfl⟩
-- 90: func([]api.Run) tympanref30.Row
theorem z90 : ∀ w, (zeroValue 90).run Try.prog w = .ok (.nilFunc) w := fun w => by kernel_rfl
instance : ZeroT Try.prog 90 (.nilFunc) #[.nilFunc] := ⟨z90, rfl⟩
instance : ScalarT Try.prog 90 := ⟨fun w => by kernel_rfl, by kernel_rfl⟩
instance : ElemT Try.prog 90 1 8 (.nilFunc) := ⟨by kernel_rfl⟩
-- 91: func([]uint8, []uint8) bool
theorem z91 : ∀ w, (zeroValue 91).run Try.prog w = .ok (.nilFunc) w := fun w => by kernel_rfl
instance : ZeroT Try.prog 91 (.nilFunc) #[.nilFunc] := ⟨z91, rfl⟩
instance : ScalarT Try.prog 91 := ⟨fun w => by kernel_rfl, by kernel_rfl⟩
instance : ElemT Try.prog 91 1 8 (.nilFunc) := ⟨by kernel_rfl⟩
-- 92: func(api.Mask, api.Mask, func(uint8, uint8) uint8) (api.Mask
theorem z92 : ∀ w, (zeroValue 92).run Try.prog w = .ok (.nilFunc) w := fun w => by kernel_rfl
instance : ZeroT Try.prog 92 (.nilFunc) #[.nilFunc] := ⟨z92, rfl⟩
instance : ScalarT Try.prog 92 := ⟨fun w => by kernel_rfl, by kernel_rfl⟩
instance : ElemT Try.prog 92 1 8 (.nilFunc) := ⟨by kernel_rfl⟩
-- 93: func(uint8, uint8) uint8
theorem z93 : ∀ w, (zeroValue 93).run Try.prog w = .ok (.nilFunc) w := fun w => by kernel_rfl
instance : ZeroT Try.prog 93 (.nilFunc) #[.nilFunc] := ⟨z93, rfl⟩
instance : ScalarT Try.prog 93 := ⟨fun w => by kernel_rfl, by kernel_rfl⟩
instance : ElemT Try.prog 93 1 8 (.nilFunc) := ⟨by kernel_rfl⟩
-- 94: func([]api.Seg) bool
theorem z94 : ∀ w, (zeroValue 94).run Try.prog w = .ok (.nilFunc) w := fun w => by kernel_rfl
instance : ZeroT Try.prog 94 (.nilFunc) #[.nilFunc] := ⟨z94, rfl⟩
instance : ScalarT Try.prog 94 := ⟨fun w => by kernel_rfl, by kernel_rfl⟩
instance : ElemT Try.prog 94 1 8 (.nilFunc) := ⟨by kernel_rfl⟩
-- 95: []api.Edge
theorem z95 : ∀ w, (zeroValue 95).run Try.prog w = .ok (.slice none 0 0) w := fun w => by kernel_rfl
instance : ZeroT Try.prog 95 (.slice none 0 0) #[.slice none 0 0] := ⟨z95, rfl⟩
instance : ScalarT Try.prog 95 := ⟨fun w => by kernel_rfl, by kernel_rfl⟩
instance : ElemT Try.prog 95 1 24 (.slice none 0 0) := ⟨by kernel_rfl⟩
instance : SliceT Try.prog 95 115 := ⟨Try.underlying95⟩
-- 96: func([]api.Seg) []api.Edge
theorem z96 : ∀ w, (zeroValue 96).run Try.prog w = .ok (.nilFunc) w := fun w => by kernel_rfl
instance : ZeroT Try.prog 96 (.nilFunc) #[.nilFunc] := ⟨z96, rfl⟩
instance : ScalarT Try.prog 96 := ⟨fun w => by kernel_rfl, by kernel_rfl⟩
instance : ElemT Try.prog 96 1 8 (.nilFunc) := ⟨by kernel_rfl⟩
-- 97: func([]api.Edge, int, int, int) []api.Run
theorem z97 : ∀ w, (zeroValue 97).run Try.prog w = .ok (.nilFunc) w := fun w => by kernel_rfl
instance : ZeroT Try.prog 97 (.nilFunc) #[.nilFunc] := ⟨z97, rfl⟩
instance : ScalarT Try.prog 97 := ⟨fun w => by kernel_rfl, by kernel_rfl⟩
instance : ElemT Try.prog 97 1 8 (.nilFunc) := ⟨by kernel_rfl⟩
-- 98: *tympanlaw25.L
theorem z98 : ∀ w, (zeroValue 98).run Try.prog w = .ok (.pointer none) w := fun w => by kernel_rfl
instance : ZeroT Try.prog 98 (.pointer none) #[.pointer none] := ⟨z98, rfl⟩
instance : ScalarT Try.prog 98 := ⟨fun w => by kernel_rfl, by kernel_rfl⟩
instance : ElemT Try.prog 98 1 8 (.pointer none) := ⟨by kernel_rfl⟩
-- 99: N
theorem z99 : ∀ w, (zeroValue 99).run Try.prog w = .ok (.agg #[.slice none 0 0]) w := fun w => by kernel_rfl
instance : ZeroT Try.prog 99 (.agg #[.slice none 0 0]) #[.slice none 0 0] := ⟨z99, rfl⟩
instance : RowT Try.prog 99 1 := ⟨fun w => by kernel_rfl, by kernel_rfl⟩
instance : ElemT Try.prog 99 1 24 (.agg #[.slice none 0 0]) := ⟨by kernel_rfl⟩
-- 100: tympan/tympanlaw25.L
theorem z100 : ∀ w, (zeroValue 100).run Try.prog w = .ok (.agg #[.slice none 0 0]) w := fun w => by kernel_rfl
instance : ZeroT Try.prog 100 (.agg #[.slice none 0 0]) #[.slice none 0 0] := ⟨z100, rfl⟩
instance : RowT Try.prog 100 1 := ⟨fun w => by kernel_rfl, by kernel_rfl⟩
instance : ElemT Try.prog 100 1 24 (.agg #[.slice none 0 0]) := ⟨by kernel_rfl⟩
-- 101: func([]api.Seg, bool) []api.Seg
theorem z101 : ∀ w, (zeroValue 101).run Try.prog w = .ok (.nilFunc) w := fun w => by kernel_rfl
instance : ZeroT Try.prog 101 (.nilFunc) #[.nilFunc] := ⟨z101, rfl⟩
instance : ScalarT Try.prog 101 := ⟨fun w => by kernel_rfl, by kernel_rfl⟩
instance : ElemT Try.prog 101 1 8 (.nilFunc) := ⟨by kernel_rfl⟩
-- 102: func([]api.Edge, int, int, int) bool
theorem z102 : ∀ w, (zeroValue 102).run Try.prog w = .ok (.nilFunc) w := fun w => by kernel_rfl
instance : ZeroT Try.prog 102 (.nilFunc) #[.nilFunc] := ⟨z102, rfl⟩
instance : ScalarT Try.prog 102 := ⟨fun w => by kernel_rfl, by kernel_rfl⟩
instance : ElemT Try.prog 102 1 8 (.nilFunc) := ⟨by kernel_rfl⟩
-- 103: tympan/span.places
theorem z103 : ∀ w, (zeroValue 103).run Try.prog w = .ok (.agg (arrB fun _ => false)) w := fun w => by rw [arrB_zero]; kernel_rfl
instance : ZeroT Try.prog 103 (.agg (arrB fun _ => false)) (arrB fun _ => false) := ⟨z103, rfl⟩
instance : RowT Try.prog 103 64 := ⟨fun w => by kernel_rfl, by kernel_rfl⟩
instance : ElemT Try.prog 103 64 64 (.agg (arrB fun _ => false)) := ⟨by rw [arrB_zero]; kernel_rfl⟩
instance : ArrT Try.prog 103 64 4 := ⟨Try.underlying103, fun w => by kernel_rfl, by kernel_rfl⟩
-- 104: func([64]bool, [64]bool, func(bool, bool) bool) [64]bool
theorem z104 : ∀ w, (zeroValue 104).run Try.prog w = .ok (.nilFunc) w := fun w => by kernel_rfl
instance : ZeroT Try.prog 104 (.nilFunc) #[.nilFunc] := ⟨z104, rfl⟩
instance : ScalarT Try.prog 104 := ⟨fun w => by kernel_rfl, by kernel_rfl⟩
instance : ElemT Try.prog 104 1 8 (.nilFunc) := ⟨by kernel_rfl⟩
-- 105: func([]api.Run) span.places
theorem z105 : ∀ w, (zeroValue 105).run Try.prog w = .ok (.nilFunc) w := fun w => by kernel_rfl
instance : ZeroT Try.prog 105 (.nilFunc) #[.nilFunc] := ⟨z105, rfl⟩
instance : ScalarT Try.prog 105 := ⟨fun w => by kernel_rfl, by kernel_rfl⟩
instance : ElemT Try.prog 105 1 8 (.nilFunc) := ⟨by kernel_rfl⟩
-- 106: func() []api.Run
theorem z106 : ∀ w, (zeroValue 106).run Try.prog w = .ok (.nilFunc) w := fun w => by kernel_rfl
instance : ZeroT Try.prog 106 (.nilFunc) #[.nilFunc] := ⟨z106, rfl⟩
instance : ScalarT Try.prog 106 := ⟨fun w => by kernel_rfl, by kernel_rfl⟩
instance : ElemT Try.prog 106 1 8 (.nilFunc) := ⟨by kernel_rfl⟩
-- 107: Kind
theorem z107 : ∀ w, (zeroValue 107).run Try.prog w = .ok (.agg #[.int .i64 0, .int .i64 0, .int .i64 0, .int .i64 0, .int .i64 0]) w := fun w => by kernel_rfl
instance : ZeroT Try.prog 107 (.agg #[.int .i64 0, .int .i64 0, .int .i64 0, .int .i64 0, .int .i64 0]) #[.int .i64 0, .int .i64 0, .int .i64 0, .int .i64 0, .int .i64 0] := ⟨z107, rfl⟩
instance : RowT Try.prog 107 5 := ⟨fun w => by kernel_rfl, by kernel_rfl⟩
instance : ElemT Try.prog 107 5 40 (.agg #[.int .i64 0, .int .i64 0, .int .i64 0, .int .i64 0, .int .i64 0]) := ⟨by kernel_rfl⟩
-- 108: tympan/api.Seg
theorem z108 : ∀ w, (zeroValue 108).run Try.prog w = .ok (.agg #[.int .i64 0, .int .i64 0, .int .i64 0, .int .i64 0, .int .i64 0]) w := fun w => by kernel_rfl
instance : ZeroT Try.prog 108 (.agg #[.int .i64 0, .int .i64 0, .int .i64 0, .int .i64 0, .int .i64 0]) #[.int .i64 0, .int .i64 0, .int .i64 0, .int .i64 0, .int .i64 0] := ⟨z108, rfl⟩
instance : RowT Try.prog 108 5 := ⟨fun w => by kernel_rfl, by kernel_rfl⟩
instance : ElemT Try.prog 108 5 40 (.agg #[.int .i64 0, .int .i64 0, .int .i64 0, .int .i64 0, .int .i64 0]) := ⟨by kernel_rfl⟩
-- 109: func(api.Seg, int) bool
theorem z109 : ∀ w, (zeroValue 109).run Try.prog w = .ok (.nilFunc) w := fun w => by kernel_rfl
instance : ZeroT Try.prog 109 (.nilFunc) #[.nilFunc] := ⟨z109, rfl⟩
instance : ScalarT Try.prog 109 := ⟨fun w => by kernel_rfl, by kernel_rfl⟩
instance : ElemT Try.prog 109 1 8 (.nilFunc) := ⟨by kernel_rfl⟩
-- 110: []path.Contour
theorem z110 : ∀ w, (zeroValue 110).run Try.prog w = .ok (.slice none 0 0) w := fun w => by kernel_rfl
instance : ZeroT Try.prog 110 (.slice none 0 0) #[.slice none 0 0] := ⟨z110, rfl⟩
instance : ScalarT Try.prog 110 := ⟨fun w => by kernel_rfl, by kernel_rfl⟩
instance : ElemT Try.prog 110 1 24 (.slice none 0 0) := ⟨by kernel_rfl⟩
instance : SliceT Try.prog 110 113 := ⟨Try.underlying110⟩
-- 111: func([]api.Seg) []path.Contour
theorem z111 : ∀ w, (zeroValue 111).run Try.prog w = .ok (.nilFunc) w := fun w => by kernel_rfl
instance : ZeroT Try.prog 111 (.nilFunc) #[.nilFunc] := ⟨z111, rfl⟩
instance : ScalarT Try.prog 111 := ⟨fun w => by kernel_rfl, by kernel_rfl⟩
instance : ElemT Try.prog 111 1 8 (.nilFunc) := ⟨by kernel_rfl⟩
-- 112: X
theorem z112 : ∀ w, (zeroValue 112).run Try.prog w = .ok (.agg #[.int .i64 0, .int .i64 0, .slice none 0 0, .bool false]) w := fun w => by kernel_rfl
instance : ZeroT Try.prog 112 (.agg #[.int .i64 0, .int .i64 0, .slice none 0 0, .bool false]) #[.int .i64 0, .int .i64 0, .slice none 0 0, .bool false] := ⟨z112, rfl⟩
instance : RowT Try.prog 112 4 := ⟨fun w => by kernel_rfl, by kernel_rfl⟩
instance : ElemT Try.prog 112 4 48 (.agg #[.int .i64 0, .int .i64 0, .slice none 0 0, .bool false]) := ⟨by kernel_rfl⟩
-- 113: tympan/path.Contour
theorem z113 : ∀ w, (zeroValue 113).run Try.prog w = .ok (.agg #[.int .i64 0, .int .i64 0, .slice none 0 0, .bool false]) w := fun w => by kernel_rfl
instance : ZeroT Try.prog 113 (.agg #[.int .i64 0, .int .i64 0, .slice none 0 0, .bool false]) #[.int .i64 0, .int .i64 0, .slice none 0 0, .bool false] := ⟨z113, rfl⟩
instance : RowT Try.prog 113 4 := ⟨fun w => by kernel_rfl, by kernel_rfl⟩
instance : ElemT Try.prog 113 4 48 (.agg #[.int .i64 0, .int .i64 0, .slice none 0 0, .bool false]) := ⟨by kernel_rfl⟩
-- 114: X0
theorem z114 : ∀ w, (zeroValue 114).run Try.prog w = .ok (.agg #[.int .i64 0, .int .i64 0, .bool false, .int .i64 0, .int .i64 0, .int .i64 0, .int .i64 0]) w := fun w => by kernel_rfl
instance : ZeroT Try.prog 114 (.agg #[.int .i64 0, .int .i64 0, .bool false, .int .i64 0, .int .i64 0, .int .i64 0, .int .i64 0]) #[.int .i64 0, .int .i64 0, .bool false, .int .i64 0, .int .i64 0, .int .i64 0, .int .i64 0] := ⟨z114, rfl⟩
instance : RowT Try.prog 114 7 := ⟨fun w => by kernel_rfl, by kernel_rfl⟩
instance : ElemT Try.prog 114 7 56 (.agg #[.int .i64 0, .int .i64 0, .bool false, .int .i64 0, .int .i64 0, .int .i64 0, .int .i64 0]) := ⟨by kernel_rfl⟩
-- 115: tympan/api.Edge
theorem z115 : ∀ w, (zeroValue 115).run Try.prog w = .ok (.agg #[.int .i64 0, .int .i64 0, .bool false, .int .i64 0, .int .i64 0, .int .i64 0, .int .i64 0]) w := fun w => by kernel_rfl
instance : ZeroT Try.prog 115 (.agg #[.int .i64 0, .int .i64 0, .bool false, .int .i64 0, .int .i64 0, .int .i64 0, .int .i64 0]) #[.int .i64 0, .int .i64 0, .bool false, .int .i64 0, .int .i64 0, .int .i64 0, .int .i64 0] := ⟨z115, rfl⟩
instance : RowT Try.prog 115 7 := ⟨fun w => by kernel_rfl, by kernel_rfl⟩
instance : ElemT Try.prog 115 7 56 (.agg #[.int .i64 0, .int .i64 0, .bool false, .int .i64 0, .int .i64 0, .int .i64 0, .int .i64 0]) := ⟨by kernel_rfl⟩
-- 116: [65]int
theorem z116 : ∀ w, (zeroValue 116).run Try.prog w = .ok (.agg (arrI 65 fun _ => 0)) w := fun w => by rw [arrI_zero]; kernel_rfl
instance : ZeroT Try.prog 116 (.agg (arrI 65 fun _ => 0)) (arrI 65 fun _ => 0) := ⟨z116, rfl⟩
instance : RowT Try.prog 116 65 := ⟨fun w => by kernel_rfl, by kernel_rfl⟩
instance : ElemT Try.prog 116 65 520 (.agg (arrI 65 fun _ => 0)) := ⟨by rw [arrI_zero]; kernel_rfl⟩
instance : ArrT Try.prog 116 65 3 := ⟨Try.underlying116, fun w => by kernel_rfl, by kernel_rfl⟩
-- 117: []bow.Cross
theorem z117 : ∀ w, (zeroValue 117).run Try.prog w = .ok (.slice none 0 0) w := fun w => by kernel_rfl
instance : ZeroT Try.prog 117 (.slice none 0 0) #[.slice none 0 0] := ⟨z117, rfl⟩
instance : ScalarT Try.prog 117 := ⟨fun w => by kernel_rfl, by kernel_rfl⟩
instance : ElemT Try.prog 117 1 24 (.slice none 0 0) := ⟨by kernel_rfl⟩
instance : SliceT Try.prog 117 120 := ⟨Try.underlying117⟩
-- 118: func(api.Edge, int, int) []bow.Cross
theorem z118 : ∀ w, (zeroValue 118).run Try.prog w = .ok (.nilFunc) w := fun w => by kernel_rfl
instance : ZeroT Try.prog 118 (.nilFunc) #[.nilFunc] := ⟨z118, rfl⟩
instance : ScalarT Try.prog 118 := ⟨fun w => by kernel_rfl, by kernel_rfl⟩
instance : ElemT Try.prog 118 1 8 (.nilFunc) := ⟨by kernel_rfl⟩
-- 119: Turn
theorem z119 : ∀ w, (zeroValue 119).run Try.prog w = .ok (.agg #[.int .i64 0, .int .i64 0]) w := fun w => by kernel_rfl
instance : ZeroT Try.prog 119 (.agg #[.int .i64 0, .int .i64 0]) #[.int .i64 0, .int .i64 0] := ⟨z119, rfl⟩
instance : RowT Try.prog 119 2 := ⟨fun w => by kernel_rfl, by kernel_rfl⟩
instance : ElemT Try.prog 119 2 16 (.agg #[.int .i64 0, .int .i64 0]) := ⟨by kernel_rfl⟩
-- 120: tympan/bow.Cross
theorem z120 : ∀ w, (zeroValue 120).run Try.prog w = .ok (.agg #[.int .i64 0, .int .i64 0]) w := fun w => by kernel_rfl
instance : ZeroT Try.prog 120 (.agg #[.int .i64 0, .int .i64 0]) #[.int .i64 0, .int .i64 0] := ⟨z120, rfl⟩
instance : RowT Try.prog 120 2 := ⟨fun w => by kernel_rfl, by kernel_rfl⟩
instance : ElemT Try.prog 120 2 16 (.agg #[.int .i64 0, .int .i64 0]) := ⟨by kernel_rfl⟩
-- 121: func() int
theorem z121 : ∀ w, (zeroValue 121).run Try.prog w = .ok (.nilFunc) w := fun w => by kernel_rfl
instance : ZeroT Try.prog 121 (.nilFunc) #[.nilFunc] := ⟨z121, rfl⟩
instance : ScalarT Try.prog 121 := ⟨fun w => by kernel_rfl, by kernel_rfl⟩
instance : ElemT Try.prog 121 1 8 (.nilFunc) := ⟨by kernel_rfl⟩
-- 122: func([]api.Edge, int, int) int
theorem z122 : ∀ w, (zeroValue 122).run Try.prog w = .ok (.nilFunc) w := fun w => by kernel_rfl
instance : ZeroT Try.prog 122 (.nilFunc) #[.nilFunc] := ⟨z122, rfl⟩
instance : ScalarT Try.prog 122 := ⟨fun w => by kernel_rfl, by kernel_rfl⟩
instance : ElemT Try.prog 122 1 8 (.nilFunc) := ⟨by kernel_rfl⟩
-- 123: func(...int) bool
theorem z123 : ∀ w, (zeroValue 123).run Try.prog w = .ok (.nilFunc) w := fun w => by kernel_rfl
instance : ZeroT Try.prog 123 (.nilFunc) #[.nilFunc] := ⟨z123, rfl⟩
instance : ScalarT Try.prog 123 := ⟨fun w => by kernel_rfl, by kernel_rfl⟩
instance : ElemT Try.prog 123 1 8 (.nilFunc) := ⟨by kernel_rfl⟩
-- 124: *path.Contour
theorem z124 : ∀ w, (zeroValue 124).run Try.prog w = .ok (.pointer none) w := fun w => by kernel_rfl
instance : ZeroT Try.prog 124 (.pointer none) #[.pointer none] := ⟨z124, rfl⟩
instance : ScalarT Try.prog 124 := ⟨fun w => by kernel_rfl, by kernel_rfl⟩
instance : ElemT Try.prog 124 1 8 (.pointer none) := ⟨by kernel_rfl⟩
-- 125: func(api.Edge) bool
theorem z125 : ∀ w, (zeroValue 125).run Try.prog w = .ok (.nilFunc) w := fun w => by kernel_rfl
instance : ZeroT Try.prog 125 (.nilFunc) #[.nilFunc] := ⟨z125, rfl⟩
instance : ScalarT Try.prog 125 := ⟨fun w => by kernel_rfl, by kernel_rfl⟩
instance : ElemT Try.prog 125 1 8 (.nilFunc) := ⟨by kernel_rfl⟩
-- 126: turn
theorem z126 : ∀ w, (zeroValue 126).run Try.prog w = .ok (.agg #[.int .i64 0, .int .i64 0, .int .i64 0, .int .i64 0, .int .i64 0]) w := fun w => by kernel_rfl
instance : ZeroT Try.prog 126 (.agg #[.int .i64 0, .int .i64 0, .int .i64 0, .int .i64 0, .int .i64 0]) #[.int .i64 0, .int .i64 0, .int .i64 0, .int .i64 0, .int .i64 0] := ⟨z126, rfl⟩
instance : RowT Try.prog 126 5 := ⟨fun w => by kernel_rfl, by kernel_rfl⟩
instance : ElemT Try.prog 126 5 40 (.agg #[.int .i64 0, .int .i64 0, .int .i64 0, .int .i64 0, .int .i64 0]) := ⟨by kernel_rfl⟩
-- 127: tympan/bow.spot
theorem z127 : ∀ w, (zeroValue 127).run Try.prog w = .ok (.agg #[.int .i64 0, .int .i64 0, .int .i64 0, .int .i64 0, .int .i64 0]) w := fun w => by kernel_rfl
instance : ZeroT Try.prog 127 (.agg #[.int .i64 0, .int .i64 0, .int .i64 0, .int .i64 0, .int .i64 0]) #[.int .i64 0, .int .i64 0, .int .i64 0, .int .i64 0, .int .i64 0] := ⟨z127, rfl⟩
instance : RowT Try.prog 127 5 := ⟨fun w => by kernel_rfl, by kernel_rfl⟩
instance : ElemT Try.prog 127 5 40 (.agg #[.int .i64 0, .int .i64 0, .int .i64 0, .int .i64 0, .int .i64 0]) := ⟨by kernel_rfl⟩
-- 128: [2]bow.spot
theorem z128 : ∀ w, (zeroValue 128).run Try.prog w = .ok (.agg #[.int .i64 0, .int .i64 0, .int .i64 0, .int .i64 0, .int .i64 0, .int .i64 0, .int .i64 0, .int .i64 0, .int .i64 0, .int .i64 0]) w := fun w => by kernel_rfl
instance : ZeroT Try.prog 128 (.agg #[.int .i64 0, .int .i64 0, .int .i64 0, .int .i64 0, .int .i64 0, .int .i64 0, .int .i64 0, .int .i64 0, .int .i64 0, .int .i64 0]) #[.int .i64 0, .int .i64 0, .int .i64 0, .int .i64 0, .int .i64 0, .int .i64 0, .int .i64 0, .int .i64 0, .int .i64 0, .int .i64 0] := ⟨z128, rfl⟩
instance : RowT Try.prog 128 10 := ⟨fun w => by kernel_rfl, by kernel_rfl⟩
instance : ElemT Try.prog 128 10 80 (.agg #[.int .i64 0, .int .i64 0, .int .i64 0, .int .i64 0, .int .i64 0, .int .i64 0, .int .i64 0, .int .i64 0, .int .i64 0, .int .i64 0]) := ⟨by kernel_rfl⟩
-- 129: func(api.Edge, int) [2]bow.spot
theorem z129 : ∀ w, (zeroValue 129).run Try.prog w = .ok (.nilFunc) w := fun w => by kernel_rfl
instance : ZeroT Try.prog 129 (.nilFunc) #[.nilFunc] := ⟨z129, rfl⟩
instance : ScalarT Try.prog 129 := ⟨fun w => by kernel_rfl, by kernel_rfl⟩
instance : ElemT Try.prog 129 1 8 (.nilFunc) := ⟨by kernel_rfl⟩
-- 131: func(int, int, int, int) (int, bool)
theorem z131 : ∀ w, (zeroValue 131).run Try.prog w = .ok (.nilFunc) w := fun w => by kernel_rfl
instance : ZeroT Try.prog 131 (.nilFunc) #[.nilFunc] := ⟨z131, rfl⟩
instance : ScalarT Try.prog 131 := ⟨fun w => by kernel_rfl, by kernel_rfl⟩
instance : ElemT Try.prog 131 1 8 (.nilFunc) := ⟨by kernel_rfl⟩
-- 132: *wind.point
theorem z132 : ∀ w, (zeroValue 132).run Try.prog w = .ok (.pointer none) w := fun w => by kernel_rfl
instance : ZeroT Try.prog 132 (.pointer none) #[.pointer none] := ⟨z132, rfl⟩
instance : ScalarT Try.prog 132 := ⟨fun w => by kernel_rfl, by kernel_rfl⟩
instance : ElemT Try.prog 132 1 8 (.pointer none) := ⟨by kernel_rfl⟩
-- 133: x
theorem z133 : ∀ w, (zeroValue 133).run Try.prog w = .ok (.agg #[.int .i64 0, .int .i64 0, .int .i64 0]) w := fun w => by kernel_rfl
instance : ZeroT Try.prog 133 (.agg #[.int .i64 0, .int .i64 0, .int .i64 0]) #[.int .i64 0, .int .i64 0, .int .i64 0] := ⟨z133, rfl⟩
instance : RowT Try.prog 133 3 := ⟨fun w => by kernel_rfl, by kernel_rfl⟩
instance : ElemT Try.prog 133 3 24 (.agg #[.int .i64 0, .int .i64 0, .int .i64 0]) := ⟨by kernel_rfl⟩
-- 134: tympan/wind.point
theorem z134 : ∀ w, (zeroValue 134).run Try.prog w = .ok (.agg #[.int .i64 0, .int .i64 0, .int .i64 0]) w := fun w => by kernel_rfl
instance : ZeroT Try.prog 134 (.agg #[.int .i64 0, .int .i64 0, .int .i64 0]) #[.int .i64 0, .int .i64 0, .int .i64 0] := ⟨z134, rfl⟩
instance : RowT Try.prog 134 3 := ⟨fun w => by kernel_rfl, by kernel_rfl⟩
instance : ElemT Try.prog 134 3 24 (.agg #[.int .i64 0, .int .i64 0, .int .i64 0]) := ⟨by kernel_rfl⟩
-- 135: func(api.Edge)
theorem z135 : ∀ w, (zeroValue 135).run Try.prog w = .ok (.nilFunc) w := fun w => by kernel_rfl
instance : ZeroT Try.prog 135 (.nilFunc) #[.nilFunc] := ⟨z135, rfl⟩
instance : ScalarT Try.prog 135 := ⟨fun w => by kernel_rfl, by kernel_rfl⟩
instance : ElemT Try.prog 135 1 8 (.nilFunc) := ⟨by kernel_rfl⟩
-- 136: func(api.Edge, int) bow.spot
theorem z136 : ∀ w, (zeroValue 136).run Try.prog w = .ok (.nilFunc) w := fun w => by kernel_rfl
instance : ZeroT Try.prog 136 (.nilFunc) #[.nilFunc] := ⟨z136, rfl⟩
instance : ScalarT Try.prog 136 := ⟨fun w => by kernel_rfl, by kernel_rfl⟩
instance : ElemT Try.prog 136 1 8 (.nilFunc) := ⟨by kernel_rfl⟩
-- 137: func(int, int) bool
theorem z137 : ∀ w, (zeroValue 137).run Try.prog w = .ok (.nilFunc) w := fun w => by kernel_rfl
instance : ZeroT Try.prog 137 (.nilFunc) #[.nilFunc] := ⟨z137, rfl⟩
instance : ScalarT Try.prog 137 := ⟨fun w => by kernel_rfl, by kernel_rfl⟩
instance : ElemT Try.prog 137 1 8 (.nilFunc) := ⟨by kernel_rfl⟩
-- 138: func(int, int, int) (int, bool)
theorem z138 : ∀ w, (zeroValue 138).run Try.prog w = .ok (.nilFunc) w := fun w => by kernel_rfl
instance : ZeroT Try.prog 138 (.nilFunc) #[.nilFunc] := ⟨z138, rfl⟩
instance : ScalarT Try.prog 138 := ⟨fun w => by kernel_rfl, by kernel_rfl⟩
instance : ElemT Try.prog 138 1 8 (.nilFunc) := ⟨by kernel_rfl⟩
-- 139: func(api.Edge, int, int) int
theorem z139 : ∀ w, (zeroValue 139).run Try.prog w = .ok (.nilFunc) w := fun w => by kernel_rfl
instance : ZeroT Try.prog 139 (.nilFunc) #[.nilFunc] := ⟨z139, rfl⟩
instance : ScalarT Try.prog 139 := ⟨fun w => by kernel_rfl, by kernel_rfl⟩
instance : ElemT Try.prog 139 1 8 (.nilFunc) := ⟨by kernel_rfl⟩
-- 140: func(int, int, int, int, int) bow.spot
theorem z140 : ∀ w, (zeroValue 140).run Try.prog w = .ok (.nilFunc) w := fun w => by kernel_rfl
instance : ZeroT Try.prog 140 (.nilFunc) #[.nilFunc] := ⟨z140, rfl⟩
instance : ScalarT Try.prog 140 := ⟨fun w => by kernel_rfl, by kernel_rfl⟩
instance : ElemT Try.prog 140 1 8 (.nilFunc) := ⟨by kernel_rfl⟩
-- 141: [2]int
theorem z141 : ∀ w, (zeroValue 141).run Try.prog w = .ok (.agg #[.int .i64 0, .int .i64 0]) w := fun w => by kernel_rfl
instance : ZeroT Try.prog 141 (.agg #[.int .i64 0, .int .i64 0]) #[.int .i64 0, .int .i64 0] := ⟨z141, rfl⟩
instance : RowT Try.prog 141 2 := ⟨fun w => by kernel_rfl, by kernel_rfl⟩
instance : ElemT Try.prog 141 2 16 (.agg #[.int .i64 0, .int .i64 0]) := ⟨by kernel_rfl⟩
instance : ArrT Try.prog 141 2 3 := ⟨Try.underlying141, fun w => by kernel_rfl, by kernel_rfl⟩
-- 142: func(int, int, int) int
theorem z142 : ∀ w, (zeroValue 142).run Try.prog w = .ok (.nilFunc) w := fun w => by kernel_rfl
instance : ZeroT Try.prog 142 (.nilFunc) #[.nilFunc] := ⟨z142, rfl⟩
instance : ScalarT Try.prog 142 := ⟨fun w => by kernel_rfl, by kernel_rfl⟩
instance : ElemT Try.prog 142 1 8 (.nilFunc) := ⟨by kernel_rfl⟩
-- 143: func(int, int, int, int) int
theorem z143 : ∀ w, (zeroValue 143).run Try.prog w = .ok (.nilFunc) w := fun w => by kernel_rfl
instance : ZeroT Try.prog 143 (.nilFunc) #[.nilFunc] := ⟨z143, rfl⟩
instance : ScalarT Try.prog 143 := ⟨fun w => by kernel_rfl, by kernel_rfl⟩
instance : ElemT Try.prog 143 1 8 (.nilFunc) := ⟨by kernel_rfl⟩
-- 144: uint64
theorem z144 : ∀ w, (zeroValue 144).run Try.prog w = .ok (.int .u64 0) w := fun w => by kernel_rfl
instance : ZeroT Try.prog 144 (.int .u64 0) #[.int .u64 0] := ⟨z144, rfl⟩
instance : ScalarT Try.prog 144 := ⟨fun w => by kernel_rfl, by kernel_rfl⟩
instance : ElemT Try.prog 144 1 8 (.int .u64 0) := ⟨by kernel_rfl⟩
-- 146: func(int, int) (int, uint64)
theorem z146 : ∀ w, (zeroValue 146).run Try.prog w = .ok (.nilFunc) w := fun w => by kernel_rfl
instance : ZeroT Try.prog 146 (.nilFunc) #[.nilFunc] := ⟨z146, rfl⟩
instance : ScalarT Try.prog 146 := ⟨fun w => by kernel_rfl, by kernel_rfl⟩
instance : ElemT Try.prog 146 1 8 (.nilFunc) := ⟨by kernel_rfl⟩
-- 148: func(uint64, uint64) (uint64, uint64)
theorem z148 : ∀ w, (zeroValue 148).run Try.prog w = .ok (.nilFunc) w := fun w => by kernel_rfl
instance : ZeroT Try.prog 148 (.nilFunc) #[.nilFunc] := ⟨z148, rfl⟩
instance : ScalarT Try.prog 148 := ⟨fun w => by kernel_rfl, by kernel_rfl⟩
instance : ElemT Try.prog 148 1 8 (.nilFunc) := ⟨by kernel_rfl⟩
-- 149: func(int) uint64
theorem z149 : ∀ w, (zeroValue 149).run Try.prog w = .ok (.nilFunc) w := fun w => by kernel_rfl
instance : ZeroT Try.prog 149 (.nilFunc) #[.nilFunc] := ⟨z149, rfl⟩
instance : ScalarT Try.prog 149 := ⟨fun w => by kernel_rfl, by kernel_rfl⟩
instance : ElemT Try.prog 149 1 8 (.nilFunc) := ⟨by kernel_rfl⟩
-- 150: [4]uint64
theorem z150 : ∀ w, (zeroValue 150).run Try.prog w = .ok (.agg #[.int .u64 0, .int .u64 0, .int .u64 0, .int .u64 0]) w := fun w => by kernel_rfl
instance : ZeroT Try.prog 150 (.agg #[.int .u64 0, .int .u64 0, .int .u64 0, .int .u64 0]) #[.int .u64 0, .int .u64 0, .int .u64 0, .int .u64 0] := ⟨z150, rfl⟩
instance : RowT Try.prog 150 4 := ⟨fun w => by kernel_rfl, by kernel_rfl⟩
instance : ElemT Try.prog 150 4 32 (.agg #[.int .u64 0, .int .u64 0, .int .u64 0, .int .u64 0]) := ⟨by kernel_rfl⟩
instance : ArrT Try.prog 150 4 144 := ⟨Try.underlying150, fun w => by kernel_rfl, by kernel_rfl⟩
-- 151: func() string
theorem z151 : ∀ w, (zeroValue 151).run Try.prog w = .ok (.nilFunc) w := fun w => by kernel_rfl
instance : ZeroT Try.prog 151 (.nilFunc) #[.nilFunc] := ⟨z151, rfl⟩
instance : ScalarT Try.prog 151 := ⟨fun w => by kernel_rfl, by kernel_rfl⟩
instance : ElemT Try.prog 151 1 8 (.nilFunc) := ⟨by kernel_rfl⟩
-- 157: uint32
theorem z157 : ∀ w, (zeroValue 157).run Try.prog w = .ok (.int .u32 0) w := fun w => by kernel_rfl
instance : ZeroT Try.prog 157 (.int .u32 0) #[.int .u32 0] := ⟨z157, rfl⟩
instance : ScalarT Try.prog 157 := ⟨fun w => by kernel_rfl, by kernel_rfl⟩
instance : ElemT Try.prog 157 1 4 (.int .u32 0) := ⟨by kernel_rfl⟩
-- 160: func(unsafe.Pointer, unsafe.Pointer) bool
theorem z160 : ∀ w, (zeroValue 160).run Try.prog w = .ok (.nilFunc) w := fun w => by kernel_rfl
instance : ZeroT Try.prog 160 (.nilFunc) #[.nilFunc] := ⟨z160, rfl⟩
instance : ScalarT Try.prog 160 := ⟨fun w => by kernel_rfl, by kernel_rfl⟩
instance : ElemT Try.prog 160 1 8 (.nilFunc) := ⟨by kernel_rfl⟩
-- 161: *uint8
theorem z161 : ∀ w, (zeroValue 161).run Try.prog w = .ok (.pointer none) w := fun w => by kernel_rfl
instance : ZeroT Try.prog 161 (.pointer none) #[.pointer none] := ⟨z161, rfl⟩
instance : ScalarT Try.prog 161 := ⟨fun w => by kernel_rfl, by kernel_rfl⟩
instance : ElemT Try.prog 161 1 8 (.pointer none) := ⟨by kernel_rfl⟩
-- 164: Size_
theorem z164 : ∀ w, (zeroValue 164).run Try.prog w = .ok (.agg #[.int .u64 0, .int .u64 0, .int .u32 0, .int .u8 0, .int .u8 0, .int .u8 0, .int .u8 0, .nilFunc, .pointer none, .int .i32 0, .int .i32 0]) w := fun w => by kernel_rfl
instance : ZeroT Try.prog 164 (.agg #[.int .u64 0, .int .u64 0, .int .u32 0, .int .u8 0, .int .u8 0, .int .u8 0, .int .u8 0, .nilFunc, .pointer none, .int .i32 0, .int .i32 0]) #[.int .u64 0, .int .u64 0, .int .u32 0, .int .u8 0, .int .u8 0, .int .u8 0, .int .u8 0, .nilFunc, .pointer none, .int .i32 0, .int .i32 0] := ⟨z164, rfl⟩
instance : RowT Try.prog 164 11 := ⟨fun w => by kernel_rfl, by kernel_rfl⟩
instance : ElemT Try.prog 164 11 48 (.agg #[.int .u64 0, .int .u64 0, .int .u32 0, .int .u8 0, .int .u8 0, .int .u8 0, .int .u8 0, .nilFunc, .pointer none, .int .i32 0, .int .i32 0]) := ⟨by kernel_rfl⟩
end Go.Proofs.Ytjgnbmgdnfldeaa
