/- What the types of this seat's program are: by program (gen_types.py). -/
import Derived.Test.YtfnolaoohmecbaaProg
import Derived.Test.YtfnolaoohmecbaaHoldM
import Derived.KernelRfl
namespace Go.Proofs.Ytfnolaoohmecbaa
-- 1: func()
theorem z1 : ∀ w, (zeroValue 1).run Try.prog w = .ok (.nilFunc) w := fun w => by kernel_rfl
instance : ZeroT Try.prog 1 (.nilFunc) #[.nilFunc] := ⟨z1, rfl⟩
instance : ScalarT Try.prog 1 := ⟨fun w => by kernel_rfl, by kernel_rfl⟩
instance : ElemT Try.prog 1 1 8 (.nilFunc) := ⟨by kernel_rfl⟩
-- 2: int64
theorem z2 : ∀ w, (zeroValue 2).run Try.prog w = .ok (.int .i64 0) w := fun w => by kernel_rfl
instance : ZeroT Try.prog 2 (.int .i64 0) #[.int .i64 0] := ⟨z2, rfl⟩
instance : ScalarT Try.prog 2 := ⟨fun w => by kernel_rfl, by kernel_rfl⟩
instance : ElemT Try.prog 2 1 8 (.int .i64 0) := ⟨by kernel_rfl⟩
-- 3: int
theorem z3 : ∀ w, (zeroValue 3).run Try.prog w = .ok (.int .i64 0) w := fun w => by kernel_rfl
instance : ZeroT Try.prog 3 (.int .i64 0) #[.int .i64 0] := ⟨z3, rfl⟩
instance : ScalarT Try.prog 3 := ⟨fun w => by kernel_rfl, by kernel_rfl⟩
instance : ElemT Try.prog 3 1 8 (.int .i64 0) := ⟨by kernel_rfl⟩
-- 4: bool
theorem z4 : ∀ w, (zeroValue 4).run Try.prog w = .ok (.bool false) w := fun w => by kernel_rfl
instance : ZeroT Try.prog 4 (.bool false) #[.bool false] := ⟨z4, rfl⟩
instance : ScalarT Try.prog 4 := ⟨fun w => by kernel_rfl, by kernel_rfl⟩
instance : ElemT Try.prog 4 1 1 (.bool false) := ⟨by kernel_rfl⟩
-- 5: uint8
theorem z5 : ∀ w, (zeroValue 5).run Try.prog w = .ok (.int .u8 0) w := fun w => by kernel_rfl
instance : ZeroT Try.prog 5 (.int .u8 0) #[.int .u8 0] := ⟨z5, rfl⟩
instance : ScalarT Try.prog 5 := ⟨fun w => by kernel_rfl, by kernel_rfl⟩
instance : ElemT Try.prog 5 1 1 (.int .u8 0) := ⟨by kernel_rfl⟩
-- 9: string
theorem z9 : ∀ w, (zeroValue 9).run Try.prog w = .ok (.string ByteArray.empty) w := fun w => by kernel_rfl
instance : ZeroT Try.prog 9 (.string ByteArray.empty) #[.string ByteArray.empty] := ⟨z9, rfl⟩
instance : ScalarT Try.prog 9 := ⟨fun w => by kernel_rfl, by kernel_rfl⟩
instance : ElemT Try.prog 9 1 16 (.string ByteArray.empty) := ⟨by kernel_rfl⟩
-- 12: uintptr
theorem z12 : ∀ w, (zeroValue 12).run Try.prog w = .ok (.int .u64 0) w := fun w => by kernel_rfl
instance : ZeroT Try.prog 12 (.int .u64 0) #[.int .u64 0] := ⟨z12, rfl⟩
instance : ScalarT Try.prog 12 := ⟨fun w => by kernel_rfl, by kernel_rfl⟩
instance : ElemT Try.prog 12 1 8 (.int .u64 0) := ⟨by kernel_rfl⟩
-- 17: *abi.Type
theorem z17 : ∀ w, (zeroValue 17).run Try.prog w = .ok (.pointer none) w := fun w => by kernel_rfl
instance : ZeroT Try.prog 17 (.pointer none) #[.pointer none] := ⟨z17, rfl⟩
instance : ScalarT Try.prog 17 := ⟨fun w => by kernel_rfl, by kernel_rfl⟩
instance : ElemT Try.prog 17 1 8 (.pointer none) := ⟨by kernel_rfl⟩
-- 21: int32
theorem z21 : ∀ w, (zeroValue 21).run Try.prog w = .ok (.int .i32 0) w := fun w => by kernel_rfl
instance : ZeroT Try.prog 21 (.int .i32 0) #[.int .i32 0] := ⟨z21, rfl⟩
instance : ScalarT Try.prog 21 := ⟨fun w => by kernel_rfl, by kernel_rfl⟩
instance : ElemT Try.prog 21 1 4 (.int .i32 0) := ⟨by kernel_rfl⟩
-- 22: []api.Seg
theorem z22 : ∀ w, (zeroValue 22).run Try.prog w = .ok (.slice none 0 0) w := fun w => by kernel_rfl
instance : ZeroT Try.prog 22 (.slice none 0 0) #[.slice none 0 0] := ⟨z22, rfl⟩
instance : ScalarT Try.prog 22 := ⟨fun w => by kernel_rfl, by kernel_rfl⟩
instance : ElemT Try.prog 22 1 24 (.slice none 0 0) := ⟨by kernel_rfl⟩
instance : SliceT Try.prog 22 51 := ⟨Try.underlying22⟩
-- 23: Wide
theorem z23 : ∀ w, (zeroValue 23).run Try.prog w = .ok (.agg #[.int .i64 0, .int .i64 0, .int .i64 0]) w := fun w => by kernel_rfl
instance : ZeroT Try.prog 23 (.agg #[.int .i64 0, .int .i64 0, .int .i64 0]) #[.int .i64 0, .int .i64 0, .int .i64 0] := ⟨z23, rfl⟩
instance : RowT Try.prog 23 3 := ⟨fun w => by kernel_rfl, by kernel_rfl⟩
instance : ElemT Try.prog 23 3 24 (.agg #[.int .i64 0, .int .i64 0, .int .i64 0]) := ⟨by kernel_rfl⟩
-- 24: tympan/api.Style
theorem z24 : ∀ w, (zeroValue 24).run Try.prog w = .ok (.agg #[.int .i64 0, .int .i64 0, .int .i64 0]) w := fun w => by kernel_rfl
instance : ZeroT Try.prog 24 (.agg #[.int .i64 0, .int .i64 0, .int .i64 0]) #[.int .i64 0, .int .i64 0, .int .i64 0] := ⟨z24, rfl⟩
instance : RowT Try.prog 24 3 := ⟨fun w => by kernel_rfl, by kernel_rfl⟩
instance : ElemT Try.prog 24 3 24 (.agg #[.int .i64 0, .int .i64 0, .int .i64 0]) := ⟨by kernel_rfl⟩
-- 25: func() bool
theorem z25 : ∀ w, (zeroValue 25).run Try.prog w = .ok (.nilFunc) w := fun w => by kernel_rfl
instance : ZeroT Try.prog 25 (.nilFunc) #[.nilFunc] := ⟨z25, rfl⟩
instance : ScalarT Try.prog 25 := ⟨fun w => by kernel_rfl, by kernel_rfl⟩
instance : ElemT Try.prog 25 1 8 (.nilFunc) := ⟨by kernel_rfl⟩
-- 26: [64]bool
theorem z26 : ∀ w, (zeroValue 26).run Try.prog w = .ok (.agg (arrB fun _ => false)) w := fun w => by rw [arrB_zero]; kernel_rfl
instance : ZeroT Try.prog 26 (.agg (arrB fun _ => false)) (arrB fun _ => false) := ⟨z26, rfl⟩
instance : RowT Try.prog 26 64 := ⟨fun w => by kernel_rfl, by kernel_rfl⟩
instance : ElemT Try.prog 26 64 64 (.agg (arrB fun _ => false)) := ⟨by rw [arrB_zero]; kernel_rfl⟩
instance : ArrT Try.prog 26 64 4 := ⟨Try.underlying26, fun w => by kernel_rfl, by kernel_rfl⟩
-- 27: tympan/tympanref30.Row
theorem z27 : ∀ w, (zeroValue 27).run Try.prog w = .ok (.agg (arrB fun _ => false)) w := fun w => by rw [arrB_zero]; kernel_rfl
instance : ZeroT Try.prog 27 (.agg (arrB fun _ => false)) (arrB fun _ => false) := ⟨z27, rfl⟩
instance : RowT Try.prog 27 64 := ⟨fun w => by kernel_rfl, by kernel_rfl⟩
instance : ElemT Try.prog 27 64 64 (.agg (arrB fun _ => false)) := ⟨by rw [arrB_zero]; kernel_rfl⟩
instance : ArrT Try.prog 27 64 4 := ⟨Try.underlying27, fun w => by kernel_rfl, by kernel_rfl⟩
-- 28: func([]api.Seg, api.Style, int, int) bool
theorem z28 : ∀ w, (zeroValue 28).run Try.prog w = .ok (.nilFunc) w := fun w => by kernel_rfl
instance : ZeroT Try.prog 28 (.nilFunc) #[.nilFunc] := ⟨z28, rfl⟩
instance : ScalarT Try.prog 28 := ⟨fun w => by kernel_rfl, by kernel_rfl⟩
instance : ElemT Try.prog 28 1 8 (.nilFunc) := ⟨by kernel_rfl⟩
-- 29: []api.Run
theorem z29 : ∀ w, (zeroValue 29).run Try.prog w = .ok (.slice none 0 0) w := fun w => by kernel_rfl
instance : ZeroT Try.prog 29 (.slice none 0 0) #[.slice none 0 0] := ⟨z29, rfl⟩
instance : ScalarT Try.prog 29 := ⟨fun w => by kernel_rfl, by kernel_rfl⟩
instance : ElemT Try.prog 29 1 24 (.slice none 0 0) := ⟨by kernel_rfl⟩
instance : SliceT Try.prog 29 33 := ⟨Try.underlying29⟩
-- 30: func([]api.Seg, api.Style, int, int) []api.Run
theorem z30 : ∀ w, (zeroValue 30).run Try.prog w = .ok (.nilFunc) w := fun w => by kernel_rfl
instance : ZeroT Try.prog 30 (.nilFunc) #[.nilFunc] := ⟨z30, rfl⟩
instance : ScalarT Try.prog 30 := ⟨fun w => by kernel_rfl, by kernel_rfl⟩
instance : ElemT Try.prog 30 1 8 (.nilFunc) := ⟨by kernel_rfl⟩
-- 31: func([]api.Run, []api.Run) bool
theorem z31 : ∀ w, (zeroValue 31).run Try.prog w = .ok (.nilFunc) w := fun w => by kernel_rfl
instance : ZeroT Try.prog 31 (.nilFunc) #[.nilFunc] := ⟨z31, rfl⟩
instance : ScalarT Try.prog 31 := ⟨fun w => by kernel_rfl, by kernel_rfl⟩
instance : ElemT Try.prog 31 1 8 (.nilFunc) := ⟨by kernel_rfl⟩
-- 32: From
theorem z32 : ∀ w, (zeroValue 32).run Try.prog w = .ok (.agg #[.int .i64 0, .int .i64 0]) w := fun w => by kernel_rfl
instance : ZeroT Try.prog 32 (.agg #[.int .i64 0, .int .i64 0]) #[.int .i64 0, .int .i64 0] := ⟨z32, rfl⟩
instance : RowT Try.prog 32 2 := ⟨fun w => by kernel_rfl, by kernel_rfl⟩
instance : ElemT Try.prog 32 2 16 (.agg #[.int .i64 0, .int .i64 0]) := ⟨by kernel_rfl⟩
-- 33: tympan/api.Run
theorem z33 : ∀ w, (zeroValue 33).run Try.prog w = .ok (.agg #[.int .i64 0, .int .i64 0]) w := fun w => by kernel_rfl
instance : ZeroT Try.prog 33 (.agg #[.int .i64 0, .int .i64 0]) #[.int .i64 0, .int .i64 0] := ⟨z33, rfl⟩
instance : RowT Try.prog 33 2 := ⟨fun w => by kernel_rfl, by kernel_rfl⟩
instance : ElemT Try.prog 33 2 16 (.agg #[.int .i64 0, .int .i64 0]) := ⟨by kernel_rfl⟩
-- 34: func(tympanref30.Row, int) []api.Run
theorem z34 : ∀ w, (zeroValue 34).run Try.prog w = .ok (.nilFunc) w := fun w => by kernel_rfl
instance : ZeroT Try.prog 34 (.nilFunc) #[.nilFunc] := ⟨z34, rfl⟩
instance : ScalarT Try.prog 34 := ⟨fun w => by kernel_rfl, by kernel_rfl⟩
instance : ElemT Try.prog 34 1 8 (.nilFunc) := ⟨by kernel_rfl⟩
-- 35: [][]api.Run
theorem z35 : ∀ w, (zeroValue 35).run Try.prog w = .ok (.slice none 0 0) w := fun w => by kernel_rfl
instance : ZeroT Try.prog 35 (.slice none 0 0) #[.slice none 0 0] := ⟨z35, rfl⟩
instance : ScalarT Try.prog 35 := ⟨fun w => by kernel_rfl, by kernel_rfl⟩
instance : ElemT Try.prog 35 1 24 (.slice none 0 0) := ⟨by kernel_rfl⟩
instance : SliceT Try.prog 35 29 := ⟨Try.underlying35⟩
-- 36: W
theorem z36 : ∀ w, (zeroValue 36).run Try.prog w = .ok (.agg #[.int .i64 0, .int .i64 0, .slice none 0 0]) w := fun w => by kernel_rfl
instance : ZeroT Try.prog 36 (.agg #[.int .i64 0, .int .i64 0, .slice none 0 0]) #[.int .i64 0, .int .i64 0, .slice none 0 0] := ⟨z36, rfl⟩
instance : RowT Try.prog 36 3 := ⟨fun w => by kernel_rfl, by kernel_rfl⟩
instance : ElemT Try.prog 36 3 40 (.agg #[.int .i64 0, .int .i64 0, .slice none 0 0]) := ⟨by kernel_rfl⟩
-- 37: tympan/api.Region
theorem z37 : ∀ w, (zeroValue 37).run Try.prog w = .ok (.agg #[.int .i64 0, .int .i64 0, .slice none 0 0]) w := fun w => by kernel_rfl
instance : ZeroT Try.prog 37 (.agg #[.int .i64 0, .int .i64 0, .slice none 0 0]) #[.int .i64 0, .int .i64 0, .slice none 0 0] := ⟨z37, rfl⟩
instance : RowT Try.prog 37 3 := ⟨fun w => by kernel_rfl, by kernel_rfl⟩
instance : ElemT Try.prog 37 3 40 (.agg #[.int .i64 0, .int .i64 0, .slice none 0 0]) := ⟨by kernel_rfl⟩
-- 38: tympan/api.Errno
theorem z38 : ∀ w, (zeroValue 38).run Try.prog w = .ok (.int .i64 0) w := fun w => by kernel_rfl
instance : ZeroT Try.prog 38 (.int .i64 0) #[.int .i64 0] := ⟨z38, rfl⟩
instance : ScalarT Try.prog 38 := ⟨fun w => by kernel_rfl, by kernel_rfl⟩
instance : ElemT Try.prog 38 1 8 (.int .i64 0) := ⟨by kernel_rfl⟩
-- 40: func([]api.Seg, api.Style, int, int) (api.Region, api.Errno)
theorem z40 : ∀ w, (zeroValue 40).run Try.prog w = .ok (.nilFunc) w := fun w => by kernel_rfl
instance : ZeroT Try.prog 40 (.nilFunc) #[.nilFunc] := ⟨z40, rfl⟩
instance : ScalarT Try.prog 40 := ⟨fun w => by kernel_rfl, by kernel_rfl⟩
instance : ElemT Try.prog 40 1 8 (.nilFunc) := ⟨by kernel_rfl⟩
-- 41: []uint8
theorem z41 : ∀ w, (zeroValue 41).run Try.prog w = .ok (.slice none 0 0) w := fun w => by kernel_rfl
instance : ZeroT Try.prog 41 (.slice none 0 0) #[.slice none 0 0] := ⟨z41, rfl⟩
instance : ScalarT Try.prog 41 := ⟨fun w => by kernel_rfl, by kernel_rfl⟩
instance : ElemT Try.prog 41 1 24 (.slice none 0 0) := ⟨by kernel_rfl⟩
instance : SliceT Try.prog 41 5 := ⟨Try.underlying41⟩
-- 42: W
theorem z42 : ∀ w, (zeroValue 42).run Try.prog w = .ok (.agg #[.int .i64 0, .int .i64 0, .slice none 0 0]) w := fun w => by kernel_rfl
instance : ZeroT Try.prog 42 (.agg #[.int .i64 0, .int .i64 0, .slice none 0 0]) #[.int .i64 0, .int .i64 0, .slice none 0 0] := ⟨z42, rfl⟩
instance : RowT Try.prog 42 3 := ⟨fun w => by kernel_rfl, by kernel_rfl⟩
instance : ElemT Try.prog 42 3 40 (.agg #[.int .i64 0, .int .i64 0, .slice none 0 0]) := ⟨by kernel_rfl⟩
-- 43: tympan/api.Mask
theorem z43 : ∀ w, (zeroValue 43).run Try.prog w = .ok (.agg #[.int .i64 0, .int .i64 0, .slice none 0 0]) w := fun w => by kernel_rfl
instance : ZeroT Try.prog 43 (.agg #[.int .i64 0, .int .i64 0, .slice none 0 0]) #[.int .i64 0, .int .i64 0, .slice none 0 0] := ⟨z43, rfl⟩
instance : RowT Try.prog 43 3 := ⟨fun w => by kernel_rfl, by kernel_rfl⟩
instance : ElemT Try.prog 43 3 40 (.agg #[.int .i64 0, .int .i64 0, .slice none 0 0]) := ⟨by kernel_rfl⟩
-- 45: func([]api.Seg, api.Style, int, int) (api.Mask, int)
theorem z45 : ∀ w, (zeroValue 45).run Try.prog w = .ok (.nilFunc) w := fun w => by kernel_rfl
instance : ZeroT Try.prog 45 (.nilFunc) #[.nilFunc] := ⟨z45, rfl⟩
instance : ScalarT Try.prog 45 := ⟨fun w => by kernel_rfl, by kernel_rfl⟩
instance : ElemT Try.prog 45 1 8 (.nilFunc) := ⟨by kernel_rfl⟩
-- 46: func(api.Region, api.Region) bool
theorem z46 : ∀ w, (zeroValue 46).run Try.prog w = .ok (.nilFunc) w := fun w => by kernel_rfl
instance : ZeroT Try.prog 46 (.nilFunc) #[.nilFunc] := ⟨z46, rfl⟩
instance : ScalarT Try.prog 46 := ⟨fun w => by kernel_rfl, by kernel_rfl⟩
instance : ElemT Try.prog 46 1 8 (.nilFunc) := ⟨by kernel_rfl⟩
-- 48: func(api.Mask) (api.Region, int)
theorem z48 : ∀ w, (zeroValue 48).run Try.prog w = .ok (.nilFunc) w := fun w => by kernel_rfl
instance : ZeroT Try.prog 48 (.nilFunc) #[.nilFunc] := ⟨z48, rfl⟩
instance : ScalarT Try.prog 48 := ⟨fun w => by kernel_rfl, by kernel_rfl⟩
instance : ElemT Try.prog 48 1 8 (.nilFunc) := ⟨by kernel_rfl⟩
-- 49: func(int, int) int
theorem z49 : ∀ w, (zeroValue 49).run Try.prog w = .ok (.nilFunc) w := fun w => by kernel_rfl
instance : ZeroT Try.prog 49 (.nilFunc) #[.nilFunc] := ⟨z49, rfl⟩
instance : ScalarT Try.prog 49 := ⟨fun w => by kernel_rfl, by kernel_rfl⟩
instance : ElemT Try.prog 49 1 8 (.nilFunc) := ⟨by kernel_rfl⟩
-- 50: Kind
theorem z50 : ∀ w, (zeroValue 50).run Try.prog w = .ok (.agg #[.int .i64 0, .int .i64 0, .int .i64 0, .int .i64 0, .int .i64 0]) w := fun w => by kernel_rfl
instance : ZeroT Try.prog 50 (.agg #[.int .i64 0, .int .i64 0, .int .i64 0, .int .i64 0, .int .i64 0]) #[.int .i64 0, .int .i64 0, .int .i64 0, .int .i64 0, .int .i64 0] := ⟨z50, rfl⟩
instance : RowT Try.prog 50 5 := ⟨fun w => by kernel_rfl, by kernel_rfl⟩
instance : ElemT Try.prog 50 5 40 (.agg #[.int .i64 0, .int .i64 0, .int .i64 0, .int .i64 0, .int .i64 0]) := ⟨by kernel_rfl⟩
-- 51: tympan/api.Seg
theorem z51 : ∀ w, (zeroValue 51).run Try.prog w = .ok (.agg #[.int .i64 0, .int .i64 0, .int .i64 0, .int .i64 0, .int .i64 0]) w := fun w => by kernel_rfl
instance : ZeroT Try.prog 51 (.agg #[.int .i64 0, .int .i64 0, .int .i64 0, .int .i64 0, .int .i64 0]) #[.int .i64 0, .int .i64 0, .int .i64 0, .int .i64 0, .int .i64 0] := ⟨z51, rfl⟩
instance : RowT Try.prog 51 5 := ⟨fun w => by kernel_rfl, by kernel_rfl⟩
instance : ElemT Try.prog 51 5 40 (.agg #[.int .i64 0, .int .i64 0, .int .i64 0, .int .i64 0, .int .i64 0]) := ⟨by kernel_rfl⟩
-- 52: uint64
theorem z52 : ∀ w, (zeroValue 52).run Try.prog w = .ok (.int .u64 0) w := fun w => by kernel_rfl
instance : ZeroT Try.prog 52 (.int .u64 0) #[.int .u64 0] := ⟨z52, rfl⟩
instance : ScalarT Try.prog 52 := ⟨fun w => by kernel_rfl, by kernel_rfl⟩
instance : ElemT Try.prog 52 1 8 (.int .u64 0) := ⟨by kernel_rfl⟩
-- 53: func(uint64) uint64
theorem z53 : ∀ w, (zeroValue 53).run Try.prog w = .ok (.nilFunc) w := fun w => by kernel_rfl
instance : ZeroT Try.prog 53 (.nilFunc) #[.nilFunc] := ⟨z53, rfl⟩
instance : ScalarT Try.prog 53 := ⟨fun w => by kernel_rfl, by kernel_rfl⟩
instance : ElemT Try.prog 53 1 8 (.nilFunc) := ⟨by kernel_rfl⟩
-- 54: func(int, int, int, int) bool
theorem z54 : ∀ w, (zeroValue 54).run Try.prog w = .ok (.nilFunc) w := fun w => by kernel_rfl
instance : ZeroT Try.prog 54 (.nilFunc) #[.nilFunc] := ⟨z54, rfl⟩
instance : ScalarT Try.prog 54 := ⟨fun w => by kernel_rfl, by kernel_rfl⟩
instance : ElemT Try.prog 54 1 8 (.nilFunc) := ⟨by kernel_rfl⟩
-- 55: [4]int
theorem z55 : ∀ w, (zeroValue 55).run Try.prog w = .ok (.agg #[.int .i64 0, .int .i64 0, .int .i64 0, .int .i64 0]) w := fun w => by kernel_rfl
instance : ZeroT Try.prog 55 (.agg #[.int .i64 0, .int .i64 0, .int .i64 0, .int .i64 0]) #[.int .i64 0, .int .i64 0, .int .i64 0, .int .i64 0] := ⟨z55, rfl⟩
instance : RowT Try.prog 55 4 := ⟨fun w => by kernel_rfl, by kernel_rfl⟩
instance : ElemT Try.prog 55 4 32 (.agg #[.int .i64 0, .int .i64 0, .int .i64 0, .int .i64 0]) := ⟨by kernel_rfl⟩
instance : ArrT Try.prog 55 4 3 := ⟨Try.underlying55, fun w => by kernel_rfl, by kernel_rfl⟩
-- 56: func(api.Region, int, int) bool
theorem z56 : ∀ w, (zeroValue 56).run Try.prog w = .ok (.nilFunc) w := fun w => by kernel_rfl
instance : ZeroT Try.prog 56 (.nilFunc) #[.nilFunc] := ⟨z56, rfl⟩
instance : ScalarT Try.prog 56 := ⟨fun w => by kernel_rfl, by kernel_rfl⟩
instance : ElemT Try.prog 56 1 8 (.nilFunc) := ⟨by kernel_rfl⟩
-- 57: func([4]int, int) bool
theorem z57 : ∀ w, (zeroValue 57).run Try.prog w = .ok (.nilFunc) w := fun w => by kernel_rfl
instance : ZeroT Try.prog 57 (.nilFunc) #[.nilFunc] := ⟨z57, rfl⟩
instance : ScalarT Try.prog 57 := ⟨fun w => by kernel_rfl, by kernel_rfl⟩
instance : ElemT Try.prog 57 1 8 (.nilFunc) := ⟨by kernel_rfl⟩
-- 58: []int
theorem z58 : ∀ w, (zeroValue 58).run Try.prog w = .ok (.slice none 0 0) w := fun w => by kernel_rfl
instance : ZeroT Try.prog 58 (.slice none 0 0) #[.slice none 0 0] := ⟨z58, rfl⟩
instance : ScalarT Try.prog 58 := ⟨fun w => by kernel_rfl, by kernel_rfl⟩
instance : ElemT Try.prog 58 1 24 (.slice none 0 0) := ⟨by kernel_rfl⟩
instance : SliceT Try.prog 58 3 := ⟨Try.underlying58⟩
-- 59: func(int) api.Style
theorem z59 : ∀ w, (zeroValue 59).run Try.prog w = .ok (.nilFunc) w := fun w => by kernel_rfl
instance : ZeroT Try.prog 59 (.nilFunc) #[.nilFunc] := ⟨z59, rfl⟩
instance : ScalarT Try.prog 59 := ⟨fun w => by kernel_rfl, by kernel_rfl⟩
instance : ElemT Try.prog 59 1 8 (.nilFunc) := ⟨by kernel_rfl⟩
-- 60: func([]int, bool) []api.Seg
theorem z60 : ∀ w, (zeroValue 60).run Try.prog w = .ok (.nilFunc) w := fun w => by kernel_rfl
instance : ZeroT Try.prog 60 (.nilFunc) #[.nilFunc] := ⟨z60, rfl⟩
instance : ScalarT Try.prog 60 := ⟨fun w => by kernel_rfl, by kernel_rfl⟩
instance : ElemT Try.prog 60 1 8 (.nilFunc) := ⟨by kernel_rfl⟩
-- 62: func([]api.Seg, []api.Seg) ([]api.Seg, api.Errno)
theorem z62 : ∀ w, (zeroValue 62).run Try.prog w = .ok (.nilFunc) w := fun w => by kernel_rfl
instance : ZeroT Try.prog 62 (.nilFunc) #[.nilFunc] := ⟨z62, rfl⟩
instance : ScalarT Try.prog 62 := ⟨fun w => by kernel_rfl, by kernel_rfl⟩
instance : ElemT Try.prog 62 1 8 (.nilFunc) := ⟨by kernel_rfl⟩
-- 63: func([]api.Run, []api.Run) []api.Run
theorem z63 : ∀ w, (zeroValue 63).run Try.prog w = .ok (.nilFunc) w := fun w => by kernel_rfl
instance : ZeroT Try.prog 63 (.nilFunc) #[.nilFunc] := ⟨z63, rfl⟩
instance : ScalarT Try.prog 63 := ⟨fun w => by kernel_rfl, by kernel_rfl⟩
instance : ElemT Try.prog 63 1 8 (.nilFunc) := ⟨by kernel_rfl⟩
-- 64: func([4]int, []int, []int, int, int) bool
theorem z64 : ∀ w, (zeroValue 64).run Try.prog w = .ok (.nilFunc) w := fun w => by kernel_rfl
instance : ZeroT Try.prog 64 (.nilFunc) #[.nilFunc] := ⟨z64, rfl⟩
instance : ScalarT Try.prog 64 := ⟨fun w => by kernel_rfl, by kernel_rfl⟩
instance : ElemT Try.prog 64 1 8 (.nilFunc) := ⟨by kernel_rfl⟩
-- 65: func([]api.Seg) []api.Seg
theorem z65 : ∀ w, (zeroValue 65).run Try.prog w = .ok (.nilFunc) w := fun w => by kernel_rfl
instance : ZeroT Try.prog 65 (.nilFunc) #[.nilFunc] := ⟨z65, rfl⟩
instance : ScalarT Try.prog 65 := ⟨fun w => by kernel_rfl, by kernel_rfl⟩
instance : ElemT Try.prog 65 1 8 (.nilFunc) := ⟨by kernel_rfl⟩
-- 66: func([]int, int, int, int) bool
theorem z66 : ∀ w, (zeroValue 66).run Try.prog w = .ok (.nilFunc) w := fun w => by kernel_rfl
instance : ZeroT Try.prog 66 (.nilFunc) #[.nilFunc] := ⟨z66, rfl⟩
instance : ScalarT Try.prog 66 := ⟨fun w => by kernel_rfl, by kernel_rfl⟩
instance : ElemT Try.prog 66 1 8 (.nilFunc) := ⟨by kernel_rfl⟩
-- 67: func([]api.Seg, int, int) ([]api.Seg, api.Errno)
theorem z67 : ∀ w, (zeroValue 67).run Try.prog w = .ok (.nilFunc) w := fun w => by kernel_rfl
instance : ZeroT Try.prog 67 (.nilFunc) #[.nilFunc] := ⟨z67, rfl⟩
instance : ScalarT Try.prog 67 := ⟨fun w => by kernel_rfl, by kernel_rfl⟩
instance : ElemT Try.prog 67 1 8 (.nilFunc) := ⟨by kernel_rfl⟩
-- 68: func(api.Region, int, int) (api.Region, api.Errno)
theorem z68 : ∀ w, (zeroValue 68).run Try.prog w = .ok (.nilFunc) w := fun w => by kernel_rfl
instance : ZeroT Try.prog 68 (.nilFunc) #[.nilFunc] := ⟨z68, rfl⟩
instance : ScalarT Try.prog 68 := ⟨fun w => by kernel_rfl, by kernel_rfl⟩
instance : ElemT Try.prog 68 1 8 (.nilFunc) := ⟨by kernel_rfl⟩
-- 69: func(int) int
theorem z69 : ∀ w, (zeroValue 69).run Try.prog w = .ok (.nilFunc) w := fun w => by kernel_rfl
instance : ZeroT Try.prog 69 (.nilFunc) #[.nilFunc] := ⟨z69, rfl⟩
instance : ScalarT Try.prog 69 := ⟨fun w => by kernel_rfl, by kernel_rfl⟩
instance : ElemT Try.prog 69 1 8 (.nilFunc) := ⟨by kernel_rfl⟩
-- 70: func([]api.Run, int) []api.Run
theorem z70 : ∀ w, (zeroValue 70).run Try.prog w = .ok (.nilFunc) w := fun w => by kernel_rfl
instance : ZeroT Try.prog 70 (.nilFunc) #[.nilFunc] := ⟨z70, rfl⟩
instance : ScalarT Try.prog 70 := ⟨fun w => by kernel_rfl, by kernel_rfl⟩
instance : ElemT Try.prog 70 1 8 (.nilFunc) := ⟨by kernel_rfl⟩
-- 71: func([]int, int, int, int, int, int) bool
theorem z71 : ∀ w, (zeroValue 71).run Try.prog w = .ok (.nilFunc) w := fun w => by kernel_rfl
instance : ZeroT Try.prog 71 (.nilFunc) #[.nilFunc] := ⟨z71, rfl⟩
instance : ScalarT Try.prog 71 := ⟨fun w => by kernel_rfl, by kernel_rfl⟩
instance : ElemT Try.prog 71 1 8 (.nilFunc) := ⟨by kernel_rfl⟩
-- 72: func([]api.Run, int) bool
theorem z72 : ∀ w, (zeroValue 72).run Try.prog w = .ok (.nilFunc) w := fun w => by kernel_rfl
instance : ZeroT Try.prog 72 (.nilFunc) #[.nilFunc] := ⟨z72, rfl⟩
instance : ScalarT Try.prog 72 := ⟨fun w => by kernel_rfl, by kernel_rfl⟩
instance : ElemT Try.prog 72 1 8 (.nilFunc) := ⟨by kernel_rfl⟩
-- 73: func([]int, int, int) bool
theorem z73 : ∀ w, (zeroValue 73).run Try.prog w = .ok (.nilFunc) w := fun w => by kernel_rfl
instance : ZeroT Try.prog 73 (.nilFunc) #[.nilFunc] := ⟨z73, rfl⟩
instance : ScalarT Try.prog 73 := ⟨fun w => by kernel_rfl, by kernel_rfl⟩
instance : ElemT Try.prog 73 1 8 (.nilFunc) := ⟨by kernel_rfl⟩
-- 75: func([]api.Seg, api.Style, int, int) (api.Mask, api.Errno)
theorem z75 : ∀ w, (zeroValue 75).run Try.prog w = .ok (.nilFunc) w := fun w => by kernel_rfl
instance : ZeroT Try.prog 75 (.nilFunc) #[.nilFunc] := ⟨z75, rfl⟩
instance : ScalarT Try.prog 75 := ⟨fun w => by kernel_rfl, by kernel_rfl⟩
instance : ElemT Try.prog 75 1 8 (.nilFunc) := ⟨by kernel_rfl⟩
-- 76: func(api.Mask, int, int) bool
theorem z76 : ∀ w, (zeroValue 76).run Try.prog w = .ok (.nilFunc) w := fun w => by kernel_rfl
instance : ZeroT Try.prog 76 (.nilFunc) #[.nilFunc] := ⟨z76, rfl⟩
instance : ScalarT Try.prog 76 := ⟨fun w => by kernel_rfl, by kernel_rfl⟩
instance : ElemT Try.prog 76 1 8 (.nilFunc) := ⟨by kernel_rfl⟩
-- 77: func([]api.Seg) bool
theorem z77 : ∀ w, (zeroValue 77).run Try.prog w = .ok (.nilFunc) w := fun w => by kernel_rfl
instance : ZeroT Try.prog 77 (.nilFunc) #[.nilFunc] := ⟨z77, rfl⟩
instance : ScalarT Try.prog 77 := ⟨fun w => by kernel_rfl, by kernel_rfl⟩
instance : ElemT Try.prog 77 1 8 (.nilFunc) := ⟨by kernel_rfl⟩
-- 78: func(api.Style) bool
theorem z78 : ∀ w, (zeroValue 78).run Try.prog w = .ok (.nilFunc) w := fun w => by kernel_rfl
instance : ZeroT Try.prog 78 (.nilFunc) #[.nilFunc] := ⟨z78, rfl⟩
instance : ScalarT Try.prog 78 := ⟨fun w => by kernel_rfl, by kernel_rfl⟩
instance : ElemT Try.prog 78 1 8 (.nilFunc) := ⟨by kernel_rfl⟩
-- 79: func(int) bool
theorem z79 : ∀ w, (zeroValue 79).run Try.prog w = .ok (.nilFunc) w := fun w => by kernel_rfl
instance : ZeroT Try.prog 79 (.nilFunc) #[.nilFunc] := ⟨z79, rfl⟩
instance : ScalarT Try.prog 79 := ⟨fun w => by kernel_rfl, by kernel_rfl⟩
instance : ElemT Try.prog 79 1 8 (.nilFunc) := ⟨by kernel_rfl⟩
-- 80: []tympanref25.Contour
theorem z80 : ∀ w, (zeroValue 80).run Try.prog w = .ok (.slice none 0 0) w := fun w => by kernel_rfl
instance : ZeroT Try.prog 80 (.slice none 0 0) #[.slice none 0 0] := ⟨z80, rfl⟩
instance : ScalarT Try.prog 80 := ⟨fun w => by kernel_rfl, by kernel_rfl⟩
instance : ElemT Try.prog 80 1 24 (.slice none 0 0) := ⟨by kernel_rfl⟩
instance : SliceT Try.prog 80 85 := ⟨Try.underlying80⟩
-- 81: func([]api.Seg) []tympanref25.Contour
theorem z81 : ∀ w, (zeroValue 81).run Try.prog w = .ok (.nilFunc) w := fun w => by kernel_rfl
instance : ZeroT Try.prog 81 (.nilFunc) #[.nilFunc] := ⟨z81, rfl⟩
instance : ScalarT Try.prog 81 := ⟨fun w => by kernel_rfl, by kernel_rfl⟩
instance : ElemT Try.prog 81 1 8 (.nilFunc) := ⟨by kernel_rfl⟩
-- 82: func(tympanref25.Contour, api.Style, int, int) bool
theorem z82 : ∀ w, (zeroValue 82).run Try.prog w = .ok (.nilFunc) w := fun w => by kernel_rfl
instance : ZeroT Try.prog 82 (.nilFunc) #[.nilFunc] := ⟨z82, rfl⟩
instance : ScalarT Try.prog 82 := ⟨fun w => by kernel_rfl, by kernel_rfl⟩
instance : ElemT Try.prog 82 1 8 (.nilFunc) := ⟨by kernel_rfl⟩
-- 83: []api.Edge
theorem z83 : ∀ w, (zeroValue 83).run Try.prog w = .ok (.slice none 0 0) w := fun w => by kernel_rfl
instance : ZeroT Try.prog 83 (.slice none 0 0) #[.slice none 0 0] := ⟨z83, rfl⟩
instance : ScalarT Try.prog 83 := ⟨fun w => by kernel_rfl, by kernel_rfl⟩
instance : ElemT Try.prog 83 1 24 (.slice none 0 0) := ⟨by kernel_rfl⟩
instance : SliceT Try.prog 83 106 := ⟨Try.underlying83⟩
-- 84: X
theorem z84 : ∀ w, (zeroValue 84).run Try.prog w = .ok (.agg #[.int .i64 0, .int .i64 0, .slice none 0 0, .bool false]) w := fun w => by kernel_rfl
instance : ZeroT Try.prog 84 (.agg #[.int .i64 0, .int .i64 0, .slice none 0 0, .bool false]) #[.int .i64 0, .int .i64 0, .slice none 0 0, .bool false] := ⟨z84, rfl⟩
instance : RowT Try.prog 84 4 := ⟨fun w => by kernel_rfl, by kernel_rfl⟩
instance : ElemT Try.prog 84 4 48 (.agg #[.int .i64 0, .int .i64 0, .slice none 0 0, .bool false]) := ⟨by kernel_rfl⟩
-- 85: tympan/tympanref25.Contour
theorem z85 : ∀ w, (zeroValue 85).run Try.prog w = .ok (.agg #[.int .i64 0, .int .i64 0, .slice none 0 0, .bool false]) w := fun w => by kernel_rfl
instance : ZeroT Try.prog 85 (.agg #[.int .i64 0, .int .i64 0, .slice none 0 0, .bool false]) #[.int .i64 0, .int .i64 0, .slice none 0 0, .bool false] := ⟨z85, rfl⟩
instance : RowT Try.prog 85 4 := ⟨fun w => by kernel_rfl, by kernel_rfl⟩
instance : ElemT Try.prog 85 4 48 (.agg #[.int .i64 0, .int .i64 0, .slice none 0 0, .bool false]) := ⟨by kernel_rfl⟩
-- 86: func([]api.Seg, api.Style) bool
theorem z86 : ∀ w, (zeroValue 86).run Try.prog w = .ok (.nilFunc) w := fun w => by kernel_rfl
instance : ZeroT Try.prog 86 (.nilFunc) #[.nilFunc] := ⟨z86, rfl⟩
instance : ScalarT Try.prog 86 := ⟨fun w => by kernel_rfl, by kernel_rfl⟩
instance : ElemT Try.prog 86 1 8 (.nilFunc) := ⟨by kernel_rfl⟩
-- 87: func([]hem.shape, int, int) []api.Run
theorem z87 : ∀ w, (zeroValue 87).run Try.prog w = .ok (.nilFunc) w := fun w => by kernel_rfl
instance : ZeroT Try.prog 87 (.nilFunc) #[.nilFunc] := ⟨z87, rfl⟩
instance : ScalarT Try.prog 87 := ⟨fun w => by kernel_rfl, by kernel_rfl⟩
instance : ElemT Try.prog 87 1 8 (.nilFunc) := ⟨by kernel_rfl⟩
-- 88: []hem.shape
theorem z88 : ∀ w, (zeroValue 88).run Try.prog w = .ok (.slice none 0 0) w := fun w => by kernel_rfl
instance : ZeroT Try.prog 88 (.slice none 0 0) #[.slice none 0 0] := ⟨z88, rfl⟩
instance : ScalarT Try.prog 88 := ⟨fun w => by kernel_rfl, by kernel_rfl⟩
instance : ElemT Try.prog 88 1 24 (.slice none 0 0) := ⟨by kernel_rfl⟩
instance : SliceT Try.prog 88 125 := ⟨Try.underlying88⟩
-- 89: func([]api.Seg, api.Style) []hem.shape
theorem z89 : ∀ w, (zeroValue 89).run Try.prog w = .ok (.nilFunc) w := fun w => by kernel_rfl
instance : ZeroT Try.prog 89 (.nilFunc) #[.nilFunc] := ⟨z89, rfl⟩
instance : ScalarT Try.prog 89 := ⟨fun w => by kernel_rfl, by kernel_rfl⟩
instance : ElemT Try.prog 89 1 8 (.nilFunc) := ⟨by kernel_rfl⟩
-- 90: func([][]api.Run, [][]api.Run) bool
theorem z90 : ∀ w, (zeroValue 90).run Try.prog w = .ok (.nilFunc) w := fun w => by kernel_rfl
instance : ZeroT Try.prog 90 (.nilFunc) #[.nilFunc] := ⟨z90, rfl⟩
instance : ScalarT Try.prog 90 := ⟨fun w => by kernel_rfl, by kernel_rfl⟩
instance : ElemT Try.prog 90 1 8 (.nilFunc) := ⟨by kernel_rfl⟩
-- 91: func(api.Mask) bool
theorem z91 : ∀ w, (zeroValue 91).run Try.prog w = .ok (.nilFunc) w := fun w => by kernel_rfl
instance : ZeroT Try.prog 91 (.nilFunc) #[.nilFunc] := ⟨z91, rfl⟩
instance : ScalarT Try.prog 91 := ⟨fun w => by kernel_rfl, by kernel_rfl⟩
instance : ElemT Try.prog 91 1 8 (.nilFunc) := ⟨by kernel_rfl⟩
-- 92: uint
theorem z92 : ∀ w, (zeroValue 92).run Try.prog w = .ok (.int .u64 0) w := fun w => by kernel_rfl
instance : ZeroT Try.prog 92 (.int .u64 0) #[.int .u64 0] := ⟨z92, rfl⟩
instance : ScalarT Try.prog 92 := ⟨fun w => by kernel_rfl, by kernel_rfl⟩
instance : ElemT Try.prog 92 1 8 (.int .u64 0) := ⟨by kernel_rfl⟩
-- 93: func(api.Region) bool
theorem z93 : ∀ w, (zeroValue 93).run Try.prog w = .ok (.nilFunc) w := fun w => by kernel_rfl
instance : ZeroT Try.prog 93 (.nilFunc) #[.nilFunc] := ⟨z93, rfl⟩
instance : ScalarT Try.prog 93 := ⟨fun w => by kernel_rfl, by kernel_rfl⟩
instance : ElemT Try.prog 93 1 8 (.nilFunc) := ⟨by kernel_rfl⟩
-- 94: *tympanlaw25.L
theorem z94 : ∀ w, (zeroValue 94).run Try.prog w = .ok (.pointer none) w := fun w => by kernel_rfl
instance : ZeroT Try.prog 94 (.pointer none) #[.pointer none] := ⟨z94, rfl⟩
instance : ScalarT Try.prog 94 := ⟨fun w => by kernel_rfl, by kernel_rfl⟩
instance : ElemT Try.prog 94 1 8 (.pointer none) := ⟨by kernel_rfl⟩
-- 95: N
theorem z95 : ∀ w, (zeroValue 95).run Try.prog w = .ok (.agg #[.slice none 0 0]) w := fun w => by kernel_rfl
instance : ZeroT Try.prog 95 (.agg #[.slice none 0 0]) #[.slice none 0 0] := ⟨z95, rfl⟩
instance : RowT Try.prog 95 1 := ⟨fun w => by kernel_rfl, by kernel_rfl⟩
instance : ElemT Try.prog 95 1 24 (.agg #[.slice none 0 0]) := ⟨by kernel_rfl⟩
-- 96: tympan/tympanlaw25.L
theorem z96 : ∀ w, (zeroValue 96).run Try.prog w = .ok (.agg #[.slice none 0 0]) w := fun w => by kernel_rfl
instance : ZeroT Try.prog 96 (.agg #[.slice none 0 0]) #[.slice none 0 0] := ⟨z96, rfl⟩
instance : RowT Try.prog 96 1 := ⟨fun w => by kernel_rfl, by kernel_rfl⟩
instance : ElemT Try.prog 96 1 24 (.agg #[.slice none 0 0]) := ⟨by kernel_rfl⟩
-- 97: func([]api.Seg, bool) []api.Seg
theorem z97 : ∀ w, (zeroValue 97).run Try.prog w = .ok (.nilFunc) w := fun w => by kernel_rfl
instance : ZeroT Try.prog 97 (.nilFunc) #[.nilFunc] := ⟨z97, rfl⟩
instance : ScalarT Try.prog 97 := ⟨fun w => by kernel_rfl, by kernel_rfl⟩
instance : ElemT Try.prog 97 1 8 (.nilFunc) := ⟨by kernel_rfl⟩
-- 98: func([]api.Seg) int
theorem z98 : ∀ w, (zeroValue 98).run Try.prog w = .ok (.nilFunc) w := fun w => by kernel_rfl
instance : ZeroT Try.prog 98 (.nilFunc) #[.nilFunc] := ⟨z98, rfl⟩
instance : ScalarT Try.prog 98 := ⟨fun w => by kernel_rfl, by kernel_rfl⟩
instance : ElemT Try.prog 98 1 8 (.nilFunc) := ⟨by kernel_rfl⟩
-- 99: func([]api.Seg, ...api.Seg) ([]api.Seg, api.Errno)
theorem z99 : ∀ w, (zeroValue 99).run Try.prog w = .ok (.nilFunc) w := fun w => by kernel_rfl
instance : ZeroT Try.prog 99 (.nilFunc) #[.nilFunc] := ⟨z99, rfl⟩
instance : ScalarT Try.prog 99 := ⟨fun w => by kernel_rfl, by kernel_rfl⟩
instance : ElemT Try.prog 99 1 8 (.nilFunc) := ⟨by kernel_rfl⟩
-- 100: func([]api.Run, []api.Run, func(bool, bool) bool) []api.Run
theorem z100 : ∀ w, (zeroValue 100).run Try.prog w = .ok (.nilFunc) w := fun w => by kernel_rfl
instance : ZeroT Try.prog 100 (.nilFunc) #[.nilFunc] := ⟨z100, rfl⟩
instance : ScalarT Try.prog 100 := ⟨fun w => by kernel_rfl, by kernel_rfl⟩
instance : ElemT Try.prog 100 1 8 (.nilFunc) := ⟨by kernel_rfl⟩
-- 101: func(bool, bool) bool
theorem z101 : ∀ w, (zeroValue 101).run Try.prog w = .ok (.nilFunc) w := fun w => by kernel_rfl
instance : ZeroT Try.prog 101 (.nilFunc) #[.nilFunc] := ⟨z101, rfl⟩
instance : ScalarT Try.prog 101 := ⟨fun w => by kernel_rfl, by kernel_rfl⟩
instance : ElemT Try.prog 101 1 8 (.nilFunc) := ⟨by kernel_rfl⟩
-- 102: []path.Contour
theorem z102 : ∀ w, (zeroValue 102).run Try.prog w = .ok (.slice none 0 0) w := fun w => by kernel_rfl
instance : ZeroT Try.prog 102 (.slice none 0 0) #[.slice none 0 0] := ⟨z102, rfl⟩
instance : ScalarT Try.prog 102 := ⟨fun w => by kernel_rfl, by kernel_rfl⟩
instance : ElemT Try.prog 102 1 24 (.slice none 0 0) := ⟨by kernel_rfl⟩
instance : SliceT Try.prog 102 104 := ⟨Try.underlying102⟩
-- 103: func([]api.Seg) []path.Contour
theorem z103 : ∀ w, (zeroValue 103).run Try.prog w = .ok (.nilFunc) w := fun w => by kernel_rfl
instance : ZeroT Try.prog 103 (.nilFunc) #[.nilFunc] := ⟨z103, rfl⟩
instance : ScalarT Try.prog 103 := ⟨fun w => by kernel_rfl, by kernel_rfl⟩
instance : ElemT Try.prog 103 1 8 (.nilFunc) := ⟨by kernel_rfl⟩
-- 104: tympan/path.Contour
theorem z104 : ∀ w, (zeroValue 104).run Try.prog w = .ok (.agg #[.int .i64 0, .int .i64 0, .slice none 0 0, .bool false]) w := fun w => by kernel_rfl
instance : ZeroT Try.prog 104 (.agg #[.int .i64 0, .int .i64 0, .slice none 0 0, .bool false]) #[.int .i64 0, .int .i64 0, .slice none 0 0, .bool false] := ⟨z104, rfl⟩
instance : RowT Try.prog 104 4 := ⟨fun w => by kernel_rfl, by kernel_rfl⟩
instance : ElemT Try.prog 104 4 48 (.agg #[.int .i64 0, .int .i64 0, .slice none 0 0, .bool false]) := ⟨by kernel_rfl⟩
-- 105: X0
theorem z105 : ∀ w, (zeroValue 105).run Try.prog w = .ok (.agg #[.int .i64 0, .int .i64 0, .bool false, .int .i64 0, .int .i64 0, .int .i64 0, .int .i64 0]) w := fun w => by kernel_rfl
instance : ZeroT Try.prog 105 (.agg #[.int .i64 0, .int .i64 0, .bool false, .int .i64 0, .int .i64 0, .int .i64 0, .int .i64 0]) #[.int .i64 0, .int .i64 0, .bool false, .int .i64 0, .int .i64 0, .int .i64 0, .int .i64 0] := ⟨z105, rfl⟩
instance : RowT Try.prog 105 7 := ⟨fun w => by kernel_rfl, by kernel_rfl⟩
instance : ElemT Try.prog 105 7 56 (.agg #[.int .i64 0, .int .i64 0, .bool false, .int .i64 0, .int .i64 0, .int .i64 0, .int .i64 0]) := ⟨by kernel_rfl⟩
-- 106: tympan/api.Edge
theorem z106 : ∀ w, (zeroValue 106).run Try.prog w = .ok (.agg #[.int .i64 0, .int .i64 0, .bool false, .int .i64 0, .int .i64 0, .int .i64 0, .int .i64 0]) w := fun w => by kernel_rfl
instance : ZeroT Try.prog 106 (.agg #[.int .i64 0, .int .i64 0, .bool false, .int .i64 0, .int .i64 0, .int .i64 0, .int .i64 0]) #[.int .i64 0, .int .i64 0, .bool false, .int .i64 0, .int .i64 0, .int .i64 0, .int .i64 0] := ⟨z106, rfl⟩
instance : RowT Try.prog 106 7 := ⟨fun w => by kernel_rfl, by kernel_rfl⟩
instance : ElemT Try.prog 106 7 56 (.agg #[.int .i64 0, .int .i64 0, .bool false, .int .i64 0, .int .i64 0, .int .i64 0, .int .i64 0]) := ⟨by kernel_rfl⟩
-- 107: func(...int) bool
theorem z107 : ∀ w, (zeroValue 107).run Try.prog w = .ok (.nilFunc) w := fun w => by kernel_rfl
instance : ZeroT Try.prog 107 (.nilFunc) #[.nilFunc] := ⟨z107, rfl⟩
instance : ScalarT Try.prog 107 := ⟨fun w => by kernel_rfl, by kernel_rfl⟩
instance : ElemT Try.prog 107 1 8 (.nilFunc) := ⟨by kernel_rfl⟩
-- 108: func(api.Region, func(int) []api.Run) (api.Region, api.Errno
theorem z108 : ∀ w, (zeroValue 108).run Try.prog w = .ok (.nilFunc) w := fun w => by kernel_rfl
instance : ZeroT Try.prog 108 (.nilFunc) #[.nilFunc] := ⟨z108, rfl⟩
instance : ScalarT Try.prog 108 := ⟨fun w => by kernel_rfl, by kernel_rfl⟩
instance : ElemT Try.prog 108 1 8 (.nilFunc) := ⟨by kernel_rfl⟩
-- 109: func([]api.Run, int, int) []api.Run
theorem z109 : ∀ w, (zeroValue 109).run Try.prog w = .ok (.nilFunc) w := fun w => by kernel_rfl
instance : ZeroT Try.prog 109 (.nilFunc) #[.nilFunc] := ⟨z109, rfl⟩
instance : ScalarT Try.prog 109 := ⟨fun w => by kernel_rfl, by kernel_rfl⟩
instance : ElemT Try.prog 109 1 8 (.nilFunc) := ⟨by kernel_rfl⟩
-- 110: func(int) []api.Run
theorem z110 : ∀ w, (zeroValue 110).run Try.prog w = .ok (.nilFunc) w := fun w => by kernel_rfl
instance : ZeroT Try.prog 110 (.nilFunc) #[.nilFunc] := ⟨z110, rfl⟩
instance : ScalarT Try.prog 110 := ⟨fun w => by kernel_rfl, by kernel_rfl⟩
instance : ElemT Try.prog 110 1 8 (.nilFunc) := ⟨by kernel_rfl⟩
-- 111: tympan/span.places
theorem z111 : ∀ w, (zeroValue 111).run Try.prog w = .ok (.agg (arrB fun _ => false)) w := fun w => by rw [arrB_zero]; kernel_rfl
instance : ZeroT Try.prog 111 (.agg (arrB fun _ => false)) (arrB fun _ => false) := ⟨z111, rfl⟩
instance : RowT Try.prog 111 64 := ⟨fun w => by kernel_rfl, by kernel_rfl⟩
instance : ElemT Try.prog 111 64 64 (.agg (arrB fun _ => false)) := ⟨by rw [arrB_zero]; kernel_rfl⟩
instance : ArrT Try.prog 111 64 4 := ⟨Try.underlying111, fun w => by kernel_rfl, by kernel_rfl⟩
-- 112: func([]api.Run) span.places
theorem z112 : ∀ w, (zeroValue 112).run Try.prog w = .ok (.nilFunc) w := fun w => by kernel_rfl
instance : ZeroT Try.prog 112 (.nilFunc) #[.nilFunc] := ⟨z112, rfl⟩
instance : ScalarT Try.prog 112 := ⟨fun w => by kernel_rfl, by kernel_rfl⟩
instance : ElemT Try.prog 112 1 8 (.nilFunc) := ⟨by kernel_rfl⟩
-- 113: func([]stroke.shape, int, int) bool
theorem z113 : ∀ w, (zeroValue 113).run Try.prog w = .ok (.nilFunc) w := fun w => by kernel_rfl
instance : ZeroT Try.prog 113 (.nilFunc) #[.nilFunc] := ⟨z113, rfl⟩
instance : ScalarT Try.prog 113 := ⟨fun w => by kernel_rfl, by kernel_rfl⟩
instance : ElemT Try.prog 113 1 8 (.nilFunc) := ⟨by kernel_rfl⟩
-- 114: []stroke.shape
theorem z114 : ∀ w, (zeroValue 114).run Try.prog w = .ok (.slice none 0 0) w := fun w => by kernel_rfl
instance : ZeroT Try.prog 114 (.slice none 0 0) #[.slice none 0 0] := ⟨z114, rfl⟩
instance : ScalarT Try.prog 114 := ⟨fun w => by kernel_rfl, by kernel_rfl⟩
instance : ElemT Try.prog 114 1 24 (.slice none 0 0) := ⟨by kernel_rfl⟩
instance : SliceT Try.prog 114 136 := ⟨Try.underlying114⟩
-- 115: func([]api.Seg, api.Style) []stroke.shape
theorem z115 : ∀ w, (zeroValue 115).run Try.prog w = .ok (.nilFunc) w := fun w => by kernel_rfl
instance : ZeroT Try.prog 115 (.nilFunc) #[.nilFunc] := ⟨z115, rfl⟩
instance : ScalarT Try.prog 115 := ⟨fun w => by kernel_rfl, by kernel_rfl⟩
instance : ElemT Try.prog 115 1 8 (.nilFunc) := ⟨by kernel_rfl⟩
-- 117: func(tympanref25.Contour) ([]api.Edge, bool)
theorem z117 : ∀ w, (zeroValue 117).run Try.prog w = .ok (.nilFunc) w := fun w => by kernel_rfl
instance : ZeroT Try.prog 117 (.nilFunc) #[.nilFunc] := ⟨z117, rfl⟩
instance : ScalarT Try.prog 117 := ⟨fun w => by kernel_rfl, by kernel_rfl⟩
instance : ElemT Try.prog 117 1 8 (.nilFunc) := ⟨by kernel_rfl⟩
-- 118: U
theorem z118 : ∀ w, (zeroValue 118).run Try.prog w = .ok (.agg #[.int .i64 0, .int .i64 0, .int .i64 0]) w := fun w => by kernel_rfl
instance : ZeroT Try.prog 118 (.agg #[.int .i64 0, .int .i64 0, .int .i64 0]) #[.int .i64 0, .int .i64 0, .int .i64 0] := ⟨z118, rfl⟩
instance : RowT Try.prog 118 3 := ⟨fun w => by kernel_rfl, by kernel_rfl⟩
instance : ElemT Try.prog 118 3 24 (.agg #[.int .i64 0, .int .i64 0, .int .i64 0]) := ⟨by kernel_rfl⟩
-- 119: tympan/tympanref33.Arm
theorem z119 : ∀ w, (zeroValue 119).run Try.prog w = .ok (.agg #[.int .i64 0, .int .i64 0, .int .i64 0]) w := fun w => by kernel_rfl
instance : ZeroT Try.prog 119 (.agg #[.int .i64 0, .int .i64 0, .int .i64 0]) #[.int .i64 0, .int .i64 0, .int .i64 0] := ⟨z119, rfl⟩
instance : RowT Try.prog 119 3 := ⟨fun w => by kernel_rfl, by kernel_rfl⟩
instance : ElemT Try.prog 119 3 24 (.agg #[.int .i64 0, .int .i64 0, .int .i64 0]) := ⟨by kernel_rfl⟩
-- 120: func(api.Edge, int, int) tympanref33.Arm
theorem z120 : ∀ w, (zeroValue 120).run Try.prog w = .ok (.nilFunc) w := fun w => by kernel_rfl
instance : ZeroT Try.prog 120 (.nilFunc) #[.nilFunc] := ⟨z120, rfl⟩
instance : ScalarT Try.prog 120 := ⟨fun w => by kernel_rfl, by kernel_rfl⟩
instance : ElemT Try.prog 120 1 8 (.nilFunc) := ⟨by kernel_rfl⟩
-- 121: func(int, int, int, int, int) bool
theorem z121 : ∀ w, (zeroValue 121).run Try.prog w = .ok (.nilFunc) w := fun w => by kernel_rfl
instance : ZeroT Try.prog 121 (.nilFunc) #[.nilFunc] := ⟨z121, rfl⟩
instance : ScalarT Try.prog 121 := ⟨fun w => by kernel_rfl, by kernel_rfl⟩
instance : ElemT Try.prog 121 1 8 (.nilFunc) := ⟨by kernel_rfl⟩
-- 122: func([]api.Edge, api.Style, int, int) bool
theorem z122 : ∀ w, (zeroValue 122).run Try.prog w = .ok (.nilFunc) w := fun w => by kernel_rfl
instance : ZeroT Try.prog 122 (.nilFunc) #[.nilFunc] := ⟨z122, rfl⟩
instance : ScalarT Try.prog 122 := ⟨fun w => by kernel_rfl, by kernel_rfl⟩
instance : ElemT Try.prog 122 1 8 (.nilFunc) := ⟨by kernel_rfl⟩
-- 123: func(hem.shape, int) hem.slot
theorem z123 : ∀ w, (zeroValue 123).run Try.prog w = .ok (.nilFunc) w := fun w => by kernel_rfl
instance : ZeroT Try.prog 123 (.nilFunc) #[.nilFunc] := ⟨z123, rfl⟩
instance : ScalarT Try.prog 123 := ⟨fun w => by kernel_rfl, by kernel_rfl⟩
instance : ElemT Try.prog 123 1 8 (.nilFunc) := ⟨by kernel_rfl⟩
-- 124: e
theorem z124 : ∀ w, (zeroValue 124).run Try.prog w = .ok (.agg #[.int .i64 0, .int .i64 0, .bool false, .int .i64 0, .int .i64 0, .int .i64 0, .int .i64 0, .int .i64 0, .bool false, .bool false, .nilFunc]) w := fun w => by kernel_rfl
instance : ZeroT Try.prog 124 (.agg #[.int .i64 0, .int .i64 0, .bool false, .int .i64 0, .int .i64 0, .int .i64 0, .int .i64 0, .int .i64 0, .bool false, .bool false, .nilFunc]) #[.int .i64 0, .int .i64 0, .bool false, .int .i64 0, .int .i64 0, .int .i64 0, .int .i64 0, .int .i64 0, .bool false, .bool false, .nilFunc] := ⟨z124, rfl⟩
instance : RowT Try.prog 124 11 := ⟨fun w => by kernel_rfl, by kernel_rfl⟩
instance : ElemT Try.prog 124 11 80 (.agg #[.int .i64 0, .int .i64 0, .bool false, .int .i64 0, .int .i64 0, .int .i64 0, .int .i64 0, .int .i64 0, .bool false, .bool false, .nilFunc]) := ⟨by kernel_rfl⟩
-- 125: tympan/hem.shape
theorem z125 : ∀ w, (zeroValue 125).run Try.prog w = .ok (.agg #[.int .i64 0, .int .i64 0, .bool false, .int .i64 0, .int .i64 0, .int .i64 0, .int .i64 0, .int .i64 0, .bool false, .bool false, .nilFunc]) w := fun w => by kernel_rfl
instance : ZeroT Try.prog 125 (.agg #[.int .i64 0, .int .i64 0, .bool false, .int .i64 0, .int .i64 0, .int .i64 0, .int .i64 0, .int .i64 0, .bool false, .bool false, .nilFunc]) #[.int .i64 0, .int .i64 0, .bool false, .int .i64 0, .int .i64 0, .int .i64 0, .int .i64 0, .int .i64 0, .bool false, .bool false, .nilFunc] := ⟨z125, rfl⟩
instance : RowT Try.prog 125 11 := ⟨fun w => by kernel_rfl, by kernel_rfl⟩
instance : ElemT Try.prog 125 11 80 (.agg #[.int .i64 0, .int .i64 0, .bool false, .int .i64 0, .int .i64 0, .int .i64 0, .int .i64 0, .int .i64 0, .bool false, .bool false, .nilFunc]) := ⟨by kernel_rfl⟩
-- 126: lo
theorem z126 : ∀ w, (zeroValue 126).run Try.prog w = .ok (.agg #[.int .i64 0, .int .i64 0]) w := fun w => by kernel_rfl
instance : ZeroT Try.prog 126 (.agg #[.int .i64 0, .int .i64 0]) #[.int .i64 0, .int .i64 0] := ⟨z126, rfl⟩
instance : RowT Try.prog 126 2 := ⟨fun w => by kernel_rfl, by kernel_rfl⟩
instance : ElemT Try.prog 126 2 16 (.agg #[.int .i64 0, .int .i64 0]) := ⟨by kernel_rfl⟩
-- 127: tympan/hem.slot
theorem z127 : ∀ w, (zeroValue 127).run Try.prog w = .ok (.agg #[.int .i64 0, .int .i64 0]) w := fun w => by kernel_rfl
instance : ZeroT Try.prog 127 (.agg #[.int .i64 0, .int .i64 0]) #[.int .i64 0, .int .i64 0] := ⟨z127, rfl⟩
instance : RowT Try.prog 127 2 := ⟨fun w => by kernel_rfl, by kernel_rfl⟩
instance : ElemT Try.prog 127 2 16 (.agg #[.int .i64 0, .int .i64 0]) := ⟨by kernel_rfl⟩
-- 128: func(path.Contour, api.Style) []hem.shape
theorem z128 : ∀ w, (zeroValue 128).run Try.prog w = .ok (.nilFunc) w := fun w => by kernel_rfl
instance : ZeroT Try.prog 128 (.nilFunc) #[.nilFunc] := ⟨z128, rfl⟩
instance : ScalarT Try.prog 128 := ⟨fun w => by kernel_rfl, by kernel_rfl⟩
instance : ElemT Try.prog 128 1 8 (.nilFunc) := ⟨by kernel_rfl⟩
-- 129: func() int
theorem z129 : ∀ w, (zeroValue 129).run Try.prog w = .ok (.nilFunc) w := fun w => by kernel_rfl
instance : ZeroT Try.prog 129 (.nilFunc) #[.nilFunc] := ⟨z129, rfl⟩
instance : ScalarT Try.prog 129 := ⟨fun w => by kernel_rfl, by kernel_rfl⟩
instance : ElemT Try.prog 129 1 8 (.nilFunc) := ⟨by kernel_rfl⟩
-- 130: func(api.Seg, int) bool
theorem z130 : ∀ w, (zeroValue 130).run Try.prog w = .ok (.nilFunc) w := fun w => by kernel_rfl
instance : ZeroT Try.prog 130 (.nilFunc) #[.nilFunc] := ⟨z130, rfl⟩
instance : ScalarT Try.prog 130 := ⟨fun w => by kernel_rfl, by kernel_rfl⟩
instance : ElemT Try.prog 130 1 8 (.nilFunc) := ⟨by kernel_rfl⟩
-- 131: func([64]bool, [64]bool, func(bool, bool) bool) [64]bool
theorem z131 : ∀ w, (zeroValue 131).run Try.prog w = .ok (.nilFunc) w := fun w => by kernel_rfl
instance : ZeroT Try.prog 131 (.nilFunc) #[.nilFunc] := ⟨z131, rfl⟩
instance : ScalarT Try.prog 131 := ⟨fun w => by kernel_rfl, by kernel_rfl⟩
instance : ElemT Try.prog 131 1 8 (.nilFunc) := ⟨by kernel_rfl⟩
-- 132: func() []api.Run
theorem z132 : ∀ w, (zeroValue 132).run Try.prog w = .ok (.nilFunc) w := fun w => by kernel_rfl
instance : ZeroT Try.prog 132 (.nilFunc) #[.nilFunc] := ⟨z132, rfl⟩
instance : ScalarT Try.prog 132 := ⟨fun w => by kernel_rfl, by kernel_rfl⟩
instance : ElemT Try.prog 132 1 8 (.nilFunc) := ⟨by kernel_rfl⟩
-- 133: *path.Contour
theorem z133 : ∀ w, (zeroValue 133).run Try.prog w = .ok (.pointer none) w := fun w => by kernel_rfl
instance : ZeroT Try.prog 133 (.pointer none) #[.pointer none] := ⟨z133, rfl⟩
instance : ScalarT Try.prog 133 := ⟨fun w => by kernel_rfl, by kernel_rfl⟩
instance : ElemT Try.prog 133 1 8 (.pointer none) := ⟨by kernel_rfl⟩
-- 134: func(int, int, func(int) []api.Run) (api.Region, api.Errno)
theorem z134 : ∀ w, (zeroValue 134).run Try.prog w = .ok (.nilFunc) w := fun w => by kernel_rfl
instance : ZeroT Try.prog 134 (.nilFunc) #[.nilFunc] := ⟨z134, rfl⟩
instance : ScalarT Try.prog 134 := ⟨fun w => by kernel_rfl, by kernel_rfl⟩
instance : ElemT Try.prog 134 1 8 (.nilFunc) := ⟨by kernel_rfl⟩
-- 136: tympan/stroke.shape
theorem z136 : ∀ w, (zeroValue 136).run Try.prog w = .ok (.nilIface) w := fun w => by kernel_rfl
instance : ZeroT Try.prog 136 (.nilIface) #[.nilIface] := ⟨z136, rfl⟩
instance : ScalarT Try.prog 136 := ⟨fun w => by kernel_rfl, by kernel_rfl⟩
instance : ElemT Try.prog 136 1 16 (.nilIface) := ⟨by kernel_rfl⟩
-- 137: func(int, int) bool
theorem z137 : ∀ w, (zeroValue 137).run Try.prog w = .ok (.nilFunc) w := fun w => by kernel_rfl
instance : ZeroT Try.prog 137 (.nilFunc) #[.nilFunc] := ⟨z137, rfl⟩
instance : ScalarT Try.prog 137 := ⟨fun w => by kernel_rfl, by kernel_rfl⟩
instance : ElemT Try.prog 137 1 8 (.nilFunc) := ⟨by kernel_rfl⟩
-- 138: func(path.Contour, api.Style) []stroke.shape
theorem z138 : ∀ w, (zeroValue 138).run Try.prog w = .ok (.nilFunc) w := fun w => by kernel_rfl
instance : ZeroT Try.prog 138 (.nilFunc) #[.nilFunc] := ⟨z138, rfl⟩
instance : ScalarT Try.prog 138 := ⟨fun w => by kernel_rfl, by kernel_rfl⟩
instance : ElemT Try.prog 138 1 8 (.nilFunc) := ⟨by kernel_rfl⟩
-- 139: func(api.Seg) bool
theorem z139 : ∀ w, (zeroValue 139).run Try.prog w = .ok (.nilFunc) w := fun w => by kernel_rfl
instance : ZeroT Try.prog 139 (.nilFunc) #[.nilFunc] := ⟨z139, rfl⟩
instance : ScalarT Try.prog 139 := ⟨fun w => by kernel_rfl, by kernel_rfl⟩
instance : ElemT Try.prog 139 1 8 (.nilFunc) := ⟨by kernel_rfl⟩
-- 140: func(path.Contour) []api.Edge
theorem z140 : ∀ w, (zeroValue 140).run Try.prog w = .ok (.nilFunc) w := fun w => by kernel_rfl
instance : ZeroT Try.prog 140 (.nilFunc) #[.nilFunc] := ⟨z140, rfl⟩
instance : ScalarT Try.prog 140 := ⟨fun w => by kernel_rfl, by kernel_rfl⟩
instance : ElemT Try.prog 140 1 8 (.nilFunc) := ⟨by kernel_rfl⟩
-- 141: func(int, int, int, func(hem.shape, int) hem.slot) hem.shape
theorem z141 : ∀ w, (zeroValue 141).run Try.prog w = .ok (.nilFunc) w := fun w => by kernel_rfl
instance : ZeroT Try.prog 141 (.nilFunc) #[.nilFunc] := ⟨z141, rfl⟩
instance : ScalarT Try.prog 141 := ⟨fun w => by kernel_rfl, by kernel_rfl⟩
instance : ElemT Try.prog 141 1 8 (.nilFunc) := ⟨by kernel_rfl⟩
-- 142: e
theorem z142 : ∀ w, (zeroValue 142).run Try.prog w = .ok (.agg #[.int .i64 0, .int .i64 0, .bool false, .int .i64 0, .int .i64 0, .int .i64 0, .int .i64 0, .int .i64 0, .bool false, .bool false]) w := fun w => by kernel_rfl
instance : ZeroT Try.prog 142 (.agg #[.int .i64 0, .int .i64 0, .bool false, .int .i64 0, .int .i64 0, .int .i64 0, .int .i64 0, .int .i64 0, .bool false, .bool false]) #[.int .i64 0, .int .i64 0, .bool false, .int .i64 0, .int .i64 0, .int .i64 0, .int .i64 0, .int .i64 0, .bool false, .bool false] := ⟨z142, rfl⟩
instance : RowT Try.prog 142 10 := ⟨fun w => by kernel_rfl, by kernel_rfl⟩
instance : ElemT Try.prog 142 10 72 (.agg #[.int .i64 0, .int .i64 0, .bool false, .int .i64 0, .int .i64 0, .int .i64 0, .int .i64 0, .int .i64 0, .bool false, .bool false]) := ⟨by kernel_rfl⟩
-- 143: tympan/stroke.piece
theorem z143 : ∀ w, (zeroValue 143).run Try.prog w = .ok (.agg #[.int .i64 0, .int .i64 0, .bool false, .int .i64 0, .int .i64 0, .int .i64 0, .int .i64 0, .int .i64 0, .bool false, .bool false]) w := fun w => by kernel_rfl
instance : ZeroT Try.prog 143 (.agg #[.int .i64 0, .int .i64 0, .bool false, .int .i64 0, .int .i64 0, .int .i64 0, .int .i64 0, .int .i64 0, .bool false, .bool false]) #[.int .i64 0, .int .i64 0, .bool false, .int .i64 0, .int .i64 0, .int .i64 0, .int .i64 0, .int .i64 0, .bool false, .bool false] := ⟨z143, rfl⟩
instance : RowT Try.prog 143 10 := ⟨fun w => by kernel_rfl, by kernel_rfl⟩
instance : ElemT Try.prog 143 10 72 (.agg #[.int .i64 0, .int .i64 0, .bool false, .int .i64 0, .int .i64 0, .int .i64 0, .int .i64 0, .int .i64 0, .bool false, .bool false]) := ⟨by kernel_rfl⟩
-- 144: x
theorem z144 : ∀ w, (zeroValue 144).run Try.prog w = .ok (.agg #[.int .i64 0, .int .i64 0, .int .i64 0]) w := fun w => by kernel_rfl
instance : ZeroT Try.prog 144 (.agg #[.int .i64 0, .int .i64 0, .int .i64 0]) #[.int .i64 0, .int .i64 0, .int .i64 0] := ⟨z144, rfl⟩
instance : RowT Try.prog 144 3 := ⟨fun w => by kernel_rfl, by kernel_rfl⟩
instance : ElemT Try.prog 144 3 24 (.agg #[.int .i64 0, .int .i64 0, .int .i64 0]) := ⟨by kernel_rfl⟩
-- 145: tympan/stroke.disc
theorem z145 : ∀ w, (zeroValue 145).run Try.prog w = .ok (.agg #[.int .i64 0, .int .i64 0, .int .i64 0]) w := fun w => by kernel_rfl
instance : ZeroT Try.prog 145 (.agg #[.int .i64 0, .int .i64 0, .int .i64 0]) #[.int .i64 0, .int .i64 0, .int .i64 0] := ⟨z145, rfl⟩
instance : RowT Try.prog 145 3 := ⟨fun w => by kernel_rfl, by kernel_rfl⟩
instance : ElemT Try.prog 145 3 24 (.agg #[.int .i64 0, .int .i64 0, .int .i64 0]) := ⟨by kernel_rfl⟩
-- 146: func(int, int, int) int
theorem z146 : ∀ w, (zeroValue 146).run Try.prog w = .ok (.nilFunc) w := fun w => by kernel_rfl
instance : ZeroT Try.prog 146 (.nilFunc) #[.nilFunc] := ⟨z146, rfl⟩
instance : ScalarT Try.prog 146 := ⟨fun w => by kernel_rfl, by kernel_rfl⟩
instance : ElemT Try.prog 146 1 8 (.nilFunc) := ⟨by kernel_rfl⟩
-- 147: func() hem.slot
theorem z147 : ∀ w, (zeroValue 147).run Try.prog w = .ok (.nilFunc) w := fun w => by kernel_rfl
instance : ZeroT Try.prog 147 (.nilFunc) #[.nilFunc] := ⟨z147, rfl⟩
instance : ScalarT Try.prog 147 := ⟨fun w => by kernel_rfl, by kernel_rfl⟩
instance : ElemT Try.prog 147 1 8 (.nilFunc) := ⟨by kernel_rfl⟩
-- 148: func(int, int, int, int) hem.slot
theorem z148 : ∀ w, (zeroValue 148).run Try.prog w = .ok (.nilFunc) w := fun w => by kernel_rfl
instance : ZeroT Try.prog 148 (.nilFunc) #[.nilFunc] := ⟨z148, rfl⟩
instance : ScalarT Try.prog 148 := ⟨fun w => by kernel_rfl, by kernel_rfl⟩
instance : ElemT Try.prog 148 1 8 (.nilFunc) := ⟨by kernel_rfl⟩
-- 149: tympan/stroke.square
theorem z149 : ∀ w, (zeroValue 149).run Try.prog w = .ok (.agg #[.int .i64 0, .int .i64 0, .int .i64 0]) w := fun w => by kernel_rfl
instance : ZeroT Try.prog 149 (.agg #[.int .i64 0, .int .i64 0, .int .i64 0]) #[.int .i64 0, .int .i64 0, .int .i64 0] := ⟨z149, rfl⟩
instance : RowT Try.prog 149 3 := ⟨fun w => by kernel_rfl, by kernel_rfl⟩
instance : ElemT Try.prog 149 3 24 (.agg #[.int .i64 0, .int .i64 0, .int .i64 0]) := ⟨by kernel_rfl⟩
-- 150: Hi
theorem z150 : ∀ w, (zeroValue 150).run Try.prog w = .ok (.agg #[.int .u64 0, .int .u64 0]) w := fun w => by kernel_rfl
instance : ZeroT Try.prog 150 (.agg #[.int .u64 0, .int .u64 0]) #[.int .u64 0, .int .u64 0] := ⟨z150, rfl⟩
instance : RowT Try.prog 150 2 := ⟨fun w => by kernel_rfl, by kernel_rfl⟩
instance : ElemT Try.prog 150 2 16 (.agg #[.int .u64 0, .int .u64 0]) := ⟨by kernel_rfl⟩
-- 151: tympan/tympanref24.Wide
theorem z151 : ∀ w, (zeroValue 151).run Try.prog w = .ok (.agg #[.int .u64 0, .int .u64 0]) w := fun w => by kernel_rfl
instance : ZeroT Try.prog 151 (.agg #[.int .u64 0, .int .u64 0]) #[.int .u64 0, .int .u64 0] := ⟨z151, rfl⟩
instance : RowT Try.prog 151 2 := ⟨fun w => by kernel_rfl, by kernel_rfl⟩
instance : ElemT Try.prog 151 2 16 (.agg #[.int .u64 0, .int .u64 0]) := ⟨by kernel_rfl⟩
-- 152: func(uint64, uint64) tympanref24.Wide
theorem z152 : ∀ w, (zeroValue 152).run Try.prog w = .ok (.nilFunc) w := fun w => by kernel_rfl
instance : ZeroT Try.prog 152 (.nilFunc) #[.nilFunc] := ⟨z152, rfl⟩
instance : ScalarT Try.prog 152 := ⟨fun w => by kernel_rfl, by kernel_rfl⟩
instance : ElemT Try.prog 152 1 8 (.nilFunc) := ⟨by kernel_rfl⟩
-- 153: func(int) uint64
theorem z153 : ∀ w, (zeroValue 153).run Try.prog w = .ok (.nilFunc) w := fun w => by kernel_rfl
instance : ZeroT Try.prog 153 (.nilFunc) #[.nilFunc] := ⟨z153, rfl⟩
instance : ScalarT Try.prog 153 := ⟨fun w => by kernel_rfl, by kernel_rfl⟩
instance : ElemT Try.prog 153 1 8 (.nilFunc) := ⟨by kernel_rfl⟩
-- 154: func(tympanref24.Wide, uint64, tympanref24.Wide) int
theorem z154 : ∀ w, (zeroValue 154).run Try.prog w = .ok (.nilFunc) w := fun w => by kernel_rfl
instance : ZeroT Try.prog 154 (.nilFunc) #[.nilFunc] := ⟨z154, rfl⟩
instance : ScalarT Try.prog 154 := ⟨fun w => by kernel_rfl, by kernel_rfl⟩
instance : ElemT Try.prog 154 1 8 (.nilFunc) := ⟨by kernel_rfl⟩
-- 155: func(tympanref24.Wide, tympanref24.Wide) int
theorem z155 : ∀ w, (zeroValue 155).run Try.prog w = .ok (.nilFunc) w := fun w => by kernel_rfl
instance : ZeroT Try.prog 155 (.nilFunc) #[.nilFunc] := ⟨z155, rfl⟩
instance : ScalarT Try.prog 155 := ⟨fun w => by kernel_rfl, by kernel_rfl⟩
instance : ElemT Try.prog 155 1 8 (.nilFunc) := ⟨by kernel_rfl⟩
-- 156: func() string
theorem z156 : ∀ w, (zeroValue 156).run Try.prog w = .ok (.nilFunc) w := fun w => by kernel_rfl
instance : ZeroT Try.prog 156 (.nilFunc) #[.nilFunc] := ⟨z156, rfl⟩
instance : ScalarT Try.prog 156 := ⟨fun w => by kernel_rfl, by kernel_rfl⟩
instance : ElemT Try.prog 156 1 8 (.nilFunc) := ⟨by kernel_rfl⟩
-- 162: uint32
theorem z162 : ∀ w, (zeroValue 162).run Try.prog w = .ok (.int .u32 0) w := fun w => by kernel_rfl
instance : ZeroT Try.prog 162 (.int .u32 0) #[.int .u32 0] := ⟨z162, rfl⟩
instance : ScalarT Try.prog 162 := ⟨fun w => by kernel_rfl, by kernel_rfl⟩
instance : ElemT Try.prog 162 1 4 (.int .u32 0) := ⟨by kernel_rfl⟩
-- 165: func(unsafe.Pointer, unsafe.Pointer) bool
theorem z165 : ∀ w, (zeroValue 165).run Try.prog w = .ok (.nilFunc) w := fun w => by kernel_rfl
instance : ZeroT Try.prog 165 (.nilFunc) #[.nilFunc] := ⟨z165, rfl⟩
instance : ScalarT Try.prog 165 := ⟨fun w => by kernel_rfl, by kernel_rfl⟩
instance : ElemT Try.prog 165 1 8 (.nilFunc) := ⟨by kernel_rfl⟩
-- 166: *uint8
theorem z166 : ∀ w, (zeroValue 166).run Try.prog w = .ok (.pointer none) w := fun w => by kernel_rfl
instance : ZeroT Try.prog 166 (.pointer none) #[.pointer none] := ⟨z166, rfl⟩
instance : ScalarT Try.prog 166 := ⟨fun w => by kernel_rfl, by kernel_rfl⟩
instance : ElemT Try.prog 166 1 8 (.pointer none) := ⟨by kernel_rfl⟩
-- 169: Size_
theorem z169 : ∀ w, (zeroValue 169).run Try.prog w = .ok (.agg #[.int .u64 0, .int .u64 0, .int .u32 0, .int .u8 0, .int .u8 0, .int .u8 0, .int .u8 0, .nilFunc, .pointer none, .int .i32 0, .int .i32 0]) w := fun w => by kernel_rfl
instance : ZeroT Try.prog 169 (.agg #[.int .u64 0, .int .u64 0, .int .u32 0, .int .u8 0, .int .u8 0, .int .u8 0, .int .u8 0, .nilFunc, .pointer none, .int .i32 0, .int .i32 0]) #[.int .u64 0, .int .u64 0, .int .u32 0, .int .u8 0, .int .u8 0, .int .u8 0, .int .u8 0, .nilFunc, .pointer none, .int .i32 0, .int .i32 0] := ⟨z169, rfl⟩
instance : RowT Try.prog 169 11 := ⟨fun w => by kernel_rfl, by kernel_rfl⟩
instance : ElemT Try.prog 169 11 48 (.agg #[.int .u64 0, .int .u64 0, .int .u32 0, .int .u8 0, .int .u8 0, .int .u8 0, .int .u8 0, .nilFunc, .pointer none, .int .i32 0, .int .i32 0]) := ⟨by kernel_rfl⟩
-- 171: func() (int, int)
theorem z171 : ∀ w, (zeroValue 171).run Try.prog w = .ok (.nilFunc) w := fun w => by kernel_rfl
instance : ZeroT Try.prog 171 (.nilFunc) #[.nilFunc] := ⟨z171, rfl⟩
instance : ScalarT Try.prog 171 := ⟨fun w => by kernel_rfl, by kernel_rfl⟩
instance : ElemT Try.prog 171 1 8 (.nilFunc) := ⟨by kernel_rfl⟩
-- 173: func(int, int, int) (int, bool)
theorem z173 : ∀ w, (zeroValue 173).run Try.prog w = .ok (.nilFunc) w := fun w => by kernel_rfl
instance : ZeroT Try.prog 173 (.nilFunc) #[.nilFunc] := ⟨z173, rfl⟩
instance : ScalarT Try.prog 173 := ⟨fun w => by kernel_rfl, by kernel_rfl⟩
instance : ElemT Try.prog 173 1 8 (.nilFunc) := ⟨by kernel_rfl⟩
-- 174: func(int, int, int, int) int
theorem z174 : ∀ w, (zeroValue 174).run Try.prog w = .ok (.nilFunc) w := fun w => by kernel_rfl
instance : ZeroT Try.prog 174 (.nilFunc) #[.nilFunc] := ⟨z174, rfl⟩
instance : ScalarT Try.prog 174 := ⟨fun w => by kernel_rfl, by kernel_rfl⟩
instance : ElemT Try.prog 174 1 8 (.nilFunc) := ⟨by kernel_rfl⟩
-- 176: func(int, int) (int, uint64)
theorem z176 : ∀ w, (zeroValue 176).run Try.prog w = .ok (.nilFunc) w := fun w => by kernel_rfl
instance : ZeroT Try.prog 176 (.nilFunc) #[.nilFunc] := ⟨z176, rfl⟩
instance : ScalarT Try.prog 176 := ⟨fun w => by kernel_rfl, by kernel_rfl⟩
instance : ElemT Try.prog 176 1 8 (.nilFunc) := ⟨by kernel_rfl⟩
-- 178: func(uint64, uint64) (uint64, uint64)
theorem z178 : ∀ w, (zeroValue 178).run Try.prog w = .ok (.nilFunc) w := fun w => by kernel_rfl
instance : ZeroT Try.prog 178 (.nilFunc) #[.nilFunc] := ⟨z178, rfl⟩
instance : ScalarT Try.prog 178 := ⟨fun w => by kernel_rfl, by kernel_rfl⟩
instance : ElemT Try.prog 178 1 8 (.nilFunc) := ⟨by kernel_rfl⟩
-- 179: [4]uint64
theorem z179 : ∀ w, (zeroValue 179).run Try.prog w = .ok (.agg #[.int .u64 0, .int .u64 0, .int .u64 0, .int .u64 0]) w := fun w => by kernel_rfl
instance : ZeroT Try.prog 179 (.agg #[.int .u64 0, .int .u64 0, .int .u64 0, .int .u64 0]) #[.int .u64 0, .int .u64 0, .int .u64 0, .int .u64 0] := ⟨z179, rfl⟩
instance : RowT Try.prog 179 4 := ⟨fun w => by kernel_rfl, by kernel_rfl⟩
instance : ElemT Try.prog 179 4 32 (.agg #[.int .u64 0, .int .u64 0, .int .u64 0, .int .u64 0]) := ⟨by kernel_rfl⟩
instance : ArrT Try.prog 179 4 52 := ⟨Try.underlying179, fun w => by kernel_rfl, by kernel_rfl⟩
end Go.Proofs.Ytfnolaoohmecbaa
