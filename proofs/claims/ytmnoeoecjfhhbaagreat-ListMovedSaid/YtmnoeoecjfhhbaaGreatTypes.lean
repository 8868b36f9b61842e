/- What the types of this seat's program are: by program (gen_types.py). -/
import Derived.Test.YtmnoeoecjfhhbaaGreatProg
import Derived.Test.YtmnoeoecjfhhbaaGreatHoldM
import Derived.KernelRfl
namespace Go.Proofs.YtmnoeoecjfhhbaaGreat
-- 2: int64
theorem z2 : ∀ w, (zeroValue 2).run Tryz.prog w = .ok (.int .i64 0) w := fun w => by kernel_rfl
instance : ZeroT Tryz.prog 2 (.int .i64 0) #[.int .i64 0] := ⟨z2, rfl⟩
instance : ScalarT Tryz.prog 2 := ⟨fun w => by kernel_rfl, by kernel_rfl⟩
instance : ElemT Tryz.prog 2 1 8 (.int .i64 0) := ⟨by kernel_rfl⟩
-- 3: int
theorem z3 : ∀ w, (zeroValue 3).run Tryz.prog w = .ok (.int .i64 0) w := fun w => by kernel_rfl
instance : ZeroT Tryz.prog 3 (.int .i64 0) #[.int .i64 0] := ⟨z3, rfl⟩
instance : ScalarT Tryz.prog 3 := ⟨fun w => by kernel_rfl, by kernel_rfl⟩
instance : ElemT Tryz.prog 3 1 8 (.int .i64 0) := ⟨by kernel_rfl⟩
-- 4: bool
theorem z4 : ∀ w, (zeroValue 4).run Tryz.prog w = .ok (.bool false) w := fun w => by kernel_rfl
instance : ZeroT Tryz.prog 4 (.bool false) #[.bool false] := ⟨z4, rfl⟩
instance : ScalarT Tryz.prog 4 := ⟨fun w => by kernel_rfl, by kernel_rfl⟩
instance : ElemT Tryz.prog 4 1 1 (.bool false) := ⟨by kernel_rfl⟩
-- 5: uint8
theorem z5 : ∀ w, (zeroValue 5).run Tryz.prog w = .ok (.int .u8 0) w := fun w => by kernel_rfl
instance : ZeroT Tryz.prog 5 (.int .u8 0) #[.int .u8 0] := ⟨z5, rfl⟩
instance : ScalarT Tryz.prog 5 := ⟨fun w => by kernel_rfl, by kernel_rfl⟩
instance : ElemT Tryz.prog 5 1 1 (.int .u8 0) := ⟨by kernel_rfl⟩
-- 9: string
theorem z9 : ∀ w, (zeroValue 9).run Tryz.prog w = .ok (.string ByteArray.empty) w := fun w => by kernel_rfl
instance : ZeroT Tryz.prog 9 (.string ByteArray.empty) #[.string ByteArray.empty] := ⟨z9, rfl⟩
instance : ScalarT Tryz.prog 9 := ⟨fun w => by kernel_rfl, by kernel_rfl⟩
instance : ElemT Tryz.prog 9 1 16 (.string ByteArray.empty) := ⟨by kernel_rfl⟩
-- 21: int32
theorem z21 : ∀ w, (zeroValue 21).run Tryz.prog w = .ok (.int .i32 0) w := fun w => by kernel_rfl
instance : ZeroT Tryz.prog 21 (.int .i32 0) #[.int .i32 0] := ⟨z21, rfl⟩
instance : ScalarT Tryz.prog 21 := ⟨fun w => by kernel_rfl, by kernel_rfl⟩
instance : ElemT Tryz.prog 21 1 4 (.int .i32 0) := ⟨by kernel_rfl⟩
-- 22: []api.Seg
theorem z22 : ∀ w, (zeroValue 22).run Tryz.prog w = .ok (.slice none 0 0) w := fun w => by kernel_rfl
instance : ZeroT Tryz.prog 22 (.slice none 0 0) #[.slice none 0 0] := ⟨z22, rfl⟩
instance : ScalarT Tryz.prog 22 := ⟨fun w => by kernel_rfl, by kernel_rfl⟩
instance : ElemT Tryz.prog 22 1 24 (.slice none 0 0) := ⟨by kernel_rfl⟩
instance : SliceT Tryz.prog 22 78 := ⟨Tryz.underlying22⟩
-- 23: Wide
theorem z23 : ∀ w, (zeroValue 23).run Tryz.prog w = .ok (.agg #[.int .i64 0, .int .i64 0, .int .i64 0]) w := fun w => by kernel_rfl
instance : ZeroT Tryz.prog 23 (.agg #[.int .i64 0, .int .i64 0, .int .i64 0]) #[.int .i64 0, .int .i64 0, .int .i64 0] := ⟨z23, rfl⟩
instance : RowT Tryz.prog 23 3 := ⟨fun w => by kernel_rfl, by kernel_rfl⟩
instance : ElemT Tryz.prog 23 3 24 (.agg #[.int .i64 0, .int .i64 0, .int .i64 0]) := ⟨by kernel_rfl⟩
-- 24: tympan/api.Style
theorem z24 : ∀ w, (zeroValue 24).run Tryz.prog w = .ok (.agg #[.int .i64 0, .int .i64 0, .int .i64 0]) w := fun w => by kernel_rfl
instance : ZeroT Tryz.prog 24 (.agg #[.int .i64 0, .int .i64 0, .int .i64 0]) #[.int .i64 0, .int .i64 0, .int .i64 0] := ⟨z24, rfl⟩
instance : RowT Tryz.prog 24 3 := ⟨fun w => by kernel_rfl, by kernel_rfl⟩
instance : ElemT Tryz.prog 24 3 24 (.agg #[.int .i64 0, .int .i64 0, .int .i64 0]) := ⟨by kernel_rfl⟩
-- 25: W
theorem z25 : ∀ w, (zeroValue 25).run Tryz.prog w = .ok (.agg #[.int .i64 0, .int .i64 0, .int .i64 0, .string ByteArray.empty]) w := fun w => by kernel_rfl
instance : ZeroT Tryz.prog 25 (.agg #[.int .i64 0, .int .i64 0, .int .i64 0, .string ByteArray.empty]) #[.int .i64 0, .int .i64 0, .int .i64 0, .string ByteArray.empty] := ⟨z25, rfl⟩
instance : RowT Tryz.prog 25 4 := ⟨fun w => by kernel_rfl, by kernel_rfl⟩
instance : ElemT Tryz.prog 25 4 40 (.agg #[.int .i64 0, .int .i64 0, .int .i64 0, .string ByteArray.empty]) := ⟨by kernel_rfl⟩
-- 26: tympan/api.Image
theorem z26 : ∀ w, (zeroValue 26).run Tryz.prog w = .ok (.agg #[.int .i64 0, .int .i64 0, .int .i64 0, .string ByteArray.empty]) w := fun w => by kernel_rfl
instance : ZeroT Tryz.prog 26 (.agg #[.int .i64 0, .int .i64 0, .int .i64 0, .string ByteArray.empty]) #[.int .i64 0, .int .i64 0, .int .i64 0, .string ByteArray.empty] := ⟨z26, rfl⟩
instance : RowT Tryz.prog 26 4 := ⟨fun w => by kernel_rfl, by kernel_rfl⟩
instance : ElemT Tryz.prog 26 4 40 (.agg #[.int .i64 0, .int .i64 0, .int .i64 0, .string ByteArray.empty]) := ⟨by kernel_rfl⟩
-- 27: A
theorem z27 : ∀ w, (zeroValue 27).run Tryz.prog w = .ok (.agg #[.int .i64 0, .int .i64 0, .int .i64 0, .int .i64 0, .int .i64 0, .int .i64 0]) w := fun w => by kernel_rfl
instance : ZeroT Tryz.prog 27 (.agg #[.int .i64 0, .int .i64 0, .int .i64 0, .int .i64 0, .int .i64 0, .int .i64 0]) #[.int .i64 0, .int .i64 0, .int .i64 0, .int .i64 0, .int .i64 0, .int .i64 0] := ⟨z27, rfl⟩
instance : RowT Tryz.prog 27 6 := ⟨fun w => by kernel_rfl, by kernel_rfl⟩
instance : ElemT Tryz.prog 27 6 48 (.agg #[.int .i64 0, .int .i64 0, .int .i64 0, .int .i64 0, .int .i64 0, .int .i64 0]) := ⟨by kernel_rfl⟩
-- 28: tympan/api.Mat
theorem z28 : ∀ w, (zeroValue 28).run Tryz.prog w = .ok (.agg #[.int .i64 0, .int .i64 0, .int .i64 0, .int .i64 0, .int .i64 0, .int .i64 0]) w := fun w => by kernel_rfl
instance : ZeroT Tryz.prog 28 (.agg #[.int .i64 0, .int .i64 0, .int .i64 0, .int .i64 0, .int .i64 0, .int .i64 0]) #[.int .i64 0, .int .i64 0, .int .i64 0, .int .i64 0, .int .i64 0, .int .i64 0] := ⟨z28, rfl⟩
instance : RowT Tryz.prog 28 6 := ⟨fun w => by kernel_rfl, by kernel_rfl⟩
instance : ElemT Tryz.prog 28 6 48 (.agg #[.int .i64 0, .int .i64 0, .int .i64 0, .int .i64 0, .int .i64 0, .int .i64 0]) := ⟨by kernel_rfl⟩
-- 29: R
theorem z29 : ∀ w, (zeroValue 29).run Tryz.prog w = .ok (.agg #[.int .u8 0, .int .u8 0, .int .u8 0, .int .u8 0]) w := fun w => by kernel_rfl
instance : ZeroT Tryz.prog 29 (.agg #[.int .u8 0, .int .u8 0, .int .u8 0, .int .u8 0]) #[.int .u8 0, .int .u8 0, .int .u8 0, .int .u8 0] := ⟨z29, rfl⟩
instance : RowT Tryz.prog 29 4 := ⟨fun w => by kernel_rfl, by kernel_rfl⟩
instance : ElemT Tryz.prog 29 4 4 (.agg #[.int .u8 0, .int .u8 0, .int .u8 0, .int .u8 0]) := ⟨by kernel_rfl⟩
-- 30: tympan/api.Ink
theorem z30 : ∀ w, (zeroValue 30).run Tryz.prog w = .ok (.agg #[.int .u8 0, .int .u8 0, .int .u8 0, .int .u8 0]) w := fun w => by kernel_rfl
instance : ZeroT Tryz.prog 30 (.agg #[.int .u8 0, .int .u8 0, .int .u8 0, .int .u8 0]) #[.int .u8 0, .int .u8 0, .int .u8 0, .int .u8 0] := ⟨z30, rfl⟩
instance : RowT Tryz.prog 30 4 := ⟨fun w => by kernel_rfl, by kernel_rfl⟩
instance : ElemT Tryz.prog 30 4 4 (.agg #[.int .u8 0, .int .u8 0, .int .u8 0, .int .u8 0]) := ⟨by kernel_rfl⟩
-- 31: []api.Clip
theorem z31 : ∀ w, (zeroValue 31).run Tryz.prog w = .ok (.slice none 0 0) w := fun w => by kernel_rfl
instance : ZeroT Tryz.prog 31 (.slice none 0 0) #[.slice none 0 0] := ⟨z31, rfl⟩
instance : ScalarT Tryz.prog 31 := ⟨fun w => by kernel_rfl, by kernel_rfl⟩
instance : ElemT Tryz.prog 31 1 24 (.slice none 0 0) := ⟨by kernel_rfl⟩
instance : SliceT Tryz.prog 31 71 := ⟨Tryz.underlying31⟩
-- 32: Kind
theorem z32 : ∀ w, (zeroValue 32).run Tryz.prog w = .ok (.agg #[.int .i64 0, .slice none 0 0, .int .i64 0, .int .i64 0, .int .i64 0, .int .i64 0, .int .i64 0, .int .i64 0, .int .i64 0, .string ByteArray.empty, .int .i64 0, .int .i64 0, .int .i64 0, .int .i64 0, .int .i64 0, .int .i64 0, .int .u8 0, .int .u8 0, .int .u8 0, .int .u8 0, .slice none 0 0]) w := fun w => by kernel_rfl
instance : ZeroT Tryz.prog 32 (.agg #[.int .i64 0, .slice none 0 0, .int .i64 0, .int .i64 0, .int .i64 0, .int .i64 0, .int .i64 0, .int .i64 0, .int .i64 0, .string ByteArray.empty, .int .i64 0, .int .i64 0, .int .i64 0, .int .i64 0, .int .i64 0, .int .i64 0, .int .u8 0, .int .u8 0, .int .u8 0, .int .u8 0, .slice none 0 0]) #[.int .i64 0, .slice none 0 0, .int .i64 0, .int .i64 0, .int .i64 0, .int .i64 0, .int .i64 0, .int .i64 0, .int .i64 0, .string ByteArray.empty, .int .i64 0, .int .i64 0, .int .i64 0, .int .i64 0, .int .i64 0, .int .i64 0, .int .u8 0, .int .u8 0, .int .u8 0, .int .u8 0, .slice none 0 0] := ⟨z32, rfl⟩
instance : RowT Tryz.prog 32 21 := ⟨fun w => by kernel_rfl, by kernel_rfl⟩
instance : ElemT Tryz.prog 32 21 184 (.agg #[.int .i64 0, .slice none 0 0, .int .i64 0, .int .i64 0, .int .i64 0, .int .i64 0, .int .i64 0, .int .i64 0, .int .i64 0, .string ByteArray.empty, .int .i64 0, .int .i64 0, .int .i64 0, .int .i64 0, .int .i64 0, .int .i64 0, .int .u8 0, .int .u8 0, .int .u8 0, .int .u8 0, .slice none 0 0]) := ⟨by kernel_rfl⟩
-- 33: tympan/api.Item
theorem z33 : ∀ w, (zeroValue 33).run Tryz.prog w = .ok (.agg #[.int .i64 0, .slice none 0 0, .int .i64 0, .int .i64 0, .int .i64 0, .int .i64 0, .int .i64 0, .int .i64 0, .int .i64 0, .string ByteArray.empty, .int .i64 0, .int .i64 0, .int .i64 0, .int .i64 0, .int .i64 0, .int .i64 0, .int .u8 0, .int .u8 0, .int .u8 0, .int .u8 0, .slice none 0 0]) w := fun w => by kernel_rfl
instance : ZeroT Tryz.prog 33 (.agg #[.int .i64 0, .slice none 0 0, .int .i64 0, .int .i64 0, .int .i64 0, .int .i64 0, .int .i64 0, .int .i64 0, .int .i64 0, .string ByteArray.empty, .int .i64 0, .int .i64 0, .int .i64 0, .int .i64 0, .int .i64 0, .int .i64 0, .int .u8 0, .int .u8 0, .int .u8 0, .int .u8 0, .slice none 0 0]) #[.int .i64 0, .slice none 0 0, .int .i64 0, .int .i64 0, .int .i64 0, .int .i64 0, .int .i64 0, .int .i64 0, .int .i64 0, .string ByteArray.empty, .int .i64 0, .int .i64 0, .int .i64 0, .int .i64 0, .int .i64 0, .int .i64 0, .int .u8 0, .int .u8 0, .int .u8 0, .int .u8 0, .slice none 0 0] := ⟨z33, rfl⟩
instance : RowT Tryz.prog 33 21 := ⟨fun w => by kernel_rfl, by kernel_rfl⟩
instance : ElemT Tryz.prog 33 21 184 (.agg #[.int .i64 0, .slice none 0 0, .int .i64 0, .int .i64 0, .int .i64 0, .int .i64 0, .int .i64 0, .int .i64 0, .int .i64 0, .string ByteArray.empty, .int .i64 0, .int .i64 0, .int .i64 0, .int .i64 0, .int .i64 0, .int .i64 0, .int .u8 0, .int .u8 0, .int .u8 0, .int .u8 0, .slice none 0 0]) := ⟨by kernel_rfl⟩
-- 36: []api.Item
theorem z36 : ∀ w, (zeroValue 36).run Tryz.prog w = .ok (.slice none 0 0) w := fun w => by kernel_rfl
instance : ZeroT Tryz.prog 36 (.slice none 0 0) #[.slice none 0 0] := ⟨z36, rfl⟩
instance : ScalarT Tryz.prog 36 := ⟨fun w => by kernel_rfl, by kernel_rfl⟩
instance : ElemT Tryz.prog 36 1 24 (.slice none 0 0) := ⟨by kernel_rfl⟩
instance : SliceT Tryz.prog 36 33 := ⟨Tryz.underlying36⟩
-- 37: [][]api.Run
theorem z37 : ∀ w, (zeroValue 37).run Tryz.prog w = .ok (.slice none 0 0) w := fun w => by kernel_rfl
instance : ZeroT Tryz.prog 37 (.slice none 0 0) #[.slice none 0 0] := ⟨z37, rfl⟩
instance : ScalarT Tryz.prog 37 := ⟨fun w => by kernel_rfl, by kernel_rfl⟩
instance : ElemT Tryz.prog 37 1 24 (.slice none 0 0) := ⟨by kernel_rfl⟩
instance : SliceT Tryz.prog 37 115 := ⟨Tryz.underlying37⟩
-- 38: W
theorem z38 : ∀ w, (zeroValue 38).run Tryz.prog w = .ok (.agg #[.int .i64 0, .int .i64 0, .slice none 0 0]) w := fun w => by kernel_rfl
instance : ZeroT Tryz.prog 38 (.agg #[.int .i64 0, .int .i64 0, .slice none 0 0]) #[.int .i64 0, .int .i64 0, .slice none 0 0] := ⟨z38, rfl⟩
instance : RowT Tryz.prog 38 3 := ⟨fun w => by kernel_rfl, by kernel_rfl⟩
instance : ElemT Tryz.prog 38 3 40 (.agg #[.int .i64 0, .int .i64 0, .slice none 0 0]) := ⟨by kernel_rfl⟩
-- 39: tympan/api.Region
theorem z39 : ∀ w, (zeroValue 39).run Tryz.prog w = .ok (.agg #[.int .i64 0, .int .i64 0, .slice none 0 0]) w := fun w => by kernel_rfl
instance : ZeroT Tryz.prog 39 (.agg #[.int .i64 0, .int .i64 0, .slice none 0 0]) #[.int .i64 0, .int .i64 0, .slice none 0 0] := ⟨z39, rfl⟩
instance : RowT Tryz.prog 39 3 := ⟨fun w => by kernel_rfl, by kernel_rfl⟩
instance : ElemT Tryz.prog 39 3 40 (.agg #[.int .i64 0, .int .i64 0, .slice none 0 0]) := ⟨by kernel_rfl⟩
-- 40: tympan/api.Errno
theorem z40 : ∀ w, (zeroValue 40).run Tryz.prog w = .ok (.int .i64 0) w := fun w => by kernel_rfl
instance : ZeroT Tryz.prog 40 (.int .i64 0) #[.int .i64 0] := ⟨z40, rfl⟩
instance : ScalarT Tryz.prog 40 := ⟨fun w => by kernel_rfl, by kernel_rfl⟩
instance : ElemT Tryz.prog 40 1 8 (.int .i64 0) := ⟨by kernel_rfl⟩
-- 44: [3]int
theorem z44 : ∀ w, (zeroValue 44).run Tryz.prog w = .ok (.agg #[.int .i64 0, .int .i64 0, .int .i64 0]) w := fun w => by kernel_rfl
instance : ZeroT Tryz.prog 44 (.agg #[.int .i64 0, .int .i64 0, .int .i64 0]) #[.int .i64 0, .int .i64 0, .int .i64 0] := ⟨z44, rfl⟩
instance : RowT Tryz.prog 44 3 := ⟨fun w => by kernel_rfl, by kernel_rfl⟩
instance : ElemT Tryz.prog 44 3 24 (.agg #[.int .i64 0, .int .i64 0, .int .i64 0]) := ⟨by kernel_rfl⟩
instance : ArrT Tryz.prog 44 3 3 := ⟨Tryz.underlying44, fun w => by kernel_rfl, by kernel_rfl⟩
-- 51: []uint8
theorem z51 : ∀ w, (zeroValue 51).run Tryz.prog w = .ok (.slice none 0 0) w := fun w => by kernel_rfl
instance : ZeroT Tryz.prog 51 (.slice none 0 0) #[.slice none 0 0] := ⟨z51, rfl⟩
instance : ScalarT Tryz.prog 51 := ⟨fun w => by kernel_rfl, by kernel_rfl⟩
instance : ElemT Tryz.prog 51 1 24 (.slice none 0 0) := ⟨by kernel_rfl⟩
instance : SliceT Tryz.prog 51 5 := ⟨Tryz.underlying51⟩
-- 52: W
theorem z52 : ∀ w, (zeroValue 52).run Tryz.prog w = .ok (.agg #[.int .i64 0, .int .i64 0, .slice none 0 0]) w := fun w => by kernel_rfl
instance : ZeroT Tryz.prog 52 (.agg #[.int .i64 0, .int .i64 0, .slice none 0 0]) #[.int .i64 0, .int .i64 0, .slice none 0 0] := ⟨z52, rfl⟩
instance : RowT Tryz.prog 52 3 := ⟨fun w => by kernel_rfl, by kernel_rfl⟩
instance : ElemT Tryz.prog 52 3 40 (.agg #[.int .i64 0, .int .i64 0, .slice none 0 0]) := ⟨by kernel_rfl⟩
-- 53: tympan/api.Page
theorem z53 : ∀ w, (zeroValue 53).run Tryz.prog w = .ok (.agg #[.int .i64 0, .int .i64 0, .slice none 0 0]) w := fun w => by kernel_rfl
instance : ZeroT Tryz.prog 53 (.agg #[.int .i64 0, .int .i64 0, .slice none 0 0]) #[.int .i64 0, .int .i64 0, .slice none 0 0] := ⟨z53, rfl⟩
instance : RowT Tryz.prog 53 3 := ⟨fun w => by kernel_rfl, by kernel_rfl⟩
instance : ElemT Tryz.prog 53 3 40 (.agg #[.int .i64 0, .int .i64 0, .slice none 0 0]) := ⟨by kernel_rfl⟩
-- 70: Path
theorem z70 : ∀ w, (zeroValue 70).run Tryz.prog w = .ok (.agg #[.slice none 0 0, .int .i64 0]) w := fun w => by kernel_rfl
instance : ZeroT Tryz.prog 70 (.agg #[.slice none 0 0, .int .i64 0]) #[.slice none 0 0, .int .i64 0] := ⟨z70, rfl⟩
instance : RowT Tryz.prog 70 2 := ⟨fun w => by kernel_rfl, by kernel_rfl⟩
instance : ElemT Tryz.prog 70 2 32 (.agg #[.slice none 0 0, .int .i64 0]) := ⟨by kernel_rfl⟩
-- 71: tympan/api.Clip
theorem z71 : ∀ w, (zeroValue 71).run Tryz.prog w = .ok (.agg #[.slice none 0 0, .int .i64 0]) w := fun w => by kernel_rfl
instance : ZeroT Tryz.prog 71 (.agg #[.slice none 0 0, .int .i64 0]) #[.slice none 0 0, .int .i64 0] := ⟨z71, rfl⟩
instance : RowT Tryz.prog 71 2 := ⟨fun w => by kernel_rfl, by kernel_rfl⟩
instance : ElemT Tryz.prog 71 2 32 (.agg #[.slice none 0 0, .int .i64 0]) := ⟨by kernel_rfl⟩
-- 73: int8
theorem z73 : ∀ w, (zeroValue 73).run Tryz.prog w = .ok (.int .i8 0) w := fun w => by kernel_rfl
instance : ZeroT Tryz.prog 73 (.int .i8 0) #[.int .i8 0] := ⟨z73, rfl⟩
instance : ScalarT Tryz.prog 73 := ⟨fun w => by kernel_rfl, by kernel_rfl⟩
instance : ElemT Tryz.prog 73 1 1 (.int .i8 0) := ⟨by kernel_rfl⟩
-- 77: Kind
theorem z77 : ∀ w, (zeroValue 77).run Tryz.prog w = .ok (.agg #[.int .i64 0, .int .i64 0, .int .i64 0, .int .i64 0, .int .i64 0]) w := fun w => by kernel_rfl
instance : ZeroT Tryz.prog 77 (.agg #[.int .i64 0, .int .i64 0, .int .i64 0, .int .i64 0, .int .i64 0]) #[.int .i64 0, .int .i64 0, .int .i64 0, .int .i64 0, .int .i64 0] := ⟨z77, rfl⟩
instance : RowT Tryz.prog 77 5 := ⟨fun w => by kernel_rfl, by kernel_rfl⟩
instance : ElemT Tryz.prog 77 5 40 (.agg #[.int .i64 0, .int .i64 0, .int .i64 0, .int .i64 0, .int .i64 0]) := ⟨by kernel_rfl⟩
-- 78: tympan/api.Seg
theorem z78 : ∀ w, (zeroValue 78).run Tryz.prog w = .ok (.agg #[.int .i64 0, .int .i64 0, .int .i64 0, .int .i64 0, .int .i64 0]) w := fun w => by kernel_rfl
instance : ZeroT Tryz.prog 78 (.agg #[.int .i64 0, .int .i64 0, .int .i64 0, .int .i64 0, .int .i64 0]) #[.int .i64 0, .int .i64 0, .int .i64 0, .int .i64 0, .int .i64 0] := ⟨z78, rfl⟩
instance : RowT Tryz.prog 78 5 := ⟨fun w => by kernel_rfl, by kernel_rfl⟩
instance : ElemT Tryz.prog 78 5 40 (.agg #[.int .i64 0, .int .i64 0, .int .i64 0, .int .i64 0, .int .i64 0]) := ⟨by kernel_rfl⟩
-- 85: W
theorem z85 : ∀ w, (zeroValue 85).run Tryz.prog w = .ok (.agg #[.int .i64 0, .int .i64 0, .slice none 0 0]) w := fun w => by kernel_rfl
instance : ZeroT Tryz.prog 85 (.agg #[.int .i64 0, .int .i64 0, .slice none 0 0]) #[.int .i64 0, .int .i64 0, .slice none 0 0] := ⟨z85, rfl⟩
instance : RowT Tryz.prog 85 3 := ⟨fun w => by kernel_rfl, by kernel_rfl⟩
instance : ElemT Tryz.prog 85 3 40 (.agg #[.int .i64 0, .int .i64 0, .slice none 0 0]) := ⟨by kernel_rfl⟩
-- 86: tympan/api.Mask
theorem z86 : ∀ w, (zeroValue 86).run Tryz.prog w = .ok (.agg #[.int .i64 0, .int .i64 0, .slice none 0 0]) w := fun w => by kernel_rfl
instance : ZeroT Tryz.prog 86 (.agg #[.int .i64 0, .int .i64 0, .slice none 0 0]) #[.int .i64 0, .int .i64 0, .slice none 0 0] := ⟨z86, rfl⟩
instance : RowT Tryz.prog 86 3 := ⟨fun w => by kernel_rfl, by kernel_rfl⟩
instance : ElemT Tryz.prog 86 3 40 (.agg #[.int .i64 0, .int .i64 0, .slice none 0 0]) := ⟨by kernel_rfl⟩
-- 91: tympan/list.way
theorem z91 : ∀ w, (zeroValue 91).run Tryz.prog w = .ok (.nilIface) w := fun w => by kernel_rfl
instance : ZeroT Tryz.prog 91 (.nilIface) #[.nilIface] := ⟨z91, rfl⟩
instance : ScalarT Tryz.prog 91 := ⟨fun w => by kernel_rfl, by kernel_rfl⟩
instance : ElemT Tryz.prog 91 1 16 (.nilIface) := ⟨by kernel_rfl⟩
-- 115: []api.Run
theorem z115 : ∀ w, (zeroValue 115).run Tryz.prog w = .ok (.slice none 0 0) w := fun w => by kernel_rfl
instance : ZeroT Tryz.prog 115 (.slice none 0 0) #[.slice none 0 0] := ⟨z115, rfl⟩
instance : ScalarT Tryz.prog 115 := ⟨fun w => by kernel_rfl, by kernel_rfl⟩
instance : ElemT Tryz.prog 115 1 24 (.slice none 0 0) := ⟨by kernel_rfl⟩
instance : SliceT Tryz.prog 115 124 := ⟨Tryz.underlying115⟩
-- 117: func([]api.Run, []api.Run) []api.Run
theorem z117 : ∀ w, (zeroValue 117).run Tryz.prog w = .ok (.nilFunc) w := fun w => by kernel_rfl
instance : ZeroT Tryz.prog 117 (.nilFunc) #[.nilFunc] := ⟨z117, rfl⟩
instance : ScalarT Tryz.prog 117 := ⟨fun w => by kernel_rfl, by kernel_rfl⟩
instance : ElemT Tryz.prog 117 1 8 (.nilFunc) := ⟨by kernel_rfl⟩
-- 123: From
theorem z123 : ∀ w, (zeroValue 123).run Tryz.prog w = .ok (.agg #[.int .i64 0, .int .i64 0]) w := fun w => by kernel_rfl
instance : ZeroT Tryz.prog 123 (.agg #[.int .i64 0, .int .i64 0]) #[.int .i64 0, .int .i64 0] := ⟨z123, rfl⟩
instance : RowT Tryz.prog 123 2 := ⟨fun w => by kernel_rfl, by kernel_rfl⟩
instance : ElemT Tryz.prog 123 2 16 (.agg #[.int .i64 0, .int .i64 0]) := ⟨by kernel_rfl⟩
-- 124: tympan/api.Run
theorem z124 : ∀ w, (zeroValue 124).run Tryz.prog w = .ok (.agg #[.int .i64 0, .int .i64 0]) w := fun w => by kernel_rfl
instance : ZeroT Tryz.prog 124 (.agg #[.int .i64 0, .int .i64 0]) #[.int .i64 0, .int .i64 0] := ⟨z124, rfl⟩
instance : RowT Tryz.prog 124 2 := ⟨fun w => by kernel_rfl, by kernel_rfl⟩
instance : ElemT Tryz.prog 124 2 16 (.agg #[.int .i64 0, .int .i64 0]) := ⟨by kernel_rfl⟩
-- 126: []api.Edge
theorem z126 : ∀ w, (zeroValue 126).run Tryz.prog w = .ok (.slice none 0 0) w := fun w => by kernel_rfl
instance : ZeroT Tryz.prog 126 (.slice none 0 0) #[.slice none 0 0] := ⟨z126, rfl⟩
instance : ScalarT Tryz.prog 126 := ⟨fun w => by kernel_rfl, by kernel_rfl⟩
instance : ElemT Tryz.prog 126 1 24 (.slice none 0 0) := ⟨by kernel_rfl⟩
instance : SliceT Tryz.prog 126 177 := ⟨Tryz.underlying126⟩
-- 130: [64]bool
theorem z130 : ∀ w, (zeroValue 130).run Tryz.prog w = .ok (.agg (arrB fun _ => false)) w := fun w => by rw [arrB_zero]; kernel_rfl
instance : ZeroT Tryz.prog 130 (.agg (arrB fun _ => false)) (arrB fun _ => false) := ⟨z130, rfl⟩
instance : RowT Tryz.prog 130 64 := ⟨fun w => by kernel_rfl, by kernel_rfl⟩
instance : ElemT Tryz.prog 130 64 64 (.agg (arrB fun _ => false)) := ⟨by rw [arrB_zero]; kernel_rfl⟩
instance : ArrT Tryz.prog 130 64 4 := ⟨Tryz.underlying130, fun w => by kernel_rfl, by kernel_rfl⟩
-- 131: tympan/tympanref30.Row
theorem z131 : ∀ w, (zeroValue 131).run Tryz.prog w = .ok (.agg (arrB fun _ => false)) w := fun w => by rw [arrB_zero]; kernel_rfl
instance : ZeroT Tryz.prog 131 (.agg (arrB fun _ => false)) (arrB fun _ => false) := ⟨z131, rfl⟩
instance : RowT Tryz.prog 131 64 := ⟨fun w => by kernel_rfl, by kernel_rfl⟩
instance : ElemT Tryz.prog 131 64 64 (.agg (arrB fun _ => false)) := ⟨by rw [arrB_zero]; kernel_rfl⟩
instance : ArrT Tryz.prog 131 64 4 := ⟨Tryz.underlying131, fun w => by kernel_rfl, by kernel_rfl⟩
-- 133: struct ()
theorem z133 : ∀ w, (zeroValue 133).run Tryz.prog w = .ok (.agg #[]) w := fun w => by kernel_rfl
instance : ZeroT Tryz.prog 133 (.agg #[]) #[] := ⟨z133, rfl⟩
instance : RowT Tryz.prog 133 0 := ⟨fun w => by kernel_rfl, by kernel_rfl⟩
instance : ElemT Tryz.prog 133 0 0 (.agg #[]) := ⟨by kernel_rfl⟩
-- 134: tympan/list.lines
theorem z134 : ∀ w, (zeroValue 134).run Tryz.prog w = .ok (.agg #[]) w := fun w => by kernel_rfl
instance : ZeroT Tryz.prog 134 (.agg #[]) #[] := ⟨z134, rfl⟩
instance : RowT Tryz.prog 134 0 := ⟨fun w => by kernel_rfl, by kernel_rfl⟩
instance : ElemT Tryz.prog 134 0 0 (.agg #[]) := ⟨by kernel_rfl⟩
-- 135: tympan/list.points
theorem z135 : ∀ w, (zeroValue 135).run Tryz.prog w = .ok (.agg #[]) w := fun w => by kernel_rfl
instance : ZeroT Tryz.prog 135 (.agg #[]) #[] := ⟨z135, rfl⟩
instance : RowT Tryz.prog 135 0 := ⟨fun w => by kernel_rfl, by kernel_rfl⟩
instance : ElemT Tryz.prog 135 0 0 (.agg #[]) := ⟨by kernel_rfl⟩
-- 140: [6]int
theorem z140 : ∀ w, (zeroValue 140).run Tryz.prog w = .ok (.agg #[.int .i64 0, .int .i64 0, .int .i64 0, .int .i64 0, .int .i64 0, .int .i64 0]) w := fun w => by kernel_rfl
instance : ZeroT Tryz.prog 140 (.agg #[.int .i64 0, .int .i64 0, .int .i64 0, .int .i64 0, .int .i64 0, .int .i64 0]) #[.int .i64 0, .int .i64 0, .int .i64 0, .int .i64 0, .int .i64 0, .int .i64 0] := ⟨z140, rfl⟩
instance : RowT Tryz.prog 140 6 := ⟨fun w => by kernel_rfl, by kernel_rfl⟩
instance : ElemT Tryz.prog 140 6 48 (.agg #[.int .i64 0, .int .i64 0, .int .i64 0, .int .i64 0, .int .i64 0, .int .i64 0]) := ⟨by kernel_rfl⟩
instance : ArrT Tryz.prog 140 6 3 := ⟨Tryz.underlying140, fun w => by kernel_rfl, by kernel_rfl⟩
-- 144: i
theorem z144 : ∀ w, (zeroValue 144).run Tryz.prog w = .ok (.agg #[.int .i64 0, .int .i64 0, .int .i64 0, .string ByteArray.empty, .int .i64 0, .int .i64 0, .int .i64 0, .int .i64 0, .int .i64 0, .int .i64 0, .int .i64 0]) w := fun w => by kernel_rfl
instance : ZeroT Tryz.prog 144 (.agg #[.int .i64 0, .int .i64 0, .int .i64 0, .string ByteArray.empty, .int .i64 0, .int .i64 0, .int .i64 0, .int .i64 0, .int .i64 0, .int .i64 0, .int .i64 0]) #[.int .i64 0, .int .i64 0, .int .i64 0, .string ByteArray.empty, .int .i64 0, .int .i64 0, .int .i64 0, .int .i64 0, .int .i64 0, .int .i64 0, .int .i64 0] := ⟨z144, rfl⟩
instance : RowT Tryz.prog 144 11 := ⟨fun w => by kernel_rfl, by kernel_rfl⟩
instance : ElemT Tryz.prog 144 11 96 (.agg #[.int .i64 0, .int .i64 0, .int .i64 0, .string ByteArray.empty, .int .i64 0, .int .i64 0, .int .i64 0, .int .i64 0, .int .i64 0, .int .i64 0, .int .i64 0]) := ⟨by kernel_rfl⟩
-- 145: tympan/image.view
theorem z145 : ∀ w, (zeroValue 145).run Tryz.prog w = .ok (.agg #[.int .i64 0, .int .i64 0, .int .i64 0, .string ByteArray.empty, .int .i64 0, .int .i64 0, .int .i64 0, .int .i64 0, .int .i64 0, .int .i64 0, .int .i64 0]) w := fun w => by kernel_rfl
instance : ZeroT Tryz.prog 145 (.agg #[.int .i64 0, .int .i64 0, .int .i64 0, .string ByteArray.empty, .int .i64 0, .int .i64 0, .int .i64 0, .int .i64 0, .int .i64 0, .int .i64 0, .int .i64 0]) #[.int .i64 0, .int .i64 0, .int .i64 0, .string ByteArray.empty, .int .i64 0, .int .i64 0, .int .i64 0, .int .i64 0, .int .i64 0, .int .i64 0, .int .i64 0] := ⟨z145, rfl⟩
instance : RowT Tryz.prog 145 11 := ⟨fun w => by kernel_rfl, by kernel_rfl⟩
instance : ElemT Tryz.prog 145 11 96 (.agg #[.int .i64 0, .int .i64 0, .int .i64 0, .string ByteArray.empty, .int .i64 0, .int .i64 0, .int .i64 0, .int .i64 0, .int .i64 0, .int .i64 0, .int .i64 0]) := ⟨by kernel_rfl⟩
-- 152: [3]uint8
theorem z152 : ∀ w, (zeroValue 152).run Tryz.prog w = .ok (.agg #[.int .u8 0, .int .u8 0, .int .u8 0]) w := fun w => by kernel_rfl
instance : ZeroT Tryz.prog 152 (.agg #[.int .u8 0, .int .u8 0, .int .u8 0]) #[.int .u8 0, .int .u8 0, .int .u8 0] := ⟨z152, rfl⟩
instance : RowT Tryz.prog 152 3 := ⟨fun w => by kernel_rfl, by kernel_rfl⟩
instance : ElemT Tryz.prog 152 3 3 (.agg #[.int .u8 0, .int .u8 0, .int .u8 0]) := ⟨by kernel_rfl⟩
instance : ArrT Tryz.prog 152 3 5 := ⟨Tryz.underlying152, fun w => by kernel_rfl, by kernel_rfl⟩
-- 156: []int
theorem z156 : ∀ w, (zeroValue 156).run Tryz.prog w = .ok (.slice none 0 0) w := fun w => by kernel_rfl
instance : ZeroT Tryz.prog 156 (.slice none 0 0) #[.slice none 0 0] := ⟨z156, rfl⟩
instance : ScalarT Tryz.prog 156 := ⟨fun w => by kernel_rfl, by kernel_rfl⟩
instance : ElemT Tryz.prog 156 1 24 (.slice none 0 0) := ⟨by kernel_rfl⟩
instance : SliceT Tryz.prog 156 3 := ⟨Tryz.underlying156⟩
-- 160: tympan/span.places
theorem z160 : ∀ w, (zeroValue 160).run Tryz.prog w = .ok (.agg (arrB fun _ => false)) w := fun w => by rw [arrB_zero]; kernel_rfl
instance : ZeroT Tryz.prog 160 (.agg (arrB fun _ => false)) (arrB fun _ => false) := ⟨z160, rfl⟩
instance : RowT Tryz.prog 160 64 := ⟨fun w => by kernel_rfl, by kernel_rfl⟩
instance : ElemT Tryz.prog 160 64 64 (.agg (arrB fun _ => false)) := ⟨by rw [arrB_zero]; kernel_rfl⟩
instance : ArrT Tryz.prog 160 64 4 := ⟨Tryz.underlying160, fun w => by kernel_rfl, by kernel_rfl⟩
-- 168: uint
theorem z168 : ∀ w, (zeroValue 168).run Tryz.prog w = .ok (.int .u64 0) w := fun w => by kernel_rfl
instance : ZeroT Tryz.prog 168 (.int .u64 0) #[.int .u64 0] := ⟨z168, rfl⟩
instance : ScalarT Tryz.prog 168 := ⟨fun w => by kernel_rfl, by kernel_rfl⟩
instance : ElemT Tryz.prog 168 1 8 (.int .u64 0) := ⟨by kernel_rfl⟩
-- 170: []tympanref25.Contour
theorem z170 : ∀ w, (zeroValue 170).run Tryz.prog w = .ok (.slice none 0 0) w := fun w => by kernel_rfl
instance : ZeroT Tryz.prog 170 (.slice none 0 0) #[.slice none 0 0] := ⟨z170, rfl⟩
instance : ScalarT Tryz.prog 170 := ⟨fun w => by kernel_rfl, by kernel_rfl⟩
instance : ElemT Tryz.prog 170 1 24 (.slice none 0 0) := ⟨by kernel_rfl⟩
instance : SliceT Tryz.prog 170 173 := ⟨Tryz.underlying170⟩
-- 172: X
theorem z172 : ∀ w, (zeroValue 172).run Tryz.prog w = .ok (.agg #[.int .i64 0, .int .i64 0, .slice none 0 0, .bool false]) w := fun w => by kernel_rfl
instance : ZeroT Tryz.prog 172 (.agg #[.int .i64 0, .int .i64 0, .slice none 0 0, .bool false]) #[.int .i64 0, .int .i64 0, .slice none 0 0, .bool false] := ⟨z172, rfl⟩
instance : RowT Tryz.prog 172 4 := ⟨fun w => by kernel_rfl, by kernel_rfl⟩
instance : ElemT Tryz.prog 172 4 48 (.agg #[.int .i64 0, .int .i64 0, .slice none 0 0, .bool false]) := ⟨by kernel_rfl⟩
-- 173: tympan/tympanref25.Contour
theorem z173 : ∀ w, (zeroValue 173).run Tryz.prog w = .ok (.agg #[.int .i64 0, .int .i64 0, .slice none 0 0, .bool false]) w := fun w => by kernel_rfl
instance : ZeroT Tryz.prog 173 (.agg #[.int .i64 0, .int .i64 0, .slice none 0 0, .bool false]) #[.int .i64 0, .int .i64 0, .slice none 0 0, .bool false] := ⟨z173, rfl⟩
instance : RowT Tryz.prog 173 4 := ⟨fun w => by kernel_rfl, by kernel_rfl⟩
instance : ElemT Tryz.prog 173 4 48 (.agg #[.int .i64 0, .int .i64 0, .slice none 0 0, .bool false]) := ⟨by kernel_rfl⟩
-- 176: X0
theorem z176 : ∀ w, (zeroValue 176).run Tryz.prog w = .ok (.agg #[.int .i64 0, .int .i64 0, .bool false, .int .i64 0, .int .i64 0, .int .i64 0, .int .i64 0]) w := fun w => by kernel_rfl
instance : ZeroT Tryz.prog 176 (.agg #[.int .i64 0, .int .i64 0, .bool false, .int .i64 0, .int .i64 0, .int .i64 0, .int .i64 0]) #[.int .i64 0, .int .i64 0, .bool false, .int .i64 0, .int .i64 0, .int .i64 0, .int .i64 0] := ⟨z176, rfl⟩
instance : RowT Tryz.prog 176 7 := ⟨fun w => by kernel_rfl, by kernel_rfl⟩
instance : ElemT Tryz.prog 176 7 56 (.agg #[.int .i64 0, .int .i64 0, .bool false, .int .i64 0, .int .i64 0, .int .i64 0, .int .i64 0]) := ⟨by kernel_rfl⟩
-- 177: tympan/api.Edge
theorem z177 : ∀ w, (zeroValue 177).run Tryz.prog w = .ok (.agg #[.int .i64 0, .int .i64 0, .bool false, .int .i64 0, .int .i64 0, .int .i64 0, .int .i64 0]) w := fun w => by kernel_rfl
instance : ZeroT Tryz.prog 177 (.agg #[.int .i64 0, .int .i64 0, .bool false, .int .i64 0, .int .i64 0, .int .i64 0, .int .i64 0]) #[.int .i64 0, .int .i64 0, .bool false, .int .i64 0, .int .i64 0, .int .i64 0, .int .i64 0] := ⟨z177, rfl⟩
instance : RowT Tryz.prog 177 7 := ⟨fun w => by kernel_rfl, by kernel_rfl⟩
instance : ElemT Tryz.prog 177 7 56 (.agg #[.int .i64 0, .int .i64 0, .bool false, .int .i64 0, .int .i64 0, .int .i64 0, .int .i64 0]) := ⟨by kernel_rfl⟩
-- 189: U
theorem z189 : ∀ w, (zeroValue 189).run Tryz.prog w = .ok (.agg #[.int .i64 0, .int .i64 0, .int .i64 0]) w := fun w => by kernel_rfl
instance : ZeroT Tryz.prog 189 (.agg #[.int .i64 0, .int .i64 0, .int .i64 0]) #[.int .i64 0, .int .i64 0, .int .i64 0] := ⟨z189, rfl⟩
instance : RowT Tryz.prog 189 3 := ⟨fun w => by kernel_rfl, by kernel_rfl⟩
instance : ElemT Tryz.prog 189 3 24 (.agg #[.int .i64 0, .int .i64 0, .int .i64 0]) := ⟨by kernel_rfl⟩
-- 190: tympan/tympanref33.Arm
theorem z190 : ∀ w, (zeroValue 190).run Tryz.prog w = .ok (.agg #[.int .i64 0, .int .i64 0, .int .i64 0]) w := fun w => by kernel_rfl
instance : ZeroT Tryz.prog 190 (.agg #[.int .i64 0, .int .i64 0, .int .i64 0]) #[.int .i64 0, .int .i64 0, .int .i64 0] := ⟨z190, rfl⟩
instance : RowT Tryz.prog 190 3 := ⟨fun w => by kernel_rfl, by kernel_rfl⟩
instance : ElemT Tryz.prog 190 3 24 (.agg #[.int .i64 0, .int .i64 0, .int .i64 0]) := ⟨by kernel_rfl⟩
-- 195: []tympanref26.Hit
theorem z195 : ∀ w, (zeroValue 195).run Tryz.prog w = .ok (.slice none 0 0) w := fun w => by kernel_rfl
instance : ZeroT Tryz.prog 195 (.slice none 0 0) #[.slice none 0 0] := ⟨z195, rfl⟩
instance : ScalarT Tryz.prog 195 := ⟨fun w => by kernel_rfl, by kernel_rfl⟩
instance : ElemT Tryz.prog 195 1 24 (.slice none 0 0) := ⟨by kernel_rfl⟩
instance : SliceT Tryz.prog 195 198 := ⟨Tryz.underlying195⟩
-- 197: Turn
theorem z197 : ∀ w, (zeroValue 197).run Tryz.prog w = .ok (.agg #[.int .i64 0, .int .i64 0, .int .i64 0, .int .i64 0, .int .i64 0]) w := fun w => by kernel_rfl
instance : ZeroT Tryz.prog 197 (.agg #[.int .i64 0, .int .i64 0, .int .i64 0, .int .i64 0, .int .i64 0]) #[.int .i64 0, .int .i64 0, .int .i64 0, .int .i64 0, .int .i64 0] := ⟨z197, rfl⟩
instance : RowT Tryz.prog 197 5 := ⟨fun w => by kernel_rfl, by kernel_rfl⟩
instance : ElemT Tryz.prog 197 5 40 (.agg #[.int .i64 0, .int .i64 0, .int .i64 0, .int .i64 0, .int .i64 0]) := ⟨by kernel_rfl⟩
-- 198: tympan/tympanref26.Hit
theorem z198 : ∀ w, (zeroValue 198).run Tryz.prog w = .ok (.agg #[.int .i64 0, .int .i64 0, .int .i64 0, .int .i64 0, .int .i64 0]) w := fun w => by kernel_rfl
instance : ZeroT Tryz.prog 198 (.agg #[.int .i64 0, .int .i64 0, .int .i64 0, .int .i64 0, .int .i64 0]) #[.int .i64 0, .int .i64 0, .int .i64 0, .int .i64 0, .int .i64 0] := ⟨z198, rfl⟩
instance : RowT Tryz.prog 198 5 := ⟨fun w => by kernel_rfl, by kernel_rfl⟩
instance : ElemT Tryz.prog 198 5 40 (.agg #[.int .i64 0, .int .i64 0, .int .i64 0, .int .i64 0, .int .i64 0]) := ⟨by kernel_rfl⟩
-- 205: uint64
theorem z205 : ∀ w, (zeroValue 205).run Tryz.prog w = .ok (.int .u64 0) w := fun w => by kernel_rfl
instance : ZeroT Tryz.prog 205 (.int .u64 0) #[.int .u64 0] := ⟨z205, rfl⟩
instance : ScalarT Tryz.prog 205 := ⟨fun w => by kernel_rfl, by kernel_rfl⟩
instance : ElemT Tryz.prog 205 1 8 (.int .u64 0) := ⟨by kernel_rfl⟩
-- 206: Hi
theorem z206 : ∀ w, (zeroValue 206).run Tryz.prog w = .ok (.agg #[.int .u64 0, .int .u64 0]) w := fun w => by kernel_rfl
instance : ZeroT Tryz.prog 206 (.agg #[.int .u64 0, .int .u64 0]) #[.int .u64 0, .int .u64 0] := ⟨z206, rfl⟩
instance : RowT Tryz.prog 206 2 := ⟨fun w => by kernel_rfl, by kernel_rfl⟩
instance : ElemT Tryz.prog 206 2 16 (.agg #[.int .u64 0, .int .u64 0]) := ⟨by kernel_rfl⟩
-- 207: tympan/tympanref24.Wide
theorem z207 : ∀ w, (zeroValue 207).run Tryz.prog w = .ok (.agg #[.int .u64 0, .int .u64 0]) w := fun w => by kernel_rfl
instance : ZeroT Tryz.prog 207 (.agg #[.int .u64 0, .int .u64 0]) #[.int .u64 0, .int .u64 0] := ⟨z207, rfl⟩
instance : RowT Tryz.prog 207 2 := ⟨fun w => by kernel_rfl, by kernel_rfl⟩
instance : ElemT Tryz.prog 207 2 16 (.agg #[.int .u64 0, .int .u64 0]) := ⟨by kernel_rfl⟩
-- 219: uint32
theorem z219 : ∀ w, (zeroValue 219).run Tryz.prog w = .ok (.int .u32 0) w := fun w => by kernel_rfl
instance : ZeroT Tryz.prog 219 (.int .u32 0) #[.int .u32 0] := ⟨z219, rfl⟩
instance : ScalarT Tryz.prog 219 := ⟨fun w => by kernel_rfl, by kernel_rfl⟩
instance : ElemT Tryz.prog 219 1 4 (.int .u32 0) := ⟨by kernel_rfl⟩
-- 223: *uint8
theorem z223 : ∀ w, (zeroValue 223).run Tryz.prog w = .ok (.pointer none) w := fun w => by kernel_rfl
instance : ZeroT Tryz.prog 223 (.pointer none) #[.pointer none] := ⟨z223, rfl⟩
instance : ScalarT Tryz.prog 223 := ⟨fun w => by kernel_rfl, by kernel_rfl⟩
instance : ElemT Tryz.prog 223 1 8 (.pointer none) := ⟨by kernel_rfl⟩
-- 231: []hem.shape
theorem z231 : ∀ w, (zeroValue 231).run Tryz.prog w = .ok (.slice none 0 0) w := fun w => by kernel_rfl
instance : ZeroT Tryz.prog 231 (.slice none 0 0) #[.slice none 0 0] := ⟨z231, rfl⟩
instance : ScalarT Tryz.prog 231 := ⟨fun w => by kernel_rfl, by kernel_rfl⟩
instance : ElemT Tryz.prog 231 1 24 (.slice none 0 0) := ⟨by kernel_rfl⟩
instance : SliceT Tryz.prog 231 248 := ⟨Tryz.underlying231⟩
-- 237: []path.Contour
theorem z237 : ∀ w, (zeroValue 237).run Tryz.prog w = .ok (.slice none 0 0) w := fun w => by kernel_rfl
instance : ZeroT Tryz.prog 237 (.slice none 0 0) #[.slice none 0 0] := ⟨z237, rfl⟩
instance : ScalarT Tryz.prog 237 := ⟨fun w => by kernel_rfl, by kernel_rfl⟩
instance : ElemT Tryz.prog 237 1 24 (.slice none 0 0) := ⟨by kernel_rfl⟩
instance : SliceT Tryz.prog 237 239 := ⟨Tryz.underlying237⟩
-- 239: tympan/path.Contour
theorem z239 : ∀ w, (zeroValue 239).run Tryz.prog w = .ok (.agg #[.int .i64 0, .int .i64 0, .slice none 0 0, .bool false]) w := fun w => by kernel_rfl
instance : ZeroT Tryz.prog 239 (.agg #[.int .i64 0, .int .i64 0, .slice none 0 0, .bool false]) #[.int .i64 0, .int .i64 0, .slice none 0 0, .bool false] := ⟨z239, rfl⟩
instance : RowT Tryz.prog 239 4 := ⟨fun w => by kernel_rfl, by kernel_rfl⟩
instance : ElemT Tryz.prog 239 4 48 (.agg #[.int .i64 0, .int .i64 0, .slice none 0 0, .bool false]) := ⟨by kernel_rfl⟩
-- 240: [65]int
theorem z240 : ∀ w, (zeroValue 240).run Tryz.prog w = .ok (.agg (arrI 65 fun _ => 0)) w := fun w => by rw [arrI_zero]; kernel_rfl
instance : ZeroT Tryz.prog 240 (.agg (arrI 65 fun _ => 0)) (arrI 65 fun _ => 0) := ⟨z240, rfl⟩
instance : RowT Tryz.prog 240 65 := ⟨fun w => by kernel_rfl, by kernel_rfl⟩
instance : ElemT Tryz.prog 240 65 520 (.agg (arrI 65 fun _ => 0)) := ⟨by rw [arrI_zero]; kernel_rfl⟩
instance : ArrT Tryz.prog 240 65 3 := ⟨Tryz.underlying240, fun w => by kernel_rfl, by kernel_rfl⟩
-- 241: []bow.Cross
theorem z241 : ∀ w, (zeroValue 241).run Tryz.prog w = .ok (.slice none 0 0) w := fun w => by kernel_rfl
instance : ZeroT Tryz.prog 241 (.slice none 0 0) #[.slice none 0 0] := ⟨z241, rfl⟩
instance : ScalarT Tryz.prog 241 := ⟨fun w => by kernel_rfl, by kernel_rfl⟩
instance : ElemT Tryz.prog 241 1 24 (.slice none 0 0) := ⟨by kernel_rfl⟩
instance : SliceT Tryz.prog 241 244 := ⟨Tryz.underlying241⟩
-- 243: Turn
theorem z243 : ∀ w, (zeroValue 243).run Tryz.prog w = .ok (.agg #[.int .i64 0, .int .i64 0]) w := fun w => by kernel_rfl
instance : ZeroT Tryz.prog 243 (.agg #[.int .i64 0, .int .i64 0]) #[.int .i64 0, .int .i64 0] := ⟨z243, rfl⟩
instance : RowT Tryz.prog 243 2 := ⟨fun w => by kernel_rfl, by kernel_rfl⟩
instance : ElemT Tryz.prog 243 2 16 (.agg #[.int .i64 0, .int .i64 0]) := ⟨by kernel_rfl⟩
-- 244: tympan/bow.Cross
theorem z244 : ∀ w, (zeroValue 244).run Tryz.prog w = .ok (.agg #[.int .i64 0, .int .i64 0]) w := fun w => by kernel_rfl
instance : ZeroT Tryz.prog 244 (.agg #[.int .i64 0, .int .i64 0]) #[.int .i64 0, .int .i64 0] := ⟨z244, rfl⟩
instance : RowT Tryz.prog 244 2 := ⟨fun w => by kernel_rfl, by kernel_rfl⟩
instance : ElemT Tryz.prog 244 2 16 (.agg #[.int .i64 0, .int .i64 0]) := ⟨by kernel_rfl⟩
-- 246: func(hem.shape, int) hem.slot
theorem z246 : ∀ w, (zeroValue 246).run Tryz.prog w = .ok (.nilFunc) w := fun w => by kernel_rfl
instance : ZeroT Tryz.prog 246 (.nilFunc) #[.nilFunc] := ⟨z246, rfl⟩
instance : ScalarT Tryz.prog 246 := ⟨fun w => by kernel_rfl, by kernel_rfl⟩
instance : ElemT Tryz.prog 246 1 8 (.nilFunc) := ⟨by kernel_rfl⟩
-- 247: e
theorem z247 : ∀ w, (zeroValue 247).run Tryz.prog w = .ok (.agg #[.int .i64 0, .int .i64 0, .bool false, .int .i64 0, .int .i64 0, .int .i64 0, .int .i64 0, .int .i64 0, .bool false, .bool false, .nilFunc]) w := fun w => by kernel_rfl
instance : ZeroT Tryz.prog 247 (.agg #[.int .i64 0, .int .i64 0, .bool false, .int .i64 0, .int .i64 0, .int .i64 0, .int .i64 0, .int .i64 0, .bool false, .bool false, .nilFunc]) #[.int .i64 0, .int .i64 0, .bool false, .int .i64 0, .int .i64 0, .int .i64 0, .int .i64 0, .int .i64 0, .bool false, .bool false, .nilFunc] := ⟨z247, rfl⟩
instance : RowT Tryz.prog 247 11 := ⟨fun w => by kernel_rfl, by kernel_rfl⟩
instance : ElemT Tryz.prog 247 11 80 (.agg #[.int .i64 0, .int .i64 0, .bool false, .int .i64 0, .int .i64 0, .int .i64 0, .int .i64 0, .int .i64 0, .bool false, .bool false, .nilFunc]) := ⟨by kernel_rfl⟩
-- 248: tympan/hem.shape
theorem z248 : ∀ w, (zeroValue 248).run Tryz.prog w = .ok (.agg #[.int .i64 0, .int .i64 0, .bool false, .int .i64 0, .int .i64 0, .int .i64 0, .int .i64 0, .int .i64 0, .bool false, .bool false, .nilFunc]) w := fun w => by kernel_rfl
instance : ZeroT Tryz.prog 248 (.agg #[.int .i64 0, .int .i64 0, .bool false, .int .i64 0, .int .i64 0, .int .i64 0, .int .i64 0, .int .i64 0, .bool false, .bool false, .nilFunc]) #[.int .i64 0, .int .i64 0, .bool false, .int .i64 0, .int .i64 0, .int .i64 0, .int .i64 0, .int .i64 0, .bool false, .bool false, .nilFunc] := ⟨z248, rfl⟩
instance : RowT Tryz.prog 248 11 := ⟨fun w => by kernel_rfl, by kernel_rfl⟩
instance : ElemT Tryz.prog 248 11 80 (.agg #[.int .i64 0, .int .i64 0, .bool false, .int .i64 0, .int .i64 0, .int .i64 0, .int .i64 0, .int .i64 0, .bool false, .bool false, .nilFunc]) := ⟨by kernel_rfl⟩
-- 249: lo
theorem z249 : ∀ w, (zeroValue 249).run Tryz.prog w = .ok (.agg #[.int .i64 0, .int .i64 0]) w := fun w => by kernel_rfl
instance : ZeroT Tryz.prog 249 (.agg #[.int .i64 0, .int .i64 0]) #[.int .i64 0, .int .i64 0] := ⟨z249, rfl⟩
instance : RowT Tryz.prog 249 2 := ⟨fun w => by kernel_rfl, by kernel_rfl⟩
instance : ElemT Tryz.prog 249 2 16 (.agg #[.int .i64 0, .int .i64 0]) := ⟨by kernel_rfl⟩
-- 250: tympan/hem.slot
theorem z250 : ∀ w, (zeroValue 250).run Tryz.prog w = .ok (.agg #[.int .i64 0, .int .i64 0]) w := fun w => by kernel_rfl
instance : ZeroT Tryz.prog 250 (.agg #[.int .i64 0, .int .i64 0]) #[.int .i64 0, .int .i64 0] := ⟨z250, rfl⟩
instance : RowT Tryz.prog 250 2 := ⟨fun w => by kernel_rfl, by kernel_rfl⟩
instance : ElemT Tryz.prog 250 2 16 (.agg #[.int .i64 0, .int .i64 0]) := ⟨by kernel_rfl⟩
-- 251: *path.Contour
theorem z251 : ∀ w, (zeroValue 251).run Tryz.prog w = .ok (.pointer none) w := fun w => by kernel_rfl
instance : ZeroT Tryz.prog 251 (.pointer none) #[.pointer none] := ⟨z251, rfl⟩
instance : ScalarT Tryz.prog 251 := ⟨fun w => by kernel_rfl, by kernel_rfl⟩
instance : ElemT Tryz.prog 251 1 8 (.pointer none) := ⟨by kernel_rfl⟩
-- 252: turn
theorem z252 : ∀ w, (zeroValue 252).run Tryz.prog w = .ok (.agg #[.int .i64 0, .int .i64 0, .int .i64 0, .int .i64 0, .int .i64 0]) w := fun w => by kernel_rfl
instance : ZeroT Tryz.prog 252 (.agg #[.int .i64 0, .int .i64 0, .int .i64 0, .int .i64 0, .int .i64 0]) #[.int .i64 0, .int .i64 0, .int .i64 0, .int .i64 0, .int .i64 0] := ⟨z252, rfl⟩
instance : RowT Tryz.prog 252 5 := ⟨fun w => by kernel_rfl, by kernel_rfl⟩
instance : ElemT Tryz.prog 252 5 40 (.agg #[.int .i64 0, .int .i64 0, .int .i64 0, .int .i64 0, .int .i64 0]) := ⟨by kernel_rfl⟩
-- 253: tympan/bow.spot
theorem z253 : ∀ w, (zeroValue 253).run Tryz.prog w = .ok (.agg #[.int .i64 0, .int .i64 0, .int .i64 0, .int .i64 0, .int .i64 0]) w := fun w => by kernel_rfl
instance : ZeroT Tryz.prog 253 (.agg #[.int .i64 0, .int .i64 0, .int .i64 0, .int .i64 0, .int .i64 0]) #[.int .i64 0, .int .i64 0, .int .i64 0, .int .i64 0, .int .i64 0] := ⟨z253, rfl⟩
instance : RowT Tryz.prog 253 5 := ⟨fun w => by kernel_rfl, by kernel_rfl⟩
instance : ElemT Tryz.prog 253 5 40 (.agg #[.int .i64 0, .int .i64 0, .int .i64 0, .int .i64 0, .int .i64 0]) := ⟨by kernel_rfl⟩
-- 254: [2]bow.spot
theorem z254 : ∀ w, (zeroValue 254).run Tryz.prog w = .ok (.agg #[.int .i64 0, .int .i64 0, .int .i64 0, .int .i64 0, .int .i64 0, .int .i64 0, .int .i64 0, .int .i64 0, .int .i64 0, .int .i64 0]) w := fun w => by kernel_rfl
instance : ZeroT Tryz.prog 254 (.agg #[.int .i64 0, .int .i64 0, .int .i64 0, .int .i64 0, .int .i64 0, .int .i64 0, .int .i64 0, .int .i64 0, .int .i64 0, .int .i64 0]) #[.int .i64 0, .int .i64 0, .int .i64 0, .int .i64 0, .int .i64 0, .int .i64 0, .int .i64 0, .int .i64 0, .int .i64 0, .int .i64 0] := ⟨z254, rfl⟩
instance : RowT Tryz.prog 254 10 := ⟨fun w => by kernel_rfl, by kernel_rfl⟩
instance : ElemT Tryz.prog 254 10 80 (.agg #[.int .i64 0, .int .i64 0, .int .i64 0, .int .i64 0, .int .i64 0, .int .i64 0, .int .i64 0, .int .i64 0, .int .i64 0, .int .i64 0]) := ⟨by kernel_rfl⟩
-- 266: [2]int
theorem z266 : ∀ w, (zeroValue 266).run Tryz.prog w = .ok (.agg #[.int .i64 0, .int .i64 0]) w := fun w => by kernel_rfl
instance : ZeroT Tryz.prog 266 (.agg #[.int .i64 0, .int .i64 0]) #[.int .i64 0, .int .i64 0] := ⟨z266, rfl⟩
instance : RowT Tryz.prog 266 2 := ⟨fun w => by kernel_rfl, by kernel_rfl⟩
instance : ElemT Tryz.prog 266 2 16 (.agg #[.int .i64 0, .int .i64 0]) := ⟨by kernel_rfl⟩
instance : ArrT Tryz.prog 266 2 3 := ⟨Tryz.underlying266, fun w => by kernel_rfl, by kernel_rfl⟩
-- 271: [4]uint64
theorem z271 : ∀ w, (zeroValue 271).run Tryz.prog w = .ok (.agg #[.int .u64 0, .int .u64 0, .int .u64 0, .int .u64 0]) w := fun w => by kernel_rfl
instance : ZeroT Tryz.prog 271 (.agg #[.int .u64 0, .int .u64 0, .int .u64 0, .int .u64 0]) #[.int .u64 0, .int .u64 0, .int .u64 0, .int .u64 0] := ⟨z271, rfl⟩
instance : RowT Tryz.prog 271 4 := ⟨fun w => by kernel_rfl, by kernel_rfl⟩
instance : ElemT Tryz.prog 271 4 32 (.agg #[.int .u64 0, .int .u64 0, .int .u64 0, .int .u64 0]) := ⟨by kernel_rfl⟩
instance : ArrT Tryz.prog 271 4 205 := ⟨Tryz.underlying271, fun w => by kernel_rfl, by kernel_rfl⟩
-- 275: []stroke.shape
theorem z275 : ∀ w, (zeroValue 275).run Tryz.prog w = .ok (.slice none 0 0) w := fun w => by kernel_rfl
instance : ZeroT Tryz.prog 275 (.slice none 0 0) #[.slice none 0 0] := ⟨z275, rfl⟩
instance : ScalarT Tryz.prog 275 := ⟨fun w => by kernel_rfl, by kernel_rfl⟩
instance : ElemT Tryz.prog 275 1 24 (.slice none 0 0) := ⟨by kernel_rfl⟩
instance : SliceT Tryz.prog 275 280 := ⟨Tryz.underlying275⟩
-- 280: tympan/stroke.shape
theorem z280 : ∀ w, (zeroValue 280).run Tryz.prog w = .ok (.nilIface) w := fun w => by kernel_rfl
instance : ZeroT Tryz.prog 280 (.nilIface) #[.nilIface] := ⟨z280, rfl⟩
instance : ScalarT Tryz.prog 280 := ⟨fun w => by kernel_rfl, by kernel_rfl⟩
instance : ElemT Tryz.prog 280 1 16 (.nilIface) := ⟨by kernel_rfl⟩
-- 281: *wind.point
theorem z281 : ∀ w, (zeroValue 281).run Tryz.prog w = .ok (.pointer none) w := fun w => by kernel_rfl
instance : ZeroT Tryz.prog 281 (.pointer none) #[.pointer none] := ⟨z281, rfl⟩
instance : ScalarT Tryz.prog 281 := ⟨fun w => by kernel_rfl, by kernel_rfl⟩
instance : ElemT Tryz.prog 281 1 8 (.pointer none) := ⟨by kernel_rfl⟩
-- 282: x
theorem z282 : ∀ w, (zeroValue 282).run Tryz.prog w = .ok (.agg #[.int .i64 0, .int .i64 0, .int .i64 0]) w := fun w => by kernel_rfl
instance : ZeroT Tryz.prog 282 (.agg #[.int .i64 0, .int .i64 0, .int .i64 0]) #[.int .i64 0, .int .i64 0, .int .i64 0] := ⟨z282, rfl⟩
instance : RowT Tryz.prog 282 3 := ⟨fun w => by kernel_rfl, by kernel_rfl⟩
instance : ElemT Tryz.prog 282 3 24 (.agg #[.int .i64 0, .int .i64 0, .int .i64 0]) := ⟨by kernel_rfl⟩
-- 283: tympan/wind.point
theorem z283 : ∀ w, (zeroValue 283).run Tryz.prog w = .ok (.agg #[.int .i64 0, .int .i64 0, .int .i64 0]) w := fun w => by kernel_rfl
instance : ZeroT Tryz.prog 283 (.agg #[.int .i64 0, .int .i64 0, .int .i64 0]) #[.int .i64 0, .int .i64 0, .int .i64 0] := ⟨z283, rfl⟩
instance : RowT Tryz.prog 283 3 := ⟨fun w => by kernel_rfl, by kernel_rfl⟩
instance : ElemT Tryz.prog 283 3 24 (.agg #[.int .i64 0, .int .i64 0, .int .i64 0]) := ⟨by kernel_rfl⟩
-- 285: e
theorem z285 : ∀ w, (zeroValue 285).run Tryz.prog w = .ok (.agg #[.int .i64 0, .int .i64 0, .bool false, .int .i64 0, .int .i64 0, .int .i64 0, .int .i64 0, .int .i64 0, .bool false, .bool false]) w := fun w => by kernel_rfl
instance : ZeroT Tryz.prog 285 (.agg #[.int .i64 0, .int .i64 0, .bool false, .int .i64 0, .int .i64 0, .int .i64 0, .int .i64 0, .int .i64 0, .bool false, .bool false]) #[.int .i64 0, .int .i64 0, .bool false, .int .i64 0, .int .i64 0, .int .i64 0, .int .i64 0, .int .i64 0, .bool false, .bool false] := ⟨z285, rfl⟩
instance : RowT Tryz.prog 285 10 := ⟨fun w => by kernel_rfl, by kernel_rfl⟩
instance : ElemT Tryz.prog 285 10 72 (.agg #[.int .i64 0, .int .i64 0, .bool false, .int .i64 0, .int .i64 0, .int .i64 0, .int .i64 0, .int .i64 0, .bool false, .bool false]) := ⟨by kernel_rfl⟩
-- 286: tympan/stroke.piece
theorem z286 : ∀ w, (zeroValue 286).run Tryz.prog w = .ok (.agg #[.int .i64 0, .int .i64 0, .bool false, .int .i64 0, .int .i64 0, .int .i64 0, .int .i64 0, .int .i64 0, .bool false, .bool false]) w := fun w => by kernel_rfl
instance : ZeroT Tryz.prog 286 (.agg #[.int .i64 0, .int .i64 0, .bool false, .int .i64 0, .int .i64 0, .int .i64 0, .int .i64 0, .int .i64 0, .bool false, .bool false]) #[.int .i64 0, .int .i64 0, .bool false, .int .i64 0, .int .i64 0, .int .i64 0, .int .i64 0, .int .i64 0, .bool false, .bool false] := ⟨z286, rfl⟩
instance : RowT Tryz.prog 286 10 := ⟨fun w => by kernel_rfl, by kernel_rfl⟩
instance : ElemT Tryz.prog 286 10 72 (.agg #[.int .i64 0, .int .i64 0, .bool false, .int .i64 0, .int .i64 0, .int .i64 0, .int .i64 0, .int .i64 0, .bool false, .bool false]) := ⟨by kernel_rfl⟩
-- 287: x
theorem z287 : ∀ w, (zeroValue 287).run Tryz.prog w = .ok (.agg #[.int .i64 0, .int .i64 0, .int .i64 0]) w := fun w => by kernel_rfl
instance : ZeroT Tryz.prog 287 (.agg #[.int .i64 0, .int .i64 0, .int .i64 0]) #[.int .i64 0, .int .i64 0, .int .i64 0] := ⟨z287, rfl⟩
instance : RowT Tryz.prog 287 3 := ⟨fun w => by kernel_rfl, by kernel_rfl⟩
instance : ElemT Tryz.prog 287 3 24 (.agg #[.int .i64 0, .int .i64 0, .int .i64 0]) := ⟨by kernel_rfl⟩
-- 288: tympan/stroke.disc
theorem z288 : ∀ w, (zeroValue 288).run Tryz.prog w = .ok (.agg #[.int .i64 0, .int .i64 0, .int .i64 0]) w := fun w => by kernel_rfl
instance : ZeroT Tryz.prog 288 (.agg #[.int .i64 0, .int .i64 0, .int .i64 0]) #[.int .i64 0, .int .i64 0, .int .i64 0] := ⟨z288, rfl⟩
instance : RowT Tryz.prog 288 3 := ⟨fun w => by kernel_rfl, by kernel_rfl⟩
instance : ElemT Tryz.prog 288 3 24 (.agg #[.int .i64 0, .int .i64 0, .int .i64 0]) := ⟨by kernel_rfl⟩
-- 289: tympan/stroke.square
theorem z289 : ∀ w, (zeroValue 289).run Tryz.prog w = .ok (.agg #[.int .i64 0, .int .i64 0, .int .i64 0]) w := fun w => by kernel_rfl
instance : ZeroT Tryz.prog 289 (.agg #[.int .i64 0, .int .i64 0, .int .i64 0]) #[.int .i64 0, .int .i64 0, .int .i64 0] := ⟨z289, rfl⟩
instance : RowT Tryz.prog 289 3 := ⟨fun w => by kernel_rfl, by kernel_rfl⟩
instance : ElemT Tryz.prog 289 3 24 (.agg #[.int .i64 0, .int .i64 0, .int .i64 0]) := ⟨by kernel_rfl⟩
end Go.Proofs.YtmnoeoecjfhhbaaGreat
