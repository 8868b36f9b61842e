/- What the types of this seat's program are: by program (gen_types.py). -/
import Derived.Test.YtmnoeoecjfhhbaaGreatProg
import Derived.Test.YtmnoeoecjfhhbaaGreatHoldM
import Derived.KernelRfl
namespace Go.Proofs.YtmnoeoecjfhhbaaGreat
theorem z3 : ∀ w, (zeroValue 3).run Tryz.prog w = .ok (.int .i64 0) w := fun w => by kernel_rfl
instance : ZeroT Tryz.prog 3 (.int .i64 0) #[.int .i64 0] := ⟨z3, rfl⟩
instance : ScalarT Tryz.prog 3 := ⟨fun w => by kernel_rfl, by kernel_rfl⟩
instance : ElemT Tryz.prog 3 1 8 (.int .i64 0) := ⟨by kernel_rfl⟩
instance : ScalarT Tryz.prog 4 := ⟨fun w => by kernel_rfl, by kernel_rfl⟩
instance : ScalarT Tryz.prog 5 := ⟨fun w => by kernel_rfl, by kernel_rfl⟩
instance : ElemT Tryz.prog 5 1 1 (.int .u8 0) := ⟨by kernel_rfl⟩
instance : ScalarT Tryz.prog 9 := ⟨fun w => by kernel_rfl, by kernel_rfl⟩
instance : ScalarT Tryz.prog 22 := ⟨fun w => by kernel_rfl, by kernel_rfl⟩
instance : SliceT Tryz.prog 22 78 := ⟨Tryz.underlying22⟩
instance : RowT Tryz.prog 24 3 := ⟨fun w => by kernel_rfl, by kernel_rfl⟩
instance : RowT Tryz.prog 26 4 := ⟨fun w => by kernel_rfl, by kernel_rfl⟩
theorem z28 : ∀ w, (zeroValue 28).run Tryz.prog w = .ok (.agg #[.int .i64 0, .int .i64 0, .int .i64 0, .int .i64 0, .int .i64 0, .int .i64 0]) w := fun w => by kernel_rfl
instance : ZeroT Tryz.prog 28 (.agg #[.int .i64 0, .int .i64 0, .int .i64 0, .int .i64 0, .int .i64 0, .int .i64 0]) #[.int .i64 0, .int .i64 0, .int .i64 0, .int .i64 0, .int .i64 0, .int .i64 0] := ⟨z28, rfl⟩
instance : RowT Tryz.prog 28 6 := ⟨fun w => by kernel_rfl, by kernel_rfl⟩
instance : RowT Tryz.prog 30 4 := ⟨fun w => by kernel_rfl, by kernel_rfl⟩
instance : ScalarT Tryz.prog 31 := ⟨fun w => by kernel_rfl, by kernel_rfl⟩
theorem z33 : ∀ w, (zeroValue 33).run Tryz.prog w = .ok (.agg #[.int .i64 0, .slice none 0 0, .int .i64 0, .int .i64 0, .int .i64 0, .int .i64 0, .int .i64 0, .int .i64 0, .int .i64 0, .string ByteArray.empty, .int .i64 0, .int .i64 0, .int .i64 0, .int .i64 0, .int .i64 0, .int .i64 0, .int .u8 0, .int .u8 0, .int .u8 0, .int .u8 0, .slice none 0 0]) w := fun w => by kernel_rfl
instance : ZeroT Tryz.prog 33 (.agg #[.int .i64 0, .slice none 0 0, .int .i64 0, .int .i64 0, .int .i64 0, .int .i64 0, .int .i64 0, .int .i64 0, .int .i64 0, .string ByteArray.empty, .int .i64 0, .int .i64 0, .int .i64 0, .int .i64 0, .int .i64 0, .int .i64 0, .int .u8 0, .int .u8 0, .int .u8 0, .int .u8 0, .slice none 0 0]) #[.int .i64 0, .slice none 0 0, .int .i64 0, .int .i64 0, .int .i64 0, .int .i64 0, .int .i64 0, .int .i64 0, .int .i64 0, .string ByteArray.empty, .int .i64 0, .int .i64 0, .int .i64 0, .int .i64 0, .int .i64 0, .int .i64 0, .int .u8 0, .int .u8 0, .int .u8 0, .int .u8 0, .slice none 0 0] := ⟨z33, rfl⟩
instance : RowT Tryz.prog 33 21 := ⟨fun w => by kernel_rfl, by kernel_rfl⟩
instance : ElemT Tryz.prog 33 21 184 (.agg #[.int .i64 0, .slice none 0 0, .int .i64 0, .int .i64 0, .int .i64 0, .int .i64 0, .int .i64 0, .int .i64 0, .int .i64 0, .string ByteArray.empty, .int .i64 0, .int .i64 0, .int .i64 0, .int .i64 0, .int .i64 0, .int .i64 0, .int .u8 0, .int .u8 0, .int .u8 0, .int .u8 0, .slice none 0 0]) := ⟨by kernel_rfl⟩
instance : SliceT Tryz.prog 36 33 := ⟨Tryz.underlying36⟩
instance : ScalarT Tryz.prog 37 := ⟨fun w => by kernel_rfl, by kernel_rfl⟩
instance : SliceT Tryz.prog 37 115 := ⟨Tryz.underlying37⟩
theorem z39 : ∀ w, (zeroValue 39).run Tryz.prog w = .ok (.agg #[.int .i64 0, .int .i64 0, .slice none 0 0]) w := fun w => by kernel_rfl
instance : ZeroT Tryz.prog 39 (.agg #[.int .i64 0, .int .i64 0, .slice none 0 0]) #[.int .i64 0, .int .i64 0, .slice none 0 0] := ⟨z39, rfl⟩
instance : RowT Tryz.prog 39 3 := ⟨fun w => by kernel_rfl, by kernel_rfl⟩
instance : ArrT Tryz.prog 44 3 3 := ⟨Tryz.underlying44, fun w => by kernel_rfl, by kernel_rfl⟩
instance : ScalarT Tryz.prog 51 := ⟨fun w => by kernel_rfl, by kernel_rfl⟩
instance : SliceT Tryz.prog 51 5 := ⟨Tryz.underlying51⟩
theorem z53 : ∀ w, (zeroValue 53).run Tryz.prog w = .ok (.agg #[.int .i64 0, .int .i64 0, .slice none 0 0]) w := fun w => by kernel_rfl
instance : ZeroT Tryz.prog 53 (.agg #[.int .i64 0, .int .i64 0, .slice none 0 0]) #[.int .i64 0, .int .i64 0, .slice none 0 0] := ⟨z53, rfl⟩
instance : RowT Tryz.prog 53 3 := ⟨fun w => by kernel_rfl, by kernel_rfl⟩
theorem z71 : ∀ w, (zeroValue 71).run Tryz.prog w = .ok (.agg #[.slice none 0 0, .int .i64 0]) w := fun w => by kernel_rfl
instance : ZeroT Tryz.prog 71 (.agg #[.slice none 0 0, .int .i64 0]) #[.slice none 0 0, .int .i64 0] := ⟨z71, rfl⟩
instance : RowT Tryz.prog 71 2 := ⟨fun w => by kernel_rfl, by kernel_rfl⟩
theorem z78 : ∀ w, (zeroValue 78).run Tryz.prog w = .ok (.agg #[.int .i64 0, .int .i64 0, .int .i64 0, .int .i64 0, .int .i64 0]) w := fun w => by kernel_rfl
instance : ZeroT Tryz.prog 78 (.agg #[.int .i64 0, .int .i64 0, .int .i64 0, .int .i64 0, .int .i64 0]) #[.int .i64 0, .int .i64 0, .int .i64 0, .int .i64 0, .int .i64 0] := ⟨z78, rfl⟩
instance : RowT Tryz.prog 78 5 := ⟨fun w => by kernel_rfl, by kernel_rfl⟩
instance : ElemT Tryz.prog 78 5 40 (.agg #[.int .i64 0, .int .i64 0, .int .i64 0, .int .i64 0, .int .i64 0]) := ⟨by kernel_rfl⟩
theorem z86 : ∀ w, (zeroValue 86).run Tryz.prog w = .ok (.agg #[.int .i64 0, .int .i64 0, .slice none 0 0]) w := fun w => by kernel_rfl
instance : ZeroT Tryz.prog 86 (.agg #[.int .i64 0, .int .i64 0, .slice none 0 0]) #[.int .i64 0, .int .i64 0, .slice none 0 0] := ⟨z86, rfl⟩
instance : RowT Tryz.prog 86 3 := ⟨fun w => by kernel_rfl, by kernel_rfl⟩
instance : ScalarT Tryz.prog 115 := ⟨fun w => by kernel_rfl, by kernel_rfl⟩
instance : ElemT Tryz.prog 115 1 24 (.slice none 0 0) := ⟨by kernel_rfl⟩
instance : SliceT Tryz.prog 115 124 := ⟨Tryz.underlying115⟩
theorem z124 : ∀ w, (zeroValue 124).run Tryz.prog w = .ok (.agg #[.int .i64 0, .int .i64 0]) w := fun w => by kernel_rfl
instance : ZeroT Tryz.prog 124 (.agg #[.int .i64 0, .int .i64 0]) #[.int .i64 0, .int .i64 0] := ⟨z124, rfl⟩
instance : RowT Tryz.prog 124 2 := ⟨fun w => by kernel_rfl, by kernel_rfl⟩
instance : ElemT Tryz.prog 124 2 16 (.agg #[.int .i64 0, .int .i64 0]) := ⟨by kernel_rfl⟩
instance : ScalarT Tryz.prog 126 := ⟨fun w => by kernel_rfl, by kernel_rfl⟩
instance : SliceT Tryz.prog 126 177 := ⟨Tryz.underlying126⟩
theorem z130 : ∀ w, (zeroValue 130).run Tryz.prog w = .ok (.agg (arrB fun _ => false)) w := fun w => by rw [arrB_zero]; kernel_rfl
instance : ZeroT Tryz.prog 130 (.agg (arrB fun _ => false)) (arrB fun _ => false) := ⟨z130, rfl⟩
instance : RowT Tryz.prog 130 64 := ⟨fun w => by kernel_rfl, by kernel_rfl⟩
theorem z131 : ∀ w, (zeroValue 131).run Tryz.prog w = .ok (.agg (arrB fun _ => false)) w := fun w => by rw [arrB_zero]; kernel_rfl
instance : ZeroT Tryz.prog 131 (.agg (arrB fun _ => false)) (arrB fun _ => false) := ⟨z131, rfl⟩
instance : RowT Tryz.prog 131 64 := ⟨fun w => by kernel_rfl, by kernel_rfl⟩
instance : ArrT Tryz.prog 140 6 3 := ⟨Tryz.underlying140, fun w => by kernel_rfl, by kernel_rfl⟩
theorem z145 : ∀ w, (zeroValue 145).run Tryz.prog w = .ok (.agg #[.int .i64 0, .int .i64 0, .int .i64 0, .string ByteArray.empty, .int .i64 0, .int .i64 0, .int .i64 0, .int .i64 0, .int .i64 0, .int .i64 0, .int .i64 0]) w := fun w => by kernel_rfl
instance : ZeroT Tryz.prog 145 (.agg #[.int .i64 0, .int .i64 0, .int .i64 0, .string ByteArray.empty, .int .i64 0, .int .i64 0, .int .i64 0, .int .i64 0, .int .i64 0, .int .i64 0, .int .i64 0]) #[.int .i64 0, .int .i64 0, .int .i64 0, .string ByteArray.empty, .int .i64 0, .int .i64 0, .int .i64 0, .int .i64 0, .int .i64 0, .int .i64 0, .int .i64 0] := ⟨z145, rfl⟩
instance : RowT Tryz.prog 145 11 := ⟨fun w => by kernel_rfl, by kernel_rfl⟩
theorem z152 : ∀ w, (zeroValue 152).run Tryz.prog w = .ok (.agg #[.int .u8 0, .int .u8 0, .int .u8 0]) w := fun w => by kernel_rfl
instance : ZeroT Tryz.prog 152 (.agg #[.int .u8 0, .int .u8 0, .int .u8 0]) #[.int .u8 0, .int .u8 0, .int .u8 0] := ⟨z152, rfl⟩
instance : RowT Tryz.prog 152 3 := ⟨fun w => by kernel_rfl, by kernel_rfl⟩
instance : ArrT Tryz.prog 152 3 5 := ⟨Tryz.underlying152, fun w => by kernel_rfl, by kernel_rfl⟩
instance : SliceT Tryz.prog 156 3 := ⟨Tryz.underlying156⟩
theorem z160 : ∀ w, (zeroValue 160).run Tryz.prog w = .ok (.agg (arrB fun _ => false)) w := fun w => by rw [arrB_zero]; kernel_rfl
instance : ZeroT Tryz.prog 160 (.agg (arrB fun _ => false)) (arrB fun _ => false) := ⟨z160, rfl⟩
instance : RowT Tryz.prog 160 64 := ⟨fun w => by kernel_rfl, by kernel_rfl⟩
instance : ArrT Tryz.prog 160 64 4 := ⟨Tryz.underlying160, fun w => by kernel_rfl, by kernel_rfl⟩
instance : SliceT Tryz.prog 170 173 := ⟨Tryz.underlying170⟩
instance : RowT Tryz.prog 173 4 := ⟨fun w => by kernel_rfl, by kernel_rfl⟩
instance : ElemT Tryz.prog 173 4 48 (.agg #[.int .i64 0, .int .i64 0, .slice none 0 0, .bool false]) := ⟨by kernel_rfl⟩
theorem z177 : ∀ w, (zeroValue 177).run Tryz.prog w = .ok (.agg #[.int .i64 0, .int .i64 0, .bool false, .int .i64 0, .int .i64 0, .int .i64 0, .int .i64 0]) w := fun w => by kernel_rfl
instance : ZeroT Tryz.prog 177 (.agg #[.int .i64 0, .int .i64 0, .bool false, .int .i64 0, .int .i64 0, .int .i64 0, .int .i64 0]) #[.int .i64 0, .int .i64 0, .bool false, .int .i64 0, .int .i64 0, .int .i64 0, .int .i64 0] := ⟨z177, rfl⟩
instance : RowT Tryz.prog 177 7 := ⟨fun w => by kernel_rfl, by kernel_rfl⟩
instance : ElemT Tryz.prog 177 7 56 (.agg #[.int .i64 0, .int .i64 0, .bool false, .int .i64 0, .int .i64 0, .int .i64 0, .int .i64 0]) := ⟨by kernel_rfl⟩
theorem z190 : ∀ w, (zeroValue 190).run Tryz.prog w = .ok (.agg #[.int .i64 0, .int .i64 0, .int .i64 0]) w := fun w => by kernel_rfl
instance : ZeroT Tryz.prog 190 (.agg #[.int .i64 0, .int .i64 0, .int .i64 0]) #[.int .i64 0, .int .i64 0, .int .i64 0] := ⟨z190, rfl⟩
instance : RowT Tryz.prog 190 3 := ⟨fun w => by kernel_rfl, by kernel_rfl⟩
instance : SliceT Tryz.prog 195 198 := ⟨Tryz.underlying195⟩
theorem z198 : ∀ w, (zeroValue 198).run Tryz.prog w = .ok (.agg #[.int .i64 0, .int .i64 0, .int .i64 0, .int .i64 0, .int .i64 0]) w := fun w => by kernel_rfl
instance : ZeroT Tryz.prog 198 (.agg #[.int .i64 0, .int .i64 0, .int .i64 0, .int .i64 0, .int .i64 0]) #[.int .i64 0, .int .i64 0, .int .i64 0, .int .i64 0, .int .i64 0] := ⟨z198, rfl⟩
instance : RowT Tryz.prog 198 5 := ⟨fun w => by kernel_rfl, by kernel_rfl⟩
instance : ElemT Tryz.prog 198 5 40 (.agg #[.int .i64 0, .int .i64 0, .int .i64 0, .int .i64 0, .int .i64 0]) := ⟨by kernel_rfl⟩
instance : ScalarT Tryz.prog 205 := ⟨fun w => by kernel_rfl, by kernel_rfl⟩
theorem z207 : ∀ w, (zeroValue 207).run Tryz.prog w = .ok (.agg #[.int .u64 0, .int .u64 0]) w := fun w => by kernel_rfl
instance : ZeroT Tryz.prog 207 (.agg #[.int .u64 0, .int .u64 0]) #[.int .u64 0, .int .u64 0] := ⟨z207, rfl⟩
instance : RowT Tryz.prog 207 2 := ⟨fun w => by kernel_rfl, by kernel_rfl⟩
instance : SliceT Tryz.prog 231 248 := ⟨Tryz.underlying231⟩
instance : SliceT Tryz.prog 237 239 := ⟨Tryz.underlying237⟩
theorem z239 : ∀ w, (zeroValue 239).run Tryz.prog w = .ok (.agg #[.int .i64 0, .int .i64 0, .slice none 0 0, .bool false]) w := fun w => by kernel_rfl
instance : ZeroT Tryz.prog 239 (.agg #[.int .i64 0, .int .i64 0, .slice none 0 0, .bool false]) #[.int .i64 0, .int .i64 0, .slice none 0 0, .bool false] := ⟨z239, rfl⟩
instance : RowT Tryz.prog 239 4 := ⟨fun w => by kernel_rfl, by kernel_rfl⟩
instance : ElemT Tryz.prog 239 4 48 (.agg #[.int .i64 0, .int .i64 0, .slice none 0 0, .bool false]) := ⟨by kernel_rfl⟩
theorem z240 : ∀ w, (zeroValue 240).run Tryz.prog w = .ok (.agg (arrI 65 fun _ => 0)) w := fun w => by rw [arrI_zero]; kernel_rfl
instance : ZeroT Tryz.prog 240 (.agg (arrI 65 fun _ => 0)) (arrI 65 fun _ => 0) := ⟨z240, rfl⟩
instance : SliceT Tryz.prog 241 244 := ⟨Tryz.underlying241⟩
theorem z244 : ∀ w, (zeroValue 244).run Tryz.prog w = .ok (.agg #[.int .i64 0, .int .i64 0]) w := fun w => by kernel_rfl
instance : ZeroT Tryz.prog 244 (.agg #[.int .i64 0, .int .i64 0]) #[.int .i64 0, .int .i64 0] := ⟨z244, rfl⟩
instance : RowT Tryz.prog 244 2 := ⟨fun w => by kernel_rfl, by kernel_rfl⟩
instance : ElemT Tryz.prog 244 2 16 (.agg #[.int .i64 0, .int .i64 0]) := ⟨by kernel_rfl⟩
instance : ScalarT Tryz.prog 246 := ⟨fun w => by kernel_rfl, by kernel_rfl⟩
theorem z248 : ∀ w, (zeroValue 248).run Tryz.prog w = .ok (.agg #[.int .i64 0, .int .i64 0, .bool false, .int .i64 0, .int .i64 0, .int .i64 0, .int .i64 0, .int .i64 0, .bool false, .bool false, .nilFunc]) w := fun w => by kernel_rfl
instance : ZeroT Tryz.prog 248 (.agg #[.int .i64 0, .int .i64 0, .bool false, .int .i64 0, .int .i64 0, .int .i64 0, .int .i64 0, .int .i64 0, .bool false, .bool false, .nilFunc]) #[.int .i64 0, .int .i64 0, .bool false, .int .i64 0, .int .i64 0, .int .i64 0, .int .i64 0, .int .i64 0, .bool false, .bool false, .nilFunc] := ⟨z248, rfl⟩
instance : RowT Tryz.prog 248 11 := ⟨fun w => by kernel_rfl, by kernel_rfl⟩
instance : ElemT Tryz.prog 248 11 80 (.agg #[.int .i64 0, .int .i64 0, .bool false, .int .i64 0, .int .i64 0, .int .i64 0, .int .i64 0, .int .i64 0, .bool false, .bool false, .nilFunc]) := ⟨by kernel_rfl⟩
theorem z250 : ∀ w, (zeroValue 250).run Tryz.prog w = .ok (.agg #[.int .i64 0, .int .i64 0]) w := fun w => by kernel_rfl
instance : ZeroT Tryz.prog 250 (.agg #[.int .i64 0, .int .i64 0]) #[.int .i64 0, .int .i64 0] := ⟨z250, rfl⟩
instance : RowT Tryz.prog 250 2 := ⟨fun w => by kernel_rfl, by kernel_rfl⟩
theorem z253 : ∀ w, (zeroValue 253).run Tryz.prog w = .ok (.agg #[.int .i64 0, .int .i64 0, .int .i64 0, .int .i64 0, .int .i64 0]) w := fun w => by kernel_rfl
instance : ZeroT Tryz.prog 253 (.agg #[.int .i64 0, .int .i64 0, .int .i64 0, .int .i64 0, .int .i64 0]) #[.int .i64 0, .int .i64 0, .int .i64 0, .int .i64 0, .int .i64 0] := ⟨z253, rfl⟩
instance : RowT Tryz.prog 253 5 := ⟨fun w => by kernel_rfl, by kernel_rfl⟩
theorem z254 : ∀ w, (zeroValue 254).run Tryz.prog w = .ok (.agg #[.int .i64 0, .int .i64 0, .int .i64 0, .int .i64 0, .int .i64 0, .int .i64 0, .int .i64 0, .int .i64 0, .int .i64 0, .int .i64 0]) w := fun w => by kernel_rfl
instance : ZeroT Tryz.prog 254 (.agg #[.int .i64 0, .int .i64 0, .int .i64 0, .int .i64 0, .int .i64 0, .int .i64 0, .int .i64 0, .int .i64 0, .int .i64 0, .int .i64 0]) #[.int .i64 0, .int .i64 0, .int .i64 0, .int .i64 0, .int .i64 0, .int .i64 0, .int .i64 0, .int .i64 0, .int .i64 0, .int .i64 0] := ⟨z254, rfl⟩
instance : RowT Tryz.prog 254 10 := ⟨fun w => by kernel_rfl, by kernel_rfl⟩
instance : ArrT Tryz.prog 266 2 3 := ⟨Tryz.underlying266, fun w => by kernel_rfl, by kernel_rfl⟩
theorem z271 : ∀ w, (zeroValue 271).run Tryz.prog w = .ok (.agg #[.int .u64 0, .int .u64 0, .int .u64 0, .int .u64 0]) w := fun w => by kernel_rfl
instance : ZeroT Tryz.prog 271 (.agg #[.int .u64 0, .int .u64 0, .int .u64 0, .int .u64 0]) #[.int .u64 0, .int .u64 0, .int .u64 0, .int .u64 0] := ⟨z271, rfl⟩
instance : RowT Tryz.prog 271 4 := ⟨fun w => by kernel_rfl, by kernel_rfl⟩
instance : SliceT Tryz.prog 275 280 := ⟨Tryz.underlying275⟩
instance : ScalarT Tryz.prog 280 := ⟨fun w => by kernel_rfl, by kernel_rfl⟩
instance : ElemT Tryz.prog 280 1 16 (.nilIface) := ⟨by kernel_rfl⟩
end Go.Proofs.YtmnoeoecjfhhbaaGreat
