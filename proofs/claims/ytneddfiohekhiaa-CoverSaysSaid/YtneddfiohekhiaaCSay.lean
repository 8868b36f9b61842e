/- CoverSays returns true. -/
import Derived.Test.YtneddfiohekhiaaMEnd
import Derived.Test.YtneddfiohekhiaaKn
-- uses arrU
-- lit6
namespace Go.Proofs.Ytneddfiohekhiaa
open Go.RowKit

def sameMsk (a b : Msk) : Bool := (a.W == b.W) && ((a.H == b.H) && ((strOfNums a.B).toList == (strOfNums b.B).toList))
theorem sameMsk_self (a : Msk) : sameMsk a a = true := by simp [sameMsk]
theorem helpBytesG_calls (w : World) (va vb : Value) (l m : List Int) (ha : BytesAt w va l) (hb : BytesAt w vb m) :
    Calls Try.prog 45 #[va, vb] w fun e w' => e = .returned (.bool ((strOfNums l).toList == (strOfNums m).toList)) ∧ Below w.heap.size w w' := by
  obtain ⟨a, ca, rfl, _⟩ := ha.parts
  obtain ⟨b, cb, rfl, _⟩ := hb.parts
  have HA := Lib.hid ha
  have HB := Lib.hid hb
  clear ha hb
  have hL := Holds.start w
  go_enter Try.func45, Try.ntmps45
  go_wp2_with (first | (first | (with_reducible refine wpS_conv rfl _ rfl (.slice _ _ _) rfl _ (HA.out.hold hL) ?_) | (with_reducible refine wpS_conv rfl _ rfl (.slice _ _ _) rfl _ (HB.out.hold hL) ?_)) | ((clear hL; with_reducible intro _ _ hL)) | (with_reducible refine wpC_alloc rfl _ rfl _ _ inferInstance hL ?_) | (with_reducible first | refine wpB_agg rfl _ _ _ rfl rfl hL ?_ | refine wpB_one rfl _ _ (.int _ _) rfl rfl rfl hL ?_ | refine wpB_one rfl _ _ (.slice _ _ _) rfl rfl rfl hL ?_ | refine wpB_one rfl _ _ (.bool _) rfl rfl rfl hL ?_ | refine wpB_one rfl _ _ (.pointer _) rfl rfl rfl hL ?_ | refine wpB_one rfl _ _ (.func _ _ _) rfl rfl rfl hL ?_) | (with_reducible first | refine wpH_max rfl _ _ _ _ rfl _ _ rfl rfl ?_ | refine wpH_min rfl _ _ _ _ rfl _ _ rfl rfl ?_) | ((with_reducible refine wpA_load rfl _ _ rfl _ rfl ?_); first | refine loadA hL ?_ | refine loadR hL ?_ | refine loadC hL ?_ | refine loadD ?_ | refine loadE hL ?_ | refine loadF ?_) | ((with_reducible refine wpA_index rfl _ _ _ rfl _ rfl _ rfl ?_); first | (refine indexA ?_; try rw [Int.toNat_natCast]) | refine indexC ?_) | ((with_reducible refine wpA_store rfl _ _ _ rfl _ rfl (.agg _) rfl ?_); refine storeR hL ?_; clear hL; intro _ hL) | ((with_reducible first | refine wpA_store rfl _ _ _ rfl _ rfl (.int _ _) rfl ?_ | refine wpA_store rfl _ _ _ rfl _ rfl (.slice _ _ _) rfl ?_ | refine wpA_store rfl _ _ _ rfl _ rfl (.bool _) rfl ?_ | refine wpA_store rfl _ _ _ rfl _ rfl (.pointer _) rfl ?_ | refine wpA_store rfl _ _ _ rfl _ rfl (.func _ _ _) rfl ?_); (first | refine storeA hL ?_ | refine storeO hL ?_); (clear hL; intro _ hL)) | ((with_reducible refine wpA_lit rfl _ _ _ rfl ?_); first | refine litA1 hL ?_ | refine litA2 hL ?_ | refine litA3 hL ?_ | refine litA4 hL ?_ | refine litA6 hL ?_) | ((with_reducible refine wpA_append rfl _ _ _ rfl (.slice _ _ _) rfl ?_); intro vq hvq; simp [go_sem] at hvq; subst hvq; refine appendA hL ?_; clear hL; intro _ _ _ hL; try dsimp only at hL) | ((with_reducible refine wpA_make rfl _ _ _ rfl _ rfl rfl ?_); refine makeA hL ?_))
  go_ret
  exact ⟨rfl, hL.below⟩
set_option maxRecDepth 100000 in
set_option maxHeartbeats 4000000 in
theorem coverSameG_calls (w : World) (va vb : Value) (a b : Msk) (ha : MaskAt w va a) (hb : MaskAt w vb b) :
    Calls Try.prog 21 #[va, vb] w fun e w' => e = .returned (.bool (sameMsk a b)) ∧ Below w.heap.size w w' := by
  obtain ⟨xa, ca, rfl, _, _, hA⟩ := ha.shape
  obtain ⟨xb, cb, rfl, _, _, hB⟩ := hb.shape
  have HA := Lib.hid hA; have HB := Lib.hid hB
  clear ha hb hA hB
  have HR := Lib.hid (show sameMsk a b = ((a.W == b.W) && ((a.H == b.H) && ((strOfNums a.B).toList == (strOfNums b.B).toList))) from rfl)
  generalize sameMsk a b = R at *
  obtain ⟨aw, ah, aB⟩ := a
  obtain ⟨bw, bh, bB⟩ := b
  dsimp only at *
  have hcs : (aw == bw) = false ∨ ((aw == bw) = true ∧ (ah == bh) = false) ∨ ((aw == bw) = true ∧ (ah == bh) = true) := by cases aw == bw <;> cases ah == bh <;> simp
  have hL := Holds.start w
  rcases hcs with h | ⟨h, h2⟩ | ⟨h, h2⟩
  · rw [h] at HR
    have n1 : True := trivial; have n2 : True := trivial
    go_enter Try.func21, Try.ntmps21
    go_wp2_with (first | (first | (clear hL n1; with_reducible intro b1 w1 hL) | (clear hL n2; with_reducible intro b2 w2 hL) | (clear hL; with_reducible intro _ _ hL)) | (with_reducible refine wpC_alloc rfl _ rfl _ _ inferInstance hL ?_) | (with_reducible first | refine wpB_agg rfl _ _ _ rfl rfl hL ?_ | refine wpB_one rfl _ _ (.int _ _) rfl rfl rfl hL ?_ | refine wpB_one rfl _ _ (.slice _ _ _) rfl rfl rfl hL ?_ | refine wpB_one rfl _ _ (.bool _) rfl rfl rfl hL ?_ | refine wpB_one rfl _ _ (.pointer _) rfl rfl rfl hL ?_ | refine wpB_one rfl _ _ (.func _ _ _) rfl rfl rfl hL ?_) | (with_reducible first | refine wpH_max rfl _ _ _ _ rfl _ _ rfl rfl ?_ | refine wpH_min rfl _ _ _ _ rfl _ _ rfl rfl ?_) | ((with_reducible refine wpA_load rfl _ _ rfl _ rfl ?_); first | refine loadA hL ?_ | refine loadR hL ?_ | refine loadC hL ?_ | refine loadD ?_ | refine loadE hL ?_ | refine loadF ?_) | ((with_reducible refine wpA_index rfl _ _ _ rfl _ rfl _ rfl ?_); first | (refine indexA ?_; try rw [Int.toNat_natCast]) | refine indexC ?_) | ((with_reducible refine wpA_store rfl _ _ _ rfl _ rfl (.agg _) rfl ?_); refine storeR hL ?_; clear hL; intro _ hL) | ((with_reducible first | refine wpA_store rfl _ _ _ rfl _ rfl (.int _ _) rfl ?_ | refine wpA_store rfl _ _ _ rfl _ rfl (.slice _ _ _) rfl ?_ | refine wpA_store rfl _ _ _ rfl _ rfl (.bool _) rfl ?_ | refine wpA_store rfl _ _ _ rfl _ rfl (.pointer _) rfl ?_ | refine wpA_store rfl _ _ _ rfl _ rfl (.func _ _ _) rfl ?_); (first | refine storeA hL ?_ | refine storeO hL ?_); (clear hL; intro _ hL)) | ((with_reducible refine wpA_lit rfl _ _ _ rfl ?_); first | refine litA1 hL ?_ | refine litA2 hL ?_ | refine litA3 hL ?_ | refine litA4 hL ?_ | refine litA6 hL ?_) | ((with_reducible refine wpA_append rfl _ _ _ rfl (.slice _ _ _) rfl ?_); intro vq hvq; simp [go_sem] at hvq; subst hvq; refine appendA hL ?_; clear hL; intro _ _ _ hL; try dsimp only at hL) | ((with_reducible refine wpA_make rfl _ _ _ rfl _ rfl rfl ?_); refine makeA hL ?_))
    go_ret
    exact ⟨ret_bool (by rw [HR.out]; rfl), hL.below⟩
  · rw [h, h2] at HR
    have n1 : True := trivial; have n2 : True := trivial
    go_enter Try.func21, Try.ntmps21
    go_wp2_with (first | (first | (clear hL n1; with_reducible intro b1 w1 hL) | (clear hL n2; with_reducible intro b2 w2 hL) | (clear hL; with_reducible intro _ _ hL)) | (with_reducible refine wpC_alloc rfl _ rfl _ _ inferInstance hL ?_) | (with_reducible first | refine wpB_agg rfl _ _ _ rfl rfl hL ?_ | refine wpB_one rfl _ _ (.int _ _) rfl rfl rfl hL ?_ | refine wpB_one rfl _ _ (.slice _ _ _) rfl rfl rfl hL ?_ | refine wpB_one rfl _ _ (.bool _) rfl rfl rfl hL ?_ | refine wpB_one rfl _ _ (.pointer _) rfl rfl rfl hL ?_ | refine wpB_one rfl _ _ (.func _ _ _) rfl rfl rfl hL ?_) | (with_reducible first | refine wpH_max rfl _ _ _ _ rfl _ _ rfl rfl ?_ | refine wpH_min rfl _ _ _ _ rfl _ _ rfl rfl ?_) | ((with_reducible refine wpA_load rfl _ _ rfl _ rfl ?_); first | refine loadA hL ?_ | refine loadR hL ?_ | refine loadC hL ?_ | refine loadD ?_ | refine loadE hL ?_ | refine loadF ?_) | ((with_reducible refine wpA_index rfl _ _ _ rfl _ rfl _ rfl ?_); first | (refine indexA ?_; try rw [Int.toNat_natCast]) | refine indexC ?_) | ((with_reducible refine wpA_store rfl _ _ _ rfl _ rfl (.agg _) rfl ?_); refine storeR hL ?_; clear hL; intro _ hL) | ((with_reducible first | refine wpA_store rfl _ _ _ rfl _ rfl (.int _ _) rfl ?_ | refine wpA_store rfl _ _ _ rfl _ rfl (.slice _ _ _) rfl ?_ | refine wpA_store rfl _ _ _ rfl _ rfl (.bool _) rfl ?_ | refine wpA_store rfl _ _ _ rfl _ rfl (.pointer _) rfl ?_ | refine wpA_store rfl _ _ _ rfl _ rfl (.func _ _ _) rfl ?_); (first | refine storeA hL ?_ | refine storeO hL ?_); (clear hL; intro _ hL)) | ((with_reducible refine wpA_lit rfl _ _ _ rfl ?_); first | refine litA1 hL ?_ | refine litA2 hL ?_ | refine litA3 hL ?_ | refine litA4 hL ?_ | refine litA6 hL ?_) | ((with_reducible refine wpA_append rfl _ _ _ rfl (.slice _ _ _) rfl ?_); intro vq hvq; simp [go_sem] at hvq; subst hvq; refine appendA hL ?_; clear hL; intro _ _ _ hL; try dsimp only at hL) | ((with_reducible refine wpA_make rfl _ _ _ rfl _ rfl rfl ?_); refine makeA hL ?_))
    go_ret
    exact ⟨ret_bool (by rw [HR.out]; rfl), hL.below⟩
  · rw [h, h2] at HR
    have n1 : True := trivial; have n2 : True := trivial
    go_enter Try.func21, Try.ntmps21
    go_wp2_with (first | (first | (with_reducible refine wpS_conv rfl _ rfl (.slice _ _ _) rfl _ (HA.out.hold hL) ?_) | (with_reducible refine wpS_conv rfl _ rfl (.slice _ _ _) rfl _ (HB.out.hold hL) ?_)) | (first | (clear hL n1; with_reducible intro b1 w1 hL) | (clear hL n2; with_reducible intro b2 w2 hL) | (clear hL; with_reducible intro _ _ hL)) | (with_reducible refine wpC_alloc rfl _ rfl _ _ inferInstance hL ?_) | (with_reducible first | refine wpB_agg rfl _ _ _ rfl rfl hL ?_ | refine wpB_one rfl _ _ (.int _ _) rfl rfl rfl hL ?_ | refine wpB_one rfl _ _ (.slice _ _ _) rfl rfl rfl hL ?_ | refine wpB_one rfl _ _ (.bool _) rfl rfl rfl hL ?_ | refine wpB_one rfl _ _ (.pointer _) rfl rfl rfl hL ?_ | refine wpB_one rfl _ _ (.func _ _ _) rfl rfl rfl hL ?_) | (with_reducible first | refine wpH_max rfl _ _ _ _ rfl _ _ rfl rfl ?_ | refine wpH_min rfl _ _ _ _ rfl _ _ rfl rfl ?_) | ((with_reducible refine wpA_load rfl _ _ rfl _ rfl ?_); first | refine loadA hL ?_ | refine loadR hL ?_ | refine loadC hL ?_ | refine loadD ?_ | refine loadE hL ?_ | refine loadF ?_) | ((with_reducible refine wpA_index rfl _ _ _ rfl _ rfl _ rfl ?_); first | (refine indexA ?_; try rw [Int.toNat_natCast]) | refine indexC ?_) | ((with_reducible refine wpA_store rfl _ _ _ rfl _ rfl (.agg _) rfl ?_); refine storeR hL ?_; clear hL; intro _ hL) | ((with_reducible first | refine wpA_store rfl _ _ _ rfl _ rfl (.int _ _) rfl ?_ | refine wpA_store rfl _ _ _ rfl _ rfl (.slice _ _ _) rfl ?_ | refine wpA_store rfl _ _ _ rfl _ rfl (.bool _) rfl ?_ | refine wpA_store rfl _ _ _ rfl _ rfl (.pointer _) rfl ?_ | refine wpA_store rfl _ _ _ rfl _ rfl (.func _ _ _) rfl ?_); (first | refine storeA hL ?_ | refine storeO hL ?_); (clear hL; intro _ hL)) | ((with_reducible refine wpA_lit rfl _ _ _ rfl ?_); first | refine litA1 hL ?_ | refine litA2 hL ?_ | refine litA3 hL ?_ | refine litA4 hL ?_ | refine litA6 hL ?_) | ((with_reducible refine wpA_append rfl _ _ _ rfl (.slice _ _ _) rfl ?_); intro vq hvq; simp [go_sem] at hvq; subst hvq; refine appendA hL ?_; clear hL; intro _ _ _ hL; try dsimp only at hL) | ((with_reducible refine wpA_make rfl _ _ _ rfl _ rfl rfl ?_); refine makeA hL ?_))
    go_ret
    exact ⟨ret_bool (by rw [HR.out]; rfl), hL.below⟩
set_option maxRecDepth 100000 in
set_option maxHeartbeats 4000000 in
theorem helpMaskG_calls (w : World) (va vb : Value) (a b : Msk) (ha : MaskAt w va a) (hb : MaskAt w vb b) :
    Calls Try.prog 16 #[va, vb] w fun e w' => e = .returned (.bool (sameMsk a b)) ∧ Below w.heap.size w w' := by
  obtain ⟨xa, ca, rfl, _, _, hA⟩ := ha.shape
  obtain ⟨xb, cb, rfl, _, _, hB⟩ := hb.shape
  have HA := Lib.hid hA; have HB := Lib.hid hB
  clear ha hb hA hB
  have HR := Lib.hid (show sameMsk a b = ((a.W == b.W) && ((a.H == b.H) && ((strOfNums a.B).toList == (strOfNums b.B).toList))) from rfl)
  generalize sameMsk a b = R at *
  obtain ⟨aw, ah, aB⟩ := a
  obtain ⟨bw, bh, bB⟩ := b
  dsimp only at *
  have hcs : (aw == bw) = false ∨ ((aw == bw) = true ∧ (ah == bh) = false) ∨ ((aw == bw) = true ∧ (ah == bh) = true) := by cases aw == bw <;> cases ah == bh <;> simp
  have hL := Holds.start w
  rcases hcs with h | ⟨h, h2⟩ | ⟨h, h2⟩
  · rw [h] at HR
    have n1 : True := trivial; have n2 : True := trivial
    go_enter Try.func16, Try.ntmps16
    go_wp2_with (first | (first | (clear hL n1; with_reducible intro b1 w1 hL) | (clear hL n2; with_reducible intro b2 w2 hL) | (clear hL; with_reducible intro _ _ hL)) | (with_reducible refine wpC_alloc rfl _ rfl _ _ inferInstance hL ?_) | (with_reducible first | refine wpB_agg rfl _ _ _ rfl rfl hL ?_ | refine wpB_one rfl _ _ (.int _ _) rfl rfl rfl hL ?_ | refine wpB_one rfl _ _ (.slice _ _ _) rfl rfl rfl hL ?_ | refine wpB_one rfl _ _ (.bool _) rfl rfl rfl hL ?_ | refine wpB_one rfl _ _ (.pointer _) rfl rfl rfl hL ?_ | refine wpB_one rfl _ _ (.func _ _ _) rfl rfl rfl hL ?_) | (with_reducible first | refine wpH_max rfl _ _ _ _ rfl _ _ rfl rfl ?_ | refine wpH_min rfl _ _ _ _ rfl _ _ rfl rfl ?_) | ((with_reducible refine wpA_load rfl _ _ rfl _ rfl ?_); first | refine loadA hL ?_ | refine loadR hL ?_ | refine loadC hL ?_ | refine loadD ?_ | refine loadE hL ?_ | refine loadF ?_) | ((with_reducible refine wpA_index rfl _ _ _ rfl _ rfl _ rfl ?_); first | (refine indexA ?_; try rw [Int.toNat_natCast]) | refine indexC ?_) | ((with_reducible refine wpA_store rfl _ _ _ rfl _ rfl (.agg _) rfl ?_); refine storeR hL ?_; clear hL; intro _ hL) | ((with_reducible first | refine wpA_store rfl _ _ _ rfl _ rfl (.int _ _) rfl ?_ | refine wpA_store rfl _ _ _ rfl _ rfl (.slice _ _ _) rfl ?_ | refine wpA_store rfl _ _ _ rfl _ rfl (.bool _) rfl ?_ | refine wpA_store rfl _ _ _ rfl _ rfl (.pointer _) rfl ?_ | refine wpA_store rfl _ _ _ rfl _ rfl (.func _ _ _) rfl ?_); (first | refine storeA hL ?_ | refine storeO hL ?_); (clear hL; intro _ hL)) | ((with_reducible refine wpA_lit rfl _ _ _ rfl ?_); first | refine litA1 hL ?_ | refine litA2 hL ?_ | refine litA3 hL ?_ | refine litA4 hL ?_ | refine litA6 hL ?_) | ((with_reducible refine wpA_append rfl _ _ _ rfl (.slice _ _ _) rfl ?_); intro vq hvq; simp [go_sem] at hvq; subst hvq; refine appendA hL ?_; clear hL; intro _ _ _ hL; try dsimp only at hL) | ((with_reducible refine wpA_make rfl _ _ _ rfl _ rfl rfl ?_); refine makeA hL ?_))
    go_ret
    exact ⟨ret_bool (by rw [HR.out]; rfl), hL.below⟩
  · rw [h, h2] at HR
    have n1 : True := trivial; have n2 : True := trivial
    go_enter Try.func16, Try.ntmps16
    go_wp2_with (first | (first | (clear hL n1; with_reducible intro b1 w1 hL) | (clear hL n2; with_reducible intro b2 w2 hL) | (clear hL; with_reducible intro _ _ hL)) | (with_reducible refine wpC_alloc rfl _ rfl _ _ inferInstance hL ?_) | (with_reducible first | refine wpB_agg rfl _ _ _ rfl rfl hL ?_ | refine wpB_one rfl _ _ (.int _ _) rfl rfl rfl hL ?_ | refine wpB_one rfl _ _ (.slice _ _ _) rfl rfl rfl hL ?_ | refine wpB_one rfl _ _ (.bool _) rfl rfl rfl hL ?_ | refine wpB_one rfl _ _ (.pointer _) rfl rfl rfl hL ?_ | refine wpB_one rfl _ _ (.func _ _ _) rfl rfl rfl hL ?_) | (with_reducible first | refine wpH_max rfl _ _ _ _ rfl _ _ rfl rfl ?_ | refine wpH_min rfl _ _ _ _ rfl _ _ rfl rfl ?_) | ((with_reducible refine wpA_load rfl _ _ rfl _ rfl ?_); first | refine loadA hL ?_ | refine loadR hL ?_ | refine loadC hL ?_ | refine loadD ?_ | refine loadE hL ?_ | refine loadF ?_) | ((with_reducible refine wpA_index rfl _ _ _ rfl _ rfl _ rfl ?_); first | (refine indexA ?_; try rw [Int.toNat_natCast]) | refine indexC ?_) | ((with_reducible refine wpA_store rfl _ _ _ rfl _ rfl (.agg _) rfl ?_); refine storeR hL ?_; clear hL; intro _ hL) | ((with_reducible first | refine wpA_store rfl _ _ _ rfl _ rfl (.int _ _) rfl ?_ | refine wpA_store rfl _ _ _ rfl _ rfl (.slice _ _ _) rfl ?_ | refine wpA_store rfl _ _ _ rfl _ rfl (.bool _) rfl ?_ | refine wpA_store rfl _ _ _ rfl _ rfl (.pointer _) rfl ?_ | refine wpA_store rfl _ _ _ rfl _ rfl (.func _ _ _) rfl ?_); (first | refine storeA hL ?_ | refine storeO hL ?_); (clear hL; intro _ hL)) | ((with_reducible refine wpA_lit rfl _ _ _ rfl ?_); first | refine litA1 hL ?_ | refine litA2 hL ?_ | refine litA3 hL ?_ | refine litA4 hL ?_ | refine litA6 hL ?_) | ((with_reducible refine wpA_append rfl _ _ _ rfl (.slice _ _ _) rfl ?_); intro vq hvq; simp [go_sem] at hvq; subst hvq; refine appendA hL ?_; clear hL; intro _ _ _ hL; try dsimp only at hL) | ((with_reducible refine wpA_make rfl _ _ _ rfl _ rfl rfl ?_); refine makeA hL ?_))
    go_ret
    exact ⟨ret_bool (by rw [HR.out]; rfl), hL.below⟩
  · rw [h, h2] at HR
    have n1 : True := trivial; have n2 : True := trivial
    go_enter Try.func16, Try.ntmps16
    go_wp2_with (first | (go_at_call 45; (with_reducible refine (helpBytesG_calls _ _ _ _ _ (HA.out.hold hL) (HB.out.hold hL)).mono ?_); rintro e _ ⟨rfl, hb⟩; replace hL := hL.call hb; clear hb) | (first | (clear hL n1; with_reducible intro b1 w1 hL) | (clear hL n2; with_reducible intro b2 w2 hL) | (clear hL; with_reducible intro _ _ hL)) | (with_reducible refine wpC_alloc rfl _ rfl _ _ inferInstance hL ?_) | (with_reducible first | refine wpB_agg rfl _ _ _ rfl rfl hL ?_ | refine wpB_one rfl _ _ (.int _ _) rfl rfl rfl hL ?_ | refine wpB_one rfl _ _ (.slice _ _ _) rfl rfl rfl hL ?_ | refine wpB_one rfl _ _ (.bool _) rfl rfl rfl hL ?_ | refine wpB_one rfl _ _ (.pointer _) rfl rfl rfl hL ?_ | refine wpB_one rfl _ _ (.func _ _ _) rfl rfl rfl hL ?_) | (with_reducible first | refine wpH_max rfl _ _ _ _ rfl _ _ rfl rfl ?_ | refine wpH_min rfl _ _ _ _ rfl _ _ rfl rfl ?_) | ((with_reducible refine wpA_load rfl _ _ rfl _ rfl ?_); first | refine loadA hL ?_ | refine loadR hL ?_ | refine loadC hL ?_ | refine loadD ?_ | refine loadE hL ?_ | refine loadF ?_) | ((with_reducible refine wpA_index rfl _ _ _ rfl _ rfl _ rfl ?_); first | (refine indexA ?_; try rw [Int.toNat_natCast]) | refine indexC ?_) | ((with_reducible refine wpA_store rfl _ _ _ rfl _ rfl (.agg _) rfl ?_); refine storeR hL ?_; clear hL; intro _ hL) | ((with_reducible first | refine wpA_store rfl _ _ _ rfl _ rfl (.int _ _) rfl ?_ | refine wpA_store rfl _ _ _ rfl _ rfl (.slice _ _ _) rfl ?_ | refine wpA_store rfl _ _ _ rfl _ rfl (.bool _) rfl ?_ | refine wpA_store rfl _ _ _ rfl _ rfl (.pointer _) rfl ?_ | refine wpA_store rfl _ _ _ rfl _ rfl (.func _ _ _) rfl ?_); (first | refine storeA hL ?_ | refine storeO hL ?_); (clear hL; intro _ hL)) | ((with_reducible refine wpA_lit rfl _ _ _ rfl ?_); first | refine litA1 hL ?_ | refine litA2 hL ?_ | refine litA3 hL ?_ | refine litA4 hL ?_ | refine litA6 hL ?_) | ((with_reducible refine wpA_append rfl _ _ _ rfl (.slice _ _ _) rfl ?_); intro vq hvq; simp [go_sem] at hvq; subst hvq; refine appendA hL ?_; clear hL; intro _ _ _ hL; try dsimp only at hL) | ((with_reducible refine wpA_make rfl _ _ _ rfl _ rfl rfl ?_); refine makeA hL ?_))
    go_ret
    exact ⟨ret_bool (by rw [HR.out]; rfl), hL.below⟩
theorem has_any (a : Msk) (ka : ∀ n ∈ a.B, 0 ≤ n) (i j : Int) : ∃ r : Bool, (∀ w v, MaskAt w v a → Calls Try.prog 28 #[v, .int .i64 i, .int .i64 j] w fun e w' => e = .returned (.bool r) ∧ Below w.heap.size w w') ∧ ∀ w v, MaskAt w v a → Calls Try.prog 33 #[v, .int .i64 i, .int .i64 j] w fun e w' => e = .returned (.bool r) ∧ Below w.heap.size w w' := by
  cases h : mayMask a with
  | false => exact ⟨_, fun w v hv => coverHasNo_calls w v a hv h i j, fun w v hv => rHasNo_calls w v a hv h i j⟩
  | true =>
    obtain ⟨W, H, q, hs, rfl⟩ := mask_pix h ka
    refine ⟨atPix W H q i j, fun w v hv => ?_, fun w v hv => ?_⟩
    · obtain ⟨ma, ca, rfl, _⟩ := hv.shape
      rw [pixMask_len] at hv ⊢
      exact pixHasC_calls hs w ma ca q hv i j
    · obtain ⟨ma, ca, rfl, _⟩ := hv.shape
      rw [pixMask_len] at hv ⊢
      exact rHasC_calls hs w ma ca q hv i j
theorem count_any (a : Msk) (ka : ∀ n ∈ a.B, 0 ≤ n) : ∃ r : Int, (∀ w v, MaskAt w v a → Calls Try.prog 22 #[v] w fun e w' => e = .returned (.int .i64 r) ∧ Below w.heap.size w w') ∧ ∀ w v, MaskAt w v a → Calls Try.prog 23 #[v] w fun e w' => e = .returned (.int .i64 r) ∧ Below w.heap.size w w' := by
  cases h : mayMask a with
  | false => exact ⟨_, fun w v hv => coverCountNo_calls w v a hv h, fun w v hv => rCountNo_calls w v a hv h⟩
  | true =>
    obtain ⟨W, H, q, hs, rfl⟩ := mask_pix h ka
    refine ⟨(pixCount W q H : Nat), fun w v hv => ?_, fun w v hv => ?_⟩
    · obtain ⟨ma, ca, rfl, _⟩ := hv.shape
      rw [pixMask_len] at hv ⊢
      exact pixCoverCountC_calls hs w ma ca q hv
    · obtain ⟨ma, ca, rfl, _⟩ := hv.shape
      rw [pixMask_len] at hv ⊢
      exact rCountC_calls hs w ma ca q hv
set_option maxRecDepth 100000 in
set_option maxHeartbeats 16000000 in
theorem coverSays_calls (w : World) (va : Value) (a : Msk) (ha : MaskAt w va a ∧ ∀ n ∈ a.B, 0 ≤ n) (vb : Value) (b : Msk) (hb : MaskAt w vb b ∧ ∀ n ∈ b.B, 0 ≤ n) (i j : Int) :
    Calls Try.prog 9 #[va, vb, .int .i64 i, .int .i64 j] w fun e w' => e = .returned (.bool true) ∧ Below w.heap.size w w' := by
  obtain ⟨ha, ka⟩ := ha
  obtain ⟨hb, kb⟩ := hb
  obtain ⟨xa, ca, rfl, _⟩ := ha.shape
  obtain ⟨xb, cb, rfl, _⟩ := hb.shape
  have Ha := Lib.hid ha
  have Hb := Lib.hid hb
  clear ha hb
  have hL := Holds.start w
  obtain ⟨mJ, eJ, h1, h2⟩ := twoJoin_end a b ka kb
  have HJoin := Lib.hid fun w' => h1 w' (.agg #[.int .i64 a.W, .int .i64 a.H, .slice xa a.B.length ca]) (.agg #[.int .i64 b.W, .int .i64 b.H, .slice xb b.B.length cb]); have TJoin := Lib.hid fun w' => h2 w' (.agg #[.int .i64 a.W, .int .i64 a.H, .slice xa a.B.length ca]) (.agg #[.int .i64 b.W, .int .i64 b.H, .slice xb b.B.length cb])
  clear h1 h2
  obtain ⟨mM, eM, h1, h2⟩ := twoMeet_end a b ka kb
  have HMeet := Lib.hid fun w' => h1 w' (.agg #[.int .i64 a.W, .int .i64 a.H, .slice xa a.B.length ca]) (.agg #[.int .i64 b.W, .int .i64 b.H, .slice xb b.B.length cb]); have TMeet := Lib.hid fun w' => h2 w' (.agg #[.int .i64 a.W, .int .i64 a.H, .slice xa a.B.length ca]) (.agg #[.int .i64 b.W, .int .i64 b.H, .slice xb b.B.length cb])
  clear h1 h2
  obtain ⟨mL, eL, h1, h2⟩ := twoLess_end a b ka kb
  have HLess := Lib.hid fun w' => h1 w' (.agg #[.int .i64 a.W, .int .i64 a.H, .slice xa a.B.length ca]) (.agg #[.int .i64 b.W, .int .i64 b.H, .slice xb b.B.length cb]); have TLess := Lib.hid fun w' => h2 w' (.agg #[.int .i64 a.W, .int .i64 a.H, .slice xa a.B.length ca]) (.agg #[.int .i64 b.W, .int .i64 b.H, .slice xb b.B.length cb])
  clear h1 h2
  obtain ⟨mO, eO, h1, h2⟩ := twoOther_end a b ka kb
  have HOther := Lib.hid fun w' => h1 w' (.agg #[.int .i64 a.W, .int .i64 a.H, .slice xa a.B.length ca]) (.agg #[.int .i64 b.W, .int .i64 b.H, .slice xb b.B.length cb]); have TOther := Lib.hid fun w' => h2 w' (.agg #[.int .i64 a.W, .int .i64 a.H, .slice xa a.B.length ca]) (.agg #[.int .i64 b.W, .int .i64 b.H, .slice xb b.B.length cb])
  clear h1 h2
  obtain ⟨rh, h1, h2⟩ := has_any a ka i j
  have HHa := Lib.hid fun w' => h1 w' (.agg #[.int .i64 a.W, .int .i64 a.H, .slice xa a.B.length ca]); have HHr := Lib.hid fun w' => h2 w' (.agg #[.int .i64 a.W, .int .i64 a.H, .slice xa a.B.length ca])
  clear h1 h2
  obtain ⟨cn, h1, h2⟩ := count_any a ka
  have HCa := Lib.hid fun w' => h1 w' (.agg #[.int .i64 a.W, .int .i64 a.H, .slice xa a.B.length ca]); have HCr := Lib.hid fun w' => h2 w' (.agg #[.int .i64 a.W, .int .i64 a.H, .slice xa a.B.length ca])
  clear h1 h2 ka kb
  have HMy := Lib.hid fun w' h => coverMay_calls w' (.agg #[.int .i64 a.W, .int .i64 a.H, .slice xa a.B.length ca]) a h
  have HRy := Lib.hid fun w' h => refMayMask_calls w' (.agg #[.int .i64 a.W, .int .i64 a.H, .slice xa a.B.length ca]) a h
  have HSm := Lib.hid fun w' ha hb => coverSameG_calls w' (.agg #[.int .i64 a.W, .int .i64 a.H, .slice xa a.B.length ca]) (.agg #[.int .i64 b.W, .int .i64 b.H, .slice xb b.B.length cb]) a b ha hb
  have HMs := Lib.hid fun w' ha hb => helpMaskG_calls w' (.agg #[.int .i64 a.W, .int .i64 a.H, .slice xa a.B.length ca]) (.agg #[.int .i64 b.W, .int .i64 b.H, .slice xb b.B.length cb]) a b ha hb
  have hSs := fun w' ha => coverSameG_calls w' (.agg #[.int .i64 a.W, .int .i64 a.H, .slice xa a.B.length ca]) (.agg #[.int .i64 a.W, .int .i64 a.H, .slice xa a.B.length ca]) a a ha ha
  rw [sameMsk_self] at hSs
  have HSs := Lib.hid hSs
  clear hSs
  have HH := Lib.hid (fun w' va vb m (ha : MaskF va m w') (hb : MaskF vb m w') => (by have h := helpMaskG_calls w' va vb m m ha hb; rw [sameMsk_self] at h; exact h : Calls Try.prog 16 #[va, vb] w' fun e w'' => e = .returned (.bool true) ∧ Below w'.heap.size w' w''))
  generalize mayMask a = ya at *
  generalize sameMsk a b = sab at *
  obtain ⟨aw, ah, aB⟩ := a
  obtain ⟨bw, bh, bB⟩ := b
  dsimp only at *
  rcases (by omega : 5000 < aB.length ∨ (¬ 5000 < aB.length ∧ 5000 < bB.length) ∨ (¬ 5000 < aB.length ∧ ¬ 5000 < bB.length)) with k1 | ⟨k1, k2⟩ | ⟨k1, k2⟩
  · have k3 : (5000 : Int) < (aB.length : Int) := by omega
    have n1 : True := trivial; have n2 : True := trivial
    go_enter Try.func9, Try.ntmps9
    go_wp2_with (first | (go_at_call 13; (with_reducible refine (known_calls _).mono ?_); rintro e _ ⟨rfl, hb⟩; replace hL := hL.call hb; clear hb) | (first | (clear hL n1; with_reducible intro b1 w1 hL) | (clear hL n2; with_reducible intro b2 w2 hL) | (clear hL; with_reducible intro _ _ hL)) | (with_reducible refine wpC_alloc rfl _ rfl _ _ inferInstance hL ?_) | (with_reducible first | refine wpB_agg rfl _ _ _ rfl rfl hL ?_ | refine wpB_one rfl _ _ (.int _ _) rfl rfl rfl hL ?_ | refine wpB_one rfl _ _ (.slice _ _ _) rfl rfl rfl hL ?_ | refine wpB_one rfl _ _ (.bool _) rfl rfl rfl hL ?_ | refine wpB_one rfl _ _ (.pointer _) rfl rfl rfl hL ?_ | refine wpB_one rfl _ _ (.func _ _ _) rfl rfl rfl hL ?_) | (with_reducible first | refine wpH_max rfl _ _ _ _ rfl _ _ rfl rfl ?_ | refine wpH_min rfl _ _ _ _ rfl _ _ rfl rfl ?_) | ((with_reducible refine wpA_load rfl _ _ rfl _ rfl ?_); first | refine loadA hL ?_ | refine loadR hL ?_ | refine loadC hL ?_ | refine loadD ?_ | refine loadE hL ?_ | refine loadF ?_) | ((with_reducible refine wpA_index rfl _ _ _ rfl _ rfl _ rfl ?_); first | (refine indexA ?_; try rw [Int.toNat_natCast]) | refine indexC ?_) | ((with_reducible refine wpA_store rfl _ _ _ rfl _ rfl (.agg _) rfl ?_); refine storeR hL ?_; clear hL; intro _ hL) | ((with_reducible first | refine wpA_store rfl _ _ _ rfl _ rfl (.int _ _) rfl ?_ | refine wpA_store rfl _ _ _ rfl _ rfl (.slice _ _ _) rfl ?_ | refine wpA_store rfl _ _ _ rfl _ rfl (.bool _) rfl ?_ | refine wpA_store rfl _ _ _ rfl _ rfl (.pointer _) rfl ?_ | refine wpA_store rfl _ _ _ rfl _ rfl (.func _ _ _) rfl ?_); (first | refine storeA hL ?_ | refine storeO hL ?_); (clear hL; intro _ hL)) | ((with_reducible refine wpA_lit rfl _ _ _ rfl ?_); first | refine litA1 hL ?_ | refine litA2 hL ?_ | refine litA3 hL ?_ | refine litA4 hL ?_ | refine litA6 hL ?_) | ((with_reducible refine wpA_append rfl _ _ _ rfl (.slice _ _ _) rfl ?_); intro vq hvq; simp [go_sem] at hvq; subst hvq; refine appendA hL ?_; clear hL; intro _ _ _ hL; try dsimp only at hL) | ((with_reducible refine wpA_make rfl _ _ _ rfl _ rfl rfl ?_); refine makeA hL ?_))
    go_ret
    exact ⟨rfl, hL.below⟩
  · have k3 : ¬ (5000 : Int) < (aB.length : Int) := by omega
    have k5 : decide ((5000 : Int) < (aB.length : Int)) = false := decide_eq_false k3
    have k4 : (5000 : Int) < (bB.length : Int) := by omega
    have n1 : True := trivial; have n2 : True := trivial
    go_enter Try.func9, Try.ntmps9
    go_wp2_with (first | (go_at_call 13; (with_reducible refine (known_calls _).mono ?_); rintro e _ ⟨rfl, hb⟩; replace hL := hL.call hb; clear hb) | (first | (clear hL n1; with_reducible intro b1 w1 hL) | (clear hL n2; with_reducible intro b2 w2 hL) | (clear hL; with_reducible intro _ _ hL)) | (with_reducible refine wpC_alloc rfl _ rfl _ _ inferInstance hL ?_) | (with_reducible first | refine wpB_agg rfl _ _ _ rfl rfl hL ?_ | refine wpB_one rfl _ _ (.int _ _) rfl rfl rfl hL ?_ | refine wpB_one rfl _ _ (.slice _ _ _) rfl rfl rfl hL ?_ | refine wpB_one rfl _ _ (.bool _) rfl rfl rfl hL ?_ | refine wpB_one rfl _ _ (.pointer _) rfl rfl rfl hL ?_ | refine wpB_one rfl _ _ (.func _ _ _) rfl rfl rfl hL ?_) | (with_reducible first | refine wpH_max rfl _ _ _ _ rfl _ _ rfl rfl ?_ | refine wpH_min rfl _ _ _ _ rfl _ _ rfl rfl ?_) | ((with_reducible refine wpA_load rfl _ _ rfl _ rfl ?_); first | refine loadA hL ?_ | refine loadR hL ?_ | refine loadC hL ?_ | refine loadD ?_ | refine loadE hL ?_ | refine loadF ?_) | ((with_reducible refine wpA_index rfl _ _ _ rfl _ rfl _ rfl ?_); first | (refine indexA ?_; try rw [Int.toNat_natCast]) | refine indexC ?_) | ((with_reducible refine wpA_store rfl _ _ _ rfl _ rfl (.agg _) rfl ?_); refine storeR hL ?_; clear hL; intro _ hL) | ((with_reducible first | refine wpA_store rfl _ _ _ rfl _ rfl (.int _ _) rfl ?_ | refine wpA_store rfl _ _ _ rfl _ rfl (.slice _ _ _) rfl ?_ | refine wpA_store rfl _ _ _ rfl _ rfl (.bool _) rfl ?_ | refine wpA_store rfl _ _ _ rfl _ rfl (.pointer _) rfl ?_ | refine wpA_store rfl _ _ _ rfl _ rfl (.func _ _ _) rfl ?_); (first | refine storeA hL ?_ | refine storeO hL ?_); (clear hL; intro _ hL)) | ((with_reducible refine wpA_lit rfl _ _ _ rfl ?_); first | refine litA1 hL ?_ | refine litA2 hL ?_ | refine litA3 hL ?_ | refine litA4 hL ?_ | refine litA6 hL ?_) | ((with_reducible refine wpA_append rfl _ _ _ rfl (.slice _ _ _) rfl ?_); intro vq hvq; simp [go_sem] at hvq; subst hvq; refine appendA hL ?_; clear hL; intro _ _ _ hL; try dsimp only at hL) | ((with_reducible refine wpA_make rfl _ _ _ rfl _ rfl rfl ?_); refine makeA hL ?_))
    go_ret
    exact ⟨rfl, hL.below⟩
  · have k3 : ¬ (5000 : Int) < (aB.length : Int) := by omega
    have k5 : decide ((5000 : Int) < (aB.length : Int)) = false := decide_eq_false k3
    have k4 : ¬ (5000 : Int) < (bB.length : Int) := by omega
    have n1 : True := trivial; have n2 : True := trivial; have n3 : True := trivial; have n4 : True := trivial
    go_enter Try.func9, Try.ntmps9
    go_wp2_with (first | (go_at_call 13; (with_reducible refine (known_calls _).mono ?_); rintro e _ ⟨rfl, hb⟩; replace hL := hL.call hb; clear hb) | (first | (clear hL n1; with_reducible intro b1 w1 hL) | (clear hL n2; with_reducible intro b2 w2 hL) | (clear hL n3; with_reducible intro b3 w3 hL) | (clear hL n4; with_reducible intro b4 w4 hL) | (clear hL; with_reducible intro _ _ hL)) | (with_reducible refine wpC_alloc rfl _ rfl _ _ inferInstance hL ?_) | (with_reducible first | refine wpB_agg rfl _ _ _ rfl rfl hL ?_ | refine wpB_one rfl _ _ (.int _ _) rfl rfl rfl hL ?_ | refine wpB_one rfl _ _ (.slice _ _ _) rfl rfl rfl hL ?_ | refine wpB_one rfl _ _ (.bool _) rfl rfl rfl hL ?_ | refine wpB_one rfl _ _ (.pointer _) rfl rfl rfl hL ?_ | refine wpB_one rfl _ _ (.func _ _ _) rfl rfl rfl hL ?_) | (with_reducible first | refine wpH_max rfl _ _ _ _ rfl _ _ rfl rfl ?_ | refine wpH_min rfl _ _ _ _ rfl _ _ rfl rfl ?_) | ((with_reducible refine wpA_load rfl _ _ rfl _ rfl ?_); first | refine loadA hL ?_ | refine loadR hL ?_ | refine loadC hL ?_ | refine loadD ?_ | refine loadE hL ?_ | refine loadF ?_) | ((with_reducible refine wpA_index rfl _ _ _ rfl _ rfl _ rfl ?_); first | (refine indexA ?_; try rw [Int.toNat_natCast]) | refine indexC ?_) | ((with_reducible refine wpA_store rfl _ _ _ rfl _ rfl (.agg _) rfl ?_); refine storeR hL ?_; clear hL; intro _ hL) | ((with_reducible first | refine wpA_store rfl _ _ _ rfl _ rfl (.int _ _) rfl ?_ | refine wpA_store rfl _ _ _ rfl _ rfl (.slice _ _ _) rfl ?_ | refine wpA_store rfl _ _ _ rfl _ rfl (.bool _) rfl ?_ | refine wpA_store rfl _ _ _ rfl _ rfl (.pointer _) rfl ?_ | refine wpA_store rfl _ _ _ rfl _ rfl (.func _ _ _) rfl ?_); (first | refine storeA hL ?_ | refine storeO hL ?_); (clear hL; intro _ hL)) | ((with_reducible refine wpA_lit rfl _ _ _ rfl ?_); first | refine litA1 hL ?_ | refine litA2 hL ?_ | refine litA3 hL ?_ | refine litA4 hL ?_ | refine litA6 hL ?_) | ((with_reducible refine wpA_append rfl _ _ _ rfl (.slice _ _ _) rfl ?_); intro vq hvq; simp [go_sem] at hvq; subst hvq; refine appendA hL ?_; clear hL; intro _ _ _ hL; try dsimp only at hL) | ((with_reducible refine wpA_make rfl _ _ _ rfl _ rfl rfl ?_); refine makeA hL ?_))
    clear k1 k2 k3 k4 k5
    replace hL := hL.drew
    have hS := (show (fun w' : World => w'.rangeAt b1 0 #[.int .i64 aw, .int .i64 ah, .slice xa aB.length ca].toList ∧ w'.rangeAt b2 0 #[.int .i64 bw, .int .i64 bh, .slice xb bB.length cb].toList) _ from ⟨hL.range (by (repeat (first | with_reducible exact At.here | with_reducible apply At.there))), hL.range (by (repeat (first | with_reducible exact At.here | with_reducible apply At.there)))⟩)
    refine wpH_begin (by kernel_rfl) (fun w' : World => w'.rangeAt b1 0 #[.int .i64 aw, .int .i64 ah, .slice xa aB.length ca].toList ∧ w'.rangeAt b2 0 #[.int .i64 bw, .int .i64 bh, .slice xb bB.length cb].toList) ?_
    refine stH (i := 0) (.agg #[.int .i64 aw, .int .i64 ah, .slice xa aB.length ca]) hS ?_ ?_; (· exact fun w' hw => run_loadOp _ _ rfl _ rfl _ (load_range (cs := #[.int .i64 aw, .int .i64 ah, .slice xa aB.length ca]) rfl hw.1)); simp only [Act.put, List.setIfInBounds_toArray, List.set_cons_zero, List.set_cons_succ]
    refine stH (i := 2) (.agg #[.int .i64 aw, .int .i64 ah, .slice xa aB.length ca]) hS ?_ ?_; (· exact fun w' hw => run_loadOp _ _ rfl _ rfl _ (load_range (cs := #[.int .i64 aw, .int .i64 ah, .slice xa aB.length ca]) rfl hw.1)); simp only [Act.put, List.setIfInBounds_toArray, List.set_cons_zero, List.set_cons_succ]
    refine wpH_one (i := 1) (by kernel_rfl) (wpOp_of (by simp only [List.getElem?_toArray, List.getElem?_cons_zero, List.getElem?_cons_succ]; rfl) ?_)
    refine st_call rfl 20 #[.agg #[.int .i64 aw, .int .i64 ah, .slice xa aB.length ca]] (by go_simp) (HMy.out _ (Ha.out.hold hL)) ?_
    rintro e w' ⟨rfl, hb⟩
    replace hL := hL.call hb
    clear hb hS
    have hS := (show (fun w' : World => w'.rangeAt b1 0 #[.int .i64 aw, .int .i64 ah, .slice xa aB.length ca].toList ∧ w'.rangeAt b2 0 #[.int .i64 bw, .int .i64 bh, .slice xb bB.length cb].toList) _ from ⟨hL.range (by (repeat (first | with_reducible exact At.here | with_reducible apply At.there))), hL.range (by (repeat (first | with_reducible exact At.here | with_reducible apply At.there)))⟩)
    refine ⟨_, rfl, hS, ?_⟩
    simp only [Act.put, List.setIfInBounds_toArray, List.set_cons_zero, List.set_cons_succ]
    refine wpH_one (i := 3) (by kernel_rfl) (wpOp_of (by simp only [List.getElem?_toArray, List.getElem?_cons_zero, List.getElem?_cons_succ]; rfl) ?_)
    refine st_call rfl 32 #[.agg #[.int .i64 aw, .int .i64 ah, .slice xa aB.length ca]] (by go_simp) (HRy.out _ (Ha.out.hold hL)) ?_
    rintro e w' ⟨rfl, hb⟩
    replace hL := hL.call hb
    clear hb hS
    have hS := (show (fun w' : World => w'.rangeAt b1 0 #[.int .i64 aw, .int .i64 ah, .slice xa aB.length ca].toList ∧ w'.rangeAt b2 0 #[.int .i64 bw, .int .i64 bh, .slice xb bB.length cb].toList) _ from ⟨hL.range (by (repeat (first | with_reducible exact At.here | with_reducible apply At.there))), hL.range (by (repeat (first | with_reducible exact At.here | with_reducible apply At.there)))⟩)
    refine ⟨_, rfl, hS, ?_⟩
    simp only [Act.put, List.setIfInBounds_toArray, List.set_cons_zero, List.set_cons_succ]
    refine stH (i := 4) (.bool false) hS ?_ ?_; (· exact fun w' _ => (by go_simp)); simp only [Act.put, List.setIfInBounds_toArray, List.set_cons_zero, List.set_cons_succ]
    refine stH (i := 5) (.bool false) hS ?_ ?_; (· exact fun w' _ => (by go_simp)); simp only [Act.put, List.setIfInBounds_toArray, List.set_cons_zero, List.set_cons_succ]
    refine stH (i := 6) (.agg #[.int .i64 aw, .int .i64 ah, .slice xa aB.length ca]) hS ?_ ?_; (· exact fun w' hw => run_loadOp _ _ rfl _ rfl _ (load_range (cs := #[.int .i64 aw, .int .i64 ah, .slice xa aB.length ca]) rfl hw.1)); simp only [Act.put, List.setIfInBounds_toArray, List.set_cons_zero, List.set_cons_succ]
    refine stH (i := 7) (.int .i64 i) hS ?_ ?_; (· exact fun w' _ => (by go_simp)); simp only [Act.put, List.setIfInBounds_toArray, List.set_cons_zero, List.set_cons_succ]
    refine stH (i := 8) (.int .i64 j) hS ?_ ?_; (· exact fun w' _ => (by go_simp)); simp only [Act.put, List.setIfInBounds_toArray, List.set_cons_zero, List.set_cons_succ]
    refine stH (i := 10) (.agg #[.int .i64 aw, .int .i64 ah, .slice xa aB.length ca]) hS ?_ ?_; (· exact fun w' hw => run_loadOp _ _ rfl _ rfl _ (load_range (cs := #[.int .i64 aw, .int .i64 ah, .slice xa aB.length ca]) rfl hw.1)); simp only [Act.put, List.setIfInBounds_toArray, List.set_cons_zero, List.set_cons_succ]
    refine stH (i := 11) (.int .i64 i) hS ?_ ?_; (· exact fun w' _ => (by go_simp)); simp only [Act.put, List.setIfInBounds_toArray, List.set_cons_zero, List.set_cons_succ]
    refine stH (i := 12) (.int .i64 j) hS ?_ ?_; (· exact fun w' _ => (by go_simp)); simp only [Act.put, List.setIfInBounds_toArray, List.set_cons_zero, List.set_cons_succ]
    refine wpH_one (i := 9) (by kernel_rfl) (wpOp_of (by simp only [List.getElem?_toArray, List.getElem?_cons_zero, List.getElem?_cons_succ]; rfl) ?_)
    refine st_call rfl 28 #[.agg #[.int .i64 aw, .int .i64 ah, .slice xa aB.length ca], .int .i64 i, .int .i64 j] (by go_simp) (HHa.out _ (Ha.out.hold hL)) ?_
    rintro e w' ⟨rfl, hb⟩
    replace hL := hL.call hb
    clear hb hS
    have hS := (show (fun w' : World => w'.rangeAt b1 0 #[.int .i64 aw, .int .i64 ah, .slice xa aB.length ca].toList ∧ w'.rangeAt b2 0 #[.int .i64 bw, .int .i64 bh, .slice xb bB.length cb].toList) _ from ⟨hL.range (by (repeat (first | with_reducible exact At.here | with_reducible apply At.there))), hL.range (by (repeat (first | with_reducible exact At.here | with_reducible apply At.there)))⟩)
    refine ⟨_, rfl, hS, ?_⟩
    simp only [Act.put, List.setIfInBounds_toArray, List.set_cons_zero, List.set_cons_succ]
    refine wpH_one (i := 13) (by kernel_rfl) (wpOp_of (by simp only [List.getElem?_toArray, List.getElem?_cons_zero, List.getElem?_cons_succ]; rfl) ?_)
    refine st_call rfl 33 #[.agg #[.int .i64 aw, .int .i64 ah, .slice xa aB.length ca], .int .i64 i, .int .i64 j] (by go_simp) (HHr.out _ (Ha.out.hold hL)) ?_
    rintro e w' ⟨rfl, hb⟩
    replace hL := hL.call hb
    clear hb hS
    have hS := (show (fun w' : World => w'.rangeAt b1 0 #[.int .i64 aw, .int .i64 ah, .slice xa aB.length ca].toList ∧ w'.rangeAt b2 0 #[.int .i64 bw, .int .i64 bh, .slice xb bB.length cb].toList) _ from ⟨hL.range (by (repeat (first | with_reducible exact At.here | with_reducible apply At.there))), hL.range (by (repeat (first | with_reducible exact At.here | with_reducible apply At.there)))⟩)
    refine ⟨_, rfl, hS, ?_⟩
    simp only [Act.put, List.setIfInBounds_toArray, List.set_cons_zero, List.set_cons_succ]
    refine stH (i := 14) (.bool false) hS ?_ ?_; (· exact fun w' _ => (by go_simp)); simp only [Act.put, List.setIfInBounds_toArray, List.set_cons_zero, List.set_cons_succ]
    refine stH (i := 15) (.bool false) hS ?_ ?_; (· exact fun w' _ => (by go_simp)); simp only [Act.put, List.setIfInBounds_toArray, List.set_cons_zero, List.set_cons_succ]
    refine stH (i := 16) (.bool false) hS ?_ ?_; (· exact fun w' _ => (by go_simp)); simp only [Act.put, List.setIfInBounds_toArray, List.set_cons_zero, List.set_cons_succ]
    refine stH (i := 17) (.agg #[.int .i64 aw, .int .i64 ah, .slice xa aB.length ca]) hS ?_ ?_; (· exact fun w' hw => run_loadOp _ _ rfl _ rfl _ (load_range (cs := #[.int .i64 aw, .int .i64 ah, .slice xa aB.length ca]) rfl hw.1)); simp only [Act.put, List.setIfInBounds_toArray, List.set_cons_zero, List.set_cons_succ]
    refine stH (i := 19) (.agg #[.int .i64 aw, .int .i64 ah, .slice xa aB.length ca]) hS ?_ ?_; (· exact fun w' hw => run_loadOp _ _ rfl _ rfl _ (load_range (cs := #[.int .i64 aw, .int .i64 ah, .slice xa aB.length ca]) rfl hw.1)); simp only [Act.put, List.setIfInBounds_toArray, List.set_cons_zero, List.set_cons_succ]
    refine wpH_one (i := 18) (by kernel_rfl) (wpOp_of (by simp only [List.getElem?_toArray, List.getElem?_cons_zero, List.getElem?_cons_succ]; rfl) ?_)
    refine st_call rfl 22 #[.agg #[.int .i64 aw, .int .i64 ah, .slice xa aB.length ca]] (by go_simp) (HCa.out _ (Ha.out.hold hL)) ?_
    rintro e w' ⟨rfl, hb⟩
    replace hL := hL.call hb
    clear hb hS
    have hS := (show (fun w' : World => w'.rangeAt b1 0 #[.int .i64 aw, .int .i64 ah, .slice xa aB.length ca].toList ∧ w'.rangeAt b2 0 #[.int .i64 bw, .int .i64 bh, .slice xb bB.length cb].toList) _ from ⟨hL.range (by (repeat (first | with_reducible exact At.here | with_reducible apply At.there))), hL.range (by (repeat (first | with_reducible exact At.here | with_reducible apply At.there)))⟩)
    refine ⟨_, rfl, hS, ?_⟩
    simp only [Act.put, List.setIfInBounds_toArray, List.set_cons_zero, List.set_cons_succ]
    refine wpH_one (i := 20) (by kernel_rfl) (wpOp_of (by simp only [List.getElem?_toArray, List.getElem?_cons_zero, List.getElem?_cons_succ]; rfl) ?_)
    refine st_call rfl 23 #[.agg #[.int .i64 aw, .int .i64 ah, .slice xa aB.length ca]] (by go_simp) (HCr.out _ (Ha.out.hold hL)) ?_
    rintro e w' ⟨rfl, hb⟩
    replace hL := hL.call hb
    clear hb hS
    have hS := (show (fun w' : World => w'.rangeAt b1 0 #[.int .i64 aw, .int .i64 ah, .slice xa aB.length ca].toList ∧ w'.rangeAt b2 0 #[.int .i64 bw, .int .i64 bh, .slice xb bB.length cb].toList) _ from ⟨hL.range (by (repeat (first | with_reducible exact At.here | with_reducible apply At.there))), hL.range (by (repeat (first | with_reducible exact At.here | with_reducible apply At.there)))⟩)
    refine ⟨_, rfl, hS, ?_⟩
    simp only [Act.put, List.setIfInBounds_toArray, List.set_cons_zero, List.set_cons_succ]
    refine stH (i := 21) (.bool false) hS ?_ ?_; (· exact fun w' _ => (by go_simp)); simp only [Act.put, List.setIfInBounds_toArray, List.set_cons_zero, List.set_cons_succ]
    refine stH (i := 22) (.bool false) hS ?_ ?_; (· exact fun w' _ => (by go_simp)); simp only [Act.put, List.setIfInBounds_toArray, List.set_cons_zero, List.set_cons_succ]
    refine stH (i := 23) (.bool false) hS ?_ ?_; (· exact fun w' _ => (by go_simp)); simp only [Act.put, List.setIfInBounds_toArray, List.set_cons_zero, List.set_cons_succ]
    refine stH (i := 24) (.agg #[.int .i64 aw, .int .i64 ah, .slice xa aB.length ca]) hS ?_ ?_; (· exact fun w' hw => run_loadOp _ _ rfl _ rfl _ (load_range (cs := #[.int .i64 aw, .int .i64 ah, .slice xa aB.length ca]) rfl hw.1)); simp only [Act.put, List.setIfInBounds_toArray, List.set_cons_zero, List.set_cons_succ]
    refine stH (i := 25) (.agg #[.int .i64 bw, .int .i64 bh, .slice xb bB.length cb]) hS ?_ ?_; (· exact fun w' hw => run_loadOp _ _ rfl _ rfl _ (load_range (cs := #[.int .i64 bw, .int .i64 bh, .slice xb bB.length cb]) rfl hw.2)); simp only [Act.put, List.setIfInBounds_toArray, List.set_cons_zero, List.set_cons_succ]
    refine stH (i := 27) (.agg #[.int .i64 aw, .int .i64 ah, .slice xa aB.length ca]) hS ?_ ?_; (· exact fun w' hw => run_loadOp _ _ rfl _ rfl _ (load_range (cs := #[.int .i64 aw, .int .i64 ah, .slice xa aB.length ca]) rfl hw.1)); simp only [Act.put, List.setIfInBounds_toArray, List.set_cons_zero, List.set_cons_succ]
    refine stH (i := 28) (.agg #[.int .i64 bw, .int .i64 bh, .slice xb bB.length cb]) hS ?_ ?_; (· exact fun w' hw => run_loadOp _ _ rfl _ rfl _ (load_range (cs := #[.int .i64 bw, .int .i64 bh, .slice xb bB.length cb]) rfl hw.2)); simp only [Act.put, List.setIfInBounds_toArray, List.set_cons_zero, List.set_cons_succ]
    refine wpH_one (i := 26) (by kernel_rfl) (wpOp_of (by simp only [List.getElem?_toArray, List.getElem?_cons_zero, List.getElem?_cons_succ]; rfl) ?_)
    refine st_call rfl 21 #[.agg #[.int .i64 aw, .int .i64 ah, .slice xa aB.length ca], .agg #[.int .i64 bw, .int .i64 bh, .slice xb bB.length cb]] (by go_simp) (HSm.out _ (Ha.out.hold hL) (Hb.out.hold hL)) ?_
    rintro e w' ⟨rfl, hb⟩
    replace hL := hL.call hb
    clear hb hS
    have hS := (show (fun w' : World => w'.rangeAt b1 0 #[.int .i64 aw, .int .i64 ah, .slice xa aB.length ca].toList ∧ w'.rangeAt b2 0 #[.int .i64 bw, .int .i64 bh, .slice xb bB.length cb].toList) _ from ⟨hL.range (by (repeat (first | with_reducible exact At.here | with_reducible apply At.there))), hL.range (by (repeat (first | with_reducible exact At.here | with_reducible apply At.there)))⟩)
    refine ⟨_, rfl, hS, ?_⟩
    simp only [Act.put, List.setIfInBounds_toArray, List.set_cons_zero, List.set_cons_succ]
    refine wpH_one (i := 29) (by kernel_rfl) (wpOp_of (by simp only [List.getElem?_toArray, List.getElem?_cons_zero, List.getElem?_cons_succ]; rfl) ?_)
    refine st_call rfl 16 #[.agg #[.int .i64 aw, .int .i64 ah, .slice xa aB.length ca], .agg #[.int .i64 bw, .int .i64 bh, .slice xb bB.length cb]] (by go_simp) (HMs.out _ (Ha.out.hold hL) (Hb.out.hold hL)) ?_
    rintro e w' ⟨rfl, hb⟩
    replace hL := hL.call hb
    clear hb hS
    have hS := (show (fun w' : World => w'.rangeAt b1 0 #[.int .i64 aw, .int .i64 ah, .slice xa aB.length ca].toList ∧ w'.rangeAt b2 0 #[.int .i64 bw, .int .i64 bh, .slice xb bB.length cb].toList) _ from ⟨hL.range (by (repeat (first | with_reducible exact At.here | with_reducible apply At.there))), hL.range (by (repeat (first | with_reducible exact At.here | with_reducible apply At.there)))⟩)
    refine ⟨_, rfl, hS, ?_⟩
    simp only [Act.put, List.setIfInBounds_toArray, List.set_cons_zero, List.set_cons_succ]
    refine stH (i := 30) (.bool false) hS ?_ ?_; (· exact fun w' _ => (by go_simp)); simp only [Act.put, List.setIfInBounds_toArray, List.set_cons_zero, List.set_cons_succ]
    refine stH (i := 31) (.bool false) hS ?_ ?_; (· exact fun w' _ => (by go_simp)); simp only [Act.put, List.setIfInBounds_toArray, List.set_cons_zero, List.set_cons_succ]
    refine stH (i := 32) (.bool false) hS ?_ ?_; (· exact fun w' _ => (by go_simp)); simp only [Act.put, List.setIfInBounds_toArray, List.set_cons_zero, List.set_cons_succ]
    refine stH (i := 33) (.agg #[.int .i64 aw, .int .i64 ah, .slice xa aB.length ca]) hS ?_ ?_; (· exact fun w' hw => run_loadOp _ _ rfl _ rfl _ (load_range (cs := #[.int .i64 aw, .int .i64 ah, .slice xa aB.length ca]) rfl hw.1)); simp only [Act.put, List.setIfInBounds_toArray, List.set_cons_zero, List.set_cons_succ]
    refine stH (i := 34) (.agg #[.int .i64 aw, .int .i64 ah, .slice xa aB.length ca]) hS ?_ ?_; (· exact fun w' hw => run_loadOp _ _ rfl _ rfl _ (load_range (cs := #[.int .i64 aw, .int .i64 ah, .slice xa aB.length ca]) rfl hw.1)); simp only [Act.put, List.setIfInBounds_toArray, List.set_cons_zero, List.set_cons_succ]
    refine wpH_one (i := 35) (by kernel_rfl) (wpOp_of (by simp only [List.getElem?_toArray, List.getElem?_cons_zero, List.getElem?_cons_succ]; rfl) ?_)
    refine st_call rfl 21 #[.agg #[.int .i64 aw, .int .i64 ah, .slice xa aB.length ca], .agg #[.int .i64 aw, .int .i64 ah, .slice xa aB.length ca]] (by go_simp) (HSs.out _ (Ha.out.hold hL)) ?_
    rintro e w' ⟨rfl, hb⟩
    replace hL := hL.call hb
    clear hb hS
    have hS := (show (fun w' : World => w'.rangeAt b1 0 #[.int .i64 aw, .int .i64 ah, .slice xa aB.length ca].toList ∧ w'.rangeAt b2 0 #[.int .i64 bw, .int .i64 bh, .slice xb bB.length cb].toList) _ from ⟨hL.range (by (repeat (first | with_reducible exact At.here | with_reducible apply At.there))), hL.range (by (repeat (first | with_reducible exact At.here | with_reducible apply At.there)))⟩)
    refine ⟨_, rfl, hS, ?_⟩
    simp only [Act.put, List.setIfInBounds_toArray, List.set_cons_zero, List.set_cons_succ]
    refine stH (i := 36) (.bool false) hS ?_ ?_; (· exact fun w' _ => (by go_simp)); simp only [Act.put, List.setIfInBounds_toArray, List.set_cons_zero, List.set_cons_succ]
    refine stH (i := 37) (.bool false) hS ?_ ?_; (· exact fun w' _ => (by go_simp)); simp only [Act.put, List.setIfInBounds_toArray, List.set_cons_zero, List.set_cons_succ]
    refine wpAnyH_done (by kernel_rfl) ?_ _
    clear hS
    go_wp2_with (first | (go_at_call 31; (with_reducible refine (HJoin.out _ (Ha.out.hold hL) (Hb.out.hold hL)).mono ?_); rintro e _ ⟨mm, mn, rfl, hb, hf⟩; replace hL := hL.callF hb hf; clear hb hf) | (go_at_call 30; (with_reducible refine (HMeet.out _ (Ha.out.hold hL) (Hb.out.hold hL)).mono ?_); rintro e _ ⟨mm, mn, rfl, hb, hf⟩; replace hL := hL.callF hb hf; clear hb hf) | (go_at_call 35; (with_reducible refine (HLess.out _ (Ha.out.hold hL) (Hb.out.hold hL)).mono ?_); rintro e _ ⟨mm, mn, rfl, hb, hf⟩; replace hL := hL.callF hb hf; clear hb hf) | (go_at_call 26; (with_reducible refine (HOther.out _ (Ha.out.hold hL) (Hb.out.hold hL)).mono ?_); rintro e _ ⟨mm, mn, rfl, hb, hf⟩; replace hL := hL.callF hb hf; clear hb hf) | (go_at_call 34; (with_reducible first | refine (TJoin.out _ (Ha.out.hold hL) (Hb.out.hold hL)).mono ?_ | refine (TMeet.out _ (Ha.out.hold hL) (Hb.out.hold hL)).mono ?_ | refine (TLess.out _ (Ha.out.hold hL) (Hb.out.hold hL)).mono ?_ | refine (TOther.out _ (Ha.out.hold hL) (Hb.out.hold hL)).mono ?_); rintro e _ ⟨mm, mn, rfl, hb, hf⟩; replace hL := hL.callF hb hf; clear hb hf) | (go_at_call 16; (with_reducible refine (HH.out _ _ _ _ hL.fact1 hL.fact0).mono ?_); rintro e _ ⟨rfl, hb⟩; replace hL := hL.call hb; clear hb) | (first | (clear hL n1; with_reducible intro b1 w1 hL) | (clear hL n2; with_reducible intro b2 w2 hL) | (clear hL n3; with_reducible intro b3 w3 hL) | (clear hL n4; with_reducible intro b4 w4 hL) | (clear hL; with_reducible intro _ _ hL)) | (with_reducible refine wpC_alloc rfl _ rfl _ _ inferInstance hL ?_) | (with_reducible first | refine wpB_agg rfl _ _ _ rfl rfl hL ?_ | refine wpB_one rfl _ _ (.int _ _) rfl rfl rfl hL ?_ | refine wpB_one rfl _ _ (.slice _ _ _) rfl rfl rfl hL ?_ | refine wpB_one rfl _ _ (.bool _) rfl rfl rfl hL ?_ | refine wpB_one rfl _ _ (.pointer _) rfl rfl rfl hL ?_ | refine wpB_one rfl _ _ (.func _ _ _) rfl rfl rfl hL ?_) | (with_reducible first | refine wpH_max rfl _ _ _ _ rfl _ _ rfl rfl ?_ | refine wpH_min rfl _ _ _ _ rfl _ _ rfl rfl ?_) | ((with_reducible refine wpA_load rfl _ _ rfl _ rfl ?_); first | refine loadA hL ?_ | refine loadR hL ?_ | refine loadC hL ?_ | refine loadD ?_ | refine loadE hL ?_ | refine loadF ?_) | ((with_reducible refine wpA_index rfl _ _ _ rfl _ rfl _ rfl ?_); first | (refine indexA ?_; try rw [Int.toNat_natCast]) | refine indexC ?_) | ((with_reducible refine wpA_store rfl _ _ _ rfl _ rfl (.agg _) rfl ?_); refine storeR hL ?_; clear hL; intro _ hL) | ((with_reducible first | refine wpA_store rfl _ _ _ rfl _ rfl (.int _ _) rfl ?_ | refine wpA_store rfl _ _ _ rfl _ rfl (.slice _ _ _) rfl ?_ | refine wpA_store rfl _ _ _ rfl _ rfl (.bool _) rfl ?_ | refine wpA_store rfl _ _ _ rfl _ rfl (.pointer _) rfl ?_ | refine wpA_store rfl _ _ _ rfl _ rfl (.func _ _ _) rfl ?_); (first | refine storeA hL ?_ | refine storeO hL ?_); (clear hL; intro _ hL)) | ((with_reducible refine wpA_lit rfl _ _ _ rfl ?_); first | refine litA1 hL ?_ | refine litA2 hL ?_ | refine litA3 hL ?_ | refine litA4 hL ?_ | refine litA6 hL ?_) | ((with_reducible refine wpA_append rfl _ _ _ rfl (.slice _ _ _) rfl ?_); intro vq hvq; simp [go_sem] at hvq; subst hvq; refine appendA hL ?_; clear hL; intro _ _ _ hL; try dsimp only at hL) | ((with_reducible refine wpA_make rfl _ _ _ rfl _ rfl rfl ?_); refine makeA hL ?_))
    go_ret
    exact ⟨rfl, hL.below⟩
end Go.Proofs.Ytneddfiohekhiaa
