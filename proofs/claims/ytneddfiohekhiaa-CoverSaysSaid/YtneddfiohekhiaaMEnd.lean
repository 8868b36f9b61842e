/- Any two masks, together. -/
import Derived.Test.YtneddfiohekhiaaMCap
-- uses arrU
-- lit6
namespace Go.Proofs.Ytneddfiohekhiaa
open Go.RowKit

/-- may two masks be taken together? -/
def fit2 (a b : Msk) : Bool := mayMask a && mayMask b && (a.W == b.W) && (a.H == b.H)
theorem fit2_pix {a b : Msk} (h : fit2 a b = true) (ka : ∀ n ∈ a.B, 0 ≤ n) (kb : ∀ n ∈ b.B, 0 ≤ n) : ∃ (W H : Nat) (p q : Nat → Nat → Bool), Sides W H ∧ a = pixMask W H p ∧ b = pixMask W H q := by
  unfold fit2 at h
  simp only [Bool.and_eq_true] at h
  obtain ⟨⟨⟨h1, h2⟩, h3⟩, h4⟩ := h
  obtain ⟨W, H, p, hs, rfl⟩ := mask_pix h1 ka
  obtain ⟨W', H', q, _, rfl⟩ := mask_pix h2 kb
  have e1 : W = W' := by have : (W : Int) = (W' : Int) := eq_of_beq h3
                         omega
  have e2 : H = H' := by have : (H : Int) = (H' : Int) := eq_of_beq h4
                         omega
  subst e1; subst e2
  exact ⟨W, H, p, q, hs, rfl, rfl⟩
set_option maxRecDepth 100000 in
set_option maxHeartbeats 8000000 in
theorem coverBothBad_calls (w : World) (va vb : Value) (a b : Msk) (ha : MaskAt w va a) (hb : MaskAt w vb b) (h : fit2 a b = false) (G : Value) :
    Calls Try.prog 49 #[va, vb, G] w (MaskEnd ⟨0, 0, []⟩ 1 w) := by
  have Ha := Lib.hid ha
  have Hb := Lib.hid hb
  obtain ⟨xa, ca, rfl, _⟩ := ha.shape
  obtain ⟨xb, cb, rfl, _⟩ := hb.shape
  clear ha hb
  have hL := Holds.start w
  have HPA := Lib.hid (fun w' hv' => coverMay_calls w' (.agg #[.int .i64 a.W, .int .i64 a.H, .slice xa a.B.length ca]) a hv')
  have HPB := Lib.hid (fun w' hv' => coverMay_calls w' (.agg #[.int .i64 b.W, .int .i64 b.H, .slice xb b.B.length cb]) b hv')
  unfold fit2 at h
  generalize mayMask a = pa at *
  generalize mayMask b = pb at *
  obtain ⟨aw, ah, aB⟩ := a
  obtain ⟨bw, bh, bB⟩ := b
  dsimp only at *
  have hcs : pa = false ∨ (pa = true ∧ pb = false) ∨ (pa = true ∧ pb = true ∧ (aw != bw) = true) ∨ (pa = true ∧ pb = true ∧ (aw != bw) = false ∧ (ah != bh) = true) := by
    revert h
    unfold bne
    cases pa <;> cases pb <;> cases aw == bw <;> cases ah == bh <;> simp
  clear h
  rcases hcs with h | ⟨h, h2⟩ | ⟨h, h2, h3⟩ | ⟨h, h2, h3, h4⟩
  all_goals
    subst h
    try subst h2
    have n1 : True := trivial; have n2 : True := trivial; have n3 : True := trivial
    go_enter Try.func49, Try.ntmps49
    go_wp2_with (first | (go_at_call 20; first | ((with_reducible refine (HPA.out _ (Ha.out.hold hL)).mono ?_); rintro e _ ⟨rfl, hb⟩; replace hL := hL.call hb; clear hb) | ((with_reducible refine (HPB.out _ (Hb.out.hold hL)).mono ?_); rintro e _ ⟨rfl, hb⟩; replace hL := hL.call hb; clear hb)) | (first | (clear hL n1; with_reducible intro b1 w1 hL) | (clear hL n2; with_reducible intro b2 w2 hL) | (clear hL n3; with_reducible intro b3 w3 hL) | (clear hL; with_reducible intro _ _ hL)) | (with_reducible refine wpC_alloc rfl _ rfl _ _ inferInstance hL ?_) | (with_reducible first | refine wpB_agg rfl _ _ _ rfl rfl hL ?_ | refine wpB_one rfl _ _ (.int _ _) rfl rfl rfl hL ?_ | refine wpB_one rfl _ _ (.slice _ _ _) rfl rfl rfl hL ?_ | refine wpB_one rfl _ _ (.bool _) rfl rfl rfl hL ?_ | refine wpB_one rfl _ _ (.pointer _) rfl rfl rfl hL ?_ | refine wpB_one rfl _ _ (.func _ _ _) rfl rfl rfl hL ?_) | (with_reducible first | refine wpH_max rfl _ _ _ _ rfl _ _ rfl rfl ?_ | refine wpH_min rfl _ _ _ _ rfl _ _ rfl rfl ?_) | ((with_reducible refine wpA_load rfl _ _ rfl _ rfl ?_); first | refine loadA hL ?_ | refine loadR hL ?_ | refine loadC hL ?_ | refine loadD ?_ | refine loadE hL ?_ | refine loadF ?_) | ((with_reducible refine wpA_index rfl _ _ _ rfl _ rfl _ rfl ?_); first | (refine indexA ?_; try rw [Int.toNat_natCast]) | refine indexC ?_) | ((with_reducible refine wpA_store rfl _ _ _ rfl _ rfl (.agg _) rfl ?_); refine storeR hL ?_; clear hL; intro _ hL) | ((with_reducible first | refine wpA_store rfl _ _ _ rfl _ rfl (.int _ _) rfl ?_ | refine wpA_store rfl _ _ _ rfl _ rfl (.slice _ _ _) rfl ?_ | refine wpA_store rfl _ _ _ rfl _ rfl (.bool _) rfl ?_ | refine wpA_store rfl _ _ _ rfl _ rfl (.pointer _) rfl ?_ | refine wpA_store rfl _ _ _ rfl _ rfl (.func _ _ _) rfl ?_); (first | refine storeA hL ?_ | refine storeO hL ?_); (clear hL; intro _ hL)) | ((with_reducible refine wpA_lit rfl _ _ _ rfl ?_); first | refine litA1 hL ?_ | refine litA2 hL ?_ | refine litA3 hL ?_ | refine litA4 hL ?_ | refine litA6 hL ?_) | ((with_reducible refine wpA_append rfl _ _ _ rfl (.slice _ _ _) rfl ?_); intro vq hvq; simp [go_sem] at hvq; subst hvq; refine appendA hL ?_; clear hL; intro _ _ _ hL; try dsimp only at hL) | ((with_reducible refine wpA_make rfl _ _ _ rfl _ rfl rfl ?_); refine makeA hL ?_))
    refine bodyPost_ret (results_row2 inferInstance rfl _ hL b3 rfl _ _ .here rfl) rfl ?_
    exact nilMask_end hL
set_option maxRecDepth 100000 in
set_option maxHeartbeats 8000000 in
theorem rTwoBad_calls (w : World) (va vb : Value) (a b : Msk) (ha : MaskAt w va a) (hb : MaskAt w vb b) (h : fit2 a b = false) (kk : Int) :
    Calls Try.prog 34 #[.int .i64 kk, va, vb] w (MaskEnd ⟨0, 0, []⟩ 1 w) := by
  have Ha := Lib.hid ha
  have Hb := Lib.hid hb
  obtain ⟨xa, ca, rfl, _⟩ := ha.shape
  obtain ⟨xb, cb, rfl, _⟩ := hb.shape
  clear ha hb
  have hL := Holds.start w
  have HPA := Lib.hid (fun w' hv' => refMayMask_calls w' (.agg #[.int .i64 a.W, .int .i64 a.H, .slice xa a.B.length ca]) a hv')
  have HPB := Lib.hid (fun w' hv' => refMayMask_calls w' (.agg #[.int .i64 b.W, .int .i64 b.H, .slice xb b.B.length cb]) b hv')
  unfold fit2 at h
  generalize mayMask a = pa at *
  generalize mayMask b = pb at *
  obtain ⟨aw, ah, aB⟩ := a
  obtain ⟨bw, bh, bB⟩ := b
  dsimp only at *
  have hcs : pa = false ∨ (pa = true ∧ pb = false) ∨ (pa = true ∧ pb = true ∧ (aw != bw) = true) ∨ (pa = true ∧ pb = true ∧ (aw != bw) = false ∧ (ah != bh) = true) := by
    revert h
    unfold bne
    cases pa <;> cases pb <;> cases aw == bw <;> cases ah == bh <;> simp
  clear h
  rcases hcs with h | ⟨h, h2⟩ | ⟨h, h2, h3⟩ | ⟨h, h2, h3, h4⟩
  all_goals
    subst h
    try subst h2
    have n1 : True := trivial; have n2 : True := trivial; have n3 : True := trivial
    go_enter Try.func34, Try.ntmps34
    go_wp2_with (first | (go_at_call 32; first | ((with_reducible refine (HPA.out _ (Ha.out.hold hL)).mono ?_); rintro e _ ⟨rfl, hb⟩; replace hL := hL.call hb; clear hb) | ((with_reducible refine (HPB.out _ (Hb.out.hold hL)).mono ?_); rintro e _ ⟨rfl, hb⟩; replace hL := hL.call hb; clear hb)) | (first | (clear hL n1; with_reducible intro b1 w1 hL) | (clear hL n2; with_reducible intro b2 w2 hL) | (clear hL n3; with_reducible intro b3 w3 hL) | (clear hL; with_reducible intro _ _ hL)) | (with_reducible refine wpC_alloc rfl _ rfl _ _ inferInstance hL ?_) | (with_reducible first | refine wpB_agg rfl _ _ _ rfl rfl hL ?_ | refine wpB_one rfl _ _ (.int _ _) rfl rfl rfl hL ?_ | refine wpB_one rfl _ _ (.slice _ _ _) rfl rfl rfl hL ?_ | refine wpB_one rfl _ _ (.bool _) rfl rfl rfl hL ?_ | refine wpB_one rfl _ _ (.pointer _) rfl rfl rfl hL ?_ | refine wpB_one rfl _ _ (.func _ _ _) rfl rfl rfl hL ?_) | (with_reducible first | refine wpH_max rfl _ _ _ _ rfl _ _ rfl rfl ?_ | refine wpH_min rfl _ _ _ _ rfl _ _ rfl rfl ?_) | ((with_reducible refine wpA_load rfl _ _ rfl _ rfl ?_); first | refine loadA hL ?_ | refine loadR hL ?_ | refine loadC hL ?_ | refine loadD ?_ | refine loadE hL ?_ | refine loadF ?_) | ((with_reducible refine wpA_index rfl _ _ _ rfl _ rfl _ rfl ?_); first | (refine indexA ?_; try rw [Int.toNat_natCast]) | refine indexC ?_) | ((with_reducible refine wpA_store rfl _ _ _ rfl _ rfl (.agg _) rfl ?_); refine storeR hL ?_; clear hL; intro _ hL) | ((with_reducible first | refine wpA_store rfl _ _ _ rfl _ rfl (.int _ _) rfl ?_ | refine wpA_store rfl _ _ _ rfl _ rfl (.slice _ _ _) rfl ?_ | refine wpA_store rfl _ _ _ rfl _ rfl (.bool _) rfl ?_ | refine wpA_store rfl _ _ _ rfl _ rfl (.pointer _) rfl ?_ | refine wpA_store rfl _ _ _ rfl _ rfl (.func _ _ _) rfl ?_); (first | refine storeA hL ?_ | refine storeO hL ?_); (clear hL; intro _ hL)) | ((with_reducible refine wpA_lit rfl _ _ _ rfl ?_); first | refine litA1 hL ?_ | refine litA2 hL ?_ | refine litA3 hL ?_ | refine litA4 hL ?_ | refine litA6 hL ?_) | ((with_reducible refine wpA_append rfl _ _ _ rfl (.slice _ _ _) rfl ?_); intro vq hvq; simp [go_sem] at hvq; subst hvq; refine appendA hL ?_; clear hL; intro _ _ _ hL; try dsimp only at hL) | ((with_reducible refine wpA_make rfl _ _ _ rfl _ rfl rfl ?_); refine makeA hL ?_))
    refine bodyPost_ret (results_row2 inferInstance rfl _ hL b3 rfl _ _ .here rfl) rfl ?_
    exact nilMask_end hL
set_option maxRecDepth 100000 in
theorem coverJoinBad_calls (w : World) (va vb : Value) (a b : Msk) (ha : MaskAt w va a) (hb : MaskAt w vb b) (h : fit2 a b = false) :
    Calls Try.prog 31 #[va, vb] w (MaskEnd ⟨0, 0, []⟩ 1 w) := by
  have Ha := Lib.hid ha
  have Hb := Lib.hid hb
  obtain ⟨xa, ca, rfl, _⟩ := ha.shape
  obtain ⟨xb, cb, rfl, _⟩ := hb.shape
  clear ha hb
  have HF := Lib.hid h
  clear h
  have hL := Holds.start w
  have n1 : True := trivial; have n2 : True := trivial; have n3 : True := trivial; have n4 : True := trivial
  go_enter Try.func31, Try.ntmps31
  go_wp2_with (first | (go_at_call 49; (with_reducible refine (coverBothBad_calls _ _ _ _ _ (Ha.out.hold hL) (Hb.out.hold hL) HF.out _).mono ?_); rintro e _ ⟨sa, sn, rfl, hb, hf⟩; replace hL := hL.callF hb hf; clear hb hf) | (first | (clear hL n1; with_reducible intro b1 w1 hL) | (clear hL n2; with_reducible intro b2 w2 hL) | (clear hL n3; with_reducible intro b3 w3 hL) | (clear hL n4; with_reducible intro b4 w4 hL) | (clear hL; with_reducible intro _ _ hL)) | (with_reducible refine wpC_alloc rfl _ rfl _ _ inferInstance hL ?_) | (with_reducible first | refine wpB_agg rfl _ _ _ rfl rfl hL ?_ | refine wpB_one rfl _ _ (.int _ _) rfl rfl rfl hL ?_ | refine wpB_one rfl _ _ (.slice _ _ _) rfl rfl rfl hL ?_ | refine wpB_one rfl _ _ (.bool _) rfl rfl rfl hL ?_ | refine wpB_one rfl _ _ (.pointer _) rfl rfl rfl hL ?_ | refine wpB_one rfl _ _ (.func _ _ _) rfl rfl rfl hL ?_) | (with_reducible first | refine wpH_max rfl _ _ _ _ rfl _ _ rfl rfl ?_ | refine wpH_min rfl _ _ _ _ rfl _ _ rfl rfl ?_) | ((with_reducible refine wpA_load rfl _ _ rfl _ rfl ?_); first | refine loadA hL ?_ | refine loadR hL ?_ | refine loadC hL ?_ | refine loadD ?_ | refine loadE hL ?_ | refine loadF ?_) | ((with_reducible refine wpA_index rfl _ _ _ rfl _ rfl _ rfl ?_); first | (refine indexA ?_; try rw [Int.toNat_natCast]) | refine indexC ?_) | ((with_reducible refine wpA_store rfl _ _ _ rfl _ rfl (.agg _) rfl ?_); refine storeR hL ?_; clear hL; intro _ hL) | ((with_reducible first | refine wpA_store rfl _ _ _ rfl _ rfl (.int _ _) rfl ?_ | refine wpA_store rfl _ _ _ rfl _ rfl (.slice _ _ _) rfl ?_ | refine wpA_store rfl _ _ _ rfl _ rfl (.bool _) rfl ?_ | refine wpA_store rfl _ _ _ rfl _ rfl (.pointer _) rfl ?_ | refine wpA_store rfl _ _ _ rfl _ rfl (.func _ _ _) rfl ?_); (first | refine storeA hL ?_ | refine storeO hL ?_); (clear hL; intro _ hL)) | ((with_reducible refine wpA_lit rfl _ _ _ rfl ?_); first | refine litA1 hL ?_ | refine litA2 hL ?_ | refine litA3 hL ?_ | refine litA4 hL ?_ | refine litA6 hL ?_) | ((with_reducible refine wpA_append rfl _ _ _ rfl (.slice _ _ _) rfl ?_); intro vq hvq; simp [go_sem] at hvq; subst hvq; refine appendA hL ?_; clear hL; intro _ _ _ hL; try dsimp only at hL) | ((with_reducible refine wpA_make rfl _ _ _ rfl _ rfl rfl ?_); refine makeA hL ?_))
  exact bodyPost_ret (results_row2 inferInstance rfl _ hL b3 rfl _ _ .here rfl) rfl ⟨sa, sn, rfl, hL.below, hL.fresh⟩
set_option maxRecDepth 100000 in
theorem coverMeetBad_calls (w : World) (va vb : Value) (a b : Msk) (ha : MaskAt w va a) (hb : MaskAt w vb b) (h : fit2 a b = false) :
    Calls Try.prog 30 #[va, vb] w (MaskEnd ⟨0, 0, []⟩ 1 w) := by
  have Ha := Lib.hid ha
  have Hb := Lib.hid hb
  obtain ⟨xa, ca, rfl, _⟩ := ha.shape
  obtain ⟨xb, cb, rfl, _⟩ := hb.shape
  clear ha hb
  have HF := Lib.hid h
  clear h
  have hL := Holds.start w
  have n1 : True := trivial; have n2 : True := trivial; have n3 : True := trivial; have n4 : True := trivial
  go_enter Try.func30, Try.ntmps30
  go_wp2_with (first | (go_at_call 49; (with_reducible refine (coverBothBad_calls _ _ _ _ _ (Ha.out.hold hL) (Hb.out.hold hL) HF.out _).mono ?_); rintro e _ ⟨sa, sn, rfl, hb, hf⟩; replace hL := hL.callF hb hf; clear hb hf) | (first | (clear hL n1; with_reducible intro b1 w1 hL) | (clear hL n2; with_reducible intro b2 w2 hL) | (clear hL n3; with_reducible intro b3 w3 hL) | (clear hL n4; with_reducible intro b4 w4 hL) | (clear hL; with_reducible intro _ _ hL)) | (with_reducible refine wpC_alloc rfl _ rfl _ _ inferInstance hL ?_) | (with_reducible first | refine wpB_agg rfl _ _ _ rfl rfl hL ?_ | refine wpB_one rfl _ _ (.int _ _) rfl rfl rfl hL ?_ | refine wpB_one rfl _ _ (.slice _ _ _) rfl rfl rfl hL ?_ | refine wpB_one rfl _ _ (.bool _) rfl rfl rfl hL ?_ | refine wpB_one rfl _ _ (.pointer _) rfl rfl rfl hL ?_ | refine wpB_one rfl _ _ (.func _ _ _) rfl rfl rfl hL ?_) | (with_reducible first | refine wpH_max rfl _ _ _ _ rfl _ _ rfl rfl ?_ | refine wpH_min rfl _ _ _ _ rfl _ _ rfl rfl ?_) | ((with_reducible refine wpA_load rfl _ _ rfl _ rfl ?_); first | refine loadA hL ?_ | refine loadR hL ?_ | refine loadC hL ?_ | refine loadD ?_ | refine loadE hL ?_ | refine loadF ?_) | ((with_reducible refine wpA_index rfl _ _ _ rfl _ rfl _ rfl ?_); first | (refine indexA ?_; try rw [Int.toNat_natCast]) | refine indexC ?_) | ((with_reducible refine wpA_store rfl _ _ _ rfl _ rfl (.agg _) rfl ?_); refine storeR hL ?_; clear hL; intro _ hL) | ((with_reducible first | refine wpA_store rfl _ _ _ rfl _ rfl (.int _ _) rfl ?_ | refine wpA_store rfl _ _ _ rfl _ rfl (.slice _ _ _) rfl ?_ | refine wpA_store rfl _ _ _ rfl _ rfl (.bool _) rfl ?_ | refine wpA_store rfl _ _ _ rfl _ rfl (.pointer _) rfl ?_ | refine wpA_store rfl _ _ _ rfl _ rfl (.func _ _ _) rfl ?_); (first | refine storeA hL ?_ | refine storeO hL ?_); (clear hL; intro _ hL)) | ((with_reducible refine wpA_lit rfl _ _ _ rfl ?_); first | refine litA1 hL ?_ | refine litA2 hL ?_ | refine litA3 hL ?_ | refine litA4 hL ?_ | refine litA6 hL ?_) | ((with_reducible refine wpA_append rfl _ _ _ rfl (.slice _ _ _) rfl ?_); intro vq hvq; simp [go_sem] at hvq; subst hvq; refine appendA hL ?_; clear hL; intro _ _ _ hL; try dsimp only at hL) | ((with_reducible refine wpA_make rfl _ _ _ rfl _ rfl rfl ?_); refine makeA hL ?_))
  exact bodyPost_ret (results_row2 inferInstance rfl _ hL b3 rfl _ _ .here rfl) rfl ⟨sa, sn, rfl, hL.below, hL.fresh⟩
set_option maxRecDepth 100000 in
theorem coverLessBad_calls (w : World) (va vb : Value) (a b : Msk) (ha : MaskAt w va a) (hb : MaskAt w vb b) (h : fit2 a b = false) :
    Calls Try.prog 35 #[va, vb] w (MaskEnd ⟨0, 0, []⟩ 1 w) := by
  have Ha := Lib.hid ha
  have Hb := Lib.hid hb
  obtain ⟨xa, ca, rfl, _⟩ := ha.shape
  obtain ⟨xb, cb, rfl, _⟩ := hb.shape
  clear ha hb
  have HF := Lib.hid h
  clear h
  have hL := Holds.start w
  have n1 : True := trivial; have n2 : True := trivial; have n3 : True := trivial; have n4 : True := trivial
  go_enter Try.func35, Try.ntmps35
  go_wp2_with (first | (go_at_call 49; (with_reducible refine (coverBothBad_calls _ _ _ _ _ (Ha.out.hold hL) (Hb.out.hold hL) HF.out _).mono ?_); rintro e _ ⟨sa, sn, rfl, hb, hf⟩; replace hL := hL.callF hb hf; clear hb hf) | (first | (clear hL n1; with_reducible intro b1 w1 hL) | (clear hL n2; with_reducible intro b2 w2 hL) | (clear hL n3; with_reducible intro b3 w3 hL) | (clear hL n4; with_reducible intro b4 w4 hL) | (clear hL; with_reducible intro _ _ hL)) | (with_reducible refine wpC_alloc rfl _ rfl _ _ inferInstance hL ?_) | (with_reducible first | refine wpB_agg rfl _ _ _ rfl rfl hL ?_ | refine wpB_one rfl _ _ (.int _ _) rfl rfl rfl hL ?_ | refine wpB_one rfl _ _ (.slice _ _ _) rfl rfl rfl hL ?_ | refine wpB_one rfl _ _ (.bool _) rfl rfl rfl hL ?_ | refine wpB_one rfl _ _ (.pointer _) rfl rfl rfl hL ?_ | refine wpB_one rfl _ _ (.func _ _ _) rfl rfl rfl hL ?_) | (with_reducible first | refine wpH_max rfl _ _ _ _ rfl _ _ rfl rfl ?_ | refine wpH_min rfl _ _ _ _ rfl _ _ rfl rfl ?_) | ((with_reducible refine wpA_load rfl _ _ rfl _ rfl ?_); first | refine loadA hL ?_ | refine loadR hL ?_ | refine loadC hL ?_ | refine loadD ?_ | refine loadE hL ?_ | refine loadF ?_) | ((with_reducible refine wpA_index rfl _ _ _ rfl _ rfl _ rfl ?_); first | (refine indexA ?_; try rw [Int.toNat_natCast]) | refine indexC ?_) | ((with_reducible refine wpA_store rfl _ _ _ rfl _ rfl (.agg _) rfl ?_); refine storeR hL ?_; clear hL; intro _ hL) | ((with_reducible first | refine wpA_store rfl _ _ _ rfl _ rfl (.int _ _) rfl ?_ | refine wpA_store rfl _ _ _ rfl _ rfl (.slice _ _ _) rfl ?_ | refine wpA_store rfl _ _ _ rfl _ rfl (.bool _) rfl ?_ | refine wpA_store rfl _ _ _ rfl _ rfl (.pointer _) rfl ?_ | refine wpA_store rfl _ _ _ rfl _ rfl (.func _ _ _) rfl ?_); (first | refine storeA hL ?_ | refine storeO hL ?_); (clear hL; intro _ hL)) | ((with_reducible refine wpA_lit rfl _ _ _ rfl ?_); first | refine litA1 hL ?_ | refine litA2 hL ?_ | refine litA3 hL ?_ | refine litA4 hL ?_ | refine litA6 hL ?_) | ((with_reducible refine wpA_append rfl _ _ _ rfl (.slice _ _ _) rfl ?_); intro vq hvq; simp [go_sem] at hvq; subst hvq; refine appendA hL ?_; clear hL; intro _ _ _ hL; try dsimp only at hL) | ((with_reducible refine wpA_make rfl _ _ _ rfl _ rfl rfl ?_); refine makeA hL ?_))
  exact bodyPost_ret (results_row2 inferInstance rfl _ hL b3 rfl _ _ .here rfl) rfl ⟨sa, sn, rfl, hL.below, hL.fresh⟩
set_option maxRecDepth 100000 in
theorem coverOtherBad_calls (w : World) (va vb : Value) (a b : Msk) (ha : MaskAt w va a) (hb : MaskAt w vb b) (h : fit2 a b = false) :
    Calls Try.prog 26 #[va, vb] w (MaskEnd ⟨0, 0, []⟩ 1 w) := by
  have Ha := Lib.hid ha
  have Hb := Lib.hid hb
  obtain ⟨xa, ca, rfl, _⟩ := ha.shape
  obtain ⟨xb, cb, rfl, _⟩ := hb.shape
  clear ha hb
  have HF := Lib.hid h
  clear h
  have hL := Holds.start w
  have n1 : True := trivial; have n2 : True := trivial; have n3 : True := trivial; have n4 : True := trivial
  go_enter Try.func26, Try.ntmps26
  go_wp2_with (first | (go_at_call 49; (with_reducible refine (coverBothBad_calls _ _ _ _ _ (Ha.out.hold hL) (Hb.out.hold hL) HF.out _).mono ?_); rintro e _ ⟨sa, sn, rfl, hb, hf⟩; replace hL := hL.callF hb hf; clear hb hf) | (first | (clear hL n1; with_reducible intro b1 w1 hL) | (clear hL n2; with_reducible intro b2 w2 hL) | (clear hL n3; with_reducible intro b3 w3 hL) | (clear hL n4; with_reducible intro b4 w4 hL) | (clear hL; with_reducible intro _ _ hL)) | (with_reducible refine wpC_alloc rfl _ rfl _ _ inferInstance hL ?_) | (with_reducible first | refine wpB_agg rfl _ _ _ rfl rfl hL ?_ | refine wpB_one rfl _ _ (.int _ _) rfl rfl rfl hL ?_ | refine wpB_one rfl _ _ (.slice _ _ _) rfl rfl rfl hL ?_ | refine wpB_one rfl _ _ (.bool _) rfl rfl rfl hL ?_ | refine wpB_one rfl _ _ (.pointer _) rfl rfl rfl hL ?_ | refine wpB_one rfl _ _ (.func _ _ _) rfl rfl rfl hL ?_) | (with_reducible first | refine wpH_max rfl _ _ _ _ rfl _ _ rfl rfl ?_ | refine wpH_min rfl _ _ _ _ rfl _ _ rfl rfl ?_) | ((with_reducible refine wpA_load rfl _ _ rfl _ rfl ?_); first | refine loadA hL ?_ | refine loadR hL ?_ | refine loadC hL ?_ | refine loadD ?_ | refine loadE hL ?_ | refine loadF ?_) | ((with_reducible refine wpA_index rfl _ _ _ rfl _ rfl _ rfl ?_); first | (refine indexA ?_; try rw [Int.toNat_natCast]) | refine indexC ?_) | ((with_reducible refine wpA_store rfl _ _ _ rfl _ rfl (.agg _) rfl ?_); refine storeR hL ?_; clear hL; intro _ hL) | ((with_reducible first | refine wpA_store rfl _ _ _ rfl _ rfl (.int _ _) rfl ?_ | refine wpA_store rfl _ _ _ rfl _ rfl (.slice _ _ _) rfl ?_ | refine wpA_store rfl _ _ _ rfl _ rfl (.bool _) rfl ?_ | refine wpA_store rfl _ _ _ rfl _ rfl (.pointer _) rfl ?_ | refine wpA_store rfl _ _ _ rfl _ rfl (.func _ _ _) rfl ?_); (first | refine storeA hL ?_ | refine storeO hL ?_); (clear hL; intro _ hL)) | ((with_reducible refine wpA_lit rfl _ _ _ rfl ?_); first | refine litA1 hL ?_ | refine litA2 hL ?_ | refine litA3 hL ?_ | refine litA4 hL ?_ | refine litA6 hL ?_) | ((with_reducible refine wpA_append rfl _ _ _ rfl (.slice _ _ _) rfl ?_); intro vq hvq; simp [go_sem] at hvq; subst hvq; refine appendA hL ?_; clear hL; intro _ _ _ hL; try dsimp only at hL) | ((with_reducible refine wpA_make rfl _ _ _ rfl _ rfl rfl ?_); refine makeA hL ?_))
  exact bodyPost_ret (results_row2 inferInstance rfl _ hL b3 rfl _ _ .here rfl) rfl ⟨sa, sn, rfl, hL.below, hL.fresh⟩
theorem twoJoin_end (a b : Msk) (ka : ∀ n ∈ a.B, 0 ≤ n) (kb : ∀ n ∈ b.B, 0 ≤ n) : ∃ m er, (∀ w va vb, MaskAt w va a → MaskAt w vb b → Calls Try.prog 31 #[va, vb] w (MaskEnd m er w)) ∧ ∀ w va vb, MaskAt w va a → MaskAt w vb b → Calls Try.prog 34 #[.int .i64 1, va, vb] w (MaskEnd m er w) := by
  cases h : fit2 a b with
  | false => exact ⟨_, _, fun w va vb ha hb => coverJoinBad_calls w va vb a b ha hb h, fun w va vb ha hb => rTwoBad_calls w va vb a b ha hb h 1⟩
  | true =>
    obtain ⟨W, H, p, q, hs, rfl, rfl⟩ := fit2_pix h ka kb
    refine ⟨pixMask W H (fun j i => (fun x y => x || y) (p j i) (q j i)), 0, fun w va vb ha hb => ?_, fun w va vb ha hb => ?_⟩
    · obtain ⟨ma, ca, rfl, _⟩ := ha.shape
      obtain ⟨mb, cb, rfl, _⟩ := hb.shape
      rw [pixMask_len] at ha hb ⊢
      rw [pixMask_len] at ⊢
      refine (pixCoverJoinC_calls hs w ma mb ca cb p q ha hb).mono ?_
      rintro e w' ⟨mm, rfl, hb, hf⟩
      exact ⟨mm, W * H, rfl, hb, hf⟩
    · obtain ⟨ma, ca, rfl, _⟩ := ha.shape
      obtain ⟨mb, cb, rfl, _⟩ := hb.shape
      rw [pixMask_len] at ha hb ⊢
      rw [pixMask_len] at ⊢
      refine (rTwoC_calls hs w ma mb ca cb p q ha hb _ _ onOf1).mono ?_
      rintro e w' ⟨mm, rfl, hb, hf⟩
      exact ⟨mm, W * H, rfl, hb, hf⟩
theorem twoMeet_end (a b : Msk) (ka : ∀ n ∈ a.B, 0 ≤ n) (kb : ∀ n ∈ b.B, 0 ≤ n) : ∃ m er, (∀ w va vb, MaskAt w va a → MaskAt w vb b → Calls Try.prog 30 #[va, vb] w (MaskEnd m er w)) ∧ ∀ w va vb, MaskAt w va a → MaskAt w vb b → Calls Try.prog 34 #[.int .i64 2, va, vb] w (MaskEnd m er w) := by
  cases h : fit2 a b with
  | false => exact ⟨_, _, fun w va vb ha hb => coverMeetBad_calls w va vb a b ha hb h, fun w va vb ha hb => rTwoBad_calls w va vb a b ha hb h 2⟩
  | true =>
    obtain ⟨W, H, p, q, hs, rfl, rfl⟩ := fit2_pix h ka kb
    refine ⟨pixMask W H (fun j i => (fun x y => x && y) (p j i) (q j i)), 0, fun w va vb ha hb => ?_, fun w va vb ha hb => ?_⟩
    · obtain ⟨ma, ca, rfl, _⟩ := ha.shape
      obtain ⟨mb, cb, rfl, _⟩ := hb.shape
      rw [pixMask_len] at ha hb ⊢
      rw [pixMask_len] at ⊢
      refine (pixCoverMeetC_calls hs w ma mb ca cb p q ha hb).mono ?_
      rintro e w' ⟨mm, rfl, hb, hf⟩
      exact ⟨mm, W * H, rfl, hb, hf⟩
    · obtain ⟨ma, ca, rfl, _⟩ := ha.shape
      obtain ⟨mb, cb, rfl, _⟩ := hb.shape
      rw [pixMask_len] at ha hb ⊢
      rw [pixMask_len] at ⊢
      refine (rTwoC_calls hs w ma mb ca cb p q ha hb _ _ onOf2).mono ?_
      rintro e w' ⟨mm, rfl, hb, hf⟩
      exact ⟨mm, W * H, rfl, hb, hf⟩
theorem twoLess_end (a b : Msk) (ka : ∀ n ∈ a.B, 0 ≤ n) (kb : ∀ n ∈ b.B, 0 ≤ n) : ∃ m er, (∀ w va vb, MaskAt w va a → MaskAt w vb b → Calls Try.prog 35 #[va, vb] w (MaskEnd m er w)) ∧ ∀ w va vb, MaskAt w va a → MaskAt w vb b → Calls Try.prog 34 #[.int .i64 3, va, vb] w (MaskEnd m er w) := by
  cases h : fit2 a b with
  | false => exact ⟨_, _, fun w va vb ha hb => coverLessBad_calls w va vb a b ha hb h, fun w va vb ha hb => rTwoBad_calls w va vb a b ha hb h 3⟩
  | true =>
    obtain ⟨W, H, p, q, hs, rfl, rfl⟩ := fit2_pix h ka kb
    refine ⟨pixMask W H (fun j i => (fun x y => x && !y) (p j i) (q j i)), 0, fun w va vb ha hb => ?_, fun w va vb ha hb => ?_⟩
    · obtain ⟨ma, ca, rfl, _⟩ := ha.shape
      obtain ⟨mb, cb, rfl, _⟩ := hb.shape
      rw [pixMask_len] at ha hb ⊢
      rw [pixMask_len] at ⊢
      refine (pixCoverLessC_calls hs w ma mb ca cb p q ha hb).mono ?_
      rintro e w' ⟨mm, rfl, hb, hf⟩
      exact ⟨mm, W * H, rfl, hb, hf⟩
    · obtain ⟨ma, ca, rfl, _⟩ := ha.shape
      obtain ⟨mb, cb, rfl, _⟩ := hb.shape
      rw [pixMask_len] at ha hb ⊢
      rw [pixMask_len] at ⊢
      refine (rTwoC_calls hs w ma mb ca cb p q ha hb _ _ onOf3).mono ?_
      rintro e w' ⟨mm, rfl, hb, hf⟩
      exact ⟨mm, W * H, rfl, hb, hf⟩
theorem twoOther_end (a b : Msk) (ka : ∀ n ∈ a.B, 0 ≤ n) (kb : ∀ n ∈ b.B, 0 ≤ n) : ∃ m er, (∀ w va vb, MaskAt w va a → MaskAt w vb b → Calls Try.prog 26 #[va, vb] w (MaskEnd m er w)) ∧ ∀ w va vb, MaskAt w va a → MaskAt w vb b → Calls Try.prog 34 #[.int .i64 4, va, vb] w (MaskEnd m er w) := by
  cases h : fit2 a b with
  | false => exact ⟨_, _, fun w va vb ha hb => coverOtherBad_calls w va vb a b ha hb h, fun w va vb ha hb => rTwoBad_calls w va vb a b ha hb h 4⟩
  | true =>
    obtain ⟨W, H, p, q, hs, rfl, rfl⟩ := fit2_pix h ka kb
    refine ⟨pixMask W H (fun j i => (fun x y => x != y) (p j i) (q j i)), 0, fun w va vb ha hb => ?_, fun w va vb ha hb => ?_⟩
    · obtain ⟨ma, ca, rfl, _⟩ := ha.shape
      obtain ⟨mb, cb, rfl, _⟩ := hb.shape
      rw [pixMask_len] at ha hb ⊢
      rw [pixMask_len] at ⊢
      refine (pixCoverOtherC_calls hs w ma mb ca cb p q ha hb).mono ?_
      rintro e w' ⟨mm, rfl, hb, hf⟩
      exact ⟨mm, W * H, rfl, hb, hf⟩
    · obtain ⟨ma, ca, rfl, _⟩ := ha.shape
      obtain ⟨mb, cb, rfl, _⟩ := hb.shape
      rw [pixMask_len] at ha hb ⊢
      rw [pixMask_len] at ⊢
      refine (rTwoC_calls hs w ma mb ca cb p q ha hb _ _ onOf4).mono ?_
      rintro e w' ⟨mm, rfl, hb, hf⟩
      exact ⟨mm, W * H, rfl, hb, hf⟩
end Go.Proofs.Ytneddfiohekhiaa
