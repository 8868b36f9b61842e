/- Masks of what may not be; masks of anything. -/
import Derived.Test.YtneddfiohekhiaaRMsk
-- uses arrU
-- lit6
namespace Go.Proofs.Ytneddfiohekhiaa
open Go.RowKit

/-- a mask and a number are returned -/
def MaskEnd (m : Msk) (er : Int) (w : World) (e : Ending) (w' : World) : Prop :=
  ∃ ma n, e = .returned (.tuple #[.agg #[.int .i64 m.W, .int .i64 m.H, .slice ma n n], .int .i64 er]) ∧ Below w.heap.size w w' ∧ Fresh w w' (MaskF (.agg #[.int .i64 m.W, .int .i64 m.H, .slice ma n n]) m)
theorem nilMask_at (w : World) : MaskAt w (.agg #[.int .i64 0, .int .i64 0, .slice none 0 0]) ⟨0, 0, []⟩ :=
  ⟨_, rfl, none, 0, rfl, Nat.le_refl _, by unfold maxLen; omega, fun i hi => by simp at hi⟩
theorem nilMask_end {w w' : World} {M : List Res} (hL : Holds w w' M []) : MaskEnd ⟨0, 0, []⟩ 1 w (.returned (.tuple #[.agg #[.int .i64 0, .int .i64 0, .slice none 0 0], .int .i64 1])) w' :=
  ⟨none, 0, rfl, hL.below, (hL.triv (χ := MaskF (.agg #[.int .i64 0, .int .i64 0, .slice none 0 0]) ⟨0, 0, []⟩) fun w => nilMask_at w).fresh⟩
set_option maxRecDepth 100000 in
set_option maxHeartbeats 8000000 in
theorem coverMaskBad_calls (w : World) (v : Value) (l : List Sg) (hv : SegsAt w v l) (rule wi hi : Int) (hf : fairS l rule wi hi = false) :
    Calls Try.prog 14 #[v, .int .i64 rule, .int .i64 wi, .int .i64 hi] w (MaskEnd ⟨0, 0, []⟩ 1 w) := by
  have Hv := Lib.hid hv
  obtain ⟨a, cap, rfl, _⟩ := hv.parts
  clear hv
  have hL := Holds.start w
  have hf : (pathMay l && (rule == 0 || rule == 1) && isSide wi && isSide hi) = false := hf
  have HPM := Lib.hid (fun w' hv' => pathMay_calls w' (.slice a l.length cap) l hv')
  have HSW := Lib.hid (fun w' => coverSide_calls wi w')
  have HSH := Lib.hid (fun w' => coverSide_calls hi w')
  generalize pathMay l = pm at *
  generalize isSide wi = sw at *
  generalize isSide hi = sh at *
  have hb0 : (rule != 0) = !(rule == 0) := rfl
  have hb1 : (rule != 1) = !(rule == 1) := rfl
  generalize (rule == 0) = r0 at *
  generalize (rule == 1) = r1 at *
  have hcs : pm = false ∨ (pm = true ∧ r0 = false ∧ r1 = false) ∨ (pm = true ∧ r0 = true ∧ sw = false) ∨ (pm = true ∧ r0 = false ∧ r1 = true ∧ sw = false) ∨ (pm = true ∧ r0 = true ∧ sw = true ∧ sh = false) ∨ (pm = true ∧ r0 = false ∧ r1 = true ∧ sw = true ∧ sh = false) := by
    revert hf
    cases pm <;> cases r0 <;> cases r1 <;> cases sw <;> cases sh <;> simp
  clear hf
  rcases hcs with h | ⟨h, h2, h3⟩ | ⟨h, h2, h3⟩ | ⟨h, h2, h3, h4⟩ | ⟨h, h2, h3, h4⟩ | ⟨h, h2, h3, h4, h5⟩
  all_goals
    subst h
    try subst h2
    try subst h3
    try subst h4
    try subst h5
    try simp only [Bool.not_true, Bool.not_false] at hb0 hb1
    have n1 : True := trivial
    go_enter Try.func14, Try.ntmps14
    go_wp2_with (first | (go_at_call 39; (with_reducible refine (HPM.out _ (Hv.out.hold hL)).mono ?_); rintro e _ ⟨rfl, hb⟩; replace hL := hL.call hb; clear hb) | (go_at_call 40; first | ((with_reducible refine (HSW.out _).mono ?_); rintro e _ ⟨rfl, rfl⟩) | ((with_reducible refine (HSH.out _).mono ?_); rintro e _ ⟨rfl, rfl⟩)) | (first | (clear hL n1; with_reducible intro b1 w1 hL) | (clear hL; with_reducible intro _ _ hL)) | (with_reducible refine wpC_alloc rfl _ rfl _ _ inferInstance hL ?_) | (with_reducible first | refine wpB_agg rfl _ _ _ rfl rfl hL ?_ | refine wpB_one rfl _ _ (.int _ _) rfl rfl rfl hL ?_ | refine wpB_one rfl _ _ (.slice _ _ _) rfl rfl rfl hL ?_ | refine wpB_one rfl _ _ (.bool _) rfl rfl rfl hL ?_ | refine wpB_one rfl _ _ (.pointer _) rfl rfl rfl hL ?_ | refine wpB_one rfl _ _ (.func _ _ _) rfl rfl rfl hL ?_) | (with_reducible first | refine wpH_max rfl _ _ _ _ rfl _ _ rfl rfl ?_ | refine wpH_min rfl _ _ _ _ rfl _ _ rfl rfl ?_) | ((with_reducible refine wpA_load rfl _ _ rfl _ rfl ?_); first | refine loadA hL ?_ | refine loadR hL ?_ | refine loadC hL ?_ | refine loadD ?_ | refine loadE hL ?_ | refine loadF ?_) | ((with_reducible refine wpA_index rfl _ _ _ rfl _ rfl _ rfl ?_); first | (refine indexA ?_; try rw [Int.toNat_natCast]) | refine indexC ?_) | ((with_reducible refine wpA_store rfl _ _ _ rfl _ rfl (.agg _) rfl ?_); refine storeR hL ?_; clear hL; intro _ hL) | ((with_reducible first | refine wpA_store rfl _ _ _ rfl _ rfl (.int _ _) rfl ?_ | refine wpA_store rfl _ _ _ rfl _ rfl (.slice _ _ _) rfl ?_ | refine wpA_store rfl _ _ _ rfl _ rfl (.bool _) rfl ?_ | refine wpA_store rfl _ _ _ rfl _ rfl (.pointer _) rfl ?_ | refine wpA_store rfl _ _ _ rfl _ rfl (.func _ _ _) rfl ?_); (first | refine storeA hL ?_ | refine storeO hL ?_); (clear hL; intro _ hL)) | ((with_reducible refine wpA_lit rfl _ _ _ rfl ?_); first | refine litA1 hL ?_ | refine litA2 hL ?_ | refine litA3 hL ?_ | refine litA4 hL ?_ | refine litA6 hL ?_) | ((with_reducible refine wpA_append rfl _ _ _ rfl (.slice _ _ _) rfl ?_); intro vq hvq; simp [go_sem] at hvq; subst hvq; refine appendA hL ?_; clear hL; intro _ _ _ hL; try dsimp only at hL) | ((with_reducible refine wpA_make rfl _ _ _ rfl _ rfl rfl ?_); refine makeA hL ?_))
    refine bodyPost_ret (results_row2 inferInstance rfl _ hL b1 rfl _ _ .here rfl) rfl ?_
    exact nilMask_end hL
set_option maxRecDepth 100000 in
set_option maxHeartbeats 8000000 in
theorem rMaskBad_calls (w : World) (v : Value) (l : List Sg) (hv : SegsAt w v l) (rule wi hi : Int) (hf : fairS l rule wi hi = false) :
    Calls Try.prog 15 #[v, .int .i64 rule, .int .i64 wi, .int .i64 hi] w (MaskEnd ⟨0, 0, []⟩ 1 w) := by
  have Hv := Lib.hid hv
  obtain ⟨a, cap, rfl, _⟩ := hv.parts
  clear hv
  have hL := Holds.start w
  have HF := Lib.hid (fun w' hv' => hf ▸ rFair_calls w' (.slice a l.length cap) l hv' rule wi hi)
  clear hf
  have n1 : True := trivial
  go_enter Try.func15, Try.ntmps15
  go_wp2_with (first | (go_at_call 42; (with_reducible refine (HF.out _ (Hv.out.hold hL)).mono ?_); rintro e _ ⟨rfl, hb⟩; replace hL := hL.call hb; clear hb) | (first | (clear hL n1; with_reducible intro b1 w1 hL) | (clear hL; with_reducible intro _ _ hL)) | (with_reducible refine wpC_alloc rfl _ rfl _ _ inferInstance hL ?_) | (with_reducible first | refine wpB_agg rfl _ _ _ rfl rfl hL ?_ | refine wpB_one rfl _ _ (.int _ _) rfl rfl rfl hL ?_ | refine wpB_one rfl _ _ (.slice _ _ _) rfl rfl rfl hL ?_ | refine wpB_one rfl _ _ (.bool _) rfl rfl rfl hL ?_ | refine wpB_one rfl _ _ (.pointer _) rfl rfl rfl hL ?_ | refine wpB_one rfl _ _ (.func _ _ _) rfl rfl rfl hL ?_) | (with_reducible first | refine wpH_max rfl _ _ _ _ rfl _ _ rfl rfl ?_ | refine wpH_min rfl _ _ _ _ rfl _ _ rfl rfl ?_) | ((with_reducible refine wpA_load rfl _ _ rfl _ rfl ?_); first | refine loadA hL ?_ | refine loadR hL ?_ | refine loadC hL ?_ | refine loadD ?_ | refine loadE hL ?_ | refine loadF ?_) | ((with_reducible refine wpA_index rfl _ _ _ rfl _ rfl _ rfl ?_); first | (refine indexA ?_; try rw [Int.toNat_natCast]) | refine indexC ?_) | ((with_reducible refine wpA_store rfl _ _ _ rfl _ rfl (.agg _) rfl ?_); refine storeR hL ?_; clear hL; intro _ hL) | ((with_reducible first | refine wpA_store rfl _ _ _ rfl _ rfl (.int _ _) rfl ?_ | refine wpA_store rfl _ _ _ rfl _ rfl (.slice _ _ _) rfl ?_ | refine wpA_store rfl _ _ _ rfl _ rfl (.bool _) rfl ?_ | refine wpA_store rfl _ _ _ rfl _ rfl (.pointer _) rfl ?_ | refine wpA_store rfl _ _ _ rfl _ rfl (.func _ _ _) rfl ?_); (first | refine storeA hL ?_ | refine storeO hL ?_); (clear hL; intro _ hL)) | ((with_reducible refine wpA_lit rfl _ _ _ rfl ?_); first | refine litA1 hL ?_ | refine litA2 hL ?_ | refine litA3 hL ?_ | refine litA4 hL ?_ | refine litA6 hL ?_) | ((with_reducible refine wpA_append rfl _ _ _ rfl (.slice _ _ _) rfl ?_); intro vq hvq; simp [go_sem] at hvq; subst hvq; refine appendA hL ?_; clear hL; intro _ _ _ hL; try dsimp only at hL) | ((with_reducible refine wpA_make rfl _ _ _ rfl _ rfl rfl ?_); refine makeA hL ?_))
  refine bodyPost_ret (results_row2 inferInstance rfl _ hL b1 rfl _ _ .here rfl) rfl ?_
  exact nilMask_end hL
theorem side_get {n : Int} (h : isSide n = true) : ∃ N : Nat, n = (N : Int) ∧ 1 ≤ N ∧ N ≤ 64 := by
  simp [isSide] at h
  exact ⟨n.toNat, by omega, by omega, by omega⟩
theorem masks_end (l : List Sg) (rule wi hi : Int) : ∃ m er, (∀ w v, SegsAt w v l → Calls Try.prog 14 #[v, .int .i64 rule, .int .i64 wi, .int .i64 hi] w (MaskEnd m er w)) ∧ ∀ w v, SegsAt w v l → Calls Try.prog 15 #[v, .int .i64 rule, .int .i64 wi, .int .i64 hi] w (MaskEnd m er w) := by
  cases hf : fairS l rule wi hi with
  | false => exact ⟨_, _, fun w v hv => coverMaskBad_calls w v l hv rule wi hi hf, fun w v hv => rMaskBad_calls w v l hv rule wi hi hf⟩
  | true =>
    unfold fairS at hf
    simp only [Bool.and_eq_true] at hf
    obtain ⟨⟨⟨hm, hr⟩, hw⟩, hh⟩ := hf
    obtain ⟨W, rfl, w1, w2⟩ := side_get hw
    obtain ⟨H, rfl, h1, h2⟩ := side_get hh
    have hs : Sides W H := ⟨w1, w2, h1, h2⟩
    have hr2 : rule = 0 ∨ rule = 1 := by simpa using hr
    refine ⟨pixMask W H (fun j i => isIn rule (windG (edgesS l) (16 * (i : Int) + 8) (16 * (j : Int) + 8))), 0, fun w v hv => ?_, fun w v hv => ?_⟩
    · refine (coverMask_calls hs w v l hv hm rule hr2).mono ?_
      rintro e w' ⟨ma, rfl, hb, hf⟩
      exact ⟨ma, W * H, rfl, hb, hf⟩
    · refine (rMask_calls hs w v l hv hm rule hr2).mono ?_
      rintro e w' ⟨ma, rfl, hb, hf⟩
      exact ⟨ma, W * H, rfl, hb, hf⟩
end Go.Proofs.Ytneddfiohekhiaa
