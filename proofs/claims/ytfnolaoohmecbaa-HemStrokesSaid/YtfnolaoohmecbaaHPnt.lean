/- HemPoints returns true. -/
import Derived.Test.YtfnolaoohmecbaaHmM
import Derived.Test.YtfnolaoohmecbaaStC
import Derived.Test.YtfnolaoohmecbaaBxPM
-- lit6
namespace Go.Proofs.Ytfnolaoohmecbaa
open Go.RowKit

theorem later_moreP {wb w1 w2 : World} (h : Below wb.heap.size wb w1) (k : Below w1.heap.size w1 w2) : Below wb.heap.size wb w2 := h.trans (k.mono h.size)
theorem inS_line {l : List Sg} {s : Sty} {t : Int} (h1 : straightS l = true) (h2 : mayY s = true) (h3 : -8191 ≤ t ∧ t ≤ 8191) {i : Nat} (hi : i < 64) : inS l s (16 * (i : Int) + 8) t = lineB l s t i := by
  unfold inS near1
  rw [h1, h2, decide_eq_true (show -8191 ≤ 16 * (i : Int) + 8 by omega), decide_eq_true (show 16 * (i : Int) + 8 ≤ 8191 by omega), decide_eq_true h3.1, decide_eq_true h3.2]
  rfl
theorem hasP_runsTo (p : Nat → Bool) {n i : Nat} (hn : n ≤ 64) (hi : i < n) : hasP (runsTo p n) (i : Int) = p i := by
  unfold hasP
  rw [Int.toNat_natCast, inRuns_runsTo p hn, decide_eq_true (show (0 : Int) ≤ (i : Int) by omega), decide_eq_true (show (i : Int) < 64 by omega), decide_eq_true hi]
  rfl
set_option maxRecDepth 100000 in
set_option maxHeartbeats 8000000 in
theorem hemPoints_calls (w : World) (va : Value) (na : List Int) (ha : NumsAt w va na) (vsn vl : Int) : Calls Try.prog 10 #[va, .int .i64 vsn, .int .i64 vl] w fun e w' => e = .returned (.bool true) ∧ Below w.heap.size w w' := by
  have hL := Holds.start w
  obtain ⟨a, ac, rfl, _⟩ := ha.parts
  have HMa := Lib.hid (fun w' hb => made_calls w' _ na (SliceAt.below ha hb) false)
  clear ha
  have t1 := made_straight na
  generalize madeS na false = S at *
  have q4a := Int.emod_nonneg vl (show (480 : Int) ≠ 0 by omega)
  have q4b := Int.emod_lt_of_pos vl (show (0 : Int) < 480 by omega)
  have HP4 := Lib.hid (fun w => place_calls vl 480 (by omega) (by omega) w)
  generalize vl % 480 = t0 at *
  have hy : -8191 ≤ t0 - 100 ∧ t0 - 100 ≤ 8191 := by omega
  have hsm := styN_may vsn
  have HSt := Lib.hid (fun w => style_calls vsn w)
  generalize styN vsn = sty at *
  have HA := Lib.hid (fun w v hv => lnLine_calls w v S hv sty (t0 - 100) 24 24 rfl t1 hsm hy (by decide))
  have HN1 := Lib.hid (fun w' v hv => hemLine_calls w' v S hv sty (t0 - 100) (-1))
  rw [show strokeS S sty (t0 - 100) (-1) = [] by simp [strokeS, lineOkS]] at HN1
  have HN2 := Lib.hid (fun w' v hv => hemLine_calls w' v S hv sty (t0 - 100) 65)
  rw [show strokeS S sty (t0 - 100) 65 = [] by simp [strokeS, lineOkS]] at HN2
  have HN3 := Lib.hid (fun w' v hv => hemLine_calls w' v S hv sty 8192 24)
  rw [show strokeS S sty 8192 24 = [] by simp [strokeS, lineOkS, near1]] at HN3
  have HI := Lib.hid (show ∀ w' v (i : Nat), i < 64 → SegsAt w' v S → Calls Try.prog 36 #[v, .agg #[.int .i64 sty.wide, .int .i64 sty.cap, .int .i64 sty.join], .int .i64 (16 * (i : Int) + 8), .int .i64 (t0 - 100)] w' fun r' w'' => r' = .returned (.bool (lineB S sty (t0 - 100) i)) ∧ Below w'.heap.size w' w'' from
    fun w' v i hi hv => by
      have h := strokeIn_calls w' v S hv sty (16 * (i : Int) + 8) (t0 - 100)
      rwa [inS_line t1 hsm hy hi] at h)
  clear t1 hsm hy
  generalize lineB S sty (t0 - 100) = p at *
  have HH := Lib.hid (show ∀ w' v (i : Nat), i < 24 → LnF v p 24 w' → Calls Try.prog 35 #[v, .int .i64 i] w' fun r' w'' => r' = .returned (.bool (p i)) ∧ Below w'.heap.size w' w'' from
    fun w' v i hi hv => by
      have h := spanHas_calls w' v _ hv (i : Int)
      rwa [hasP_runsTo p (by omega) hi] at h)
  have HY := Lib.hid (show ∀ w' v, LnF v p 24 w' → Calls Try.prog 37 #[v, .int .i64 24] w' fun r' w'' => r' = .returned (.bool true) ∧ Below w'.heap.size w' w'' from
    fun w' v hv => by
      have h := spanMay_calls w' v _ hv 24
      rw [show mayRuns (runsTo p 24) 24 = true from mayRuns_runsTo (n := 24) p (by omega)] at h
      exact h)
  obtain ⟨wd, cap, join⟩ := sty
  dsimp only at *
  generalize ht : t0 - 100 = t at *
  have n1 : True := trivial
  go_enter Try.func10, Try.ntmps10
  go_wp2_with (first | (go_at_call 12; (with_reducible refine (known_calls _).mono ?_); rintro e _ ⟨rfl, hb⟩; replace hL := hL.call hb; clear hb) | (go_at_call 25; (with_reducible refine (HMa.out _ hL.below).mono ?_); rintro e _ ⟨vs, rfl, hb, hf⟩; replace hL := hL.callF hb hf; clear hb hf) | (go_at_call 24; (with_reducible refine (HSt.out _).mono ?_); rintro e _ ⟨rfl, hb⟩; replace hL := hL.call hb; clear hb) | (go_at_call 21; (with_reducible refine (HP4.out _).mono ?_); rintro e _ ⟨rfl, rfl⟩) | (go_at_call 14; (with_reducible refine (HA.out _ _ hL.fact0).mono ?_); rintro e _ ⟨vr, rfl, hb, hf⟩; replace hL := hL.callF hb hf; clear hb hf) | (first | (clear hL n1; with_reducible intro b1 w1 hL) | (clear hL; with_reducible intro _ _ hL)) | (with_reducible refine wpC_alloc rfl _ rfl _ _ inferInstance hL ?_) | (with_reducible first | refine wpB_agg rfl _ _ _ rfl rfl hL ?_ | refine wpB_one rfl _ _ (.int _ _) rfl rfl rfl hL ?_ | refine wpB_one rfl _ _ (.slice _ _ _) rfl rfl rfl hL ?_ | refine wpB_one rfl _ _ (.bool _) rfl rfl rfl hL ?_ | refine wpB_one rfl _ _ (.pointer _) rfl rfl rfl hL ?_ | refine wpB_one rfl _ _ (.func _ _ _) rfl rfl rfl hL ?_) | (with_reducible first | refine wpH_max rfl _ _ _ _ rfl _ _ rfl rfl ?_ | refine wpH_min rfl _ _ _ _ rfl _ _ rfl rfl ?_) | ((with_reducible refine wpA_load rfl _ _ rfl _ rfl ?_); first | refine loadA hL ?_ | refine loadR hL ?_ | refine loadC hL ?_ | refine loadD ?_ | refine loadE hL ?_ | refine loadF ?_) | ((with_reducible refine wpA_index rfl _ _ _ rfl _ rfl _ rfl ?_); first | (refine indexA ?_; try rw [Int.toNat_natCast]) | refine indexC ?_) | ((with_reducible refine wpA_store rfl _ _ _ rfl _ rfl (.agg _) rfl ?_); refine storeR hL ?_; clear hL; intro _ hL) | ((with_reducible first | refine wpA_store rfl _ _ _ rfl _ rfl (.int _ _) rfl ?_ | refine wpA_store rfl _ _ _ rfl _ rfl (.slice _ _ _) rfl ?_ | refine wpA_store rfl _ _ _ rfl _ rfl (.bool _) rfl ?_ | refine wpA_store rfl _ _ _ rfl _ rfl (.pointer _) rfl ?_ | refine wpA_store rfl _ _ _ rfl _ rfl (.func _ _ _) rfl ?_); (first | refine storeA hL ?_ | refine storeO hL ?_); (clear hL; intro _ hL)) | ((with_reducible refine wpA_lit rfl _ _ _ rfl ?_); first | refine litA1 hL ?_ | refine litA2 hL ?_ | refine litA3 hL ?_ | refine litA4 hL ?_ | refine litA6 hL ?_) | ((with_reducible refine wpA_append rfl _ _ _ rfl (.slice _ _ _) rfl ?_); intro vq hvq; simp [go_sem] at hvq; subst hvq; refine appendA hL ?_; clear hL; intro _ _ _ hL; try dsimp only at hL) | ((with_reducible refine wpA_make rfl _ _ _ rfl _ rfl rfl ?_); refine makeA hL ?_))
  go_loopw [11] (fun s11 wr => ∃ i : Nat, i ≤ 24 ∧ s11 = .int .i64 i ∧ Holds w wr [blk b1 #[.int .i64 wd, .int .i64 cap, .int .i64 join] 24] [LnF vr p 24, fun w => SegsAt w vs S])
    (fun s11 wr => 24 - (intOf s11).toNat)
  case atStart => exact ⟨0, by omega, rfl, hL.facts fun θ hθ => hL.firm θ (by simp only [List.mem_cons, List.not_mem_nil, or_false] at hθ ⊢; rcases hθ with h | h <;> simp [h])⟩
  case round =>
    clear hL
    obtain ⟨i, hi, rfl, hL⟩ := hrel
    by_cases hit : i < 24
    · have hib : (i : Int) < 24 := by omega
      have HX := Lib.hid (fun w' v hv => HH.out w' v i hit hv)
      have HZ := Lib.hid (fun w' ve hv => HI.out w' ve i (by omega) hv)
      clear HI HH
      generalize p i = q at *
      have dq : (q != q) = false := bne_self_eq_false q
      have w1 : IntKind.i64.wrap (16 * (i : Int)) = 16 * (i : Int) := by rw [IntKind.wrap_i64]; omega
      have w2 : IntKind.i64.wrap (16 * (i : Int) + 8) = 16 * (i : Int) + 8 := by rw [IntKind.wrap_i64]; omega
      have Km := Lib.hid (hL.range .here)
      go_wp2_with (first | (first | (clear hL n1; with_reducible intro b1 w1 hL) | (clear hL; with_reducible intro _ _ hL)) | (with_reducible refine wpC_alloc rfl _ rfl _ _ inferInstance hL ?_) | (with_reducible first | refine wpB_agg rfl _ _ _ rfl rfl hL ?_ | refine wpB_one rfl _ _ (.int _ _) rfl rfl rfl hL ?_ | refine wpB_one rfl _ _ (.slice _ _ _) rfl rfl rfl hL ?_ | refine wpB_one rfl _ _ (.bool _) rfl rfl rfl hL ?_ | refine wpB_one rfl _ _ (.pointer _) rfl rfl rfl hL ?_ | refine wpB_one rfl _ _ (.func _ _ _) rfl rfl rfl hL ?_) | (with_reducible first | refine wpH_max rfl _ _ _ _ rfl _ _ rfl rfl ?_ | refine wpH_min rfl _ _ _ _ rfl _ _ rfl rfl ?_) | ((with_reducible refine wpA_load rfl _ _ rfl _ rfl ?_); first | refine loadA hL ?_ | refine loadR hL ?_ | refine loadC hL ?_ | refine loadD ?_ | refine loadE hL ?_ | refine loadF ?_) | ((with_reducible refine wpA_index rfl _ _ _ rfl _ rfl _ rfl ?_); first | (refine indexA ?_; try rw [Int.toNat_natCast]) | refine indexC ?_) | ((with_reducible refine wpA_store rfl _ _ _ rfl _ rfl (.agg _) rfl ?_); refine storeR hL ?_; clear hL; intro _ hL) | ((with_reducible first | refine wpA_store rfl _ _ _ rfl _ rfl (.int _ _) rfl ?_ | refine wpA_store rfl _ _ _ rfl _ rfl (.slice _ _ _) rfl ?_ | refine wpA_store rfl _ _ _ rfl _ rfl (.bool _) rfl ?_ | refine wpA_store rfl _ _ _ rfl _ rfl (.pointer _) rfl ?_ | refine wpA_store rfl _ _ _ rfl _ rfl (.func _ _ _) rfl ?_); (first | refine storeA hL ?_ | refine storeO hL ?_); (clear hL; intro _ hL)) | ((with_reducible refine wpA_lit rfl _ _ _ rfl ?_); first | refine litA1 hL ?_ | refine litA2 hL ?_ | refine litA3 hL ?_ | refine litA4 hL ?_ | refine litA6 hL ?_) | ((with_reducible refine wpA_append rfl _ _ _ rfl (.slice _ _ _) rfl ?_); intro vq hvq; simp [go_sem] at hvq; subst hvq; refine appendA hL ?_; clear hL; intro _ _ _ hL; try dsimp only at hL) | ((with_reducible refine wpA_make rfl _ _ _ rfl _ rfl rfl ?_); refine makeA hL ?_))
      refine wpH_laterN (by kernel_rfl) fun hS => ?_
      replace hL := hL.drew
      refine stH (i := 0) (vr) hS ?_ ?_; (· exact fun w' _ => (by go_simp)); simp only [Act.put, List.setIfInBounds_toArray, List.set_cons_zero, List.set_cons_succ]
      refine stH (i := 1) (.int .i64 i) hS ?_ ?_; (· exact fun w' _ => (by go_simp)); simp only [Act.put, List.setIfInBounds_toArray, List.set_cons_zero, List.set_cons_succ]
      refine stH (i := 3) (vs) hS ?_ ?_; (· exact fun w' _ => (by go_simp)); simp only [Act.put, List.setIfInBounds_toArray, List.set_cons_zero, List.set_cons_succ]
      refine stH (i := 4) (.agg #[.int .i64 wd, .int .i64 cap, .int .i64 join]) hS ?_ ?_; (· exact fun w' hw => run_loadOp _ _ rfl _ rfl _ (load_range (cs := #[.int .i64 wd, .int .i64 cap, .int .i64 join]) rfl (rangeAt_below Km.out hw))); simp only [Act.put, List.setIfInBounds_toArray, List.set_cons_zero, List.set_cons_succ]
      refine stH (i := 5) (.int .i64 i) hS ?_ ?_; (· exact fun w' _ => (by go_simp)); simp only [Act.put, List.setIfInBounds_toArray, List.set_cons_zero, List.set_cons_succ]
      refine stH (i := 6) (.int .i64 (16 * (i : Int))) hS ?_ ?_; (· exact fun w' _ => (by go_simp)); simp only [Act.put, List.setIfInBounds_toArray, List.set_cons_zero, List.set_cons_succ]
      refine stH (i := 7) (.int .i64 (16 * (i : Int) + 8)) hS ?_ ?_; (· exact fun w' _ => (by go_simp)); simp only [Act.put, List.setIfInBounds_toArray, List.set_cons_zero, List.set_cons_succ]
      refine stH (i := 8) (.int .i64 t) hS ?_ ?_; (· exact fun w' _ => (by go_simp)); simp only [Act.put, List.setIfInBounds_toArray, List.set_cons_zero, List.set_cons_succ]
      refine wpH_one (i := 2) (by kernel_rfl) (wpOp_of (by simp only [List.getElem?_toArray, List.getElem?_cons_zero, List.getElem?_cons_succ]; rfl) ?_)
      refine st_call rfl 35 #[vr, .int .i64 i] (by go_simp) (HX.out _ _ hL.fact0) ?_
      rintro e w' ⟨rfl, hb⟩
      replace hL := hL.call hb
      replace hS := later_moreP hS hb
      clear hb
      refine ⟨_, rfl, hS, ?_⟩
      simp only [Act.put, List.setIfInBounds_toArray, List.set_cons_zero, List.set_cons_succ]
      refine wpH_one (i := 9) (by kernel_rfl) (wpOp_of (by simp only [List.getElem?_toArray, List.getElem?_cons_zero, List.getElem?_cons_succ]; rfl) ?_)
      refine st_call rfl 36 #[vs, .agg #[.int .i64 wd, .int .i64 cap, .int .i64 join], .int .i64 (16 * (i : Int) + 8), .int .i64 t] (by go_simp) (HZ.out _ _ hL.fact1) ?_
      rintro e w' ⟨rfl, hb⟩
      replace hL := hL.call hb
      replace hS := later_moreP hS hb
      clear hb
      refine ⟨_, rfl, hS, ?_⟩
      simp only [Act.put, List.setIfInBounds_toArray, List.set_cons_zero, List.set_cons_succ]
      refine stH (i := 10) (.bool false) hS ?_ ?_; (· exact fun w' _ => (by go_simp)); simp only [Act.put, List.setIfInBounds_toArray, List.set_cons_zero, List.set_cons_succ]
      refine wpAnyH_done (by kernel_rfl) ?_ _
      clear hS
      go_wp2
      go_roundw
      case rel => exact ⟨i + 1, by omega, by go_num, hL⟩
      case measure => simp [intOf]; omega
    · have e : i = 24 := by omega
      subst e
      go_wp2_with (first | (go_at_call 37; (with_reducible refine (HY.out _ _ hL.fact0).mono ?_); rintro e _ ⟨rfl, hb⟩; replace hL := hL.call hb; clear hb) | (go_at_call 14; (with_reducible first | refine (HN1.out _ _ hL.fact1).mono ?_ | refine (HN2.out _ _ hL.fact1).mono ?_ | refine (HN3.out _ _ hL.fact1).mono ?_); rintro e _ ⟨vk, rfl, hb, hf⟩; obtain ⟨ka, kc, hk, _⟩ := hf.now; simp only [List.map_nil, List.length_nil] at hk; subst hk; replace hL := hL.call hb; clear hb hf) | (first | (clear hL n1; with_reducible intro b1 w1 hL) | (clear hL; with_reducible intro _ _ hL)) | (with_reducible refine wpC_alloc rfl _ rfl _ _ inferInstance hL ?_) | (with_reducible first | refine wpB_agg rfl _ _ _ rfl rfl hL ?_ | refine wpB_one rfl _ _ (.int _ _) rfl rfl rfl hL ?_ | refine wpB_one rfl _ _ (.slice _ _ _) rfl rfl rfl hL ?_ | refine wpB_one rfl _ _ (.bool _) rfl rfl rfl hL ?_ | refine wpB_one rfl _ _ (.pointer _) rfl rfl rfl hL ?_ | refine wpB_one rfl _ _ (.func _ _ _) rfl rfl rfl hL ?_) | (with_reducible first | refine wpH_max rfl _ _ _ _ rfl _ _ rfl rfl ?_ | refine wpH_min rfl _ _ _ _ rfl _ _ rfl rfl ?_) | ((with_reducible refine wpA_load rfl _ _ rfl _ rfl ?_); first | refine loadA hL ?_ | refine loadR hL ?_ | refine loadC hL ?_ | refine loadD ?_ | refine loadE hL ?_ | refine loadF ?_) | ((with_reducible refine wpA_index rfl _ _ _ rfl _ rfl _ rfl ?_); first | (refine indexA ?_; try rw [Int.toNat_natCast]) | refine indexC ?_) | ((with_reducible refine wpA_store rfl _ _ _ rfl _ rfl (.agg _) rfl ?_); refine storeR hL ?_; clear hL; intro _ hL) | ((with_reducible first | refine wpA_store rfl _ _ _ rfl _ rfl (.int _ _) rfl ?_ | refine wpA_store rfl _ _ _ rfl _ rfl (.slice _ _ _) rfl ?_ | refine wpA_store rfl _ _ _ rfl _ rfl (.bool _) rfl ?_ | refine wpA_store rfl _ _ _ rfl _ rfl (.pointer _) rfl ?_ | refine wpA_store rfl _ _ _ rfl _ rfl (.func _ _ _) rfl ?_); (first | refine storeA hL ?_ | refine storeO hL ?_); (clear hL; intro _ hL)) | ((with_reducible refine wpA_lit rfl _ _ _ rfl ?_); first | refine litA1 hL ?_ | refine litA2 hL ?_ | refine litA3 hL ?_ | refine litA4 hL ?_ | refine litA6 hL ?_) | ((with_reducible refine wpA_append rfl _ _ _ rfl (.slice _ _ _) rfl ?_); intro vq hvq; simp [go_sem] at hvq; subst hvq; refine appendA hL ?_; clear hL; intro _ _ _ hL; try dsimp only at hL) | ((with_reducible refine wpA_make rfl _ _ _ rfl _ rfl rfl ?_); refine makeA hL ?_))
      go_ret
      exact ⟨rfl, hL.below⟩
end Go.Proofs.Ytfnolaoohmecbaa
