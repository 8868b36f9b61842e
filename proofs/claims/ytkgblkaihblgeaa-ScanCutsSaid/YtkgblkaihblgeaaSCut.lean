/- ScanCuts returns true. -/
import Derived.Test.YtkgblkaihblgeaaScnM
-- lit6
namespace Go.Proofs.Ytkgblkaihblgeaa
open Go.RowKit

set_option maxRecDepth 100000 in
set_option maxHeartbeats 8000000 in
theorem scanCuts_calls (w : World) (va : Value) (na : List Int) (ha : NumsAt w va na) (rule pw ph : Int) : Calls Try.prog 5 #[va, .int .i64 rule, .int .i64 pw, .int .i64 ph] w fun e w' => e = .returned (.bool true) ∧ Below w.heap.size w w' := by
  have hL := Holds.start w
  obtain ⟨a, cap, rfl, _⟩ := ha.parts
  have HM := Lib.hid (fun w' hb => made_calls w' _ na (SliceAt.below ha hb) true)
  clear ha
  have hmay := made_may na true
  generalize madeS na true = S at *
  have q1a := Int.emod_nonneg rule (show (2 : Int) ≠ 0 by omega)
  have q1b := Int.emod_lt_of_pos rule (show (0 : Int) < 2 by omega)
  have HP1 := Lib.hid (fun w => place_calls rule 2 (by omega) (by omega) w)
  generalize rule % 2 = r at *
  have q8a := Int.emod_nonneg pw (show (14 : Int) ≠ 0 by omega)
  have q8b := Int.emod_lt_of_pos pw (show (0 : Int) < 14 by omega)
  have q9a := Int.emod_nonneg ph (show (14 : Int) ≠ 0 by omega)
  have q9b := Int.emod_lt_of_pos ph (show (0 : Int) < 14 by omega)
  have HS1 := Lib.hid (fun w => side25_calls pw w)
  have HS2 := Lib.hid (fun w => side25_calls ph w)
  obtain ⟨W, hW⟩ : ∃ W : Nat, 1 + pw % 14 = (W : Int) := ⟨(1 + pw % 14).toNat, by omega⟩
  obtain ⟨H, hH⟩ : ∃ H : Nat, 1 + ph % 14 = (H : Int) := ⟨(1 + ph % 14).toNat, by omega⟩
  rw [hW] at HS1
  rw [hH] at HS2
  have hW0 : 0 < W := by omega
  have hW1 : W ≤ 14 := by omega
  have hH0 : 0 < H := by omega
  have hH1 : H ≤ 14 := by omega
  clear hW hH q8a q8b q9a q9b
  have hr : r = 0 ∨ r = 1 := by omega
  have hs : Sds 15 15 := ⟨by decide, by decide, by decide, by decide⟩
  have hs2 : Sds W H := ⟨hW0, by omega, hH0, by omega⟩
  have HA := Lib.hid (fun w' v hv => scanRegionF_calls (W := 15) (H := 15) (Wi := 15) (Hi := 15) rfl rfl hs w' v S hv hmay r hr)
  have HB := Lib.hid (fun w' v hv => scanRegionF_calls (W := W) (H := H) rfl rfl hs2 w' v S hv hmay r hr)
  have HO := Lib.hid (show ∀ j w' u, RunsAt w' u (lineF (edgesS S) r 15 j) → Calls Try.prog 24 #[u, .int .i64 W] w' (RunsOut (lineF (edgesS S) r W j) w') from fun j w' u hu => by
    have h := spanNorm_calls w' u _ hu W
    unfold lineF at h
    rw [norm_runs _ (by omega) (by omega)] at h
    exact h)
  clear hr hs hs2 hmay
  generalize lineF (edgesS S) r 15 = FA at *
  generalize lineF (edgesS S) r W = FB at *
  have hH15 : ¬ (15 : Int) < (H : Int) := by omega
  have hHd : decide ((15 : Int) < (H : Int)) = false := decide_eq_false hH15
  have n1 : True := trivial; have n2 : True := trivial
  go_enter Try.func5, Try.ntmps5
  go_wp2_with (first | (go_at_call 13; (with_reducible refine (known_calls _).mono ?_); rintro e _ ⟨rfl, hb⟩; replace hL := hL.call hb; clear hb) | (go_at_call 21; (with_reducible refine (HM.out _ hL.below).mono ?_); rintro e _ ⟨vs, rfl, hb, hf⟩; replace hL := hL.callF hb hf; clear hb hf) | (go_at_call 22; (with_reducible first | refine (HP1.out _).mono ?_); rintro e _ ⟨rfl, rfl⟩) | (go_at_call 23; (with_reducible first | refine (HS1.out _).mono ?_ | refine (HS2.out _).mono ?_); rintro e _ ⟨rfl, rfl⟩) | (go_at_call 17; (first | ((with_reducible refine (HA.out _ vs hL.fact0).mono ?_); rintro e _ ⟨sa, ca, rfl, hb, hf⟩) | ((with_reducible refine (HB.out _ vs hL.fact1).mono ?_); rintro e _ ⟨sb, cb, rfl, hb, hf⟩)); replace hL := hL.callF hb hf; clear hb hf) | (first | (clear hL n1; with_reducible intro b1 w1 hL) | (clear hL n2; with_reducible intro b2 w2 hL) | (clear hL; with_reducible intro _ _ hL)) | (with_reducible refine wpC_alloc rfl _ rfl _ _ inferInstance hL ?_) | (with_reducible first | refine wpB_agg rfl _ _ _ rfl rfl hL ?_ | refine wpB_one rfl _ _ (.int _ _) rfl rfl rfl hL ?_ | refine wpB_one rfl _ _ (.slice _ _ _) rfl rfl rfl hL ?_ | refine wpB_one rfl _ _ (.bool _) rfl rfl rfl hL ?_ | refine wpB_one rfl _ _ (.pointer _) rfl rfl rfl hL ?_ | refine wpB_one rfl _ _ (.func _ _ _) rfl rfl rfl hL ?_) | (with_reducible first | refine wpH_max rfl _ _ _ _ rfl _ _ rfl rfl ?_ | refine wpH_min rfl _ _ _ _ rfl _ _ rfl rfl ?_) | ((with_reducible refine wpA_load rfl _ _ rfl _ rfl ?_); first | refine loadA hL ?_ | refine loadR hL ?_ | refine loadC hL ?_ | refine loadD ?_ | refine loadE hL ?_ | refine loadF ?_) | ((with_reducible refine wpA_index rfl _ _ _ rfl _ rfl _ rfl ?_); first | (refine indexA ?_; try rw [Int.toNat_natCast]) | refine indexC ?_) | ((with_reducible refine wpA_store rfl _ _ _ rfl _ rfl (.agg _) rfl ?_); refine storeR hL ?_; clear hL; intro _ hL) | ((with_reducible first | refine wpA_store rfl _ _ _ rfl _ rfl (.int _ _) rfl ?_ | refine wpA_store rfl _ _ _ rfl _ rfl (.slice _ _ _) rfl ?_ | refine wpA_store rfl _ _ _ rfl _ rfl (.bool _) rfl ?_ | refine wpA_store rfl _ _ _ rfl _ rfl (.pointer _) rfl ?_ | refine wpA_store rfl _ _ _ rfl _ rfl (.func _ _ _) rfl ?_); (first | refine storeA hL ?_ | refine storeO hL ?_); (clear hL; intro _ hL)) | ((with_reducible refine wpA_lit rfl _ _ _ rfl ?_); first | refine litA1 hL ?_ | refine litA2 hL ?_ | refine litA3 hL ?_ | refine litA4 hL ?_ | refine litA6 hL ?_) | ((with_reducible refine wpA_append rfl _ _ _ rfl (.slice _ _ _) rfl ?_); intro vq hvq; simp [go_sem] at hvq; subst hvq; refine appendA hL ?_; clear hL; intro _ _ _ hL; try dsimp only at hL) | ((with_reducible refine wpA_make rfl _ _ _ rfl _ rfl rfl ?_); refine makeA hL ?_))
  replace hL := hL.facts (Ψ := [RowsF (.slice sb H cb) H FB, RowsF (.slice sa 15 ca) 15 FA]) fun θ hθ => hL.firm θ (by simp only [List.mem_cons, List.not_mem_nil, or_false] at hθ ⊢; rcases hθ with h | h <;> simp [h])
  go_loopw [15] (fun s15 wr => ∃ j : Nat, j ≤ H ∧ s15 = .int .i64 j ∧ Holds w wr [blk b2 #[.int .i64 W, .int .i64 H, .slice sb H cb] 33, blk b1 #[.int .i64 15, .int .i64 15, .slice sa 15 ca] 33] [RowsF (.slice sb H cb) H FB, RowsF (.slice sa 15 ca) 15 FA])
    (fun s15 wr => H - (intOf s15).toNat)
  case atStart => exact ⟨0, by omega, rfl, hL⟩
  case round =>
    clear hL
    obtain ⟨j, hj, rfl, hL⟩ := hrel
    by_cases hjt : j < H
    · have hjb : (j : Int) < (H : Int) := by omega
      have hjc : (j : Int) < 15 := by omega
      have hj0 : (0 : Int) ≤ (j : Int) := by omega
      have HO' := Lib.hid (HO.out j)
      obtain ⟨gb, ob, ub, rfl, hb1, hb2⟩ := hL.fact0.get hjt
      obtain ⟨ga, oa, ua, rfl, ha1, ha2⟩ := hL.fact1.get (show j < 15 by omega)
      have Kb := Lib.hid ((hL.cell (o := 2) .here).trans rfl)
      have Kb0 := Lib.hid ((hL.cell (o := 0) .here).trans rfl)
      have Ka := Lib.hid ((hL.cell (o := 2) (.there .here)).trans rfl)
      have Hb2 := Lib.hid hb2; have Ha2 := Lib.hid ha2
      have Hb1 := Lib.hid hb1; have Ha1 := Lib.hid ha1
      clear hb1 hb2 ha1 ha2
      generalize FB j = rb at *
      go_wp2_with (first | (first | (clear hL n1; with_reducible intro b1 w1 hL) | (clear hL n2; with_reducible intro b2 w2 hL) | (clear hL; with_reducible intro _ _ hL)) | (with_reducible refine wpC_alloc rfl _ rfl _ _ inferInstance hL ?_) | (with_reducible first | refine wpB_agg rfl _ _ _ rfl rfl hL ?_ | refine wpB_one rfl _ _ (.int _ _) rfl rfl rfl hL ?_ | refine wpB_one rfl _ _ (.slice _ _ _) rfl rfl rfl hL ?_ | refine wpB_one rfl _ _ (.bool _) rfl rfl rfl hL ?_ | refine wpB_one rfl _ _ (.pointer _) rfl rfl rfl hL ?_ | refine wpB_one rfl _ _ (.func _ _ _) rfl rfl rfl hL ?_) | (with_reducible first | refine wpH_max rfl _ _ _ _ rfl _ _ rfl rfl ?_ | refine wpH_min rfl _ _ _ _ rfl _ _ rfl rfl ?_) | ((with_reducible refine wpA_load rfl _ _ rfl _ rfl ?_); first | refine loadA hL ?_ | refine loadR hL ?_ | refine loadC hL ?_ | refine loadD ?_ | refine loadE hL ?_ | refine loadF ?_) | ((with_reducible refine wpA_index rfl _ _ _ rfl _ rfl _ rfl ?_); first | (refine indexA ?_; try rw [Int.toNat_natCast]) | refine indexC ?_) | ((with_reducible refine wpA_store rfl _ _ _ rfl _ rfl (.agg _) rfl ?_); refine storeR hL ?_; clear hL; intro _ hL) | ((with_reducible first | refine wpA_store rfl _ _ _ rfl _ rfl (.int _ _) rfl ?_ | refine wpA_store rfl _ _ _ rfl _ rfl (.slice _ _ _) rfl ?_ | refine wpA_store rfl _ _ _ rfl _ rfl (.bool _) rfl ?_ | refine wpA_store rfl _ _ _ rfl _ rfl (.pointer _) rfl ?_ | refine wpA_store rfl _ _ _ rfl _ rfl (.func _ _ _) rfl ?_); (first | refine storeA hL ?_ | refine storeO hL ?_); (clear hL; intro _ hL)) | ((with_reducible refine wpA_lit rfl _ _ _ rfl ?_); first | refine litA1 hL ?_ | refine litA2 hL ?_ | refine litA3 hL ?_ | refine litA4 hL ?_ | refine litA6 hL ?_) | ((with_reducible refine wpA_append rfl _ _ _ rfl (.slice _ _ _) rfl ?_); intro vq hvq; simp [go_sem] at hvq; subst hvq; refine appendA hL ?_; clear hL; intro _ _ _ hL; try dsimp only at hL) | ((with_reducible refine wpA_make rfl _ _ _ rfl _ rfl rfl ?_); refine makeA hL ?_))
      refine wpH_later (by kernel_rfl) fun hS => ?_
      replace hL := hL.drew
      refine stH (i := 0) (.pointer (some ⟨b2, 2, none⟩)) hS ?_ ?_; (· exact fun w' _ => (by go_simp)); simp only [Act.put, List.setIfInBounds_toArray, List.set_cons_zero, List.set_cons_succ]
      refine stH (i := 1) (.slice (some ⟨gb, ob, none⟩) H cb) hS ?_ ?_; (· exact fun w' hw => run_loadOp _ _ rfl _ rfl _ (load_cell (later_cell hw Kb.out))); simp only [Act.put, List.setIfInBounds_toArray, List.set_cons_zero, List.set_cons_succ]
      refine stH (i := 2) (.int .i64 j) hS ?_ ?_; (· exact fun w' _ => (by go_simp)); simp only [Act.put, List.setIfInBounds_toArray, List.set_cons_zero, List.set_cons_succ]
      refine stH (i := 3) (.pointer (some ⟨gb, ob + j, none⟩)) hS ?_ ?_; (· exact fun w' _ => (by go_simp)); simp only [Act.put, List.setIfInBounds_toArray, List.set_cons_zero, List.set_cons_succ]
      refine stH (i := 4) (ub) hS ?_ ?_; (· exact fun w' hw => run_loadOp _ _ rfl _ rfl _ (load_cell (later_cell hw Hb1.out))); simp only [Act.put, List.setIfInBounds_toArray, List.set_cons_zero, List.set_cons_succ]
      refine stH (i := 5) (.pointer (some ⟨b1, 2, none⟩)) hS ?_ ?_; (· exact fun w' _ => (by go_simp)); simp only [Act.put, List.setIfInBounds_toArray, List.set_cons_zero, List.set_cons_succ]
      refine stH (i := 6) (.slice (some ⟨ga, oa, none⟩) 15 ca) hS ?_ ?_; (· exact fun w' hw => run_loadOp _ _ rfl _ rfl _ (load_cell (later_cell hw Ka.out))); simp only [Act.put, List.setIfInBounds_toArray, List.set_cons_zero, List.set_cons_succ]
      refine stH (i := 7) (.int .i64 j) hS ?_ ?_; (· exact fun w' _ => (by go_simp)); simp only [Act.put, List.setIfInBounds_toArray, List.set_cons_zero, List.set_cons_succ]
      refine stH (i := 8) (.pointer (some ⟨ga, oa + j, none⟩)) hS ?_ ?_; (· exact fun w' _ => (by go_simp)); simp only [Act.put, List.setIfInBounds_toArray, List.set_cons_zero, List.set_cons_succ]
      refine stH (i := 9) (ua) hS ?_ ?_; (· exact fun w' hw => run_loadOp _ _ rfl _ rfl _ (load_cell (later_cell hw Ha1.out))); simp only [Act.put, List.setIfInBounds_toArray, List.set_cons_zero, List.set_cons_succ]
      refine stH (i := 10) (.pointer (some ⟨b2, 0, none⟩)) hS ?_ ?_; (· exact fun w' _ => (by go_simp)); simp only [Act.put, List.setIfInBounds_toArray, List.set_cons_zero, List.set_cons_succ]
      refine stH (i := 11) (.int .i64 W) hS ?_ ?_; (· exact fun w' hw => run_loadOp _ _ rfl _ rfl _ (load_cell (later_cell hw Kb0.out))); simp only [Act.put, List.setIfInBounds_toArray, List.set_cons_zero, List.set_cons_succ]
      refine wpH_one (i := 12) (by kernel_rfl) (wpOp_of (by simp only [List.getElem?_toArray, List.getElem?_cons_zero, List.getElem?_cons_succ]; rfl) ?_)
      refine st_call rfl 24 #[ua, .int .i64 W] (by go_simp) (HO'.out _ _ (SliceAt.below Ha2.out hS)) ?_
      rintro e w' ⟨vo, rfl, hb, hf⟩
      replace hL := hL.call hb
      replace hS := later_more hS hb
      have ho := hf.now
      clear hb hf
      refine ⟨_, rfl, hS, ?_⟩
      simp only [Act.put, List.setIfInBounds_toArray, List.set_cons_zero, List.set_cons_succ]
      refine wpH_one (i := 13) (by kernel_rfl) (wpOp_of (by simp only [List.getElem?_toArray, List.getElem?_cons_zero, List.getElem?_cons_succ]; rfl) ?_)
      refine st_call rfl 14 #[ub, vo] (by go_simp) (sameR_calls _ _ _ rb (SliceAt.below Hb2.out hS) ho) ?_
      rintro e w' ⟨rfl, hb⟩
      replace hL := hL.call hb
      replace hS := later_more hS hb
      clear hb
      refine ⟨_, rfl, hS, ?_⟩
      simp only [Act.put, List.setIfInBounds_toArray, List.set_cons_zero, List.set_cons_succ]
      refine stH (i := 14) (.bool false) hS ?_ ?_; (· exact fun w' _ => (by go_simp)); simp only [Act.put, List.setIfInBounds_toArray, List.set_cons_zero, List.set_cons_succ]
      refine wpAnyH_done (by kernel_rfl) ?_ _
      clear hS
      go_wp2
      go_roundw
      case rel => exact ⟨j + 1, by omega, by go_num, hL⟩
      case measure => simp [intOf]; omega
    · have e : j = H := by omega
      subst e
      go_wp2_with (first | (first | (clear hL n1; with_reducible intro b1 w1 hL) | (clear hL n2; with_reducible intro b2 w2 hL) | (clear hL; with_reducible intro _ _ hL)) | (with_reducible refine wpC_alloc rfl _ rfl _ _ inferInstance hL ?_) | (with_reducible first | refine wpB_agg rfl _ _ _ rfl rfl hL ?_ | refine wpB_one rfl _ _ (.int _ _) rfl rfl rfl hL ?_ | refine wpB_one rfl _ _ (.slice _ _ _) rfl rfl rfl hL ?_ | refine wpB_one rfl _ _ (.bool _) rfl rfl rfl hL ?_ | refine wpB_one rfl _ _ (.pointer _) rfl rfl rfl hL ?_ | refine wpB_one rfl _ _ (.func _ _ _) rfl rfl rfl hL ?_) | (with_reducible first | refine wpH_max rfl _ _ _ _ rfl _ _ rfl rfl ?_ | refine wpH_min rfl _ _ _ _ rfl _ _ rfl rfl ?_) | ((with_reducible refine wpA_load rfl _ _ rfl _ rfl ?_); first | refine loadA hL ?_ | refine loadR hL ?_ | refine loadC hL ?_ | refine loadD ?_ | refine loadE hL ?_ | refine loadF ?_) | ((with_reducible refine wpA_index rfl _ _ _ rfl _ rfl _ rfl ?_); first | (refine indexA ?_; try rw [Int.toNat_natCast]) | refine indexC ?_) | ((with_reducible refine wpA_store rfl _ _ _ rfl _ rfl (.agg _) rfl ?_); refine storeR hL ?_; clear hL; intro _ hL) | ((with_reducible first | refine wpA_store rfl _ _ _ rfl _ rfl (.int _ _) rfl ?_ | refine wpA_store rfl _ _ _ rfl _ rfl (.slice _ _ _) rfl ?_ | refine wpA_store rfl _ _ _ rfl _ rfl (.bool _) rfl ?_ | refine wpA_store rfl _ _ _ rfl _ rfl (.pointer _) rfl ?_ | refine wpA_store rfl _ _ _ rfl _ rfl (.func _ _ _) rfl ?_); (first | refine storeA hL ?_ | refine storeO hL ?_); (clear hL; intro _ hL)) | ((with_reducible refine wpA_lit rfl _ _ _ rfl ?_); first | refine litA1 hL ?_ | refine litA2 hL ?_ | refine litA3 hL ?_ | refine litA4 hL ?_ | refine litA6 hL ?_) | ((with_reducible refine wpA_append rfl _ _ _ rfl (.slice _ _ _) rfl ?_); intro vq hvq; simp [go_sem] at hvq; subst hvq; refine appendA hL ?_; clear hL; intro _ _ _ hL; try dsimp only at hL) | ((with_reducible refine wpA_make rfl _ _ _ rfl _ rfl rfl ?_); refine makeA hL ?_))
      go_ret
      exact ⟨rfl, hL.below⟩
end Go.Proofs.Ytkgblkaihblgeaa
