/- ScanCovers returns true. -/
import Derived.Test.YtkgblkaihblgeaaScnM
import Derived.Test.YtkgblkaihblgeaaMskM
-- uses arrU
-- lit6
namespace Go.Proofs.Ytkgblkaihblgeaa
open Go.RowKit

theorem atPix_natS {W H : Nat} (q : Nat → Nat → Bool) {i j : Nat} (hi : i < W) (hj : j < H) : atPix W H q (i : Int) (j : Int) = q j i := by
  unfold atPix
  rw [decide_eq_true (show (0 : Int) ≤ (i : Int) by omega), decide_eq_true (show (i : Int) < (W : Int) by omega), decide_eq_true (show (0 : Int) ≤ (j : Int) by omega), decide_eq_true (show (j : Int) < (H : Int) by omega), Int.toNat_natCast, Int.toNat_natCast]
  rfl

set_option maxRecDepth 100000 in
set_option maxHeartbeats 8000000 in
theorem scanCovers_calls (w : World) (va : Value) (na : List Int) (ha : NumsAt w va na) (rule pw ph : Int) : Calls Try.prog 12 #[va, .int .i64 rule, .int .i64 pw, .int .i64 ph] w fun e w' => e = .returned (.bool true) ∧ Below w.heap.size w w' := by
  have hL := Holds.start w
  obtain ⟨a, cap, rfl, _⟩ := ha.parts
  have HM := Lib.hid (fun w' hb => made_calls w' _ na (SliceAt.below ha hb) true)
  clear ha
  have hmay := made_may na true
  generalize madeS na true = S at *
  have q1a := Int.emod_nonneg rule (show (2 : Int) ≠ 0 by omega)
  have q1b := Int.emod_lt_of_pos rule (show (0 : Int) < 2 by omega)
  have HP1 := Lib.hid (fun w => place_calls rule 2 (by omega) (by omega) w)
  generalize rule % 2 = r at *
  have q8a := Int.emod_nonneg pw (show (14 : Int) ≠ 0 by omega)
  have q8b := Int.emod_lt_of_pos pw (show (0 : Int) < 14 by omega)
  have q9a := Int.emod_nonneg ph (show (14 : Int) ≠ 0 by omega)
  have q9b := Int.emod_lt_of_pos ph (show (0 : Int) < 14 by omega)
  have HS1 := Lib.hid (fun w => side25_calls pw w)
  have HS2 := Lib.hid (fun w => side25_calls ph w)
  obtain ⟨W, hW⟩ : ∃ W : Nat, 1 + pw % 14 = (W : Int) := ⟨(1 + pw % 14).toNat, by omega⟩
  obtain ⟨H, hH⟩ : ∃ H : Nat, 1 + ph % 14 = (H : Int) := ⟨(1 + ph % 14).toNat, by omega⟩
  rw [hW] at HS1
  rw [hH] at HS2
  have hW0 : 0 < W := by omega
  have hW1 : W ≤ 14 := by omega
  have hH0 : 0 < H := by omega
  have hH1 : H ≤ 14 := by omega
  clear hW hH q8a q8b q9a q9b
  have hr : r = 0 ∨ r = 1 := by omega
  have hs2 : Sds W H := ⟨hW0, by omega, hH0, by omega⟩
  have hsM : Sides W H := ⟨by omega, by omega, by omega, by omega⟩
  have HA := Lib.hid (fun w' v hv => scanRegionF_calls (W := W) (H := H) rfl rfl hs2 w' v S hv hmay r hr)
  have HB := Lib.hid (fun w' v hv => coverMaskK_calls (W := W) (H := H) (n := W * H) rfl rfl rfl hsM w' v S hv hmay r hr)
  obtain ⟨P, hP⟩ : ∃ P : Nat → Nat → Bool, P = fun j i : Nat => rowP (edgesS S) r (16 * (j : Int) + 8) i := ⟨_, rfl⟩
  have hQ : (fun j i : Nat => isIn r (windG (edgesS S) (16 * (i : Int) + 8) (16 * (j : Int) + 8))) = P := hP.symm
  have hF : lineF (edgesS S) r W = fun j => runsTo (P j) W := by rw [hP]; rfl
  rw [hQ] at HB
  rw [hF] at HA
  clear hQ hF hP hr hs2 hmay
  have HH := Lib.hid (show ∀ w' v (j i : Nat), i < W → RunsAt w' v (runsTo (P j) W) → Calls Try.prog 33 #[v, .int .i64 i] w' fun r' w'' => r' = .returned (.bool (P j i)) ∧ Below w'.heap.size w' w'' from
    fun w' v j i hi hv => by
      have h := spanHas_calls w' v _ hv (i : Int)
      have e : hasP (runsTo (P j) W) (i : Int) = P j i := by
        unfold hasP
        rw [Int.toNat_natCast, inRuns_runsTo _ (by omega), decide_eq_true (show (0 : Int) ≤ (i : Int) by omega), decide_eq_true (show (i : Int) < 64 by omega), decide_eq_true hi]
        rfl
      rw [e] at h
      exact h)
  have HY := Lib.hid (show ∀ w' v (j : Nat), RunsAt w' v (runsTo (P j) W) → Calls Try.prog 35 #[v, .int .i64 W] w' fun r' w'' => r' = .returned (.bool true) ∧ Below w'.heap.size w' w'' from
    fun w' v j hv => by
      have h := spanMay_calls w' v _ hv W
      rwa [mayRuns_runsTo _ (by omega)] at h)
  have HC := Lib.hid (show ∀ w' ma (j i : Nat), i < W → j < H → MaskF (.agg #[.int .i64 W, .int .i64 H, .slice ma (W * H) (W * H)]) (pixMask W H P) w' → Calls Try.prog 37 #[.agg #[.int .i64 W, .int .i64 H, .slice ma (W * H) (W * H)], .int .i64 i, .int .i64 j] w' fun r' w'' => r' = .returned (.bool (P j i)) ∧ Below w'.heap.size w' w'' from
    fun w' ma j i hi hj h => by
      have k := hasK_calls (W := W) (H := H) (n := W * H) rfl rfl rfl hsM w' ma P h (i : Int) (j : Int)
      rwa [atPix_natS P hi hj] at k)
  clear hsM
  have n1 : True := trivial; have n2 : True := trivial
  go_enter Try.func12, Try.ntmps12
  go_wp2_with (first | (go_at_call 13; (with_reducible refine (known_calls _).mono ?_); rintro e _ ⟨rfl, hb⟩; replace hL := hL.call hb; clear hb) | (go_at_call 21; (with_reducible refine (HM.out _ hL.below).mono ?_); rintro e _ ⟨vs, rfl, hb, hf⟩; replace hL := hL.callF hb hf; clear hb hf) | (go_at_call 22; (with_reducible first | refine (HP1.out _).mono ?_); rintro e _ ⟨rfl, rfl⟩) | (go_at_call 23; (with_reducible first | refine (HS1.out _).mono ?_ | refine (HS2.out _).mono ?_); rintro e _ ⟨rfl, rfl⟩) | (go_at_call 17; (with_reducible refine (HA.out _ vs hL.fact0).mono ?_); rintro e _ ⟨sa, ca, rfl, hb, hf⟩; replace hL := hL.callF hb hf; clear hb hf) | (go_at_call 36; (with_reducible refine (HB.out _ vs hL.fact1).mono ?_); rintro e _ ⟨ma, rfl, hb, hf⟩; replace hL := hL.callF hb hf; clear hb hf) | (first | (clear hL n1; with_reducible intro b1 w1 hL) | (clear hL n2; with_reducible intro b2 w2 hL) | (clear hL; with_reducible intro _ _ hL)) | (with_reducible refine wpC_alloc rfl _ rfl _ _ inferInstance hL ?_) | (with_reducible first | refine wpB_agg rfl _ _ _ rfl rfl hL ?_ | refine wpB_one rfl _ _ (.int _ _) rfl rfl rfl hL ?_ | refine wpB_one rfl _ _ (.slice _ _ _) rfl rfl rfl hL ?_ | refine wpB_one rfl _ _ (.bool _) rfl rfl rfl hL ?_ | refine wpB_one rfl _ _ (.pointer _) rfl rfl rfl hL ?_ | refine wpB_one rfl _ _ (.func _ _ _) rfl rfl rfl hL ?_) | (with_reducible first | refine wpH_max rfl _ _ _ _ rfl _ _ rfl rfl ?_ | refine wpH_min rfl _ _ _ _ rfl _ _ rfl rfl ?_) | ((with_reducible refine wpA_load rfl _ _ rfl _ rfl ?_); first | refine loadA hL ?_ | refine loadR hL ?_ | refine loadC hL ?_ | refine loadD ?_ | refine loadE hL ?_ | refine loadF ?_) | ((with_reducible refine wpA_index rfl _ _ _ rfl _ rfl _ rfl ?_); first | (refine indexA ?_; try rw [Int.toNat_natCast]) | refine indexC ?_) | ((with_reducible refine wpA_store rfl _ _ _ rfl _ rfl (.agg _) rfl ?_); refine storeR hL ?_; clear hL; intro _ hL) | ((with_reducible first | refine wpA_store rfl _ _ _ rfl _ rfl (.int _ _) rfl ?_ | refine wpA_store rfl _ _ _ rfl _ rfl (.slice _ _ _) rfl ?_ | refine wpA_store rfl _ _ _ rfl _ rfl (.bool _) rfl ?_ | refine wpA_store rfl _ _ _ rfl _ rfl (.pointer _) rfl ?_ | refine wpA_store rfl _ _ _ rfl _ rfl (.func _ _ _) rfl ?_); (first | refine storeA hL ?_ | refine storeO hL ?_); (clear hL; intro _ hL)) | ((with_reducible refine wpA_lit rfl _ _ _ rfl ?_); first | refine litA1 hL ?_ | refine litA2 hL ?_ | refine litA3 hL ?_ | refine litA4 hL ?_ | refine litA6 hL ?_) | ((with_reducible refine wpA_append rfl _ _ _ rfl (.slice _ _ _) rfl ?_); intro vq hvq; simp [go_sem] at hvq; subst hvq; refine appendA hL ?_; clear hL; intro _ _ _ hL; try dsimp only at hL) | ((with_reducible refine wpA_make rfl _ _ _ rfl _ rfl rfl ?_); refine makeA hL ?_))
  replace hL := hL.facts (Ψ := [MaskF (.agg #[.int .i64 W, .int .i64 H, .slice ma (W * H) (W * H)]) (pixMask W H P), RowsF (.slice sa H ca) H fun j => runsTo (P j) W]) fun θ hθ => hL.firm θ (by simp only [List.mem_cons, List.not_mem_nil, or_false] at hθ ⊢; rcases hθ with h | h <;> simp [h])
  go_loopw [15] (fun s15 wr => ∃ j : Nat, j ≤ H ∧ s15 = .int .i64 j ∧ Holds w wr [blk b2 #[.int .i64 W, .int .i64 H, .slice ma (W * H) (W * H)] 39, blk b1 #[.int .i64 W, .int .i64 H, .slice sa H ca] 33] [MaskF (.agg #[.int .i64 W, .int .i64 H, .slice ma (W * H) (W * H)]) (pixMask W H P), RowsF (.slice sa H ca) H fun j => runsTo (P j) W])
    (fun s15 wr => H - (intOf s15).toNat)
  case atStart => exact ⟨0, by omega, rfl, hL⟩
  case round =>
    clear hL
    obtain ⟨j, hj, rfl, hL⟩ := hrel
    by_cases hjt : j < H
    · have hjb : (j : Int) < (H : Int) := by omega
      have hj0 : (0 : Int) ≤ (j : Int) := by omega
      have HYj := Lib.hid (fun w' v hv => HY.out w' v j hv)
      obtain ⟨gc, oc, uc, rfl, hc1, hc2⟩ := hL.fact1.get hjt
      have Hc1 := Lib.hid hc1; have Hc2 := Lib.hid hc2
      have Kc := Lib.hid ((hL.cell (o := 2) (.there .here)).trans rfl)
      have Kc0 := Lib.hid ((hL.cell (o := 0) (.there .here)).trans rfl)
      clear hc1 hc2
      go_wp2_with (first | (first | (clear hL n1; with_reducible intro b1 w1 hL) | (clear hL n2; with_reducible intro b2 w2 hL) | (clear hL; with_reducible intro _ _ hL)) | (with_reducible refine wpC_alloc rfl _ rfl _ _ inferInstance hL ?_) | (with_reducible first | refine wpB_agg rfl _ _ _ rfl rfl hL ?_ | refine wpB_one rfl _ _ (.int _ _) rfl rfl rfl hL ?_ | refine wpB_one rfl _ _ (.slice _ _ _) rfl rfl rfl hL ?_ | refine wpB_one rfl _ _ (.bool _) rfl rfl rfl hL ?_ | refine wpB_one rfl _ _ (.pointer _) rfl rfl rfl hL ?_ | refine wpB_one rfl _ _ (.func _ _ _) rfl rfl rfl hL ?_) | (with_reducible first | refine wpH_max rfl _ _ _ _ rfl _ _ rfl rfl ?_ | refine wpH_min rfl _ _ _ _ rfl _ _ rfl rfl ?_) | ((with_reducible refine wpA_load rfl _ _ rfl _ rfl ?_); first | refine loadA hL ?_ | refine loadR hL ?_ | refine loadC hL ?_ | refine loadD ?_ | refine loadE hL ?_ | refine loadF ?_) | ((with_reducible refine wpA_index rfl _ _ _ rfl _ rfl _ rfl ?_); first | (refine indexA ?_; try rw [Int.toNat_natCast]) | refine indexC ?_) | ((with_reducible refine wpA_store rfl _ _ _ rfl _ rfl (.agg _) rfl ?_); refine storeR hL ?_; clear hL; intro _ hL) | ((with_reducible first | refine wpA_store rfl _ _ _ rfl _ rfl (.int _ _) rfl ?_ | refine wpA_store rfl _ _ _ rfl _ rfl (.slice _ _ _) rfl ?_ | refine wpA_store rfl _ _ _ rfl _ rfl (.bool _) rfl ?_ | refine wpA_store rfl _ _ _ rfl _ rfl (.pointer _) rfl ?_ | refine wpA_store rfl _ _ _ rfl _ rfl (.func _ _ _) rfl ?_); (first | refine storeA hL ?_ | refine storeO hL ?_); (clear hL; intro _ hL)) | ((with_reducible refine wpA_lit rfl _ _ _ rfl ?_); first | refine litA1 hL ?_ | refine litA2 hL ?_ | refine litA3 hL ?_ | refine litA4 hL ?_ | refine litA6 hL ?_) | ((with_reducible refine wpA_append rfl _ _ _ rfl (.slice _ _ _) rfl ?_); intro vq hvq; simp [go_sem] at hvq; subst hvq; refine appendA hL ?_; clear hL; intro _ _ _ hL; try dsimp only at hL) | ((with_reducible refine wpA_make rfl _ _ _ rfl _ rfl rfl ?_); refine makeA hL ?_))
      refine wpH_later (by kernel_rfl) fun hS => ?_
      replace hL := hL.drew
      refine stH (i := 0) (.pointer (some ⟨b1, 2, none⟩)) hS ?_ ?_; (· exact fun w' _ => (by go_simp)); simp only [Act.put, List.setIfInBounds_toArray, List.set_cons_zero, List.set_cons_succ]
      refine stH (i := 1) (.slice (some ⟨gc, oc, none⟩) H ca) hS ?_ ?_; (· exact fun w' hw => run_loadOp _ _ rfl _ rfl _ (load_cell (later_cell hw Kc.out))); simp only [Act.put, List.setIfInBounds_toArray, List.set_cons_zero, List.set_cons_succ]
      refine stH (i := 2) (.int .i64 j) hS ?_ ?_; (· exact fun w' _ => (by go_simp)); simp only [Act.put, List.setIfInBounds_toArray, List.set_cons_zero, List.set_cons_succ]
      refine stH (i := 3) (.pointer (some ⟨gc, oc + j, none⟩)) hS ?_ ?_; (· exact fun w' _ => (by go_simp)); simp only [Act.put, List.setIfInBounds_toArray, List.set_cons_zero, List.set_cons_succ]
      refine stH (i := 4) (uc) hS ?_ ?_; (· exact fun w' hw => run_loadOp _ _ rfl _ rfl _ (load_cell (later_cell hw Hc1.out))); simp only [Act.put, List.setIfInBounds_toArray, List.set_cons_zero, List.set_cons_succ]
      refine stH (i := 5) (.pointer (some ⟨b1, 0, none⟩)) hS ?_ ?_; (· exact fun w' _ => (by go_simp)); simp only [Act.put, List.setIfInBounds_toArray, List.set_cons_zero, List.set_cons_succ]
      refine stH (i := 6) (.int .i64 W) hS ?_ ?_; (· exact fun w' hw => run_loadOp _ _ rfl _ rfl _ (load_cell (later_cell hw Kc0.out))); simp only [Act.put, List.setIfInBounds_toArray, List.set_cons_zero, List.set_cons_succ]
      refine wpH_one (i := 7) (by kernel_rfl) (wpOp_of (by simp only [List.getElem?_toArray, List.getElem?_cons_zero, List.getElem?_cons_succ]; rfl) ?_)
      refine st_call rfl 35 #[uc, .int .i64 W] (by go_simp) (HYj.out _ _ (SliceAt.below Hc2.out hS)) ?_
      rintro e w' ⟨rfl, hb⟩
      replace hL := hL.call hb
      replace hS := later_more hS hb
      clear hb
      refine ⟨_, rfl, hS, ?_⟩
      simp only [Act.put, List.setIfInBounds_toArray, List.set_cons_zero, List.set_cons_succ]
      refine stH (i := 8) (.bool false) hS ?_ ?_; (· exact fun w' _ => (by go_simp)); simp only [Act.put, List.setIfInBounds_toArray, List.set_cons_zero, List.set_cons_succ]
      refine wpAnyH_done (by kernel_rfl) ?_ _
      clear hS
      go_wp2
      go_loopw [16] (fun s16 wr => ∃ i : Nat, i ≤ W ∧ s16 = .int .i64 i ∧ Holds w wr [blk b2 #[.int .i64 W, .int .i64 H, .slice ma (W * H) (W * H)] 39, blk b1 #[.int .i64 W, .int .i64 H, .slice (some ⟨gc, oc, none⟩) H ca] 33] [MaskF (.agg #[.int .i64 W, .int .i64 H, .slice ma (W * H) (W * H)]) (pixMask W H P), RowsF (.slice (some ⟨gc, oc, none⟩) H ca) H fun j => runsTo (P j) W])
        (fun s16 wr => W - (intOf s16).toNat)
      case atStart => exact ⟨0, by omega, rfl, hL⟩
      case round =>
        clear hL Hc1 Hc2 Kc Kc0 HYj
        obtain ⟨i, hi, rfl, hL⟩ := hrel
        by_cases hit : i < W
        · have hib : (i : Int) < (W : Int) := by omega
          have hi0 : (0 : Int) ≤ (i : Int) := by omega
          have HX := Lib.hid (fun w' v hv => HH.out w' v j i hit hv)
          have HM2 := Lib.hid (fun w' h => HC.out w' ma j i hit hjt h)
          generalize P j i = q at *
          obtain ⟨gd, od, uc, hsa, hc1, hc2⟩ := hL.fact1.get hjt
          injection hsa with hsa
          injection hsa with e1 e2 e3
          subst e1; subst e2
          have Hc1 := Lib.hid hc1; have Hc2 := Lib.hid hc2
          have Kc := Lib.hid ((hL.cell (o := 2) (.there .here)).trans rfl)
          have Kc0 := Lib.hid ((hL.cell (o := 0) (.there .here)).trans rfl)
          clear hc1 hc2
          have Km := Lib.hid (hL.range .here)
          go_wp2_with (first | (first | (clear hL n1; with_reducible intro b1 w1 hL) | (clear hL n2; with_reducible intro b2 w2 hL) | (clear hL; with_reducible intro _ _ hL)) | (with_reducible refine wpC_alloc rfl _ rfl _ _ inferInstance hL ?_) | (with_reducible first | refine wpB_agg rfl _ _ _ rfl rfl hL ?_ | refine wpB_one rfl _ _ (.int _ _) rfl rfl rfl hL ?_ | refine wpB_one rfl _ _ (.slice _ _ _) rfl rfl rfl hL ?_ | refine wpB_one rfl _ _ (.bool _) rfl rfl rfl hL ?_ | refine wpB_one rfl _ _ (.pointer _) rfl rfl rfl hL ?_ | refine wpB_one rfl _ _ (.func _ _ _) rfl rfl rfl hL ?_) | (with_reducible first | refine wpH_max rfl _ _ _ _ rfl _ _ rfl rfl ?_ | refine wpH_min rfl _ _ _ _ rfl _ _ rfl rfl ?_) | ((with_reducible refine wpA_load rfl _ _ rfl _ rfl ?_); first | refine loadA hL ?_ | refine loadR hL ?_ | refine loadC hL ?_ | refine loadD ?_ | refine loadE hL ?_ | refine loadF ?_) | ((with_reducible refine wpA_index rfl _ _ _ rfl _ rfl _ rfl ?_); first | (refine indexA ?_; try rw [Int.toNat_natCast]) | refine indexC ?_) | ((with_reducible refine wpA_store rfl _ _ _ rfl _ rfl (.agg _) rfl ?_); refine storeR hL ?_; clear hL; intro _ hL) | ((with_reducible first | refine wpA_store rfl _ _ _ rfl _ rfl (.int _ _) rfl ?_ | refine wpA_store rfl _ _ _ rfl _ rfl (.slice _ _ _) rfl ?_ | refine wpA_store rfl _ _ _ rfl _ rfl (.bool _) rfl ?_ | refine wpA_store rfl _ _ _ rfl _ rfl (.pointer _) rfl ?_ | refine wpA_store rfl _ _ _ rfl _ rfl (.func _ _ _) rfl ?_); (first | refine storeA hL ?_ | refine storeO hL ?_); (clear hL; intro _ hL)) | ((with_reducible refine wpA_lit rfl _ _ _ rfl ?_); first | refine litA1 hL ?_ | refine litA2 hL ?_ | refine litA3 hL ?_ | refine litA4 hL ?_ | refine litA6 hL ?_) | ((with_reducible refine wpA_append rfl _ _ _ rfl (.slice _ _ _) rfl ?_); intro vq hvq; simp [go_sem] at hvq; subst hvq; refine appendA hL ?_; clear hL; intro _ _ _ hL; try dsimp only at hL) | ((with_reducible refine wpA_make rfl _ _ _ rfl _ rfl rfl ?_); refine makeA hL ?_))
          refine wpH_later (by kernel_rfl) fun hS => ?_
          replace hL := hL.drew
          refine stH (i := 0) (.pointer (some ⟨b1, 2, none⟩)) hS ?_ ?_; (· exact fun w' _ => (by go_simp)); simp only [Act.put, List.setIfInBounds_toArray, List.set_cons_zero, List.set_cons_succ]
          refine stH (i := 1) (.slice (some ⟨gc, oc, none⟩) H ca) hS ?_ ?_; (· exact fun w' hw => run_loadOp _ _ rfl _ rfl _ (load_cell (later_cell hw Kc.out))); simp only [Act.put, List.setIfInBounds_toArray, List.set_cons_zero, List.set_cons_succ]
          refine stH (i := 2) (.int .i64 j) hS ?_ ?_; (· exact fun w' _ => (by go_simp)); simp only [Act.put, List.setIfInBounds_toArray, List.set_cons_zero, List.set_cons_succ]
          refine stH (i := 3) (.pointer (some ⟨gc, oc + j, none⟩)) hS ?_ ?_; (· exact fun w' _ => (by go_simp)); simp only [Act.put, List.setIfInBounds_toArray, List.set_cons_zero, List.set_cons_succ]
          refine stH (i := 4) (uc) hS ?_ ?_; (· exact fun w' hw => run_loadOp _ _ rfl _ rfl _ (load_cell (later_cell hw Hc1.out))); simp only [Act.put, List.setIfInBounds_toArray, List.set_cons_zero, List.set_cons_succ]
          refine stH (i := 5) (.int .i64 i) hS ?_ ?_; (· exact fun w' _ => (by go_simp)); simp only [Act.put, List.setIfInBounds_toArray, List.set_cons_zero, List.set_cons_succ]
          refine stH (i := 7) (.agg #[.int .i64 W, .int .i64 H, .slice ma (W * H) (W * H)]) hS ?_ ?_; (· exact fun w' hw => run_loadOp _ _ rfl _ rfl _ (load_range (cs := #[.int .i64 W, .int .i64 H, .slice ma (W * H) (W * H)]) rfl (rangeAt_below Km.out hw))); simp only [Act.put, List.setIfInBounds_toArray, List.set_cons_zero, List.set_cons_succ]
          refine stH (i := 8) (.int .i64 i) hS ?_ ?_; (· exact fun w' _ => (by go_simp)); simp only [Act.put, List.setIfInBounds_toArray, List.set_cons_zero, List.set_cons_succ]
          refine stH (i := 9) (.int .i64 j) hS ?_ ?_; (· exact fun w' _ => (by go_simp)); simp only [Act.put, List.setIfInBounds_toArray, List.set_cons_zero, List.set_cons_succ]
          refine wpH_one (i := 6) (by kernel_rfl) (wpOp_of (by simp only [List.getElem?_toArray, List.getElem?_cons_zero, List.getElem?_cons_succ]; rfl) ?_)
          refine st_call rfl 33 #[uc, .int .i64 i] (by go_simp) (HX.out _ _ (SliceAt.below Hc2.out hS)) ?_
          rintro e w' ⟨rfl, hb⟩
          replace hL := hL.call hb
          replace hS := later_more hS hb
          clear hb
          refine ⟨_, rfl, hS, ?_⟩
          simp only [Act.put, List.setIfInBounds_toArray, List.set_cons_zero, List.set_cons_succ]
          refine wpH_one (i := 10) (by kernel_rfl) (wpOp_of (by simp only [List.getElem?_toArray, List.getElem?_cons_zero, List.getElem?_cons_succ]; rfl) ?_)
          refine st_call rfl 37 #[.agg #[.int .i64 W, .int .i64 H, .slice ma (W * H) (W * H)], .int .i64 i, .int .i64 j] (by go_simp) (HM2.out _ hL.fact0) ?_
          rintro e w' ⟨rfl, hb⟩
          replace hL := hL.call hb
          replace hS := later_more hS hb
          clear hb
          refine ⟨_, rfl, hS, ?_⟩
          simp only [Act.put, List.setIfInBounds_toArray, List.set_cons_zero, List.set_cons_succ]
          refine stH (i := 11) (.bool false) hS ?_ ?_; (· exact fun w' _ => (by go_simp)); simp only [Act.put, List.setIfInBounds_toArray, List.set_cons_zero, List.set_cons_succ]
          refine wpAnyH_done (by kernel_rfl) ?_ _
          clear hS
          go_wp2
          go_roundw
          case rel => exact ⟨i + 1, by omega, by go_num, hL⟩
          case measure => simp [intOf]; omega
        · have e : i = W := by omega
          subst e
          go_wp2_with (first | (first | (clear hL n1; with_reducible intro b1 w1 hL) | (clear hL n2; with_reducible intro b2 w2 hL) | (clear hL; with_reducible intro _ _ hL)) | (with_reducible refine wpC_alloc rfl _ rfl _ _ inferInstance hL ?_) | (with_reducible first | refine wpB_agg rfl _ _ _ rfl rfl hL ?_ | refine wpB_one rfl _ _ (.int _ _) rfl rfl rfl hL ?_ | refine wpB_one rfl _ _ (.slice _ _ _) rfl rfl rfl hL ?_ | refine wpB_one rfl _ _ (.bool _) rfl rfl rfl hL ?_ | refine wpB_one rfl _ _ (.pointer _) rfl rfl rfl hL ?_ | refine wpB_one rfl _ _ (.func _ _ _) rfl rfl rfl hL ?_) | (with_reducible first | refine wpH_max rfl _ _ _ _ rfl _ _ rfl rfl ?_ | refine wpH_min rfl _ _ _ _ rfl _ _ rfl rfl ?_) | ((with_reducible refine wpA_load rfl _ _ rfl _ rfl ?_); first | refine loadA hL ?_ | refine loadR hL ?_ | refine loadC hL ?_ | refine loadD ?_ | refine loadE hL ?_ | refine loadF ?_) | ((with_reducible refine wpA_index rfl _ _ _ rfl _ rfl _ rfl ?_); first | (refine indexA ?_; try rw [Int.toNat_natCast]) | refine indexC ?_) | ((with_reducible refine wpA_store rfl _ _ _ rfl _ rfl (.agg _) rfl ?_); refine storeR hL ?_; clear hL; intro _ hL) | ((with_reducible first | refine wpA_store rfl _ _ _ rfl _ rfl (.int _ _) rfl ?_ | refine wpA_store rfl _ _ _ rfl _ rfl (.slice _ _ _) rfl ?_ | refine wpA_store rfl _ _ _ rfl _ rfl (.bool _) rfl ?_ | refine wpA_store rfl _ _ _ rfl _ rfl (.pointer _) rfl ?_ | refine wpA_store rfl _ _ _ rfl _ rfl (.func _ _ _) rfl ?_); (first | refine storeA hL ?_ | refine storeO hL ?_); (clear hL; intro _ hL)) | ((with_reducible refine wpA_lit rfl _ _ _ rfl ?_); first | refine litA1 hL ?_ | refine litA2 hL ?_ | refine litA3 hL ?_ | refine litA4 hL ?_ | refine litA6 hL ?_) | ((with_reducible refine wpA_append rfl _ _ _ rfl (.slice _ _ _) rfl ?_); intro vq hvq; simp [go_sem] at hvq; subst hvq; refine appendA hL ?_; clear hL; intro _ _ _ hL; try dsimp only at hL) | ((with_reducible refine wpA_make rfl _ _ _ rfl _ rfl rfl ?_); refine makeA hL ?_))
          go_roundw
          case rel => exact ⟨j + 1, by omega, by go_num, hL⟩
          case measure => simp [intOf]; omega
    · have e : j = H := by omega
      subst e
      go_wp2_with (first | (first | (clear hL n1; with_reducible intro b1 w1 hL) | (clear hL n2; with_reducible intro b2 w2 hL) | (clear hL; with_reducible intro _ _ hL)) | (with_reducible refine wpC_alloc rfl _ rfl _ _ inferInstance hL ?_) | (with_reducible first | refine wpB_agg rfl _ _ _ rfl rfl hL ?_ | refine wpB_one rfl _ _ (.int _ _) rfl rfl rfl hL ?_ | refine wpB_one rfl _ _ (.slice _ _ _) rfl rfl rfl hL ?_ | refine wpB_one rfl _ _ (.bool _) rfl rfl rfl hL ?_ | refine wpB_one rfl _ _ (.pointer _) rfl rfl rfl hL ?_ | refine wpB_one rfl _ _ (.func _ _ _) rfl rfl rfl hL ?_) | (with_reducible first | refine wpH_max rfl _ _ _ _ rfl _ _ rfl rfl ?_ | refine wpH_min rfl _ _ _ _ rfl _ _ rfl rfl ?_) | ((with_reducible refine wpA_load rfl _ _ rfl _ rfl ?_); first | refine loadA hL ?_ | refine loadR hL ?_ | refine loadC hL ?_ | refine loadD ?_ | refine loadE hL ?_ | refine loadF ?_) | ((with_reducible refine wpA_index rfl _ _ _ rfl _ rfl _ rfl ?_); first | (refine indexA ?_; try rw [Int.toNat_natCast]) | refine indexC ?_) | ((with_reducible refine wpA_store rfl _ _ _ rfl _ rfl (.agg _) rfl ?_); refine storeR hL ?_; clear hL; intro _ hL) | ((with_reducible first | refine wpA_store rfl _ _ _ rfl _ rfl (.int _ _) rfl ?_ | refine wpA_store rfl _ _ _ rfl _ rfl (.slice _ _ _) rfl ?_ | refine wpA_store rfl _ _ _ rfl _ rfl (.bool _) rfl ?_ | refine wpA_store rfl _ _ _ rfl _ rfl (.pointer _) rfl ?_ | refine wpA_store rfl _ _ _ rfl _ rfl (.func _ _ _) rfl ?_); (first | refine storeA hL ?_ | refine storeO hL ?_); (clear hL; intro _ hL)) | ((with_reducible refine wpA_lit rfl _ _ _ rfl ?_); first | refine litA1 hL ?_ | refine litA2 hL ?_ | refine litA3 hL ?_ | refine litA4 hL ?_ | refine litA6 hL ?_) | ((with_reducible refine wpA_append rfl _ _ _ rfl (.slice _ _ _) rfl ?_); intro vq hvq; simp [go_sem] at hvq; subst hvq; refine appendA hL ?_; clear hL; intro _ _ _ hL; try dsimp only at hL) | ((with_reducible refine wpA_make rfl _ _ _ rfl _ rfl rfl ?_); refine makeA hL ?_))
      go_ret
      exact ⟨rfl, hL.below⟩
end Go.Proofs.Ytkgblkaihblgeaa
