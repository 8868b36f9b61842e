/- ScanSums returns true. -/
import Derived.Test.YtkgblkaihblgeaaScnM
import Derived.Test.YtkgblkaihblgeaaJnM
import Derived.Test.YtkgblkaihblgeaaBoxM
-- lit6
namespace Go.Proofs.Ytkgblkaihblgeaa
open Go.RowKit

set_option maxRecDepth 100000 in
set_option maxHeartbeats 8000000 in
theorem scanSums_calls (w : World) (va vb : Value) (na nb : List Int) (ha : NumsAt w va na) (hb : NumsAt w vb nb) : Calls Try.prog 10 #[va, vb] w fun e w' => e = .returned (.bool true) ∧ Below w.heap.size w w' := by
  have hs : Sds 14 14 := ⟨by decide, by decide, by decide, by decide⟩
  have hL := Holds.start w
  obtain ⟨a, cap, rfl, _⟩ := ha.parts
  obtain ⟨a', cap', rfl, _⟩ := hb.parts
  have HM1 := Lib.hid (fun w' hb => made_calls w' _ na (SliceAt.below ha hb) true)
  have HM2 := Lib.hid (fun w' h => made_calls w' _ nb (SliceAt.below hb h) true)
  clear ha hb
  have m1 := made_may na true
  have m2 := made_may nb true
  have l1 := (made_good na true).2
  have l2 := (made_good nb true).2
  generalize madeS na true = S1 at *
  generalize madeS nb true = S2 at *
  obtain ⟨mj, ej⟩ := join_law m1 m2 (by omega)
  obtain ⟨mk, ek⟩ := join_law m2 m1 (by omega)
  have HJ := Lib.hid (fun w' v u hv hu => join_calls w' v u S1 S2 hv hu m1 m2 (by omega))
  have HK := Lib.hid (fun w' v u hv hu => join_calls w' v u S2 S1 hv hu m2 m1 (by omega))
  have HA := Lib.hid (fun w' v hv => scanRegionF_calls (W := 14) (H := 14) (Wi := 14) (Hi := 14) rfl rfl hs w' v S1 hv m1 1 (.inr rfl))
  have HB := Lib.hid (fun w' v hv => scanRegionF_calls (W := 14) (H := 14) (Wi := 14) (Hi := 14) rfl rfl hs w' v S2 hv m2 1 (.inr rfl))
  have HC := Lib.hid (fun w' v hv => scanRegionF_calls (W := 14) (H := 14) (Wi := 14) (Hi := 14) rfl rfl hs w' v (joinS S1 S2) hv mj 1 (.inr rfl))
  have HD := Lib.hid (fun w' v hv => scanRegionF_calls (W := 14) (H := 14) (Wi := 14) (Hi := 14) rfl rfl hs w' v (joinS S2 S1) hv mk 1 (.inr rfl))
  rw [show lineF (edgesS (joinS S2 S1)) 1 14 = lineF (edgesS (joinS S1 S2)) 1 14 from lineF_congr fun x y => by rw [ej, ek, windG_append, windG_append, Int.add_comm]] at HD
  have HO := Lib.hid (show ∀ j w' u v, RunsAt w' u (lineF (edgesS S1) 1 14 j) → RunsAt w' v (lineF (edgesS S2) 1 14 j) → Calls Try.prog 27 #[u, v] w' (RunsOut (lineF (edgesS (joinS S1 S2)) 1 14 j) w') from fun j w' u v hu hv => by
    have h := spanOther_calls w' u v _ _ hu hv
    unfold lineF at h
    rw [other_runs _ _ (by omega)] at h
    have e : lineF (edgesS (joinS S1 S2)) 1 14 j = runsTo (fun i => rowP (edgesS S1) 1 (16 * (j : Int) + 8) i != rowP (edgesS S2) 1 (16 * (j : Int) + 8) i) 14 := runsTo_congr fun i _ => by
      unfold rowP
      rw [ej, windG_append, odd_add]
    rw [e]
    exact h)
  clear m1 m2 l1 l2 mj mk ej ek
  generalize lineF (edgesS S1) 1 14 = FA at *
  generalize lineF (edgesS S2) 1 14 = FB at *
  generalize lineF (edgesS (joinS S1 S2)) 1 14 = FC at *
  generalize joinS S1 S2 = J at *
  generalize joinS S2 S1 = K at *
  have n1 : True := trivial; have n2 : True := trivial; have n3 : True := trivial; have n4 : True := trivial
  go_enter Try.func10, Try.ntmps10
  go_wp2_with (first | (go_at_call 13; (with_reducible refine (known_calls _).mono ?_); rintro e _ ⟨rfl, hb⟩; replace hL := hL.call hb; clear hb) | (go_at_call 21; (first | ((with_reducible refine (HM1.out _ hL.below).mono ?_); rintro e _ ⟨vs, rfl, hb, hf⟩) | ((with_reducible refine (HM2.out _ hL.below).mono ?_); rintro e _ ⟨vt, rfl, hb, hf⟩)); replace hL := hL.callF hb hf; clear hb hf) | (go_at_call 32; (first | ((with_reducible refine (HJ.out _ vs vt hL.fact1 hL.fact0).mono ?_); rintro e _ ⟨vj, rfl, hb, hf⟩) | ((with_reducible refine (HK.out _ vt vs hL.fact1 hL.fact2).mono ?_); rintro e _ ⟨vk, rfl, hb, hf⟩)); replace hL := hL.callF hb hf; clear hb hf) | (go_at_call 17; (first | ((with_reducible refine (HA.out _ vs hL.fact3).mono ?_); rintro e _ ⟨sa, ca, rfl, hb, hf⟩) | ((with_reducible refine (HB.out _ vt hL.fact3).mono ?_); rintro e _ ⟨sb, cb, rfl, hb, hf⟩) | ((with_reducible refine (HC.out _ vj hL.fact3).mono ?_); rintro e _ ⟨sc, cc, rfl, hb, hf⟩) | ((with_reducible refine (HD.out _ vk hL.fact3).mono ?_); rintro e _ ⟨sd, cd, rfl, hb, hf⟩)); replace hL := hL.callF hb hf; clear hb hf) | (go_at_call 19; (with_reducible first | refine (helpRegionR_calls _ hL.fact1 hL.fact0).mono ?_); rintro e _ ⟨rfl, hb⟩; replace hL := hL.call hb; clear hb) | (first | (clear hL n1; with_reducible intro b1 w1 hL) | (clear hL n2; with_reducible intro b2 w2 hL) | (clear hL n3; with_reducible intro b3 w3 hL) | (clear hL n4; with_reducible intro b4 w4 hL) | (clear hL; with_reducible intro _ _ hL)) | (with_reducible refine wpC_alloc rfl _ rfl _ _ inferInstance hL ?_) | (with_reducible first | refine wpB_agg rfl _ _ _ rfl rfl hL ?_ | refine wpB_one rfl _ _ (.int _ _) rfl rfl rfl hL ?_ | refine wpB_one rfl _ _ (.slice _ _ _) rfl rfl rfl hL ?_ | refine wpB_one rfl _ _ (.bool _) rfl rfl rfl hL ?_ | refine wpB_one rfl _ _ (.pointer _) rfl rfl rfl hL ?_ | refine wpB_one rfl _ _ (.func _ _ _) rfl rfl rfl hL ?_) | (with_reducible first | refine wpH_max rfl _ _ _ _ rfl _ _ rfl rfl ?_ | refine wpH_min rfl _ _ _ _ rfl _ _ rfl rfl ?_) | ((with_reducible refine wpA_load rfl _ _ rfl _ rfl ?_); first | refine loadA hL ?_ | refine loadR hL ?_ | refine loadC hL ?_ | refine loadD ?_ | refine loadE hL ?_ | refine loadF ?_) | ((with_reducible refine wpA_index rfl _ _ _ rfl _ rfl _ rfl ?_); first | (refine indexA ?_; try rw [Int.toNat_natCast]) | refine indexC ?_) | ((with_reducible refine wpA_store rfl _ _ _ rfl _ rfl (.agg _) rfl ?_); refine storeR hL ?_; clear hL; intro _ hL) | ((with_reducible first | refine wpA_store rfl _ _ _ rfl _ rfl (.int _ _) rfl ?_ | refine wpA_store rfl _ _ _ rfl _ rfl (.slice _ _ _) rfl ?_ | refine wpA_store rfl _ _ _ rfl _ rfl (.bool _) rfl ?_ | refine wpA_store rfl _ _ _ rfl _ rfl (.pointer _) rfl ?_ | refine wpA_store rfl _ _ _ rfl _ rfl (.func _ _ _) rfl ?_); (first | refine storeA hL ?_ | refine storeO hL ?_); (clear hL; intro _ hL)) | ((with_reducible refine wpA_lit rfl _ _ _ rfl ?_); first | refine litA1 hL ?_ | refine litA2 hL ?_ | refine litA3 hL ?_ | refine litA4 hL ?_ | refine litA6 hL ?_) | ((with_reducible refine wpA_append rfl _ _ _ rfl (.slice _ _ _) rfl ?_); intro vq hvq; simp [go_sem] at hvq; subst hvq; refine appendA hL ?_; clear hL; intro _ _ _ hL; try dsimp only at hL) | ((with_reducible refine wpA_make rfl _ _ _ rfl _ rfl rfl ?_); refine makeA hL ?_))
  have hR : RowsF (.slice sa 14 ca) 14 FA _ ∧ True := ⟨hL.fact3, trivial⟩
  clear hR
  replace hL := hL.facts (Ψ := [RowsF (.slice sc 14 cc) 14 FC, RowsF (.slice sb 14 cb) 14 FB, RowsF (.slice sa 14 ca) 14 FA]) fun θ hθ => hL.firm θ (by simp only [List.mem_cons, List.not_mem_nil, or_false] at hθ ⊢; rcases hθ with h | h | h <;> simp [h])
  go_loopw [19] (fun s19 wr => ∃ j : Nat, j ≤ 14 ∧ s19 = .int .i64 j ∧ Holds w wr [blk b4 #[.int .i64 14, .int .i64 14, .slice sd 14 cd] 33, blk b3 #[.int .i64 14, .int .i64 14, .slice sc 14 cc] 33, blk b2 #[.int .i64 14, .int .i64 14, .slice sb 14 cb] 33, blk b1 #[.int .i64 14, .int .i64 14, .slice sa 14 ca] 33] [RowsF (.slice sc 14 cc) 14 FC, RowsF (.slice sb 14 cb) 14 FB, RowsF (.slice sa 14 ca) 14 FA])
    (fun s19 wr => 14 - (intOf s19).toNat)
  case atStart => exact ⟨0, by omega, rfl, hL⟩
  case round =>
    clear hL
    obtain ⟨j, hj, rfl, hL⟩ := hrel
    by_cases hjt : j < 14
    · have hjb : (j : Int) < 14 := by omega
      have hj0 : (0 : Int) ≤ (j : Int) := by omega
      have HO' := Lib.hid (HO.out j)
      obtain ⟨gc, oc, uc, rfl, hc1, hc2⟩ := hL.fact0.get hjt
      obtain ⟨gb, ob, ub, rfl, hb1, hb2⟩ := hL.fact1.get hjt
      obtain ⟨ga, oa, ua, rfl, ha1, ha2⟩ := hL.fact2.get hjt
      have kc := (hL.cell (o := 2) (.there .here)).trans rfl
      have kb := (hL.cell (o := 2) (.there (.there .here))).trans rfl
      have ka := (hL.cell (o := 2) (.there (.there (.there .here)))).trans rfl
      have Hc2 := Lib.hid hc2; have Hb2 := Lib.hid hb2; have Ha2 := Lib.hid ha2
      have Hc1 := Lib.hid hc1; have Hb1 := Lib.hid hb1; have Ha1 := Lib.hid ha1
      have Kc := Lib.hid kc; have Kb := Lib.hid kb; have Ka := Lib.hid ka
      clear hc1 hc2 hb1 hb2 ha1 ha2 ka kb kc
      generalize FC j = rc at *
      go_wp2_with (first | (first | (clear hL n1; with_reducible intro b1 w1 hL) | (clear hL n2; with_reducible intro b2 w2 hL) | (clear hL n3; with_reducible intro b3 w3 hL) | (clear hL n4; with_reducible intro b4 w4 hL) | (clear hL; with_reducible intro _ _ hL)) | (with_reducible refine wpC_alloc rfl _ rfl _ _ inferInstance hL ?_) | (with_reducible first | refine wpB_agg rfl _ _ _ rfl rfl hL ?_ | refine wpB_one rfl _ _ (.int _ _) rfl rfl rfl hL ?_ | refine wpB_one rfl _ _ (.slice _ _ _) rfl rfl rfl hL ?_ | refine wpB_one rfl _ _ (.bool _) rfl rfl rfl hL ?_ | refine wpB_one rfl _ _ (.pointer _) rfl rfl rfl hL ?_ | refine wpB_one rfl _ _ (.func _ _ _) rfl rfl rfl hL ?_) | (with_reducible first | refine wpH_max rfl _ _ _ _ rfl _ _ rfl rfl ?_ | refine wpH_min rfl _ _ _ _ rfl _ _ rfl rfl ?_) | ((with_reducible refine wpA_load rfl _ _ rfl _ rfl ?_); first | refine loadA hL ?_ | refine loadR hL ?_ | refine loadC hL ?_ | refine loadD ?_ | refine loadE hL ?_ | refine loadF ?_) | ((with_reducible refine wpA_index rfl _ _ _ rfl _ rfl _ rfl ?_); first | (refine indexA ?_; try rw [Int.toNat_natCast]) | refine indexC ?_) | ((with_reducible refine wpA_store rfl _ _ _ rfl _ rfl (.agg _) rfl ?_); refine storeR hL ?_; clear hL; intro _ hL) | ((with_reducible first | refine wpA_store rfl _ _ _ rfl _ rfl (.int _ _) rfl ?_ | refine wpA_store rfl _ _ _ rfl _ rfl (.slice _ _ _) rfl ?_ | refine wpA_store rfl _ _ _ rfl _ rfl (.bool _) rfl ?_ | refine wpA_store rfl _ _ _ rfl _ rfl (.pointer _) rfl ?_ | refine wpA_store rfl _ _ _ rfl _ rfl (.func _ _ _) rfl ?_); (first | refine storeA hL ?_ | refine storeO hL ?_); (clear hL; intro _ hL)) | ((with_reducible refine wpA_lit rfl _ _ _ rfl ?_); first | refine litA1 hL ?_ | refine litA2 hL ?_ | refine litA3 hL ?_ | refine litA4 hL ?_ | refine litA6 hL ?_) | ((with_reducible refine wpA_append rfl _ _ _ rfl (.slice _ _ _) rfl ?_); intro vq hvq; simp [go_sem] at hvq; subst hvq; refine appendA hL ?_; clear hL; intro _ _ _ hL; try dsimp only at hL) | ((with_reducible refine wpA_make rfl _ _ _ rfl _ rfl rfl ?_); refine makeA hL ?_))
      refine wpH_later (by kernel_rfl) fun hS => ?_
      replace hL := hL.drew
      refine stH (i := 0) (.pointer (some ⟨b3, 2, none⟩)) hS ?_ ?_; (· exact fun w' _ => (by go_simp)); simp only [Act.put, List.setIfInBounds_toArray, List.set_cons_zero, List.set_cons_succ]
      refine stH (i := 1) (.slice (some ⟨gc, oc, none⟩) 14 cc) hS ?_ ?_; (· exact fun w' hw => run_loadOp _ _ rfl _ rfl _ (load_cell (later_cell hw Kc.out))); simp only [Act.put, List.setIfInBounds_toArray, List.set_cons_zero, List.set_cons_succ]
      refine stH (i := 2) (.int .i64 j) hS ?_ ?_; (· exact fun w' _ => (by go_simp)); simp only [Act.put, List.setIfInBounds_toArray, List.set_cons_zero, List.set_cons_succ]
      refine stH (i := 3) (.pointer (some ⟨gc, oc + j, none⟩)) hS ?_ ?_; (· exact fun w' _ => (by go_simp)); simp only [Act.put, List.setIfInBounds_toArray, List.set_cons_zero, List.set_cons_succ]
      refine stH (i := 4) (uc) hS ?_ ?_; (· exact fun w' hw => run_loadOp _ _ rfl _ rfl _ (load_cell (later_cell hw Hc1.out))); simp only [Act.put, List.setIfInBounds_toArray, List.set_cons_zero, List.set_cons_succ]
      refine stH (i := 5) (.pointer (some ⟨b1, 2, none⟩)) hS ?_ ?_; (· exact fun w' _ => (by go_simp)); simp only [Act.put, List.setIfInBounds_toArray, List.set_cons_zero, List.set_cons_succ]
      refine stH (i := 6) (.slice (some ⟨ga, oa, none⟩) 14 ca) hS ?_ ?_; (· exact fun w' hw => run_loadOp _ _ rfl _ rfl _ (load_cell (later_cell hw Ka.out))); simp only [Act.put, List.setIfInBounds_toArray, List.set_cons_zero, List.set_cons_succ]
      refine stH (i := 7) (.int .i64 j) hS ?_ ?_; (· exact fun w' _ => (by go_simp)); simp only [Act.put, List.setIfInBounds_toArray, List.set_cons_zero, List.set_cons_succ]
      refine stH (i := 8) (.pointer (some ⟨ga, oa + j, none⟩)) hS ?_ ?_; (· exact fun w' _ => (by go_simp)); simp only [Act.put, List.setIfInBounds_toArray, List.set_cons_zero, List.set_cons_succ]
      refine stH (i := 9) (ua) hS ?_ ?_; (· exact fun w' hw => run_loadOp _ _ rfl _ rfl _ (load_cell (later_cell hw Ha1.out))); simp only [Act.put, List.setIfInBounds_toArray, List.set_cons_zero, List.set_cons_succ]
      refine stH (i := 10) (.pointer (some ⟨b2, 2, none⟩)) hS ?_ ?_; (· exact fun w' _ => (by go_simp)); simp only [Act.put, List.setIfInBounds_toArray, List.set_cons_zero, List.set_cons_succ]
      refine stH (i := 11) (.slice (some ⟨gb, ob, none⟩) 14 cb) hS ?_ ?_; (· exact fun w' hw => run_loadOp _ _ rfl _ rfl _ (load_cell (later_cell hw Kb.out))); simp only [Act.put, List.setIfInBounds_toArray, List.set_cons_zero, List.set_cons_succ]
      refine stH (i := 12) (.int .i64 j) hS ?_ ?_; (· exact fun w' _ => (by go_simp)); simp only [Act.put, List.setIfInBounds_toArray, List.set_cons_zero, List.set_cons_succ]
      refine stH (i := 13) (.pointer (some ⟨gb, ob + j, none⟩)) hS ?_ ?_; (· exact fun w' _ => (by go_simp)); simp only [Act.put, List.setIfInBounds_toArray, List.set_cons_zero, List.set_cons_succ]
      refine stH (i := 14) (ub) hS ?_ ?_; (· exact fun w' hw => run_loadOp _ _ rfl _ rfl _ (load_cell (later_cell hw Hb1.out))); simp only [Act.put, List.setIfInBounds_toArray, List.set_cons_zero, List.set_cons_succ]
      refine wpH_one (i := 15) (by kernel_rfl) (wpOp_of (by simp only [List.getElem?_toArray, List.getElem?_cons_zero, List.getElem?_cons_succ]; rfl) ?_)
      refine st_call rfl 27 #[ua, ub] (by go_simp) (HO'.out _ _ _ (SliceAt.below Ha2.out hS) (SliceAt.below Hb2.out hS)) ?_
      rintro e w' ⟨vo, rfl, hb, hf⟩
      replace hL := hL.call hb
      replace hS := later_more hS hb
      have ho := hf.now
      clear hb hf
      refine ⟨_, rfl, hS, ?_⟩
      simp only [Act.put, List.setIfInBounds_toArray, List.set_cons_zero, List.set_cons_succ]
      refine wpH_one (i := 16) (by kernel_rfl) (wpOp_of (by simp only [List.getElem?_toArray, List.getElem?_cons_zero, List.getElem?_cons_succ]; rfl) ?_)
      refine st_call rfl 14 #[uc, vo] (by go_simp) (sameR_calls _ _ _ rc (SliceAt.below Hc2.out hS) ho) ?_
      rintro e w' ⟨rfl, hb⟩
      replace hL := hL.call hb
      replace hS := later_more hS hb
      clear hb
      refine ⟨_, rfl, hS, ?_⟩
      simp only [Act.put, List.setIfInBounds_toArray, List.set_cons_zero, List.set_cons_succ]
      refine stH (i := 17) (.bool false) hS ?_ ?_; (· exact fun w' _ => (by go_simp)); simp only [Act.put, List.setIfInBounds_toArray, List.set_cons_zero, List.set_cons_succ]
      refine wpAnyH_done (by kernel_rfl) ?_ _
      clear hS
      go_wp2
      go_roundw
      case rel => exact ⟨j + 1, by omega, by go_num, hL⟩
      case measure => simp [intOf]; omega
    · have e : j = 14 := by omega
      subst e
      go_wp2_with (first | (first | (clear hL n1; with_reducible intro b1 w1 hL) | (clear hL n2; with_reducible intro b2 w2 hL) | (clear hL n3; with_reducible intro b3 w3 hL) | (clear hL n4; with_reducible intro b4 w4 hL) | (clear hL; with_reducible intro _ _ hL)) | (with_reducible refine wpC_alloc rfl _ rfl _ _ inferInstance hL ?_) | (with_reducible first | refine wpB_agg rfl _ _ _ rfl rfl hL ?_ | refine wpB_one rfl _ _ (.int _ _) rfl rfl rfl hL ?_ | refine wpB_one rfl _ _ (.slice _ _ _) rfl rfl rfl hL ?_ | refine wpB_one rfl _ _ (.bool _) rfl rfl rfl hL ?_ | refine wpB_one rfl _ _ (.pointer _) rfl rfl rfl hL ?_ | refine wpB_one rfl _ _ (.func _ _ _) rfl rfl rfl hL ?_) | (with_reducible first | refine wpH_max rfl _ _ _ _ rfl _ _ rfl rfl ?_ | refine wpH_min rfl _ _ _ _ rfl _ _ rfl rfl ?_) | ((with_reducible refine wpA_load rfl _ _ rfl _ rfl ?_); first | refine loadA hL ?_ | refine loadR hL ?_ | refine loadC hL ?_ | refine loadD ?_ | refine loadE hL ?_ | refine loadF ?_) | ((with_reducible refine wpA_index rfl _ _ _ rfl _ rfl _ rfl ?_); first | (refine indexA ?_; try rw [Int.toNat_natCast]) | refine indexC ?_) | ((with_reducible refine wpA_store rfl _ _ _ rfl _ rfl (.agg _) rfl ?_); refine storeR hL ?_; clear hL; intro _ hL) | ((with_reducible first | refine wpA_store rfl _ _ _ rfl _ rfl (.int _ _) rfl ?_ | refine wpA_store rfl _ _ _ rfl _ rfl (.slice _ _ _) rfl ?_ | refine wpA_store rfl _ _ _ rfl _ rfl (.bool _) rfl ?_ | refine wpA_store rfl _ _ _ rfl _ rfl (.pointer _) rfl ?_ | refine wpA_store rfl _ _ _ rfl _ rfl (.func _ _ _) rfl ?_); (first | refine storeA hL ?_ | refine storeO hL ?_); (clear hL; intro _ hL)) | ((with_reducible refine wpA_lit rfl _ _ _ rfl ?_); first | refine litA1 hL ?_ | refine litA2 hL ?_ | refine litA3 hL ?_ | refine litA4 hL ?_ | refine litA6 hL ?_) | ((with_reducible refine wpA_append rfl _ _ _ rfl (.slice _ _ _) rfl ?_); intro vq hvq; simp [go_sem] at hvq; subst hvq; refine appendA hL ?_; clear hL; intro _ _ _ hL; try dsimp only at hL) | ((with_reducible refine wpA_make rfl _ _ _ rfl _ rfl rfl ?_); refine makeA hL ?_))
      go_ret
      exact ⟨rfl, hL.below⟩
end Go.Proofs.Ytkgblkaihblgeaa
