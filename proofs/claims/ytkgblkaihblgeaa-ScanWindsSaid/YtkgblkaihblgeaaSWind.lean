/- ScanWinds returns true. -/
import Derived.Test.YtkgblkaihblgeaaScnM
-- lit6
namespace Go.Proofs.Ytkgblkaihblgeaa
open Go.RowKit

set_option maxRecDepth 100000 in
set_option maxHeartbeats 8000000 in
theorem scanWinds_calls (w : World) (va : Value) (na : List Int) (ha : NumsAt w va na) (rule y : Int) : Calls Try.prog 11 #[va, .int .i64 rule, .int .i64 y] w fun e w' => e = .returned (.bool true) ∧ Below w.heap.size w w' := by
  have hL := Holds.start w
  obtain ⟨a, cap, rfl, _⟩ := ha.parts
  have HM := Lib.hid (fun w' hb => made_calls w' _ na (SliceAt.below ha hb) true)
  clear ha
  generalize madeS na true = S at *
  have hlen := edgesS_len S
  have HE := Lib.hid (fun w' v => edges_calls w' v S)
  have q1a := Int.emod_nonneg rule (show (2 : Int) ≠ 0 by omega)
  have q1b := Int.emod_lt_of_pos rule (show (0 : Int) < 2 by omega)
  have HP1 := Lib.hid (fun w => place_calls rule 2 (by omega) (by omega) w)
  generalize rule % 2 = r at *
  have q2a := Int.emod_nonneg y (show (340 : Int) ≠ 0 by omega)
  have q2b := Int.emod_lt_of_pos y (show (0 : Int) < 340 by omega)
  have HP2 := Lib.hid (fun w => place_calls y 340 (by omega) (by omega) w)
  generalize y % 340 = t at *
  have hr : r = 0 ∨ r = 1 := by omega
  have hy : near1 (t - 50) = true := by unfold near1; simp; omega
  have HA := Lib.hid (fun w' ve hv => scanLine_calls w' ve (edgesS S) hv (by omega) r (t - 50) 20)
  rw [show lineS (edgesS S) r (t - 50) 20 = runsTo (rowP (edgesS S) r (t - 50)) 20 from lineS_in (n := 20) hr hy (by omega)] at HA
  have HB := Lib.hid (fun w' ve hv => scanLine_calls w' ve (edgesS S) hv (by omega) 2 (t - 50) 20)
  rw [show lineS (edgesS S) 2 (t - 50) 20 = [] by simp [lineS, lineOk]] at HB
  have HC := Lib.hid (fun w' ve hv => scanLine_calls w' ve (edgesS S) hv (by omega) r (t - 50) (-1))
  rw [show lineS (edgesS S) r (t - 50) (-1) = [] by simp [lineS, lineOk]] at HC
  have HD := Lib.hid (fun w' ve hv => scanLine_calls w' ve (edgesS S) hv (by omega) r (t - 50) 65)
  rw [show lineS (edgesS S) r (t - 50) 65 = [] by simp [lineS, lineOk]] at HD
  have HI := Lib.hid (show ∀ w' ve (i : Nat), EdgesAt w' ve (edgesS S) → Calls Try.prog 34 #[ve, .int .i64 r, .int .i64 (16 * (i : Int) + 8), .int .i64 (t - 50)] w' fun r' w'' => r' = .returned (.bool (rowP (edgesS S) r (t - 50) i)) ∧ Below w'.heap.size w' w'' from
    fun w' ve i hv => windInX_calls w' ve (edgesS S) hv (by omega) r (16 * (i : Int) + 8) (t - 50))
  generalize edgesS S = E at *
  generalize rowP E r (t - 50) = p at *
  have HH := Lib.hid (show ∀ w' v (i : Nat), i < 20 → RunsAt w' v (runsTo p 20) → Calls Try.prog 33 #[v, .int .i64 i] w' fun r' w'' => r' = .returned (.bool (p i)) ∧ Below w'.heap.size w' w'' from
    fun w' v i hi hv => by
      have h := spanHas_calls w' v _ hv (i : Int)
      have e : hasP (runsTo p 20) (i : Int) = p i := by
        unfold hasP
        rw [Int.toNat_natCast, inRuns_runsTo p (by omega), decide_eq_true (show (0 : Int) ≤ (i : Int) by omega), decide_eq_true (show (i : Int) < 64 by omega), decide_eq_true hi]
        rfl
      rw [e] at h
      exact h)
  have HY := Lib.hid (fun w' v hv => spanMay_calls w' v (runsTo p 20) hv 20)
  rw [show mayRuns (runsTo p 20) 20 = true from mayRuns_runsTo (n := 20) p (by omega)] at HY
  generalize runsTo p 20 = R at *
  go_enter Try.func11, Try.ntmps11
  go_wp2_with (first | (go_at_call 13; (with_reducible refine (known_calls _).mono ?_); rintro e _ ⟨rfl, hb⟩; replace hL := hL.call hb; clear hb) | (go_at_call 21; (with_reducible refine (HM.out _ hL.below).mono ?_); rintro e _ ⟨vs, rfl, hb, hf⟩; replace hL := hL.callF hb hf; clear hb hf) | (go_at_call 25; (with_reducible refine (HE.out _ _ hL.fact0).mono ?_); rintro e _ ⟨ve, rfl, hb, hf⟩; obtain ⟨ea, ec, rfl, _⟩ := EdgesAt.parts hf.now; replace hL := hL.callF hb hf; clear hb hf) | (go_at_call 22; (with_reducible first | refine (HP1.out _).mono ?_ | refine (HP2.out _).mono ?_); rintro e _ ⟨rfl, rfl⟩) | (go_at_call 15; (with_reducible refine (HA.out _ _ hL.fact0).mono ?_); rintro e _ ⟨vl, rfl, hb, hf⟩; replace hf := runsFresh hf; replace hL := hL.callF hb hf; clear hb hf) | ((clear hL; with_reducible intro _ _ hL)) | (with_reducible refine wpC_alloc rfl _ rfl _ _ inferInstance hL ?_) | (with_reducible first | refine wpB_agg rfl _ _ _ rfl rfl hL ?_ | refine wpB_one rfl _ _ (.int _ _) rfl rfl rfl hL ?_ | refine wpB_one rfl _ _ (.slice _ _ _) rfl rfl rfl hL ?_ | refine wpB_one rfl _ _ (.bool _) rfl rfl rfl hL ?_ | refine wpB_one rfl _ _ (.pointer _) rfl rfl rfl hL ?_ | refine wpB_one rfl _ _ (.func _ _ _) rfl rfl rfl hL ?_) | (with_reducible first | refine wpH_max rfl _ _ _ _ rfl _ _ rfl rfl ?_ | refine wpH_min rfl _ _ _ _ rfl _ _ rfl rfl ?_) | ((with_reducible refine wpA_load rfl _ _ rfl _ rfl ?_); first | refine loadA hL ?_ | refine loadR hL ?_ | refine loadC hL ?_ | refine loadD ?_ | refine loadE hL ?_ | refine loadF ?_) | ((with_reducible refine wpA_index rfl _ _ _ rfl _ rfl _ rfl ?_); first | (refine indexA ?_; try rw [Int.toNat_natCast]) | refine indexC ?_) | ((with_reducible refine wpA_store rfl _ _ _ rfl _ rfl (.agg _) rfl ?_); refine storeR hL ?_; clear hL; intro _ hL) | ((with_reducible first | refine wpA_store rfl _ _ _ rfl _ rfl (.int _ _) rfl ?_ | refine wpA_store rfl _ _ _ rfl _ rfl (.slice _ _ _) rfl ?_ | refine wpA_store rfl _ _ _ rfl _ rfl (.bool _) rfl ?_ | refine wpA_store rfl _ _ _ rfl _ rfl (.pointer _) rfl ?_ | refine wpA_store rfl _ _ _ rfl _ rfl (.func _ _ _) rfl ?_); (first | refine storeA hL ?_ | refine storeO hL ?_); (clear hL; intro _ hL)) | ((with_reducible refine wpA_lit rfl _ _ _ rfl ?_); first | refine litA1 hL ?_ | refine litA2 hL ?_ | refine litA3 hL ?_ | refine litA4 hL ?_ | refine litA6 hL ?_) | ((with_reducible refine wpA_append rfl _ _ _ rfl (.slice _ _ _) rfl ?_); intro vq hvq; simp [go_sem] at hvq; subst hvq; refine appendA hL ?_; clear hL; intro _ _ _ hL; try dsimp only at hL) | ((with_reducible refine wpA_make rfl _ _ _ rfl _ rfl rfl ?_); refine makeA hL ?_))
  go_loopw [11] (fun s11 wr => ∃ i : Nat, i ≤ 20 ∧ s11 = .int .i64 i ∧ Holds w wr [] [fun w => RunsAt w vl R, fun w => EdgesAt w (.slice ea E.length ec) E])
    (fun s11 wr => 20 - (intOf s11).toNat)
  case atStart => exact ⟨0, by omega, rfl, hL.facts fun θ hθ => hL.firm θ (by simp only [List.mem_cons, List.not_mem_nil, or_false] at hθ ⊢; rcases hθ with h | h <;> simp [h])⟩
  case round =>
    clear hL
    obtain ⟨i, hi, rfl, hL⟩ := hrel
    by_cases hit : i < 20
    · have hib : (i : Int) < 20 := by omega
      have HX := Lib.hid (fun w' v hv => HH.out w' v i hit hv)
      have HZ := Lib.hid (fun w' ve hv => HI.out w' ve i hv)
      clear HI HH
      generalize p i = q at *
      have dq : (q != q) = false := bne_self_eq_false q
      go_wp2_with (first | (go_at_call 33; (with_reducible first | refine (HX.out _ _ hL.fact0).mono ?_); rintro e _ ⟨rfl, hb⟩; replace hL := hL.call hb; clear hb) | (go_at_call 34; (with_reducible first | refine (HZ.out _ _ hL.fact1).mono ?_); rintro e _ ⟨rfl, hb⟩; replace hL := hL.call hb; clear hb) | ((clear hL; with_reducible intro _ _ hL)) | (with_reducible refine wpC_alloc rfl _ rfl _ _ inferInstance hL ?_) | (with_reducible first | refine wpB_agg rfl _ _ _ rfl rfl hL ?_ | refine wpB_one rfl _ _ (.int _ _) rfl rfl rfl hL ?_ | refine wpB_one rfl _ _ (.slice _ _ _) rfl rfl rfl hL ?_ | refine wpB_one rfl _ _ (.bool _) rfl rfl rfl hL ?_ | refine wpB_one rfl _ _ (.pointer _) rfl rfl rfl hL ?_ | refine wpB_one rfl _ _ (.func _ _ _) rfl rfl rfl hL ?_) | (with_reducible first | refine wpH_max rfl _ _ _ _ rfl _ _ rfl rfl ?_ | refine wpH_min rfl _ _ _ _ rfl _ _ rfl rfl ?_) | ((with_reducible refine wpA_load rfl _ _ rfl _ rfl ?_); first | refine loadA hL ?_ | refine loadR hL ?_ | refine loadC hL ?_ | refine loadD ?_ | refine loadE hL ?_ | refine loadF ?_) | ((with_reducible refine wpA_index rfl _ _ _ rfl _ rfl _ rfl ?_); first | (refine indexA ?_; try rw [Int.toNat_natCast]) | refine indexC ?_) | ((with_reducible refine wpA_store rfl _ _ _ rfl _ rfl (.agg _) rfl ?_); refine storeR hL ?_; clear hL; intro _ hL) | ((with_reducible first | refine wpA_store rfl _ _ _ rfl _ rfl (.int _ _) rfl ?_ | refine wpA_store rfl _ _ _ rfl _ rfl (.slice _ _ _) rfl ?_ | refine wpA_store rfl _ _ _ rfl _ rfl (.bool _) rfl ?_ | refine wpA_store rfl _ _ _ rfl _ rfl (.pointer _) rfl ?_ | refine wpA_store rfl _ _ _ rfl _ rfl (.func _ _ _) rfl ?_); (first | refine storeA hL ?_ | refine storeO hL ?_); (clear hL; intro _ hL)) | ((with_reducible refine wpA_lit rfl _ _ _ rfl ?_); first | refine litA1 hL ?_ | refine litA2 hL ?_ | refine litA3 hL ?_ | refine litA4 hL ?_ | refine litA6 hL ?_) | ((with_reducible refine wpA_append rfl _ _ _ rfl (.slice _ _ _) rfl ?_); intro vq hvq; simp [go_sem] at hvq; subst hvq; refine appendA hL ?_; clear hL; intro _ _ _ hL; try dsimp only at hL) | ((with_reducible refine wpA_make rfl _ _ _ rfl _ rfl rfl ?_); refine makeA hL ?_))
      go_roundw
      case rel => exact ⟨i + 1, by omega, by go_num, hL⟩
      case measure => simp [intOf]; omega
    · have e : i = 20 := by omega
      subst e
      go_wp2_with (first | (go_at_call 35; (with_reducible first | refine (HY.out _ _ hL.fact0).mono ?_); rintro e _ ⟨rfl, hb⟩; replace hL := hL.call hb; clear hb) | (go_at_call 15; (with_reducible first | refine (HB.out _ _ hL.fact1).mono ?_ | refine (HC.out _ _ hL.fact1).mono ?_ | refine (HD.out _ _ hL.fact1).mono ?_); rintro e _ ⟨vk, rfl, hb, hf⟩; obtain ⟨ka, kc, hk, _⟩ := hf.now; simp only [List.map_nil, List.length_nil] at hk; subst hk; replace hL := hL.call hb; clear hb hf) | ((clear hL; with_reducible intro _ _ hL)) | (with_reducible refine wpC_alloc rfl _ rfl _ _ inferInstance hL ?_) | (with_reducible first | refine wpB_agg rfl _ _ _ rfl rfl hL ?_ | refine wpB_one rfl _ _ (.int _ _) rfl rfl rfl hL ?_ | refine wpB_one rfl _ _ (.slice _ _ _) rfl rfl rfl hL ?_ | refine wpB_one rfl _ _ (.bool _) rfl rfl rfl hL ?_ | refine wpB_one rfl _ _ (.pointer _) rfl rfl rfl hL ?_ | refine wpB_one rfl _ _ (.func _ _ _) rfl rfl rfl hL ?_) | (with_reducible first | refine wpH_max rfl _ _ _ _ rfl _ _ rfl rfl ?_ | refine wpH_min rfl _ _ _ _ rfl _ _ rfl rfl ?_) | ((with_reducible refine wpA_load rfl _ _ rfl _ rfl ?_); first | refine loadA hL ?_ | refine loadR hL ?_ | refine loadC hL ?_ | refine loadD ?_ | refine loadE hL ?_ | refine loadF ?_) | ((with_reducible refine wpA_index rfl _ _ _ rfl _ rfl _ rfl ?_); first | (refine indexA ?_; try rw [Int.toNat_natCast]) | refine indexC ?_) | ((with_reducible refine wpA_store rfl _ _ _ rfl _ rfl (.agg _) rfl ?_); refine storeR hL ?_; clear hL; intro _ hL) | ((with_reducible first | refine wpA_store rfl _ _ _ rfl _ rfl (.int _ _) rfl ?_ | refine wpA_store rfl _ _ _ rfl _ rfl (.slice _ _ _) rfl ?_ | refine wpA_store rfl _ _ _ rfl _ rfl (.bool _) rfl ?_ | refine wpA_store rfl _ _ _ rfl _ rfl (.pointer _) rfl ?_ | refine wpA_store rfl _ _ _ rfl _ rfl (.func _ _ _) rfl ?_); (first | refine storeA hL ?_ | refine storeO hL ?_); (clear hL; intro _ hL)) | ((with_reducible refine wpA_lit rfl _ _ _ rfl ?_); first | refine litA1 hL ?_ | refine litA2 hL ?_ | refine litA3 hL ?_ | refine litA4 hL ?_ | refine litA6 hL ?_) | ((with_reducible refine wpA_append rfl _ _ _ rfl (.slice _ _ _) rfl ?_); intro vq hvq; simp [go_sem] at hvq; subst hvq; refine appendA hL ?_; clear hL; intro _ _ _ hL; try dsimp only at hL) | ((with_reducible refine wpA_make rfl _ _ _ rfl _ rfl rfl ?_); refine makeA hL ?_))
      go_ret
      exact ⟨rfl, hL.below⟩
end Go.Proofs.Ytkgblkaihblgeaa
