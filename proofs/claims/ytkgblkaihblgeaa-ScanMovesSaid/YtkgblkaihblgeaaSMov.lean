/- ScanMoves returns true. -/
import Derived.Test.YtkgblkaihblgeaaScnM
import Derived.Test.YtkgblkaihblgeaaHulM
-- lit6
namespace Go.Proofs.Ytkgblkaihblgeaa
open Go.RowKit

theorem pathMay_moveS {dx dy : Int} {l : List Sg} (h : ∀ s ∈ l, nearS s = true ∧ nearS (moveS dx dy s) = true) : pathMay (l.map (moveS dx dy)) = pathMay l := by
  unfold pathMay; rw [List.length_map, maySF_move l 0 h]
theorem moveS_moveS (a b c d : Int) (s : Sg) : moveS c d (moveS a b s) = moveS (a + c) (b + d) s := by
  unfold moveS
  by_cases h4 : s.kind = 4
  · simp [h4]
  · by_cases h3 : s.kind = 3
    · simp [h4, h3, Int.add_assoc]
    · simp [h4, h3, Int.add_assoc]
/-- a row of a path that is moved by pixels -/
theorem row_moved {S : List Sg} (hm : pathMay S = true) (h : ∀ s ∈ S, SmallS s) (r u v : Int) (hu : -5 ≤ u ∧ u ≤ 5) (hv : -5 ≤ v ∧ v ≤ 5) {j i : Nat} (hi : i < 40) (hj : j < 40) (e : (j : Int) - v = i) :
    runsTo (shiftP (lineF ((edgesS S).map (movE 128 128)) r 40 i) u 40) 64 = lineF ((edgesS S).map (movE (128 + 16 * u) (128 + 16 * v))) r 40 j := by
  have hsm := edges_small h
  have w1 : ∀ x : Int, -200 ≤ x → x ≤ 200 → windG ((edgesS S).map (movE 128 128)) (16 * x + 8) (16 * (i : Int) + 8) = windG (edgesS S) (16 * x + 8 - 128) (16 * (i : Int) + 8 - 128) := by
    intro x h1 h2
    have := windG_move hsm (dx := 128) (dy := 128) (x := 16 * x + 8 - 128) (y := 16 * (i : Int) + 8 - 128) (by omega) (by omega) (by omega) (by omega)
    rwa [show 16 * x + 8 - 128 + 128 = 16 * x + 8 by omega, show 16 * (i : Int) + 8 - 128 + 128 = 16 * (i : Int) + 8 by omega] at this
  have w2 : ∀ x : Int, -200 ≤ x → x ≤ 200 → windG ((edgesS S).map (movE (128 + 16 * u) (128 + 16 * v))) (16 * x + 8) (16 * (j : Int) + 8) = windG (edgesS S) (16 * (x - u) + 8 - 128) (16 * (i : Int) + 8 - 128) := by
    intro x h1 h2
    have := windG_move hsm (dx := 128 + 16 * u) (dy := 128 + 16 * v) (x := 16 * (x - u) + 8 - 128) (y := 16 * (i : Int) + 8 - 128) (by omega) (by omega) (by omega) (by omega)
    rwa [show 16 * (x - u) + 8 - 128 + (128 + 16 * u) = 16 * x + 8 by omega, show 16 * (i : Int) + 8 - 128 + (128 + 16 * v) = 16 * (j : Int) + 8 by omega] at this
  have hc : cutI (40 : Int) = 40 := by decide
  unfold lineF
  refine runs_cut (by omega) (fun x hx => ?_) (fun x hx h2 => ?_)
  · unfold shiftP rowP
    rw [hc, w2 x (by omega) (by omega), decide_eq_true (show ((x : Nat) : Int) < 40 by omega), Bool.true_and]
    by_cases h0 : 0 ≤ (x : Int) - u
    · rw [decide_eq_true h0, Bool.true_and, inRuns_runsTo _ (by omega)]
      have ex : ((((x : Int) - u).toNat : Nat) : Int) = (x : Int) - u := by omega
      by_cases h4 : ((x : Int) - u).toNat < 40
      · rw [decide_eq_true h4, Bool.true_and, ex, w1 _ (by omega) (by omega)]
      · rw [decide_eq_false h4, small_left hm h (.inr (by omega))]
        unfold isIn; simp
    · rw [decide_eq_false h0, small_left hm h (.inl (by omega))]
      unfold isIn; simp
  · unfold shiftP
    rw [hc, decide_eq_false (by omega), Bool.false_and]

set_option maxRecDepth 100000 in
set_option maxHeartbeats 8000000 in
theorem scanMoves_calls (w : World) (va : Value) (na : List Int) (ha : NumsAt w va na) (rule dx dy : Int) : Calls Try.prog 7 #[va, .int .i64 rule, .int .i64 dx, .int .i64 dy] w fun e w' => e = .returned (.bool true) ∧ Below w.heap.size w w' := by
  have hL := Holds.start w
  obtain ⟨a, cap, rfl, _⟩ := ha.parts
  have HM := Lib.hid (fun w' hb => made_calls w' _ na (SliceAt.below ha hb) true)
  clear ha
  have hgood := (made_good na true).1.small
  have hmay := made_may na true
  generalize madeS na true = S at *
  have q1a := Int.emod_nonneg rule (show (2 : Int) ≠ 0 by omega)
  have q1b := Int.emod_lt_of_pos rule (show (0 : Int) < 2 by omega)
  have HP1 := Lib.hid (fun w => place_calls rule 2 (by omega) (by omega) w)
  generalize rule % 2 = r at *
  have q2a := Int.emod_nonneg dx (show (11 : Int) ≠ 0 by omega)
  have q2b := Int.emod_lt_of_pos dx (show (0 : Int) < 11 by omega)
  have HP2 := Lib.hid (fun w => place_calls dx 11 (by omega) (by omega) w)
  generalize dx % 11 = du at *
  have q3a := Int.emod_nonneg dy (show (11 : Int) ≠ 0 by omega)
  have q3b := Int.emod_lt_of_pos dy (show (0 : Int) < 11 by omega)
  have HP3 := Lib.hid (fun w => place_calls dy 11 (by omega) (by omega) w)
  generalize dy % 11 = dv at *
  have hr : r = 0 ∨ r = 1 := by omega
  have hs : Sds 40 40 := ⟨by decide, by decide, by decide, by decide⟩
  have n1 := small_near hgood (dx := 128) (dy := 128) (by omega) (by omega)
  have n2 := small_near hgood (dx := 128 + 16 * (du - 5)) (dy := 128 + 16 * (dv - 5)) (by omega) (by omega)
  have n3 : ∀ s ∈ S.map (moveS 128 128), nearS s = true ∧ nearS (moveS (16 * (du - 5)) (16 * (dv - 5)) s) = true := by
    intro s hs
    obtain ⟨t, ht, rfl⟩ := List.mem_map.1 hs
    rw [moveS_moveS]
    exact ⟨(n1 t ht).2, (n2 t ht).2⟩
  have m1 := pathMay_moveS n1
  rw [hmay] at m1
  have m2 := pathMay_moveS n2
  rw [hmay] at m2
  have hmm : (S.map (moveS 128 128)).map (moveS (16 * (du - 5)) (16 * (dv - 5))) = S.map (moveS (128 + 16 * (du - 5)) (128 + 16 * (dv - 5))) := by
    rw [List.map_map]
    exact List.map_congr_left fun s _ => moveS_moveS _ _ _ _ s
  have HS := Lib.hid (fun w' v' hv => shift_calls w' v' S hv 128 128 hmay n1)
  have HT := Lib.hid (fun w' v' hv => shift_calls w' v' (S.map (moveS 128 128)) hv (16 * (du - 5)) (16 * (dv - 5)) m1 n3)
  rw [hmm] at HT
  have HA := Lib.hid (fun w' v hv => scanRegionF_calls (W := 40) (H := 40) (Wi := 40) (Hi := 40) rfl rfl hs w' v (S.map (moveS 128 128)) hv m1 r hr)
  have HB := Lib.hid (fun w' v hv => scanRegionF_calls (W := 40) (H := 40) (Wi := 40) (Hi := 40) rfl rfl hs w' v (S.map (moveS (128 + 16 * (du - 5)) (128 + 16 * (dv - 5)))) hv m2 r hr)
  rw [edges_move n1] at HA
  rw [edges_move n2] at HB
  have HO := Lib.hid (show ∀ (j i : Nat) w' x, i < 40 → j < 40 → (j : Int) - (dv - 5) = i → RunsAt w' x (lineF ((edgesS S).map (movE 128 128)) r 40 i) → Calls Try.prog 29 #[x, .int .i64 (du - 5), .int .i64 40] w' (RunsOut (lineF ((edgesS S).map (movE (128 + 16 * (du - 5)) (128 + 16 * (dv - 5)))) r 40 j) w') from fun j i w' x hi hj he hx => by
    have h := spanShift_calls w' x _ hx (du - 5) 40
    rwa [row_moved hmay hgood r (du - 5) (dv - 5) (by omega) (by omega) hi hj he] at h)
  clear hr hs hmay hgood n1 n2 n3 m1 m2 hmm
  generalize lineF ((edgesS S).map (movE 128 128)) r 40 = FA at *
  generalize lineF ((edgesS S).map (movE (128 + 16 * (du - 5)) (128 + 16 * (dv - 5)))) r 40 = FB at *
  generalize S.map (moveS (128 + 16 * (du - 5)) (128 + 16 * (dv - 5))) = SB at *
  generalize S.map (moveS 128 128) = SA at *
  have n1 : True := trivial; have n2 : True := trivial
  go_enter Try.func7, Try.ntmps7
  go_wp2_with (first | (go_at_call 13; (with_reducible refine (known_calls _).mono ?_); rintro e _ ⟨rfl, hb⟩; replace hL := hL.call hb; clear hb) | (go_at_call 21; (with_reducible refine (HM.out _ hL.below).mono ?_); rintro e _ ⟨vs, rfl, hb, hf⟩; replace hL := hL.callF hb hf; clear hb hf) | (go_at_call 22; (with_reducible first | refine (HP1.out _).mono ?_ | refine (HP2.out _).mono ?_ | refine (HP3.out _).mono ?_); rintro e _ ⟨rfl, rfl⟩) | (go_at_call 28; (first | ((with_reducible refine (HS.out _ vs hL.fact0).mono ?_); rintro e _ ⟨vf, rfl, hb, hf⟩) | ((with_reducible refine (HT.out _ vf hL.fact0).mono ?_); rintro e _ ⟨vm, rfl, hb, hf⟩)); replace hL := hL.callF hb hf; clear hb hf) | (go_at_call 17; (first | ((with_reducible refine (HA.out _ vf hL.fact1).mono ?_); rintro e _ ⟨sa, ca, rfl, hb, hf⟩) | ((with_reducible refine (HB.out _ vm hL.fact1).mono ?_); rintro e _ ⟨sb, cb, rfl, hb, hf⟩)); replace hL := hL.callF hb hf; clear hb hf) | (first | (clear hL n1; with_reducible intro b1 w1 hL) | (clear hL n2; with_reducible intro b2 w2 hL) | (clear hL; with_reducible intro _ _ hL)) | (with_reducible refine wpC_alloc rfl _ rfl _ _ inferInstance hL ?_) | (with_reducible first | refine wpB_agg rfl _ _ _ rfl rfl hL ?_ | refine wpB_one rfl _ _ (.int _ _) rfl rfl rfl hL ?_ | refine wpB_one rfl _ _ (.slice _ _ _) rfl rfl rfl hL ?_ | refine wpB_one rfl _ _ (.bool _) rfl rfl rfl hL ?_ | refine wpB_one rfl _ _ (.pointer _) rfl rfl rfl hL ?_ | refine wpB_one rfl _ _ (.func _ _ _) rfl rfl rfl hL ?_) | (with_reducible first | refine wpH_max rfl _ _ _ _ rfl _ _ rfl rfl ?_ | refine wpH_min rfl _ _ _ _ rfl _ _ rfl rfl ?_) | ((with_reducible refine wpA_load rfl _ _ rfl _ rfl ?_); first | refine loadA hL ?_ | refine loadR hL ?_ | refine loadC hL ?_ | refine loadD ?_ | refine loadE hL ?_ | refine loadF ?_) | ((with_reducible refine wpA_index rfl _ _ _ rfl _ rfl _ rfl ?_); first | (refine indexA ?_; try rw [Int.toNat_natCast]) | refine indexC ?_) | ((with_reducible refine wpA_store rfl _ _ _ rfl _ rfl (.agg _) rfl ?_); refine storeR hL ?_; clear hL; intro _ hL) | ((with_reducible first | refine wpA_store rfl _ _ _ rfl _ rfl (.int _ _) rfl ?_ | refine wpA_store rfl _ _ _ rfl _ rfl (.slice _ _ _) rfl ?_ | refine wpA_store rfl _ _ _ rfl _ rfl (.bool _) rfl ?_ | refine wpA_store rfl _ _ _ rfl _ rfl (.pointer _) rfl ?_ | refine wpA_store rfl _ _ _ rfl _ rfl (.func _ _ _) rfl ?_); (first | refine storeA hL ?_ | refine storeO hL ?_); (clear hL; intro _ hL)) | ((with_reducible refine wpA_lit rfl _ _ _ rfl ?_); first | refine litA1 hL ?_ | refine litA2 hL ?_ | refine litA3 hL ?_ | refine litA4 hL ?_ | refine litA6 hL ?_) | ((with_reducible refine wpA_append rfl _ _ _ rfl (.slice _ _ _) rfl ?_); intro vq hvq; simp [go_sem] at hvq; subst hvq; refine appendA hL ?_; clear hL; intro _ _ _ hL; try dsimp only at hL) | ((with_reducible refine wpA_make rfl _ _ _ rfl _ rfl rfl ?_); refine makeA hL ?_))
  replace hL := hL.facts (Ψ := [RowsF (.slice sb 40 cb) 40 FB, RowsF (.slice sa 40 ca) 40 FA]) fun θ hθ => hL.firm θ (by simp only [List.mem_cons, List.not_mem_nil, or_false] at hθ ⊢; rcases hθ with h | h <;> simp [h])
  go_loopw [21] (fun s21 wr => ∃ j : Nat, j ≤ 40 ∧ s21 = .int .i64 j ∧ Holds w wr [blk b2 #[.int .i64 40, .int .i64 40, .slice sb 40 cb] 33, blk b1 #[.int .i64 40, .int .i64 40, .slice sa 40 ca] 33] [RowsF (.slice sb 40 cb) 40 FB, RowsF (.slice sa 40 ca) 40 FA])
    (fun s21 wr => 40 - (intOf s21).toNat)
  case atStart => exact ⟨0, by omega, rfl, hL⟩
  case round =>
    clear hL
    obtain ⟨j, hj, rfl, hL⟩ := hrel
    by_cases hjt : j < 40
    · have hjb : (j : Int) < 40 := by omega
      have hj0 : (0 : Int) ≤ (j : Int) := by omega
      rcases (by omega : ¬ 0 ≤ (j : Int) - (dv - 5) ∨ (0 ≤ (j : Int) - (dv - 5) ∧ ¬ (j : Int) - (dv - 5) < 40) ∨ (0 ≤ (j : Int) - (dv - 5) ∧ (j : Int) - (dv - 5) < 40)) with h1 | ⟨h1, h2⟩ | ⟨h1, h2⟩
      · have d0 : decide (0 ≤ (j : Int) - (dv - 5)) = false := decide_eq_false h1
        go_wp2_with (first | (first | (clear hL n1; with_reducible intro b1 w1 hL) | (clear hL n2; with_reducible intro b2 w2 hL) | (clear hL; with_reducible intro _ _ hL)) | (with_reducible refine wpC_alloc rfl _ rfl _ _ inferInstance hL ?_) | (with_reducible first | refine wpB_agg rfl _ _ _ rfl rfl hL ?_ | refine wpB_one rfl _ _ (.int _ _) rfl rfl rfl hL ?_ | refine wpB_one rfl _ _ (.slice _ _ _) rfl rfl rfl hL ?_ | refine wpB_one rfl _ _ (.bool _) rfl rfl rfl hL ?_ | refine wpB_one rfl _ _ (.pointer _) rfl rfl rfl hL ?_ | refine wpB_one rfl _ _ (.func _ _ _) rfl rfl rfl hL ?_) | (with_reducible first | refine wpH_max rfl _ _ _ _ rfl _ _ rfl rfl ?_ | refine wpH_min rfl _ _ _ _ rfl _ _ rfl rfl ?_) | ((with_reducible refine wpA_load rfl _ _ rfl _ rfl ?_); first | refine loadA hL ?_ | refine loadR hL ?_ | refine loadC hL ?_ | refine loadD ?_ | refine loadE hL ?_ | refine loadF ?_) | ((with_reducible refine wpA_index rfl _ _ _ rfl _ rfl _ rfl ?_); first | (refine indexA ?_; try rw [Int.toNat_natCast]) | refine indexC ?_) | ((with_reducible refine wpA_store rfl _ _ _ rfl _ rfl (.agg _) rfl ?_); refine storeR hL ?_; clear hL; intro _ hL) | ((with_reducible first | refine wpA_store rfl _ _ _ rfl _ rfl (.int _ _) rfl ?_ | refine wpA_store rfl _ _ _ rfl _ rfl (.slice _ _ _) rfl ?_ | refine wpA_store rfl _ _ _ rfl _ rfl (.bool _) rfl ?_ | refine wpA_store rfl _ _ _ rfl _ rfl (.pointer _) rfl ?_ | refine wpA_store rfl _ _ _ rfl _ rfl (.func _ _ _) rfl ?_); (first | refine storeA hL ?_ | refine storeO hL ?_); (clear hL; intro _ hL)) | ((with_reducible refine wpA_lit rfl _ _ _ rfl ?_); first | refine litA1 hL ?_ | refine litA2 hL ?_ | refine litA3 hL ?_ | refine litA4 hL ?_ | refine litA6 hL ?_) | ((with_reducible refine wpA_append rfl _ _ _ rfl (.slice _ _ _) rfl ?_); intro vq hvq; simp [go_sem] at hvq; subst hvq; refine appendA hL ?_; clear hL; intro _ _ _ hL; try dsimp only at hL) | ((with_reducible refine wpA_make rfl _ _ _ rfl _ rfl rfl ?_); refine makeA hL ?_))
        refine wpH_later (by kernel_rfl) fun hS => ?_
        replace hL := hL.drew
        refine stH (i := 0) (.int .i64 ((j : Int) - (dv - 5))) hS ?_ ?_; (· exact fun w' _ => (by go_simp)); simp only [Act.put, List.setIfInBounds_toArray, List.set_cons_zero, List.set_cons_succ]
        refine stH (i := 1) (.bool false) hS ?_ ?_; (· exact fun w' _ => (by go_simp <;> omega)); simp only [Act.put, List.setIfInBounds_toArray, List.set_cons_zero, List.set_cons_succ]
        refine stH (i := 2) (.bool false) hS ?_ ?_; (· exact fun w' _ => (by go_simp)); simp only [Act.put, List.setIfInBounds_toArray, List.set_cons_zero, List.set_cons_succ]
        refine skH (i := 3) hS ?_
        simp only [Act.put, List.setIfInBounds_toArray, List.set_cons_zero, List.set_cons_succ]
        refine skH (i := 4) hS ?_
        simp only [Act.put, List.setIfInBounds_toArray, List.set_cons_zero, List.set_cons_succ]
        refine stH (i := 5) (.bool false) hS ?_ ?_; (· exact fun w' _ => (by go_simp)); simp only [Act.put, List.setIfInBounds_toArray, List.set_cons_zero, List.set_cons_succ]
        refine stH (i := 6) (.bool false) hS ?_ ?_; (· exact fun w' _ => (by go_simp)); simp only [Act.put, List.setIfInBounds_toArray, List.set_cons_zero, List.set_cons_succ]
        refine skH (i := 7) hS ?_
        simp only [Act.put, List.setIfInBounds_toArray, List.set_cons_zero, List.set_cons_succ]
        refine skH (i := 8) hS ?_
        simp only [Act.put, List.setIfInBounds_toArray, List.set_cons_zero, List.set_cons_succ]
        refine skH (i := 9) hS ?_
        simp only [Act.put, List.setIfInBounds_toArray, List.set_cons_zero, List.set_cons_succ]
        refine skH (i := 10) hS ?_
        simp only [Act.put, List.setIfInBounds_toArray, List.set_cons_zero, List.set_cons_succ]
        refine skH (i := 11) hS ?_
        simp only [Act.put, List.setIfInBounds_toArray, List.set_cons_zero, List.set_cons_succ]
        refine skH (i := 12) hS ?_
        simp only [Act.put, List.setIfInBounds_toArray, List.set_cons_zero, List.set_cons_succ]
        refine skH (i := 13) hS ?_
        simp only [Act.put, List.setIfInBounds_toArray, List.set_cons_zero, List.set_cons_succ]
        refine skH (i := 14) hS ?_
        simp only [Act.put, List.setIfInBounds_toArray, List.set_cons_zero, List.set_cons_succ]
        refine skH (i := 15) hS ?_
        simp only [Act.put, List.setIfInBounds_toArray, List.set_cons_zero, List.set_cons_succ]
        refine skH (i := 16) hS ?_
        simp only [Act.put, List.setIfInBounds_toArray, List.set_cons_zero, List.set_cons_succ]
        refine skH (i := 17) hS ?_
        simp only [Act.put, List.setIfInBounds_toArray, List.set_cons_zero, List.set_cons_succ]
        refine skH (i := 18) hS ?_
        simp only [Act.put, List.setIfInBounds_toArray, List.set_cons_zero, List.set_cons_succ]
        refine skH (i := 19) hS ?_
        simp only [Act.put, List.setIfInBounds_toArray, List.set_cons_zero, List.set_cons_succ]
        refine skH (i := 20) hS ?_
        simp only [Act.put, List.setIfInBounds_toArray, List.set_cons_zero, List.set_cons_succ]
        refine stH (i := 21) (.bool false) hS ?_ ?_; (· exact fun w' _ => (by go_simp)); simp only [Act.put, List.setIfInBounds_toArray, List.set_cons_zero, List.set_cons_succ]
        refine wpAnyH_done (by kernel_rfl) ?_ _
        clear hS
        go_wp2
        go_roundw
        case rel => exact ⟨j + 1, by omega, by go_num, hL⟩
        case measure => simp [intOf]; omega
      · have d0 : decide (0 ≤ (j : Int) - (dv - 5)) = true := decide_eq_true h1
        have d1 : decide ((j : Int) - (dv - 5) < 40) = false := decide_eq_false h2
        go_wp2_with (first | (first | (clear hL n1; with_reducible intro b1 w1 hL) | (clear hL n2; with_reducible intro b2 w2 hL) | (clear hL; with_reducible intro _ _ hL)) | (with_reducible refine wpC_alloc rfl _ rfl _ _ inferInstance hL ?_) | (with_reducible first | refine wpB_agg rfl _ _ _ rfl rfl hL ?_ | refine wpB_one rfl _ _ (.int _ _) rfl rfl rfl hL ?_ | refine wpB_one rfl _ _ (.slice _ _ _) rfl rfl rfl hL ?_ | refine wpB_one rfl _ _ (.bool _) rfl rfl rfl hL ?_ | refine wpB_one rfl _ _ (.pointer _) rfl rfl rfl hL ?_ | refine wpB_one rfl _ _ (.func _ _ _) rfl rfl rfl hL ?_) | (with_reducible first | refine wpH_max rfl _ _ _ _ rfl _ _ rfl rfl ?_ | refine wpH_min rfl _ _ _ _ rfl _ _ rfl rfl ?_) | ((with_reducible refine wpA_load rfl _ _ rfl _ rfl ?_); first | refine loadA hL ?_ | refine loadR hL ?_ | refine loadC hL ?_ | refine loadD ?_ | refine loadE hL ?_ | refine loadF ?_) | ((with_reducible refine wpA_index rfl _ _ _ rfl _ rfl _ rfl ?_); first | (refine indexA ?_; try rw [Int.toNat_natCast]) | refine indexC ?_) | ((with_reducible refine wpA_store rfl _ _ _ rfl _ rfl (.agg _) rfl ?_); refine storeR hL ?_; clear hL; intro _ hL) | ((with_reducible first | refine wpA_store rfl _ _ _ rfl _ rfl (.int _ _) rfl ?_ | refine wpA_store rfl _ _ _ rfl _ rfl (.slice _ _ _) rfl ?_ | refine wpA_store rfl _ _ _ rfl _ rfl (.bool _) rfl ?_ | refine wpA_store rfl _ _ _ rfl _ rfl (.pointer _) rfl ?_ | refine wpA_store rfl _ _ _ rfl _ rfl (.func _ _ _) rfl ?_); (first | refine storeA hL ?_ | refine storeO hL ?_); (clear hL; intro _ hL)) | ((with_reducible refine wpA_lit rfl _ _ _ rfl ?_); first | refine litA1 hL ?_ | refine litA2 hL ?_ | refine litA3 hL ?_ | refine litA4 hL ?_ | refine litA6 hL ?_) | ((with_reducible refine wpA_append rfl _ _ _ rfl (.slice _ _ _) rfl ?_); intro vq hvq; simp [go_sem] at hvq; subst hvq; refine appendA hL ?_; clear hL; intro _ _ _ hL; try dsimp only at hL) | ((with_reducible refine wpA_make rfl _ _ _ rfl _ rfl rfl ?_); refine makeA hL ?_))
        refine wpH_later (by kernel_rfl) fun hS => ?_
        replace hL := hL.drew
        refine stH (i := 0) (.int .i64 ((j : Int) - (dv - 5))) hS ?_ ?_; (· exact fun w' _ => (by go_simp)); simp only [Act.put, List.setIfInBounds_toArray, List.set_cons_zero, List.set_cons_succ]
        refine stH (i := 1) (.bool true) hS ?_ ?_; (· exact fun w' _ => (by go_simp <;> omega)); simp only [Act.put, List.setIfInBounds_toArray, List.set_cons_zero, List.set_cons_succ]
        refine stH (i := 2) (.bool true) hS ?_ ?_; (· exact fun w' _ => (by go_simp)); simp only [Act.put, List.setIfInBounds_toArray, List.set_cons_zero, List.set_cons_succ]
        refine stH (i := 3) (.int .i64 ((j : Int) - (dv - 5))) hS ?_ ?_; (· exact fun w' _ => (by go_simp)); simp only [Act.put, List.setIfInBounds_toArray, List.set_cons_zero, List.set_cons_succ]
        refine stH (i := 4) (.bool false) hS ?_ ?_; (· exact fun w' _ => (by go_simp <;> omega)); simp only [Act.put, List.setIfInBounds_toArray, List.set_cons_zero, List.set_cons_succ]
        refine stH (i := 5) (.bool false) hS ?_ ?_; (· exact fun w' _ => (by go_simp)); simp only [Act.put, List.setIfInBounds_toArray, List.set_cons_zero, List.set_cons_succ]
        refine stH (i := 6) (.bool false) hS ?_ ?_; (· exact fun w' _ => (by go_simp)); simp only [Act.put, List.setIfInBounds_toArray, List.set_cons_zero, List.set_cons_succ]
        refine skH (i := 7) hS ?_
        simp only [Act.put, List.setIfInBounds_toArray, List.set_cons_zero, List.set_cons_succ]
        refine skH (i := 8) hS ?_
        simp only [Act.put, List.setIfInBounds_toArray, List.set_cons_zero, List.set_cons_succ]
        refine skH (i := 9) hS ?_
        simp only [Act.put, List.setIfInBounds_toArray, List.set_cons_zero, List.set_cons_succ]
        refine skH (i := 10) hS ?_
        simp only [Act.put, List.setIfInBounds_toArray, List.set_cons_zero, List.set_cons_succ]
        refine skH (i := 11) hS ?_
        simp only [Act.put, List.setIfInBounds_toArray, List.set_cons_zero, List.set_cons_succ]
        refine skH (i := 12) hS ?_
        simp only [Act.put, List.setIfInBounds_toArray, List.set_cons_zero, List.set_cons_succ]
        refine skH (i := 13) hS ?_
        simp only [Act.put, List.setIfInBounds_toArray, List.set_cons_zero, List.set_cons_succ]
        refine skH (i := 14) hS ?_
        simp only [Act.put, List.setIfInBounds_toArray, List.set_cons_zero, List.set_cons_succ]
        refine skH (i := 15) hS ?_
        simp only [Act.put, List.setIfInBounds_toArray, List.set_cons_zero, List.set_cons_succ]
        refine skH (i := 16) hS ?_
        simp only [Act.put, List.setIfInBounds_toArray, List.set_cons_zero, List.set_cons_succ]
        refine skH (i := 17) hS ?_
        simp only [Act.put, List.setIfInBounds_toArray, List.set_cons_zero, List.set_cons_succ]
        refine skH (i := 18) hS ?_
        simp only [Act.put, List.setIfInBounds_toArray, List.set_cons_zero, List.set_cons_succ]
        refine skH (i := 19) hS ?_
        simp only [Act.put, List.setIfInBounds_toArray, List.set_cons_zero, List.set_cons_succ]
        refine skH (i := 20) hS ?_
        simp only [Act.put, List.setIfInBounds_toArray, List.set_cons_zero, List.set_cons_succ]
        refine stH (i := 21) (.bool false) hS ?_ ?_; (· exact fun w' _ => (by go_simp)); simp only [Act.put, List.setIfInBounds_toArray, List.set_cons_zero, List.set_cons_succ]
        refine wpAnyH_done (by kernel_rfl) ?_ _
        clear hS
        go_wp2
        go_roundw
        case rel => exact ⟨j + 1, by omega, by go_num, hL⟩
        case measure => simp [intOf]; omega
      · obtain ⟨x, hx⟩ : ∃ x : Nat, (j : Int) - (dv - 5) = (x : Int) := ⟨((j : Int) - (dv - 5)).toNat, by omega⟩
        have hxt : x < 40 := by omega
        have hx1 : (x : Int) < 40 := by omega
        have hx0 : (0 : Int) ≤ (x : Int) := by omega
        have HO' := Lib.hid (fun w' y hy => HO.out j x w' y hxt hjt hx hy)
        clear h1 h2
        obtain ⟨gb, ob, ub, rfl, hb1, hb2⟩ := hL.fact0.get hjt
        obtain ⟨ga, oa, ua, rfl, ha1, ha2⟩ := hL.fact1.get hxt
        have Kb := Lib.hid ((hL.cell (o := 2) .here).trans rfl)
        have Ka := Lib.hid ((hL.cell (o := 2) (.there .here)).trans rfl)
        have Hb2 := Lib.hid hb2; have Ha2 := Lib.hid ha2
        have Hb1 := Lib.hid hb1; have Ha1 := Lib.hid ha1
        clear hb1 hb2 ha1 ha2
        generalize FB j = rb at *
        go_wp2_with (first | (first | (clear hL n1; with_reducible intro b1 w1 hL) | (clear hL n2; with_reducible intro b2 w2 hL) | (clear hL; with_reducible intro _ _ hL)) | (with_reducible refine wpC_alloc rfl _ rfl _ _ inferInstance hL ?_) | (with_reducible first | refine wpB_agg rfl _ _ _ rfl rfl hL ?_ | refine wpB_one rfl _ _ (.int _ _) rfl rfl rfl hL ?_ | refine wpB_one rfl _ _ (.slice _ _ _) rfl rfl rfl hL ?_ | refine wpB_one rfl _ _ (.bool _) rfl rfl rfl hL ?_ | refine wpB_one rfl _ _ (.pointer _) rfl rfl rfl hL ?_ | refine wpB_one rfl _ _ (.func _ _ _) rfl rfl rfl hL ?_) | (with_reducible first | refine wpH_max rfl _ _ _ _ rfl _ _ rfl rfl ?_ | refine wpH_min rfl _ _ _ _ rfl _ _ rfl rfl ?_) | ((with_reducible refine wpA_load rfl _ _ rfl _ rfl ?_); first | refine loadA hL ?_ | refine loadR hL ?_ | refine loadC hL ?_ | refine loadD ?_ | refine loadE hL ?_ | refine loadF ?_) | ((with_reducible refine wpA_index rfl _ _ _ rfl _ rfl _ rfl ?_); first | (refine indexA ?_; try rw [Int.toNat_natCast]) | refine indexC ?_) | ((with_reducible refine wpA_store rfl _ _ _ rfl _ rfl (.agg _) rfl ?_); refine storeR hL ?_; clear hL; intro _ hL) | ((with_reducible first | refine wpA_store rfl _ _ _ rfl _ rfl (.int _ _) rfl ?_ | refine wpA_store rfl _ _ _ rfl _ rfl (.slice _ _ _) rfl ?_ | refine wpA_store rfl _ _ _ rfl _ rfl (.bool _) rfl ?_ | refine wpA_store rfl _ _ _ rfl _ rfl (.pointer _) rfl ?_ | refine wpA_store rfl _ _ _ rfl _ rfl (.func _ _ _) rfl ?_); (first | refine storeA hL ?_ | refine storeO hL ?_); (clear hL; intro _ hL)) | ((with_reducible refine wpA_lit rfl _ _ _ rfl ?_); first | refine litA1 hL ?_ | refine litA2 hL ?_ | refine litA3 hL ?_ | refine litA4 hL ?_ | refine litA6 hL ?_) | ((with_reducible refine wpA_append rfl _ _ _ rfl (.slice _ _ _) rfl ?_); intro vq hvq; simp [go_sem] at hvq; subst hvq; refine appendA hL ?_; clear hL; intro _ _ _ hL; try dsimp only at hL) | ((with_reducible refine wpA_make rfl _ _ _ rfl _ rfl rfl ?_); refine makeA hL ?_))
        refine wpH_later (by kernel_rfl) fun hS => ?_
        replace hL := hL.drew
        refine stH (i := 0) (.int .i64 x) hS ?_ ?_; (· exact fun w' _ => (by go_simp)); simp only [Act.put, List.setIfInBounds_toArray, List.set_cons_zero, List.set_cons_succ]
        refine stH (i := 1) (.bool true) hS ?_ ?_; (· exact fun w' _ => (by go_simp <;> omega)); simp only [Act.put, List.setIfInBounds_toArray, List.set_cons_zero, List.set_cons_succ]
        refine stH (i := 2) (.bool true) hS ?_ ?_; (· exact fun w' _ => (by go_simp)); simp only [Act.put, List.setIfInBounds_toArray, List.set_cons_zero, List.set_cons_succ]
        refine stH (i := 3) (.int .i64 x) hS ?_ ?_; (· exact fun w' _ => (by go_simp)); simp only [Act.put, List.setIfInBounds_toArray, List.set_cons_zero, List.set_cons_succ]
        refine stH (i := 4) (.bool true) hS ?_ ?_; (· exact fun w' _ => (by go_simp <;> omega)); simp only [Act.put, List.setIfInBounds_toArray, List.set_cons_zero, List.set_cons_succ]
        refine stH (i := 5) (.bool true) hS ?_ ?_; (· exact fun w' _ => (by go_simp)); simp only [Act.put, List.setIfInBounds_toArray, List.set_cons_zero, List.set_cons_succ]
        refine stH (i := 6) (.bool true) hS ?_ ?_; (· exact fun w' _ => (by go_simp)); simp only [Act.put, List.setIfInBounds_toArray, List.set_cons_zero, List.set_cons_succ]
        refine stH (i := 7) (.pointer (some ⟨b2, 2, none⟩)) hS ?_ ?_; (· exact fun w' _ => (by go_simp)); simp only [Act.put, List.setIfInBounds_toArray, List.set_cons_zero, List.set_cons_succ]
        refine stH (i := 8) (.slice (some ⟨gb, ob, none⟩) 40 cb) hS ?_ ?_; (· exact fun w' hw => run_loadOp _ _ rfl _ rfl _ (load_cell (later_cell hw Kb.out))); simp only [Act.put, List.setIfInBounds_toArray, List.set_cons_zero, List.set_cons_succ]
        refine stH (i := 9) (.int .i64 j) hS ?_ ?_; (· exact fun w' _ => (by go_simp)); simp only [Act.put, List.setIfInBounds_toArray, List.set_cons_zero, List.set_cons_succ]
        refine stH (i := 10) (.pointer (some ⟨gb, ob + j, none⟩)) hS ?_ ?_; (· exact fun w' _ => (by go_simp)); simp only [Act.put, List.setIfInBounds_toArray, List.set_cons_zero, List.set_cons_succ]
        refine stH (i := 11) (ub) hS ?_ ?_; (· exact fun w' hw => run_loadOp _ _ rfl _ rfl _ (load_cell (later_cell hw Hb1.out))); simp only [Act.put, List.setIfInBounds_toArray, List.set_cons_zero, List.set_cons_succ]
        refine stH (i := 12) (.pointer (some ⟨b1, 2, none⟩)) hS ?_ ?_; (· exact fun w' _ => (by go_simp)); simp only [Act.put, List.setIfInBounds_toArray, List.set_cons_zero, List.set_cons_succ]
        refine stH (i := 13) (.slice (some ⟨ga, oa, none⟩) 40 ca) hS ?_ ?_; (· exact fun w' hw => run_loadOp _ _ rfl _ rfl _ (load_cell (later_cell hw Ka.out))); simp only [Act.put, List.setIfInBounds_toArray, List.set_cons_zero, List.set_cons_succ]
        refine stH (i := 14) (.int .i64 x) hS ?_ ?_; (· exact fun w' _ => (by go_simp)); simp only [Act.put, List.setIfInBounds_toArray, List.set_cons_zero, List.set_cons_succ]
        refine stH (i := 15) (.pointer (some ⟨ga, oa + x, none⟩)) hS ?_ ?_; (· exact fun w' _ => (by go_simp)); simp only [Act.put, List.setIfInBounds_toArray, List.set_cons_zero, List.set_cons_succ]
        refine stH (i := 16) (ua) hS ?_ ?_; (· exact fun w' hw => run_loadOp _ _ rfl _ rfl _ (load_cell (later_cell hw Ha1.out))); simp only [Act.put, List.setIfInBounds_toArray, List.set_cons_zero, List.set_cons_succ]
        refine stH (i := 17) (.int .i64 (du - 5)) hS ?_ ?_; (· exact fun w' _ => (by go_simp)); simp only [Act.put, List.setIfInBounds_toArray, List.set_cons_zero, List.set_cons_succ]
        refine wpH_one (i := 18) (by kernel_rfl) (wpOp_of (by simp only [List.getElem?_toArray, List.getElem?_cons_zero, List.getElem?_cons_succ]; rfl) ?_)
        refine st_call rfl 29 #[ua, .int .i64 (du - 5), .int .i64 40] (by go_simp) (HO'.out _ _ (SliceAt.below Ha2.out hS)) ?_
        rintro e w' ⟨vo, rfl, hb, hf⟩
        replace hL := hL.call hb
        replace hS := later_more hS hb
        have ho := hf.now
        clear hb hf
        refine ⟨_, rfl, hS, ?_⟩
        simp only [Act.put, List.setIfInBounds_toArray, List.set_cons_zero, List.set_cons_succ]
        refine wpH_one (i := 19) (by kernel_rfl) (wpOp_of (by simp only [List.getElem?_toArray, List.getElem?_cons_zero, List.getElem?_cons_succ]; rfl) ?_)
        refine st_call rfl 14 #[ub, vo] (by go_simp) (sameR_calls _ _ _ rb (SliceAt.below Hb2.out hS) ho) ?_
        rintro e w' ⟨rfl, hb⟩
        replace hL := hL.call hb
        replace hS := later_more hS hb
        clear hb
        refine ⟨_, rfl, hS, ?_⟩
        simp only [Act.put, List.setIfInBounds_toArray, List.set_cons_zero, List.set_cons_succ]
        refine stH (i := 20) (.bool false) hS ?_ ?_; (· exact fun w' _ => (by go_simp)); simp only [Act.put, List.setIfInBounds_toArray, List.set_cons_zero, List.set_cons_succ]
        refine stH (i := 21) (.bool false) hS ?_ ?_; (· exact fun w' _ => (by go_simp)); simp only [Act.put, List.setIfInBounds_toArray, List.set_cons_zero, List.set_cons_succ]
        refine wpAnyH_done (by kernel_rfl) ?_ _
        clear hS
        go_wp2
        go_roundw
        case rel => exact ⟨j + 1, by omega, by go_num, hL⟩
        case measure => simp [intOf]; omega
    · have e : j = 40 := by omega
      subst e
      go_wp2_with (first | (first | (clear hL n1; with_reducible intro b1 w1 hL) | (clear hL n2; with_reducible intro b2 w2 hL) | (clear hL; with_reducible intro _ _ hL)) | (with_reducible refine wpC_alloc rfl _ rfl _ _ inferInstance hL ?_) | (with_reducible first | refine wpB_agg rfl _ _ _ rfl rfl hL ?_ | refine wpB_one rfl _ _ (.int _ _) rfl rfl rfl hL ?_ | refine wpB_one rfl _ _ (.slice _ _ _) rfl rfl rfl hL ?_ | refine wpB_one rfl _ _ (.bool _) rfl rfl rfl hL ?_ | refine wpB_one rfl _ _ (.pointer _) rfl rfl rfl hL ?_ | refine wpB_one rfl _ _ (.func _ _ _) rfl rfl rfl hL ?_) | (with_reducible first | refine wpH_max rfl _ _ _ _ rfl _ _ rfl rfl ?_ | refine wpH_min rfl _ _ _ _ rfl _ _ rfl rfl ?_) | ((with_reducible refine wpA_load rfl _ _ rfl _ rfl ?_); first | refine loadA hL ?_ | refine loadR hL ?_ | refine loadC hL ?_ | refine loadD ?_ | refine loadE hL ?_ | refine loadF ?_) | ((with_reducible refine wpA_index rfl _ _ _ rfl _ rfl _ rfl ?_); first | (refine indexA ?_; try rw [Int.toNat_natCast]) | refine indexC ?_) | ((with_reducible refine wpA_store rfl _ _ _ rfl _ rfl (.agg _) rfl ?_); refine storeR hL ?_; clear hL; intro _ hL) | ((with_reducible first | refine wpA_store rfl _ _ _ rfl _ rfl (.int _ _) rfl ?_ | refine wpA_store rfl _ _ _ rfl _ rfl (.slice _ _ _) rfl ?_ | refine wpA_store rfl _ _ _ rfl _ rfl (.bool _) rfl ?_ | refine wpA_store rfl _ _ _ rfl _ rfl (.pointer _) rfl ?_ | refine wpA_store rfl _ _ _ rfl _ rfl (.func _ _ _) rfl ?_); (first | refine storeA hL ?_ | refine storeO hL ?_); (clear hL; intro _ hL)) | ((with_reducible refine wpA_lit rfl _ _ _ rfl ?_); first | refine litA1 hL ?_ | refine litA2 hL ?_ | refine litA3 hL ?_ | refine litA4 hL ?_ | refine litA6 hL ?_) | ((with_reducible refine wpA_append rfl _ _ _ rfl (.slice _ _ _) rfl ?_); intro vq hvq; simp [go_sem] at hvq; subst hvq; refine appendA hL ?_; clear hL; intro _ _ _ hL; try dsimp only at hL) | ((with_reducible refine wpA_make rfl _ _ _ rfl _ rfl rfl ?_); refine makeA hL ?_))
      go_ret
      exact ⟨rfl, hL.below⟩
end Go.Proofs.Ytkgblkaihblgeaa
