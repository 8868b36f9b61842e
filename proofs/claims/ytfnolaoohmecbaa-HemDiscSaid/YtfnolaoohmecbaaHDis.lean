/- HemDisc returns true. -/
import Derived.Test.YtfnolaoohmecbaaHmK
-- lit6
namespace Go.Proofs.Ytfnolaoohmecbaa
open Go.RowKit

set_option maxRecDepth 100000 in
set_option maxHeartbeats 4000000 in
theorem refFloor_calls (n : Nat) (hn : n < 18446744073709551616) (w : World) : Calls Try.prog 22 #[.int .u64 n] w fun e w' => (∃ r : Nat, e = .returned (.int .u64 r) ∧ r * r ≤ n ∧ n < (r + 1) * (r + 1) ∧ r < 4294967296) ∧ Below w.heap.size w w' := by
  have h0 := Lib.hid (RootAt.start hn)
  have hL := Holds.start w
  go_enter Try.func22, Try.ntmps22
  go_wp2_with (first | ((clear hL; with_reducible intro _ _ hL)) | (with_reducible refine wpC_alloc rfl _ rfl _ _ inferInstance hL ?_) | (with_reducible first | refine wpB_agg rfl _ _ _ rfl rfl hL ?_ | refine wpB_one rfl _ _ (.int _ _) rfl rfl rfl hL ?_ | refine wpB_one rfl _ _ (.slice _ _ _) rfl rfl rfl hL ?_ | refine wpB_one rfl _ _ (.bool _) rfl rfl rfl hL ?_ | refine wpB_one rfl _ _ (.pointer _) rfl rfl rfl hL ?_ | refine wpB_one rfl _ _ (.func _ _ _) rfl rfl rfl hL ?_) | (with_reducible first | refine wpH_max rfl _ _ _ _ rfl _ _ rfl rfl ?_ | refine wpH_min rfl _ _ _ _ rfl _ _ rfl rfl ?_) | ((with_reducible refine wpA_load rfl _ _ rfl _ rfl ?_); first | refine loadA hL ?_ | refine loadR hL ?_ | refine loadC hL ?_ | refine loadD ?_ | refine loadE hL ?_ | refine loadF ?_) | ((with_reducible refine wpA_index rfl _ _ _ rfl _ rfl _ rfl ?_); first | (refine indexA ?_; try rw [Int.toNat_natCast]) | refine indexC ?_) | ((with_reducible refine wpA_store rfl _ _ _ rfl _ rfl (.agg _) rfl ?_); refine storeR hL ?_; clear hL; intro _ hL) | ((with_reducible first | refine wpA_store rfl _ _ _ rfl _ rfl (.int _ _) rfl ?_ | refine wpA_store rfl _ _ _ rfl _ rfl (.slice _ _ _) rfl ?_ | refine wpA_store rfl _ _ _ rfl _ rfl (.bool _) rfl ?_ | refine wpA_store rfl _ _ _ rfl _ rfl (.pointer _) rfl ?_ | refine wpA_store rfl _ _ _ rfl _ rfl (.func _ _ _) rfl ?_); (first | refine storeA hL ?_ | refine storeO hL ?_); (clear hL; intro _ hL)) | ((with_reducible refine wpA_lit rfl _ _ _ rfl ?_); first | refine litA1 hL ?_ | refine litA2 hL ?_ | refine litA3 hL ?_ | refine litA4 hL ?_ | refine litA6 hL ?_) | ((with_reducible refine wpA_append rfl _ _ _ rfl (.slice _ _ _) rfl ?_); intro vq hvq; simp [go_sem] at hvq; subst hvq; refine appendA hL ?_; clear hL; intro _ _ _ hL; try dsimp only at hL) | ((with_reducible refine wpA_make rfl _ _ _ rfl _ rfl rfl ?_); refine makeA hL ?_))
  go_loopw [3, 4] (fun s3 s4 wr => ∃ k r : Nat, k ≤ 32 ∧ s4 = .int .i64 (31 - (k : Int)) ∧ s3 = .int .u64 r ∧ Hid (RootAt n k r) ∧ Holds w wr [] [])
    (fun s3 s4 wr => (intOf s4 + 1).toNat)
  case atStart => exact ⟨0, 0, by omega, rfl, rfl, h0, hL⟩
  case round =>
    clear hL
    obtain ⟨k, r, hk, rfl, rfl, hC, hL⟩ := hrel
    by_cases hlt : k < 32
    · have hor := hC.out.or hlt
      have hle := hC.out.le
      rw [pow_down hlt] at hle
      have HU := Lib.hid (hC.out.up hlt)
      have HD := Lib.hid (hC.out.stay hlt)
      have hs0 := Nat.two_pow_pos (31 - k)
      obtain ⟨m, hm⟩ : ∃ m : Nat, 31 - k = m := ⟨_, rfl⟩
      have hmi : 31 - (k : Int) = (m : Int) := by omega
      have hm32 : m ≤ 31 := by omega
      rw [hm] at hor hle HU HD hs0
      rw [hmi]
      have wm : IntKind.u64.wrap (m : Int) = (m : Int) := by rw [IntKind.wrap_u64]; omega
      have hS2 : (2 : Int) ^ m = ((2 ^ m : Nat) : Int) := by simp
      generalize 2 ^ m = S at *
      have htt : (r + S) * (r + S) ≤ 4294967295 * 4294967295 := Nat.mul_le_mul (by omega) (by omega)
      generalize r + S = t at *
      have ht0 : (t : Int) * t = ((t * t : Nat) : Int) := by simp
      have w1 : IntKind.u64.wrap ((t : Int) * t) = ((t * t : Nat) : Int) := by rw [IntKind.wrap_u64, ht0]; omega
      have w2 : IntKind.u64.wrap (S : Int) = (S : Int) := by rw [IntKind.wrap_u64]; omega
      have hmk : (m : Int) - 1 = 31 - ((k + 1 : Nat) : Int) := by omega
      have HMK := Lib.hid hmk
      clear ht0 hmk
      rcases (by omega : t * t ≤ n ∨ ¬ t * t ≤ n) with hr | hr
      · have HA := Lib.hid (HU.out hr)
        have hr2 : ((t * t : Nat) : Int) ≤ (n : Int) := by omega
        generalize t * t = tt at *
        clear HU HD hm hmi
        go_wp2_with (first | ((clear hL; with_reducible intro _ _ hL)) | (with_reducible refine wpC_alloc rfl _ rfl _ _ inferInstance hL ?_) | (with_reducible first | refine wpB_agg rfl _ _ _ rfl rfl hL ?_ | refine wpB_one rfl _ _ (.int _ _) rfl rfl rfl hL ?_ | refine wpB_one rfl _ _ (.slice _ _ _) rfl rfl rfl hL ?_ | refine wpB_one rfl _ _ (.bool _) rfl rfl rfl hL ?_ | refine wpB_one rfl _ _ (.pointer _) rfl rfl rfl hL ?_ | refine wpB_one rfl _ _ (.func _ _ _) rfl rfl rfl hL ?_) | (with_reducible first | refine wpH_max rfl _ _ _ _ rfl _ _ rfl rfl ?_ | refine wpH_min rfl _ _ _ _ rfl _ _ rfl rfl ?_) | ((with_reducible refine wpA_load rfl _ _ rfl _ rfl ?_); first | refine loadA hL ?_ | refine loadR hL ?_ | refine loadC hL ?_ | refine loadD ?_ | refine loadE hL ?_ | refine loadF ?_) | ((with_reducible refine wpA_index rfl _ _ _ rfl _ rfl _ rfl ?_); first | (refine indexA ?_; try rw [Int.toNat_natCast]) | refine indexC ?_) | ((with_reducible refine wpA_store rfl _ _ _ rfl _ rfl (.agg _) rfl ?_); refine storeR hL ?_; clear hL; intro _ hL) | ((with_reducible first | refine wpA_store rfl _ _ _ rfl _ rfl (.int _ _) rfl ?_ | refine wpA_store rfl _ _ _ rfl _ rfl (.slice _ _ _) rfl ?_ | refine wpA_store rfl _ _ _ rfl _ rfl (.bool _) rfl ?_ | refine wpA_store rfl _ _ _ rfl _ rfl (.pointer _) rfl ?_ | refine wpA_store rfl _ _ _ rfl _ rfl (.func _ _ _) rfl ?_); (first | refine storeA hL ?_ | refine storeO hL ?_); (clear hL; intro _ hL)) | ((with_reducible refine wpA_lit rfl _ _ _ rfl ?_); first | refine litA1 hL ?_ | refine litA2 hL ?_ | refine litA3 hL ?_ | refine litA4 hL ?_ | refine litA6 hL ?_) | ((with_reducible refine wpA_append rfl _ _ _ rfl (.slice _ _ _) rfl ?_); intro vq hvq; simp [go_sem] at hvq; subst hvq; refine appendA hL ?_; clear hL; intro _ _ _ hL; try dsimp only at hL) | ((with_reducible refine wpA_make rfl _ _ _ rfl _ rfl rfl ?_); refine makeA hL ?_))
        go_roundw
        case rel => exact ⟨k + 1, t, by omega, by first | rfl | rw [← HMK.out], rfl, HA, hL⟩
        case measure => (simp [intOf] <;> omega)
      · have HA := Lib.hid (HD.out hr)
        have hr2 : ¬ ((t * t : Nat) : Int) ≤ (n : Int) := by omega
        generalize t * t = tt at *
        clear HU HD hm hmi
        go_wp2_with (first | ((clear hL; with_reducible intro _ _ hL)) | (with_reducible refine wpC_alloc rfl _ rfl _ _ inferInstance hL ?_) | (with_reducible first | refine wpB_agg rfl _ _ _ rfl rfl hL ?_ | refine wpB_one rfl _ _ (.int _ _) rfl rfl rfl hL ?_ | refine wpB_one rfl _ _ (.slice _ _ _) rfl rfl rfl hL ?_ | refine wpB_one rfl _ _ (.bool _) rfl rfl rfl hL ?_ | refine wpB_one rfl _ _ (.pointer _) rfl rfl rfl hL ?_ | refine wpB_one rfl _ _ (.func _ _ _) rfl rfl rfl hL ?_) | (with_reducible first | refine wpH_max rfl _ _ _ _ rfl _ _ rfl rfl ?_ | refine wpH_min rfl _ _ _ _ rfl _ _ rfl rfl ?_) | ((with_reducible refine wpA_load rfl _ _ rfl _ rfl ?_); first | refine loadA hL ?_ | refine loadR hL ?_ | refine loadC hL ?_ | refine loadD ?_ | refine loadE hL ?_ | refine loadF ?_) | ((with_reducible refine wpA_index rfl _ _ _ rfl _ rfl _ rfl ?_); first | (refine indexA ?_; try rw [Int.toNat_natCast]) | refine indexC ?_) | ((with_reducible refine wpA_store rfl _ _ _ rfl _ rfl (.agg _) rfl ?_); refine storeR hL ?_; clear hL; intro _ hL) | ((with_reducible first | refine wpA_store rfl _ _ _ rfl _ rfl (.int _ _) rfl ?_ | refine wpA_store rfl _ _ _ rfl _ rfl (.slice _ _ _) rfl ?_ | refine wpA_store rfl _ _ _ rfl _ rfl (.bool _) rfl ?_ | refine wpA_store rfl _ _ _ rfl _ rfl (.pointer _) rfl ?_ | refine wpA_store rfl _ _ _ rfl _ rfl (.func _ _ _) rfl ?_); (first | refine storeA hL ?_ | refine storeO hL ?_); (clear hL; intro _ hL)) | ((with_reducible refine wpA_lit rfl _ _ _ rfl ?_); first | refine litA1 hL ?_ | refine litA2 hL ?_ | refine litA3 hL ?_ | refine litA4 hL ?_ | refine litA6 hL ?_) | ((with_reducible refine wpA_append rfl _ _ _ rfl (.slice _ _ _) rfl ?_); intro vq hvq; simp [go_sem] at hvq; subst hvq; refine appendA hL ?_; clear hL; intro _ _ _ hL; try dsimp only at hL) | ((with_reducible refine wpA_make rfl _ _ _ rfl _ rfl rfl ?_); refine makeA hL ?_))
        go_roundw
        case rel => exact ⟨k + 1, r, by omega, by first | rfl | rw [← HMK.out], rfl, HA, hL⟩
        case measure => (simp [intOf] <;> omega)
    · have e : k = 32 := by omega
      subst e
      obtain ⟨_, h1, h2, h3⟩ := hC.out
      simp at h2
      have h3 : r < 4294967296 := by simp at h3; omega
      have H1 := Lib.hid h1; have H2 := Lib.hid h2; have H3 := Lib.hid h3
      clear h1 h2 h3
      go_wp2_with (first | ((clear hL; with_reducible intro _ _ hL)) | (with_reducible refine wpC_alloc rfl _ rfl _ _ inferInstance hL ?_) | (with_reducible first | refine wpB_agg rfl _ _ _ rfl rfl hL ?_ | refine wpB_one rfl _ _ (.int _ _) rfl rfl rfl hL ?_ | refine wpB_one rfl _ _ (.slice _ _ _) rfl rfl rfl hL ?_ | refine wpB_one rfl _ _ (.bool _) rfl rfl rfl hL ?_ | refine wpB_one rfl _ _ (.pointer _) rfl rfl rfl hL ?_ | refine wpB_one rfl _ _ (.func _ _ _) rfl rfl rfl hL ?_) | (with_reducible first | refine wpH_max rfl _ _ _ _ rfl _ _ rfl rfl ?_ | refine wpH_min rfl _ _ _ _ rfl _ _ rfl rfl ?_) | ((with_reducible refine wpA_load rfl _ _ rfl _ rfl ?_); first | refine loadA hL ?_ | refine loadR hL ?_ | refine loadC hL ?_ | refine loadD ?_ | refine loadE hL ?_ | refine loadF ?_) | ((with_reducible refine wpA_index rfl _ _ _ rfl _ rfl _ rfl ?_); first | (refine indexA ?_; try rw [Int.toNat_natCast]) | refine indexC ?_) | ((with_reducible refine wpA_store rfl _ _ _ rfl _ rfl (.agg _) rfl ?_); refine storeR hL ?_; clear hL; intro _ hL) | ((with_reducible first | refine wpA_store rfl _ _ _ rfl _ rfl (.int _ _) rfl ?_ | refine wpA_store rfl _ _ _ rfl _ rfl (.slice _ _ _) rfl ?_ | refine wpA_store rfl _ _ _ rfl _ rfl (.bool _) rfl ?_ | refine wpA_store rfl _ _ _ rfl _ rfl (.pointer _) rfl ?_ | refine wpA_store rfl _ _ _ rfl _ rfl (.func _ _ _) rfl ?_); (first | refine storeA hL ?_ | refine storeO hL ?_); (clear hL; intro _ hL)) | ((with_reducible refine wpA_lit rfl _ _ _ rfl ?_); first | refine litA1 hL ?_ | refine litA2 hL ?_ | refine litA3 hL ?_ | refine litA4 hL ?_ | refine litA6 hL ?_) | ((with_reducible refine wpA_append rfl _ _ _ rfl (.slice _ _ _) rfl ?_); intro vq hvq; simp [go_sem] at hvq; subst hvq; refine appendA hL ?_; clear hL; intro _ _ _ hL; try dsimp only at hL) | ((with_reducible refine wpA_make rfl _ _ _ rfl _ rfl rfl ?_); refine makeA hL ?_))
      go_ret
      exact ⟨⟨r, rfl, H1.out, H2.out, H3.out⟩, hL.below⟩
def dotP (px py : Int) : List Sg := [⟨1, px, py, 0, 0⟩, ⟨4, 0, 0, 0, 0⟩]
theorem dot_may {px py : Int} (hx : -8191 ≤ px ∧ px ≤ 8191) (hy : -8191 ≤ py ∧ py ≤ 8191) : pathMay (dotP px py) = true ∧ straightS (dotP px py) = true := by
  have h : pathMay (dotP px py) = true := by
    unfold pathMay dotP maySF maySF maySF rightS near1
    simp
    omega
  refine ⟨h, ?_⟩
  unfold straightS
  rw [h]
  rfl
theorem dot_cov {px py wd : Int} (hx : -8191 ≤ px ∧ px ≤ 8191) (hy : -8191 ≤ py ∧ py ≤ 8191) (x y : Int) : covL (allS (dotP px py) ⟨wd, 1, 0⟩) x y = discIn px py wd x y := by
  have hc : contoursS (dotP px py) = [⟨px, py, [], true⟩] := by
    unfold contoursS
    rw [if_pos (dot_may hx hy).1]
    rfl
  unfold allS
  rw [hc]
  have hs : shapesC ⟨wd, 1, 0⟩ ⟨px, py, [], true⟩ = [around 1 px py wd] := by
    have hp : piecesC ⟨px, py, [], true⟩ = [] := by unfold piecesC shutE posE; simp
    unfold shapesC
    rw [hp]
    rfl
  rw [List.flatMap_cons, hs]
  unfold covL covS around
  simp
theorem arrB_step {Q : Nat → Bool} {k : Nat} {b : Bool} (h : Q k = b) : arrB (fun j => if j = k then b else (decide (j < k) && Q j)) = arrB (fun j => decide (j < k + 1) && Q j) := by
  refine arrB_congr fun j _ => ?_
  by_cases e : j = k
  · subst e; simp [h]
  · have : j < k + 1 ↔ j < k := by omega
    simp [e, this]
theorem arrB_start (Q : Nat → Bool) : arrB (fun _ => false) = arrB (fun j => decide (j < 0) && Q j) := arrB_congr fun j _ => by simp
theorem runs_upto (Q : Nat → Bool) (n : Nat) : runsTo (fun j => decide (j < n) && Q j) n = runsTo Q n := runsTo_congr fun j hj => by simp [hj]
set_option maxRecDepth 100000 in
set_option maxHeartbeats 8000000 in
theorem disc_calls (w : World) (vx vy vw vt : Int) : Calls Try.prog 5 #[.int .i64 vx, .int .i64 vy, .int .i64 vw, .int .i64 vt] w fun e w' => e = .returned (.bool true) ∧ Below w.heap.size w w' := by
  have hL := Holds.start w
  have q1a := Int.emod_nonneg vx (show (300 : Int) ≠ 0 by omega)
  have q1b := Int.emod_lt_of_pos vx (show (0 : Int) < 300 by omega)
  have q2a := Int.emod_nonneg vy (show (300 : Int) ≠ 0 by omega)
  have q2b := Int.emod_lt_of_pos vy (show (0 : Int) < 300 by omega)
  have q3a := Int.emod_nonneg vw (show (400 : Int) ≠ 0 by omega)
  have q3b := Int.emod_lt_of_pos vw (show (0 : Int) < 400 by omega)
  have q4a := Int.emod_nonneg vt (show (300 : Int) ≠ 0 by omega)
  have q4b := Int.emod_lt_of_pos vt (show (0 : Int) < 300 by omega)
  have HP1 := Lib.hid (fun w => place_calls vx 300 (by omega) (by omega) w)
  have HP2 := Lib.hid (fun w => place_calls vy 300 (by omega) (by omega) w)
  have HP3 := Lib.hid (fun w => place_calls vw 400 (by omega) (by omega) w)
  have HP4 := Lib.hid (fun w => place_calls vt 300 (by omega) (by omega) w)
  generalize vx % 300 = px at *
  generalize vy % 300 = py at *
  generalize vw % 400 = wd at *
  generalize vt % 300 = t at *
  have hpx : -8191 ≤ px ∧ px ≤ 8191 := by omega
  have hpy : -8191 ≤ py ∧ py ≤ 8191 := by omega
  have HLn := Lib.hid (show ∀ w' v, SegsAt w' v (dotP px py) → Calls Try.prog 14 #[v, .agg #[.int .i64 wd, .int .i64 1, .int .i64 0], .int .i64 t, .int .i64 20] w' (RunsOut (runsTo (fun i => discIn px py wd (16 * (i : Int) + 8) t) 20) w') from fun w' v hv => by
    have h := hemLine_calls w' v (dotP px py) hv ⟨wd, 1, 0⟩ t 20
    have e : strokeS (dotP px py) ⟨wd, 1, 0⟩ t 20 = runsTo (fun i => discIn px py wd (16 * (i : Int) + 8) t) 20 := by
      unfold strokeS
      rw [if_pos (by unfold lineOkS mayY near1; rw [(dot_may hpx hpy).2]; simp; omega)]
      exact runsTo_congr fun i _ => dot_cov hpx hpy _ _
    rw [e] at h
    exact h)
  have bV : -300 ≤ t - py ∧ t - py ≤ 300 := by omega
  have hd : ∀ x, discIn px py wd x t = decide (4 * ((x - px) * (x - px)) ≤ wd * wd - 4 * (t - py) * (t - py)) := by
    intro x
    unfold discIn
    rw [Int.mul_add, ← Int.mul_assoc 4 (t - py)]
    congr 1
    rw [eq_iff_iff]
    omega
  have HARMS : True := trivial
  generalize hVY : t - py = VY at *
  have b4 : -1200 ≤ 4 * VY ∧ 4 * VY ≤ 1200 := by omega
  have bQ := mul_bd b4.1 b4.2 bV.1 bV.2
  have bWW := mul_bd (a := wd) (b := wd) (A := 400) (B := 400) (by omega) (by omega) (by omega) (by omega)
  have nn : ∀ t : Int, 0 ≤ t * t := fun t => by rw [← Int.natAbs_mul_self]; omega
  have nWW := nn wd
  generalize hWW : wd * wd = WW at *
  generalize hQ : 4 * VY * VY = Q at *
  rcases (by omega : WW - Q < 0 ∨ 0 ≤ WW - Q) with h | h
  · have e : runsTo (fun i => discIn px py wd (16 * (i : Int) + 8) t) 20 = [] := by
      rw [runsTo_congr (q := fun _ => false) (fun i _ => by rw [hd]; have := nn (16 * (i : Int) + 8 - px); simp; omega)]
      rfl
    rw [e] at HLn
    clear e hd nn HARMS
    have n1 : True := trivial; have n2 : True := trivial; have n3 : True := trivial
    go_enter Try.func5, Try.ntmps5
    go_wp2_with (first | (go_at_call 12; (with_reducible refine (known_calls _).mono ?_); rintro e _ ⟨rfl, hb⟩; replace hL := hL.call hb; clear hb) | (go_at_call 21; (with_reducible first | refine (HP1.out _).mono ?_ | refine (HP2.out _).mono ?_ | refine (HP3.out _).mono ?_ | refine (HP4.out _).mono ?_); rintro e _ ⟨rfl, rfl⟩) | (go_at_call 14; (with_reducible refine (HLn.out _ _ ?_).mono ?_); (· exact segs_blk hL .here rfl rfl (by unfold maxLen; omega)); rintro e _ ⟨vl, rfl, hb, hf⟩; obtain ⟨la, lc, rfl, _⟩ := hf.now; replace hL := hL.callF hb hf; clear hb hf) | (first | (clear hL n1; with_reducible intro b1 w1 hL) | (clear hL n2; with_reducible intro b2 w2 hL) | (clear hL n3; with_reducible intro b3 w3 hL) | (clear hL; with_reducible intro _ _ hL)) | (with_reducible refine wpC_alloc rfl _ rfl _ _ inferInstance hL ?_) | (with_reducible first | refine wpB_agg rfl _ _ _ rfl rfl hL ?_ | refine wpB_one rfl _ _ (.int _ _) rfl rfl rfl hL ?_ | refine wpB_one rfl _ _ (.slice _ _ _) rfl rfl rfl hL ?_ | refine wpB_one rfl _ _ (.bool _) rfl rfl rfl hL ?_ | refine wpB_one rfl _ _ (.pointer _) rfl rfl rfl hL ?_ | refine wpB_one rfl _ _ (.func _ _ _) rfl rfl rfl hL ?_) | (with_reducible first | refine wpH_max rfl _ _ _ _ rfl _ _ rfl rfl ?_ | refine wpH_min rfl _ _ _ _ rfl _ _ rfl rfl ?_) | ((with_reducible refine wpA_load rfl _ _ rfl _ rfl ?_); first | refine loadA hL ?_ | refine loadR hL ?_ | refine loadC hL ?_ | refine loadD ?_ | refine loadE hL ?_ | refine loadF ?_) | ((with_reducible refine wpA_index rfl _ _ _ rfl _ rfl _ rfl ?_); first | (refine indexA ?_; try rw [Int.toNat_natCast]) | refine indexC ?_) | ((with_reducible refine wpA_store rfl _ _ _ rfl _ rfl (.agg _) rfl ?_); refine storeR hL ?_; clear hL; intro _ hL) | ((with_reducible first | refine wpA_store rfl _ _ _ rfl _ rfl (.int _ _) rfl ?_ | refine wpA_store rfl _ _ _ rfl _ rfl (.slice _ _ _) rfl ?_ | refine wpA_store rfl _ _ _ rfl _ rfl (.bool _) rfl ?_ | refine wpA_store rfl _ _ _ rfl _ rfl (.pointer _) rfl ?_ | refine wpA_store rfl _ _ _ rfl _ rfl (.func _ _ _) rfl ?_); (first | refine storeA hL ?_ | refine storeO hL ?_); (clear hL; intro _ hL)) | ((with_reducible refine wpA_lit rfl _ _ _ rfl ?_); first | refine litA1 hL ?_ | refine litA2 hL ?_ | refine litA3 hL ?_ | refine litA4 hL ?_ | refine litA6 hL ?_) | ((with_reducible refine wpA_append rfl _ _ _ rfl (.slice _ _ _) rfl ?_); intro vq hvq; simp [go_sem] at hvq; subst hvq; refine appendA hL ?_; clear hL; intro _ _ _ hL; try dsimp only at hL) | ((with_reducible refine wpA_make rfl _ _ _ rfl _ rfl rfl ?_); refine makeA hL ?_))
    go_ret
    exact ⟨rfl, hL.below⟩
  · obtain ⟨n, hn⟩ := Int.eq_ofNat_of_zero_le h
    have HF := Lib.hid (show ∀ r : Nat, r * r ≤ n → n < (r + 1) * (r + 1) → ∀ i : Nat, discIn px py wd (16 * (i : Int) + 8) t = (decide (2 * (16 * (i : Int) + 8 - px) ≤ (r : Int)) && decide (2 * (px - 16 * (i : Int) - 8) ≤ (r : Int))) by
      intro r h1 h2 i
      rw [hd, hn]
      have := far_iff h1 h2 (2 * (16 * (i : Int) + 8 - px))
      rw [show 2 * (16 * (i : Int) + 8 - px) * (2 * (16 * (i : Int) + 8 - px)) = 4 * ((16 * (i : Int) + 8 - px) * (16 * (i : Int) + 8 - px)) by grind] at this
      rw [Bool.eq_iff_iff]
      simp only [Bool.and_eq_true, decide_eq_true_eq]
      rw [this]
      omega)
    clear hd nn HARMS
    generalize hD : (fun i : Nat => discIn px py wd (16 * (i : Int) + 8) t) = D at *
    have HDf := Lib.hid (show ∀ i : Nat, discIn px py wd (16 * (i : Int) + 8) t = D i from fun i => congrFun hD i)
    clear hD
    have hn63 : n < 18446744073709551616 := by omega
    have n1 : True := trivial; have n2 : True := trivial; have n3 : True := trivial
    go_enter Try.func5, Try.ntmps5
    go_wp2_with (first | (go_at_call 12; (with_reducible refine (known_calls _).mono ?_); rintro e _ ⟨rfl, hb⟩; replace hL := hL.call hb; clear hb) | (go_at_call 21; (with_reducible first | refine (HP1.out _).mono ?_ | refine (HP2.out _).mono ?_ | refine (HP3.out _).mono ?_ | refine (HP4.out _).mono ?_); rintro e _ ⟨rfl, rfl⟩) | (go_at_call 14; (with_reducible refine (HLn.out _ _ ?_).mono ?_); (· exact segs_blk hL .here rfl rfl (by unfold maxLen; omega)); rintro e _ ⟨vl, rfl, hb, hf⟩; replace hL := hL.callF hb hf; clear hb hf) | (go_at_call 22; (with_reducible refine (refFloor_calls n hn63 _).mono ?_); rintro e _ ⟨⟨r, rfl, hr1, hr2, hr3⟩, hb⟩; have HG := Lib.hid (HF.out r hr1 hr2); clear hr1 hr2; replace hL := hL.call hb; clear hb) | (first | (clear hL n1; with_reducible intro b1 w1 hL) | (clear hL n2; with_reducible intro b2 w2 hL) | (clear hL n3; with_reducible intro b3 w3 hL) | (clear hL; with_reducible intro _ _ hL)) | (with_reducible refine wpC_alloc rfl _ rfl _ _ inferInstance hL ?_) | (with_reducible first | refine wpB_agg rfl _ _ _ rfl rfl hL ?_ | refine wpB_one rfl _ _ (.int _ _) rfl rfl rfl hL ?_ | refine wpB_one rfl _ _ (.slice _ _ _) rfl rfl rfl hL ?_ | refine wpB_one rfl _ _ (.bool _) rfl rfl rfl hL ?_ | refine wpB_one rfl _ _ (.pointer _) rfl rfl rfl hL ?_ | refine wpB_one rfl _ _ (.func _ _ _) rfl rfl rfl hL ?_) | (with_reducible first | refine wpH_max rfl _ _ _ _ rfl _ _ rfl rfl ?_ | refine wpH_min rfl _ _ _ _ rfl _ _ rfl rfl ?_) | ((with_reducible refine wpA_load rfl _ _ rfl _ rfl ?_); first | refine loadA hL ?_ | refine loadR hL ?_ | refine loadC hL ?_ | refine loadD ?_ | refine loadE hL ?_ | refine loadF ?_) | ((with_reducible refine wpA_index rfl _ _ _ rfl _ rfl _ rfl ?_); first | (refine indexA ?_; try rw [Int.toNat_natCast]) | refine indexC ?_) | ((with_reducible refine wpA_store rfl _ _ _ rfl _ rfl (.agg _) rfl ?_); refine storeR hL ?_; clear hL; intro _ hL) | ((with_reducible first | refine wpA_store rfl _ _ _ rfl _ rfl (.int _ _) rfl ?_ | refine wpA_store rfl _ _ _ rfl _ rfl (.slice _ _ _) rfl ?_ | refine wpA_store rfl _ _ _ rfl _ rfl (.bool _) rfl ?_ | refine wpA_store rfl _ _ _ rfl _ rfl (.pointer _) rfl ?_ | refine wpA_store rfl _ _ _ rfl _ rfl (.func _ _ _) rfl ?_); (first | refine storeA hL ?_ | refine storeO hL ?_); (clear hL; intro _ hL)) | ((with_reducible refine wpA_lit rfl _ _ _ rfl ?_); first | refine litA1 hL ?_ | refine litA2 hL ?_ | refine litA3 hL ?_ | refine litA4 hL ?_ | refine litA6 hL ?_) | ((with_reducible refine wpA_append rfl _ _ _ rfl (.slice _ _ _) rfl ?_); intro vq hvq; simp [go_sem] at hvq; subst hvq; refine appendA hL ?_; clear hL; intro _ _ _ hL; try dsimp only at hL) | ((with_reducible refine wpA_make rfl _ _ _ rfl _ rfl rfl ?_); refine makeA hL ?_))
    go_loopw [17] (fun s17 wr => ∃ k : Nat, k ≤ 20 ∧ s17 = .int .i64 k ∧ Holds w wr [blk b2 (arrB fun j => decide (j < k) && D j) 27] [fun w => RunsAt w vl (runsTo D 20)])
      (fun s17 wr => 20 - (intOf s17).toNat)
    case atStart => exact ⟨0, by omega, rfl, by rw [← arrB_start]; exact hL.drop (.there .here)⟩
    case round =>
      clear hL
      obtain ⟨k, hk, rfl, hL⟩ := hrel
      by_cases hkt : k < 20
      · have hkb : (k : Int) < 20 := by omega
        have hG := HG.out k
        rw [HDf.out] at hG
        rcases (by omega : ¬ 2 * (16 * (k : Int) + 8 - px) ≤ (r : Int) ∨ (2 * (16 * (k : Int) + 8 - px) ≤ (r : Int) ∧ ¬ 2 * (px - 16 * (k : Int) - 8) ≤ (r : Int)) ∨ (2 * (16 * (k : Int) + 8 - px) ≤ (r : Int) ∧ 2 * (px - 16 * (k : Int) - 8) ≤ (r : Int))) with g | ⟨g, g2⟩ | ⟨g, g2⟩
        · rw [decide_eq_false g, Bool.false_and] at hG
          have d1 := decide_eq_false g
          have HS := Lib.hid (arrB_step hG)
          clear hG g
          go_wp2_with (first | (first | (clear hL n1; with_reducible intro b1 w1 hL) | (clear hL n2; with_reducible intro b2 w2 hL) | (clear hL n3; with_reducible intro b3 w3 hL) | (clear hL; with_reducible intro _ _ hL)) | (with_reducible refine wpC_alloc rfl _ rfl _ _ inferInstance hL ?_) | (with_reducible first | refine wpB_agg rfl _ _ _ rfl rfl hL ?_ | refine wpB_one rfl _ _ (.int _ _) rfl rfl rfl hL ?_ | refine wpB_one rfl _ _ (.slice _ _ _) rfl rfl rfl hL ?_ | refine wpB_one rfl _ _ (.bool _) rfl rfl rfl hL ?_ | refine wpB_one rfl _ _ (.pointer _) rfl rfl rfl hL ?_ | refine wpB_one rfl _ _ (.func _ _ _) rfl rfl rfl hL ?_) | (with_reducible first | refine wpH_max rfl _ _ _ _ rfl _ _ rfl rfl ?_ | refine wpH_min rfl _ _ _ _ rfl _ _ rfl rfl ?_) | ((with_reducible refine wpA_load rfl _ _ rfl _ rfl ?_); first | refine loadA hL ?_ | refine loadR hL ?_ | refine loadC hL ?_ | refine loadD ?_ | refine loadE hL ?_ | refine loadF ?_) | ((with_reducible refine wpA_index rfl _ _ _ rfl _ rfl _ rfl ?_); first | (refine indexA ?_; try rw [Int.toNat_natCast]) | refine indexC ?_) | ((with_reducible refine wpA_store rfl _ _ _ rfl _ rfl (.agg _) rfl ?_); refine storeR hL ?_; clear hL; intro _ hL) | ((with_reducible first | refine wpA_store rfl _ _ _ rfl _ rfl (.int _ _) rfl ?_ | refine wpA_store rfl _ _ _ rfl _ rfl (.slice _ _ _) rfl ?_ | refine wpA_store rfl _ _ _ rfl _ rfl (.bool _) rfl ?_ | refine wpA_store rfl _ _ _ rfl _ rfl (.pointer _) rfl ?_ | refine wpA_store rfl _ _ _ rfl _ rfl (.func _ _ _) rfl ?_); (first | refine storeA hL ?_ | refine storeO hL ?_); (clear hL; intro _ hL)) | ((with_reducible refine wpA_lit rfl _ _ _ rfl ?_); first | refine litA1 hL ?_ | refine litA2 hL ?_ | refine litA3 hL ?_ | refine litA4 hL ?_ | refine litA6 hL ?_) | ((with_reducible refine wpA_append rfl _ _ _ rfl (.slice _ _ _) rfl ?_); intro vq hvq; simp [go_sem] at hvq; subst hvq; refine appendA hL ?_; clear hL; intro _ _ _ hL; try dsimp only at hL) | ((with_reducible refine wpA_make rfl _ _ _ rfl _ rfl rfl ?_); refine makeA hL ?_))
          go_roundw
          case rel => exact ⟨k + 1, by omega, by go_num, by rw [← HS.out]; exact hL⟩
          case measure => simp [intOf]; omega
        · rw [decide_eq_false g2, Bool.and_false] at hG
          have d1 := decide_eq_true g
          have d2 := decide_eq_false g2
          have HS := Lib.hid (arrB_step hG)
          clear hG g g2
          go_wp2_with (first | (first | (clear hL n1; with_reducible intro b1 w1 hL) | (clear hL n2; with_reducible intro b2 w2 hL) | (clear hL n3; with_reducible intro b3 w3 hL) | (clear hL; with_reducible intro _ _ hL)) | (with_reducible refine wpC_alloc rfl _ rfl _ _ inferInstance hL ?_) | (with_reducible first | refine wpB_agg rfl _ _ _ rfl rfl hL ?_ | refine wpB_one rfl _ _ (.int _ _) rfl rfl rfl hL ?_ | refine wpB_one rfl _ _ (.slice _ _ _) rfl rfl rfl hL ?_ | refine wpB_one rfl _ _ (.bool _) rfl rfl rfl hL ?_ | refine wpB_one rfl _ _ (.pointer _) rfl rfl rfl hL ?_ | refine wpB_one rfl _ _ (.func _ _ _) rfl rfl rfl hL ?_) | (with_reducible first | refine wpH_max rfl _ _ _ _ rfl _ _ rfl rfl ?_ | refine wpH_min rfl _ _ _ _ rfl _ _ rfl rfl ?_) | ((with_reducible refine wpA_load rfl _ _ rfl _ rfl ?_); first | refine loadA hL ?_ | refine loadR hL ?_ | refine loadC hL ?_ | refine loadD ?_ | refine loadE hL ?_ | refine loadF ?_) | ((with_reducible refine wpA_index rfl _ _ _ rfl _ rfl _ rfl ?_); first | (refine indexA ?_; try rw [Int.toNat_natCast]) | refine indexC ?_) | ((with_reducible refine wpA_store rfl _ _ _ rfl _ rfl (.agg _) rfl ?_); refine storeR hL ?_; clear hL; intro _ hL) | ((with_reducible first | refine wpA_store rfl _ _ _ rfl _ rfl (.int _ _) rfl ?_ | refine wpA_store rfl _ _ _ rfl _ rfl (.slice _ _ _) rfl ?_ | refine wpA_store rfl _ _ _ rfl _ rfl (.bool _) rfl ?_ | refine wpA_store rfl _ _ _ rfl _ rfl (.pointer _) rfl ?_ | refine wpA_store rfl _ _ _ rfl _ rfl (.func _ _ _) rfl ?_); (first | refine storeA hL ?_ | refine storeO hL ?_); (clear hL; intro _ hL)) | ((with_reducible refine wpA_lit rfl _ _ _ rfl ?_); first | refine litA1 hL ?_ | refine litA2 hL ?_ | refine litA3 hL ?_ | refine litA4 hL ?_ | refine litA6 hL ?_) | ((with_reducible refine wpA_append rfl _ _ _ rfl (.slice _ _ _) rfl ?_); intro vq hvq; simp [go_sem] at hvq; subst hvq; refine appendA hL ?_; clear hL; intro _ _ _ hL; try dsimp only at hL) | ((with_reducible refine wpA_make rfl _ _ _ rfl _ rfl rfl ?_); refine makeA hL ?_))
          go_roundw
          case rel => exact ⟨k + 1, by omega, by go_num, by rw [← HS.out]; exact hL⟩
          case measure => simp [intOf]; omega
        · rw [decide_eq_true g, decide_eq_true g2, Bool.and_true] at hG
          have d1 := decide_eq_true g
          have d2 := decide_eq_true g2
          have HS := Lib.hid (arrB_step hG)
          clear hG g g2
          go_wp2_with (first | (first | (clear hL n1; with_reducible intro b1 w1 hL) | (clear hL n2; with_reducible intro b2 w2 hL) | (clear hL n3; with_reducible intro b3 w3 hL) | (clear hL; with_reducible intro _ _ hL)) | (with_reducible refine wpC_alloc rfl _ rfl _ _ inferInstance hL ?_) | (with_reducible first | refine wpB_agg rfl _ _ _ rfl rfl hL ?_ | refine wpB_one rfl _ _ (.int _ _) rfl rfl rfl hL ?_ | refine wpB_one rfl _ _ (.slice _ _ _) rfl rfl rfl hL ?_ | refine wpB_one rfl _ _ (.bool _) rfl rfl rfl hL ?_ | refine wpB_one rfl _ _ (.pointer _) rfl rfl rfl hL ?_ | refine wpB_one rfl _ _ (.func _ _ _) rfl rfl rfl hL ?_) | (with_reducible first | refine wpH_max rfl _ _ _ _ rfl _ _ rfl rfl ?_ | refine wpH_min rfl _ _ _ _ rfl _ _ rfl rfl ?_) | ((with_reducible refine wpA_load rfl _ _ rfl _ rfl ?_); first | refine loadA hL ?_ | refine loadR hL ?_ | refine loadC hL ?_ | refine loadD ?_ | refine loadE hL ?_ | refine loadF ?_) | ((with_reducible refine wpA_index rfl _ _ _ rfl _ rfl _ rfl ?_); first | (refine indexA ?_; try rw [Int.toNat_natCast]) | refine indexC ?_) | ((with_reducible refine wpA_store rfl _ _ _ rfl _ rfl (.agg _) rfl ?_); refine storeR hL ?_; clear hL; intro _ hL) | ((with_reducible first | refine wpA_store rfl _ _ _ rfl _ rfl (.int _ _) rfl ?_ | refine wpA_store rfl _ _ _ rfl _ rfl (.slice _ _ _) rfl ?_ | refine wpA_store rfl _ _ _ rfl _ rfl (.bool _) rfl ?_ | refine wpA_store rfl _ _ _ rfl _ rfl (.pointer _) rfl ?_ | refine wpA_store rfl _ _ _ rfl _ rfl (.func _ _ _) rfl ?_); (first | refine storeA hL ?_ | refine storeO hL ?_); (clear hL; intro _ hL)) | ((with_reducible refine wpA_lit rfl _ _ _ rfl ?_); first | refine litA1 hL ?_ | refine litA2 hL ?_ | refine litA3 hL ?_ | refine litA4 hL ?_ | refine litA6 hL ?_) | ((with_reducible refine wpA_append rfl _ _ _ rfl (.slice _ _ _) rfl ?_); intro vq hvq; simp [go_sem] at hvq; subst hvq; refine appendA hL ?_; clear hL; intro _ _ _ hL; try dsimp only at hL) | ((with_reducible refine wpA_make rfl _ _ _ rfl _ rfl rfl ?_); refine makeA hL ?_))
          go_roundw
          case rel => exact ⟨k + 1, by omega, by go_num, by rw [← HS.out]; exact hL⟩
          case measure => simp [intOf]; omega
      · have e : k = 20 := by omega
        subst e
        have HRr := Lib.hid (show ∀ w', Calls Try.prog 16 #[.agg (arrB fun j => decide (j < 20) && D j), .int .i64 20] w' (RunsOut (runsTo D 20) w') from fun w' => by
          have := refRuns_calls w' (fun j => decide (j < 20) && D j) 20
          rw [show (cutI 20).toNat = 20 by unfold cutI; decide, runs_upto] at this
          exact this)
        go_wp2_with (first | (go_at_call 16; (with_reducible refine (HRr.out _).mono ?_); rintro e _ ⟨vr, rfl, hb, hf⟩; replace hL := hL.callF hb (show Fresh _ _ (fun w => RunsAt w vr (runsTo D 20)) from hf); clear hb hf) | (go_at_call 15; (with_reducible refine (same_calls _ _ _ (runsTo D 20) (runsTo D 20) hL.fact1 hL.fact0).mono ?_); rintro e _ ⟨rfl, hb⟩; rw [decide_eq_true rfl]; replace hL := hL.call hb; clear hb) | (first | (clear hL n1; with_reducible intro b1 w1 hL) | (clear hL n2; with_reducible intro b2 w2 hL) | (clear hL n3; with_reducible intro b3 w3 hL) | (clear hL; with_reducible intro _ _ hL)) | (with_reducible refine wpC_alloc rfl _ rfl _ _ inferInstance hL ?_) | (with_reducible first | refine wpB_agg rfl _ _ _ rfl rfl hL ?_ | refine wpB_one rfl _ _ (.int _ _) rfl rfl rfl hL ?_ | refine wpB_one rfl _ _ (.slice _ _ _) rfl rfl rfl hL ?_ | refine wpB_one rfl _ _ (.bool _) rfl rfl rfl hL ?_ | refine wpB_one rfl _ _ (.pointer _) rfl rfl rfl hL ?_ | refine wpB_one rfl _ _ (.func _ _ _) rfl rfl rfl hL ?_) | (with_reducible first | refine wpH_max rfl _ _ _ _ rfl _ _ rfl rfl ?_ | refine wpH_min rfl _ _ _ _ rfl _ _ rfl rfl ?_) | ((with_reducible refine wpA_load rfl _ _ rfl _ rfl ?_); first | refine loadA hL ?_ | refine loadR hL ?_ | refine loadC hL ?_ | refine loadD ?_ | refine loadE hL ?_ | refine loadF ?_) | ((with_reducible refine wpA_index rfl _ _ _ rfl _ rfl _ rfl ?_); first | (refine indexA ?_; try rw [Int.toNat_natCast]) | refine indexC ?_) | ((with_reducible refine wpA_store rfl _ _ _ rfl _ rfl (.agg _) rfl ?_); refine storeR hL ?_; clear hL; intro _ hL) | ((with_reducible first | refine wpA_store rfl _ _ _ rfl _ rfl (.int _ _) rfl ?_ | refine wpA_store rfl _ _ _ rfl _ rfl (.slice _ _ _) rfl ?_ | refine wpA_store rfl _ _ _ rfl _ rfl (.bool _) rfl ?_ | refine wpA_store rfl _ _ _ rfl _ rfl (.pointer _) rfl ?_ | refine wpA_store rfl _ _ _ rfl _ rfl (.func _ _ _) rfl ?_); (first | refine storeA hL ?_ | refine storeO hL ?_); (clear hL; intro _ hL)) | ((with_reducible refine wpA_lit rfl _ _ _ rfl ?_); first | refine litA1 hL ?_ | refine litA2 hL ?_ | refine litA3 hL ?_ | refine litA4 hL ?_ | refine litA6 hL ?_) | ((with_reducible refine wpA_append rfl _ _ _ rfl (.slice _ _ _) rfl ?_); intro vq hvq; simp [go_sem] at hvq; subst hvq; refine appendA hL ?_; clear hL; intro _ _ _ hL; try dsimp only at hL) | ((with_reducible refine wpA_make rfl _ _ _ rfl _ rfl rfl ?_); refine makeA hL ?_))
        go_ret
        exact ⟨rfl, hL.below⟩
end Go.Proofs.Ytfnolaoohmecbaa
