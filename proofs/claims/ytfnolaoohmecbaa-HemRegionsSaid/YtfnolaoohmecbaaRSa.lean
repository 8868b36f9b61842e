/- The document's strokes: paths, styles, arms. -/
import Derived.Test.YtfnolaoohmecbaaStA
import Derived.Test.YtfnolaoohmecbaaRMay
import Derived.Test.YtfnolaoohmecbaaBxPM
-- lit6
namespace Go.Proofs.Ytfnolaoohmecbaa
open Go.RowKit

set_option maxRecDepth 100000 in
theorem rStraight_calls (w : World) (v : Value) (l : List Sg) (hv : SegsAt w v l) : Calls Try.prog 40 #[v] w fun e w' => e = .returned (.bool (straightS l)) ∧ Below w.heap.size w w' := by
  have Hv := Lib.hid hv
  obtain ⟨a, cap, rfl, hlc, hcm, hel⟩ := hv.parts
  clear hv
  unfold maxLen at hcm
  have Hel := Lib.hid hel; clear hel
  have hL := Holds.start w
  have HNo := Lib.hid (show ∀ k, k < l.length → (l.getD k default).kind = 3 → straightS l = false by
    intro k hk h
    have : (l.all fun s => decide (s.kind ≠ 3)) = false := by
      rw [List.all_eq_false]
      refine ⟨l[k], List.getElem_mem hk, ?_⟩
      rw [show l[k] = l.getD k default by simp [hk], h]; simp
    unfold straightS
    rw [this]; simp)
  have HYes := Lib.hid (show (∀ i, i < l.length → (l.getD i default).kind ≠ 3) → straightS l = pathMay l by
    intro h
    have : (l.all fun s => decide (s.kind ≠ 3)) = true := by
      rw [List.all_eq_true]
      intro x hx
      obtain ⟨i, hi, rfl⟩ := List.getElem_of_mem hx
      have := h i hi
      rw [show l.getD i default = l[i] by simp [hi]] at this
      simpa using this
    unfold straightS
    rw [this, Bool.and_true])
  have HPm := Lib.hid (fun w' (hb : Below w.heap.size w w') => rMay_calls w' (.slice a l.length cap) l (SliceAt.below Hv.out hb))
  have hno2 : pathMay l = false → straightS l = false := fun h => by unfold straightS; rw [h]; rfl
  generalize straightS l = st at *
  generalize hpm : pathMay l = pm at *
  clear hpm
  cases pm
  · have HF := Lib.hid (hno2 rfl)
    clear hno2
    go_enter Try.func40, Try.ntmps40
    go_wp2_with (first | (go_at_call 71; (with_reducible refine (HPm.out _ hL.below).mono ?_); rintro e _ ⟨rfl, hb⟩; replace hL := hL.call hb; clear hb) | ((clear hL; with_reducible intro _ _ hL)) | (with_reducible refine wpC_alloc rfl _ rfl _ _ inferInstance hL ?_) | (with_reducible first | refine wpB_agg rfl _ _ _ rfl rfl hL ?_ | refine wpB_one rfl _ _ (.int _ _) rfl rfl rfl hL ?_ | refine wpB_one rfl _ _ (.slice _ _ _) rfl rfl rfl hL ?_ | refine wpB_one rfl _ _ (.bool _) rfl rfl rfl hL ?_ | refine wpB_one rfl _ _ (.pointer _) rfl rfl rfl hL ?_ | refine wpB_one rfl _ _ (.func _ _ _) rfl rfl rfl hL ?_) | (with_reducible first | refine wpH_max rfl _ _ _ _ rfl _ _ rfl rfl ?_ | refine wpH_min rfl _ _ _ _ rfl _ _ rfl rfl ?_) | ((with_reducible refine wpA_load rfl _ _ rfl _ rfl ?_); first | refine loadA hL ?_ | refine loadR hL ?_ | refine loadC hL ?_ | refine loadD ?_ | refine loadE hL ?_ | refine loadF ?_) | ((with_reducible refine wpA_index rfl _ _ _ rfl _ rfl _ rfl ?_); first | (refine indexA ?_; try rw [Int.toNat_natCast]) | refine indexC ?_) | ((with_reducible refine wpA_store rfl _ _ _ rfl _ rfl (.agg _) rfl ?_); refine storeR hL ?_; clear hL; intro _ hL) | ((with_reducible first | refine wpA_store rfl _ _ _ rfl _ rfl (.int _ _) rfl ?_ | refine wpA_store rfl _ _ _ rfl _ rfl (.slice _ _ _) rfl ?_ | refine wpA_store rfl _ _ _ rfl _ rfl (.bool _) rfl ?_ | refine wpA_store rfl _ _ _ rfl _ rfl (.pointer _) rfl ?_ | refine wpA_store rfl _ _ _ rfl _ rfl (.func _ _ _) rfl ?_); (first | refine storeA hL ?_ | refine storeO hL ?_); (clear hL; intro _ hL)) | ((with_reducible refine wpA_lit rfl _ _ _ rfl ?_); first | refine litA1 hL ?_ | refine litA2 hL ?_ | refine litA3 hL ?_ | refine litA4 hL ?_ | refine litA6 hL ?_) | ((with_reducible refine wpA_append rfl _ _ _ rfl (.slice _ _ _) rfl ?_); intro vq hvq; simp [go_sem] at hvq; subst hvq; refine appendA hL ?_; clear hL; intro _ _ _ hL; try dsimp only at hL) | ((with_reducible refine wpA_make rfl _ _ _ rfl _ rfl rfl ?_); refine makeA hL ?_))
    go_ret
    exact ⟨ret_bool HF.out.symm, hL.below⟩
  clear hno2
  go_enter Try.func40, Try.ntmps40
  go_wp2_with (first | (go_at_call 71; (with_reducible refine (HPm.out _ hL.below).mono ?_); rintro e _ ⟨rfl, hb⟩; replace hL := hL.call hb; clear hb) | ((clear hL; with_reducible intro _ _ hL)) | (with_reducible refine wpC_alloc rfl _ rfl _ _ inferInstance hL ?_) | (with_reducible first | refine wpB_agg rfl _ _ _ rfl rfl hL ?_ | refine wpB_one rfl _ _ (.int _ _) rfl rfl rfl hL ?_ | refine wpB_one rfl _ _ (.slice _ _ _) rfl rfl rfl hL ?_ | refine wpB_one rfl _ _ (.bool _) rfl rfl rfl hL ?_ | refine wpB_one rfl _ _ (.pointer _) rfl rfl rfl hL ?_ | refine wpB_one rfl _ _ (.func _ _ _) rfl rfl rfl hL ?_) | (with_reducible first | refine wpH_max rfl _ _ _ _ rfl _ _ rfl rfl ?_ | refine wpH_min rfl _ _ _ _ rfl _ _ rfl rfl ?_) | ((with_reducible refine wpA_load rfl _ _ rfl _ rfl ?_); first | refine loadA hL ?_ | refine loadR hL ?_ | refine loadC hL ?_ | refine loadD ?_ | refine loadE hL ?_ | refine loadF ?_) | ((with_reducible refine wpA_index rfl _ _ _ rfl _ rfl _ rfl ?_); first | (refine indexA ?_; try rw [Int.toNat_natCast]) | refine indexC ?_) | ((with_reducible refine wpA_store rfl _ _ _ rfl _ rfl (.agg _) rfl ?_); refine storeR hL ?_; clear hL; intro _ hL) | ((with_reducible first | refine wpA_store rfl _ _ _ rfl _ rfl (.int _ _) rfl ?_ | refine wpA_store rfl _ _ _ rfl _ rfl (.slice _ _ _) rfl ?_ | refine wpA_store rfl _ _ _ rfl _ rfl (.bool _) rfl ?_ | refine wpA_store rfl _ _ _ rfl _ rfl (.pointer _) rfl ?_ | refine wpA_store rfl _ _ _ rfl _ rfl (.func _ _ _) rfl ?_); (first | refine storeA hL ?_ | refine storeO hL ?_); (clear hL; intro _ hL)) | ((with_reducible refine wpA_lit rfl _ _ _ rfl ?_); first | refine litA1 hL ?_ | refine litA2 hL ?_ | refine litA3 hL ?_ | refine litA4 hL ?_ | refine litA6 hL ?_) | ((with_reducible refine wpA_append rfl _ _ _ rfl (.slice _ _ _) rfl ?_); intro vq hvq; simp [go_sem] at hvq; subst hvq; refine appendA hL ?_; clear hL; intro _ _ _ hL; try dsimp only at hL) | ((with_reducible refine wpA_make rfl _ _ _ rfl _ rfl rfl ?_); refine makeA hL ?_))
  go_loopw [3] (fun s3 wr => ∃ k : Nat, k ≤ l.length ∧ s3 = .int .i64 k ∧ (∀ i, i < k → (l.getD i default).kind ≠ 3) ∧ Holds w wr [] [])
    (fun s3 wr => l.length - (intOf s3).toNat)
  case atStart => exact ⟨0, by omega, rfl, fun i hi => absurd hi (by omega), hL⟩
  case round =>
    clear hL
    obtain ⟨k, hk, rfl, hall, hL⟩ := hrel
    by_cases hkt : k < l.length
    · obtain ⟨b, o, rfl, hc⟩ := Hel.out k hkt
      have hkb : (k : Int) < (l.length : Int) := by omega
      have HN := Lib.hid (HNo.out k hkt)
      have HST := Lib.hid (show (l.getD k default).kind ≠ 3 → ∀ i, i < k + 1 → (l.getD i default).kind ≠ 3 from fun h i hi => by
        rcases (by omega : i < k ∨ i = k) with h2 | rfl
        · exact hall i h2
        · exact h)
      clear hall
      generalize l.getD k default = q at *
      obtain ⟨kind, x, y, cx, cy⟩ := q
      unfold segC at hc
      dsimp only at hc HN HST
      have hcell := hc 0 _ rfl
      rw [Nat.add_zero] at hcell
      by_cases h3 : kind = 3
      · have HF := Lib.hid (HN.out h3)
        subst h3
        go_wp2_with (first | ((clear hL; with_reducible intro _ _ hL)) | (with_reducible refine wpC_alloc rfl _ rfl _ _ inferInstance hL ?_) | (with_reducible first | refine wpB_agg rfl _ _ _ rfl rfl hL ?_ | refine wpB_one rfl _ _ (.int _ _) rfl rfl rfl hL ?_ | refine wpB_one rfl _ _ (.slice _ _ _) rfl rfl rfl hL ?_ | refine wpB_one rfl _ _ (.bool _) rfl rfl rfl hL ?_ | refine wpB_one rfl _ _ (.pointer _) rfl rfl rfl hL ?_ | refine wpB_one rfl _ _ (.func _ _ _) rfl rfl rfl hL ?_) | (with_reducible first | refine wpH_max rfl _ _ _ _ rfl _ _ rfl rfl ?_ | refine wpH_min rfl _ _ _ _ rfl _ _ rfl rfl ?_) | ((with_reducible refine wpA_load rfl _ _ rfl _ rfl ?_); first | refine loadA hL ?_ | refine loadR hL ?_ | refine loadC hL ?_ | refine loadD ?_ | refine loadE hL ?_ | refine loadF ?_) | ((with_reducible refine wpA_index rfl _ _ _ rfl _ rfl _ rfl ?_); first | (refine indexA ?_; try rw [Int.toNat_natCast]) | refine indexC ?_) | ((with_reducible refine wpA_store rfl _ _ _ rfl _ rfl (.agg _) rfl ?_); refine storeR hL ?_; clear hL; intro _ hL) | ((with_reducible first | refine wpA_store rfl _ _ _ rfl _ rfl (.int _ _) rfl ?_ | refine wpA_store rfl _ _ _ rfl _ rfl (.slice _ _ _) rfl ?_ | refine wpA_store rfl _ _ _ rfl _ rfl (.bool _) rfl ?_ | refine wpA_store rfl _ _ _ rfl _ rfl (.pointer _) rfl ?_ | refine wpA_store rfl _ _ _ rfl _ rfl (.func _ _ _) rfl ?_); (first | refine storeA hL ?_ | refine storeO hL ?_); (clear hL; intro _ hL)) | ((with_reducible refine wpA_lit rfl _ _ _ rfl ?_); first | refine litA1 hL ?_ | refine litA2 hL ?_ | refine litA3 hL ?_ | refine litA4 hL ?_ | refine litA6 hL ?_) | ((with_reducible refine wpA_append rfl _ _ _ rfl (.slice _ _ _) rfl ?_); intro vq hvq; simp [go_sem] at hvq; subst hvq; refine appendA hL ?_; clear hL; intro _ _ _ hL; try dsimp only at hL) | ((with_reducible refine wpA_make rfl _ _ _ rfl _ rfl rfl ?_); refine makeA hL ?_))
        go_ret
        exact ⟨ret_bool HF.out.symm, hL.below⟩
      · have HS3 := Lib.hid (HST.out h3)
        have e3 : (kind == 3) = false := by simp [h3]
        clear h3
        go_wp2_with (first | ((clear hL; with_reducible intro _ _ hL)) | (with_reducible refine wpC_alloc rfl _ rfl _ _ inferInstance hL ?_) | (with_reducible first | refine wpB_agg rfl _ _ _ rfl rfl hL ?_ | refine wpB_one rfl _ _ (.int _ _) rfl rfl rfl hL ?_ | refine wpB_one rfl _ _ (.slice _ _ _) rfl rfl rfl hL ?_ | refine wpB_one rfl _ _ (.bool _) rfl rfl rfl hL ?_ | refine wpB_one rfl _ _ (.pointer _) rfl rfl rfl hL ?_ | refine wpB_one rfl _ _ (.func _ _ _) rfl rfl rfl hL ?_) | (with_reducible first | refine wpH_max rfl _ _ _ _ rfl _ _ rfl rfl ?_ | refine wpH_min rfl _ _ _ _ rfl _ _ rfl rfl ?_) | ((with_reducible refine wpA_load rfl _ _ rfl _ rfl ?_); first | refine loadA hL ?_ | refine loadR hL ?_ | refine loadC hL ?_ | refine loadD ?_ | refine loadE hL ?_ | refine loadF ?_) | ((with_reducible refine wpA_index rfl _ _ _ rfl _ rfl _ rfl ?_); first | (refine indexA ?_; try rw [Int.toNat_natCast]) | refine indexC ?_) | ((with_reducible refine wpA_store rfl _ _ _ rfl _ rfl (.agg _) rfl ?_); refine storeR hL ?_; clear hL; intro _ hL) | ((with_reducible first | refine wpA_store rfl _ _ _ rfl _ rfl (.int _ _) rfl ?_ | refine wpA_store rfl _ _ _ rfl _ rfl (.slice _ _ _) rfl ?_ | refine wpA_store rfl _ _ _ rfl _ rfl (.bool _) rfl ?_ | refine wpA_store rfl _ _ _ rfl _ rfl (.pointer _) rfl ?_ | refine wpA_store rfl _ _ _ rfl _ rfl (.func _ _ _) rfl ?_); (first | refine storeA hL ?_ | refine storeO hL ?_); (clear hL; intro _ hL)) | ((with_reducible refine wpA_lit rfl _ _ _ rfl ?_); first | refine litA1 hL ?_ | refine litA2 hL ?_ | refine litA3 hL ?_ | refine litA4 hL ?_ | refine litA6 hL ?_) | ((with_reducible refine wpA_append rfl _ _ _ rfl (.slice _ _ _) rfl ?_); intro vq hvq; simp [go_sem] at hvq; subst hvq; refine appendA hL ?_; clear hL; intro _ _ _ hL; try dsimp only at hL) | ((with_reducible refine wpA_make rfl _ _ _ rfl _ rfl rfl ?_); refine makeA hL ?_))
        go_roundw
        case rel => exact ⟨k + 1, by omega, by go_num, HS3.out, hL⟩
        case measure => simp [intOf]; omega
    · have e : k = l.length := by omega
      subst e
      have HF := Lib.hid (HYes.out hall)
      clear hall
      go_wp2_with (first | ((clear hL; with_reducible intro _ _ hL)) | (with_reducible refine wpC_alloc rfl _ rfl _ _ inferInstance hL ?_) | (with_reducible first | refine wpB_agg rfl _ _ _ rfl rfl hL ?_ | refine wpB_one rfl _ _ (.int _ _) rfl rfl rfl hL ?_ | refine wpB_one rfl _ _ (.slice _ _ _) rfl rfl rfl hL ?_ | refine wpB_one rfl _ _ (.bool _) rfl rfl rfl hL ?_ | refine wpB_one rfl _ _ (.pointer _) rfl rfl rfl hL ?_ | refine wpB_one rfl _ _ (.func _ _ _) rfl rfl rfl hL ?_) | (with_reducible first | refine wpH_max rfl _ _ _ _ rfl _ _ rfl rfl ?_ | refine wpH_min rfl _ _ _ _ rfl _ _ rfl rfl ?_) | ((with_reducible refine wpA_load rfl _ _ rfl _ rfl ?_); first | refine loadA hL ?_ | refine loadR hL ?_ | refine loadC hL ?_ | refine loadD ?_ | refine loadE hL ?_ | refine loadF ?_) | ((with_reducible refine wpA_index rfl _ _ _ rfl _ rfl _ rfl ?_); first | (refine indexA ?_; try rw [Int.toNat_natCast]) | refine indexC ?_) | ((with_reducible refine wpA_store rfl _ _ _ rfl _ rfl (.agg _) rfl ?_); refine storeR hL ?_; clear hL; intro _ hL) | ((with_reducible first | refine wpA_store rfl _ _ _ rfl _ rfl (.int _ _) rfl ?_ | refine wpA_store rfl _ _ _ rfl _ rfl (.slice _ _ _) rfl ?_ | refine wpA_store rfl _ _ _ rfl _ rfl (.bool _) rfl ?_ | refine wpA_store rfl _ _ _ rfl _ rfl (.pointer _) rfl ?_ | refine wpA_store rfl _ _ _ rfl _ rfl (.func _ _ _) rfl ?_); (first | refine storeA hL ?_ | refine storeO hL ?_); (clear hL; intro _ hL)) | ((with_reducible refine wpA_lit rfl _ _ _ rfl ?_); first | refine litA1 hL ?_ | refine litA2 hL ?_ | refine litA3 hL ?_ | refine litA4 hL ?_ | refine litA6 hL ?_) | ((with_reducible refine wpA_append rfl _ _ _ rfl (.slice _ _ _) rfl ?_); intro vq hvq; simp [go_sem] at hvq; subst hvq; refine appendA hL ?_; clear hL; intro _ _ _ hL; try dsimp only at hL) | ((with_reducible refine wpA_make rfl _ _ _ rfl _ rfl rfl ?_); refine makeA hL ?_))
      go_ret
      exact ⟨ret_bool HF.out.symm, hL.below⟩
theorem six_bools : ∀ b0 b1 b2 b3 b4 _b5 : Bool, b0 = false ∨ (b0 = true ∧ b1 = false) ∨ (b0 = true ∧ b1 = true ∧ b2 = false) ∨ (b0 = true ∧ b1 = true ∧ b2 = true ∧ b3 = false) ∨ (b0 = true ∧ b1 = true ∧ b2 = true ∧ b3 = true ∧ b4 = false) ∨ (b0 = true ∧ b1 = true ∧ b2 = true ∧ b3 = true ∧ b4 = true) := by
  intro b0 b1 b2 b3 b4 b5
  cases b0 <;> cases b1 <;> cases b2 <;> cases b3 <;> cases b4 <;> simp
set_option maxRecDepth 100000 in
set_option maxHeartbeats 4000000 in
theorem rMayY_calls (s : Sty) (w : World) : Calls Try.prog 41 #[.agg #[.int .i64 s.wide, .int .i64 s.cap, .int .i64 s.join]] w fun e w' => e = .returned (.bool (mayY s)) ∧ Below w.heap.size w w' := by
  have hL := Holds.start w
  have hR : mayY s = (decide (0 ≤ s.wide) && (decide (s.wide ≤ 2048) && (decide (0 ≤ s.cap) && (decide (s.cap ≤ 2) && (decide (0 ≤ s.join) && decide (s.join ≤ 1)))))) := rfl
  generalize mayY s = R at *
  obtain ⟨wd, cap, join⟩ := s
  dsimp only at *
  obtain ⟨b0, d0⟩ : ∃ b, decide (0 ≤ wd) = b := ⟨_, rfl⟩
  obtain ⟨b1, d1⟩ : ∃ b, decide (wd ≤ 2048) = b := ⟨_, rfl⟩
  obtain ⟨b2, d2⟩ : ∃ b, decide (0 ≤ cap) = b := ⟨_, rfl⟩
  obtain ⟨b3, d3⟩ : ∃ b, decide (cap ≤ 2) = b := ⟨_, rfl⟩
  obtain ⟨b4, d4⟩ : ∃ b, decide (0 ≤ join) = b := ⟨_, rfl⟩
  obtain ⟨b5, d5⟩ : ∃ b, decide (join ≤ 1) = b := ⟨_, rfl⟩
  rw [d0, d1, d2, d3, d4, d5] at hR
  rcases six_bools b0 b1 b2 b3 b4 b5 with rfl | ⟨rfl, rfl⟩ | ⟨rfl, rfl, rfl⟩ | ⟨rfl, rfl, rfl, rfl⟩ | ⟨rfl, rfl, rfl, rfl, rfl⟩ | ⟨rfl, rfl, rfl, rfl, rfl⟩
  all_goals
    have HR := Lib.hid hR
    clear hR
    have n1 : True := trivial
    go_enter Try.func41, Try.ntmps41
    go_wp2_with (first | (clear hL n1; with_reducible intro bx wx hL) | ((clear hL; with_reducible intro _ _ hL)) | (with_reducible refine wpC_alloc rfl _ rfl _ _ inferInstance hL ?_) | (with_reducible first | refine wpB_agg rfl _ _ _ rfl rfl hL ?_ | refine wpB_one rfl _ _ (.int _ _) rfl rfl rfl hL ?_ | refine wpB_one rfl _ _ (.slice _ _ _) rfl rfl rfl hL ?_ | refine wpB_one rfl _ _ (.bool _) rfl rfl rfl hL ?_ | refine wpB_one rfl _ _ (.pointer _) rfl rfl rfl hL ?_ | refine wpB_one rfl _ _ (.func _ _ _) rfl rfl rfl hL ?_) | (with_reducible first | refine wpH_max rfl _ _ _ _ rfl _ _ rfl rfl ?_ | refine wpH_min rfl _ _ _ _ rfl _ _ rfl rfl ?_) | ((with_reducible refine wpA_load rfl _ _ rfl _ rfl ?_); first | refine loadA hL ?_ | refine loadR hL ?_ | refine loadC hL ?_ | refine loadD ?_ | refine loadE hL ?_ | refine loadF ?_) | ((with_reducible refine wpA_index rfl _ _ _ rfl _ rfl _ rfl ?_); first | (refine indexA ?_; try rw [Int.toNat_natCast]) | refine indexC ?_) | ((with_reducible refine wpA_store rfl _ _ _ rfl _ rfl (.agg _) rfl ?_); refine storeR hL ?_; clear hL; intro _ hL) | ((with_reducible first | refine wpA_store rfl _ _ _ rfl _ rfl (.int _ _) rfl ?_ | refine wpA_store rfl _ _ _ rfl _ rfl (.slice _ _ _) rfl ?_ | refine wpA_store rfl _ _ _ rfl _ rfl (.bool _) rfl ?_ | refine wpA_store rfl _ _ _ rfl _ rfl (.pointer _) rfl ?_ | refine wpA_store rfl _ _ _ rfl _ rfl (.func _ _ _) rfl ?_); (first | refine storeA hL ?_ | refine storeO hL ?_); (clear hL; intro _ hL)) | ((with_reducible refine wpA_lit rfl _ _ _ rfl ?_); first | refine litA1 hL ?_ | refine litA2 hL ?_ | refine litA3 hL ?_ | refine litA4 hL ?_ | refine litA6 hL ?_) | ((with_reducible refine wpA_append rfl _ _ _ rfl (.slice _ _ _) rfl ?_); intro vq hvq; simp [go_sem] at hvq; subst hvq; refine appendA hL ?_; clear hL; intro _ _ _ hL; try dsimp only at hL) | ((with_reducible refine wpA_make rfl _ _ _ rfl _ rfl rfl ?_); refine makeA hL ?_))
    go_ret
    exact ⟨ret_bool (by rw [HR.out]; rfl), hL.below⟩
set_option maxRecDepth 100000 in
theorem rDisc_calls (px py wide x y : Int) (h1 : -8191 ≤ px ∧ px ≤ 8191) (h2 : -8191 ≤ py ∧ py ≤ 8191) (hw : 0 ≤ wide ∧ wide ≤ 2048) (hx : -8191 ≤ x ∧ x ≤ 8191) (hy : -8191 ≤ y ∧ y ≤ 8191) (w : World) :
    Calls Try.prog 76 #[.int .i64 px, .int .i64 py, .int .i64 wide, .int .i64 x, .int .i64 y] w fun e w' => e = .returned (.bool (discIn px py wide x y)) ∧ Below w.heap.size w w' := by
  have hL := Holds.start w
  have hR : discIn px py wide x y = decide (4 * ((x - px) * (x - px) + (y - py) * (y - py)) ≤ wide * wide) := rfl
  generalize discIn px py wide x y = R at *
  have bV : -16382 ≤ x - px ∧ x - px ≤ 16382 := by omega
  have bZ : -16382 ≤ y - py ∧ y - py ≤ 16382 := by omega
  generalize hVX : x - px = VX at *
  generalize hVY : y - py = VY at *
  have bXX := mul_bd bV.1 bV.2 bV.1 bV.2
  have bYY := mul_bd bZ.1 bZ.2 bZ.1 bZ.2
  have bWW := mul_bd (a := wide) (b := wide) (A := 2048) (B := 2048) (by omega) (by omega) (by omega) (by omega)
  generalize hXX : VX * VX = XX at *
  generalize hYY : VY * VY = YY at *
  generalize hWW : wide * wide = WW at *
  have HR := Lib.hid hR
  clear hR
  go_enter Try.func76, Try.ntmps76
  go_wp2_with (first | ((clear hL; with_reducible intro _ _ hL)) | (with_reducible refine wpC_alloc rfl _ rfl _ _ inferInstance hL ?_) | (with_reducible first | refine wpB_agg rfl _ _ _ rfl rfl hL ?_ | refine wpB_one rfl _ _ (.int _ _) rfl rfl rfl hL ?_ | refine wpB_one rfl _ _ (.slice _ _ _) rfl rfl rfl hL ?_ | refine wpB_one rfl _ _ (.bool _) rfl rfl rfl hL ?_ | refine wpB_one rfl _ _ (.pointer _) rfl rfl rfl hL ?_ | refine wpB_one rfl _ _ (.func _ _ _) rfl rfl rfl hL ?_) | (with_reducible first | refine wpH_max rfl _ _ _ _ rfl _ _ rfl rfl ?_ | refine wpH_min rfl _ _ _ _ rfl _ _ rfl rfl ?_) | ((with_reducible refine wpA_load rfl _ _ rfl _ rfl ?_); first | refine loadA hL ?_ | refine loadR hL ?_ | refine loadC hL ?_ | refine loadD ?_ | refine loadE hL ?_ | refine loadF ?_) | ((with_reducible refine wpA_index rfl _ _ _ rfl _ rfl _ rfl ?_); first | (refine indexA ?_; try rw [Int.toNat_natCast]) | refine indexC ?_) | ((with_reducible refine wpA_store rfl _ _ _ rfl _ rfl (.agg _) rfl ?_); refine storeR hL ?_; clear hL; intro _ hL) | ((with_reducible first | refine wpA_store rfl _ _ _ rfl _ rfl (.int _ _) rfl ?_ | refine wpA_store rfl _ _ _ rfl _ rfl (.slice _ _ _) rfl ?_ | refine wpA_store rfl _ _ _ rfl _ rfl (.bool _) rfl ?_ | refine wpA_store rfl _ _ _ rfl _ rfl (.pointer _) rfl ?_ | refine wpA_store rfl _ _ _ rfl _ rfl (.func _ _ _) rfl ?_); (first | refine storeA hL ?_ | refine storeO hL ?_); (clear hL; intro _ hL)) | ((with_reducible refine wpA_lit rfl _ _ _ rfl ?_); first | refine litA1 hL ?_ | refine litA2 hL ?_ | refine litA3 hL ?_ | refine litA4 hL ?_ | refine litA6 hL ?_) | ((with_reducible refine wpA_append rfl _ _ _ rfl (.slice _ _ _) rfl ?_); intro vq hvq; simp [go_sem] at hvq; subst hvq; refine appendA hL ?_; clear hL; intro _ _ _ hL; try dsimp only at hL) | ((with_reducible refine wpA_make rfl _ _ _ rfl _ rfl rfl ?_); refine makeA hL ?_))
  go_ret
  exact ⟨ret_bool HR.out.symm, hL.below⟩
def armU (e : Edg) (x y : Int) : Int := (x - e.x0) * (e.x1 - e.x0) + (y - e.y0) * (e.y1 - e.y0)
def armK (e : Edg) (x y : Int) : Int := (x - e.x0) * (e.y1 - e.y0) - (y - e.y0) * (e.x1 - e.x0)
def armL (e : Edg) : Int := (e.x1 - e.x0) * (e.x1 - e.x0) + (e.y1 - e.y0) * (e.y1 - e.y0)
structure ArmBd (U K L : Int) : Prop where
  u0 : -536739848 ≤ U
  u1 : U ≤ 536739848
  k0 : -536739848 ≤ K
  k1 : K ≤ 536739848
  l0 : 0 ≤ L
  l1 : L ≤ 536739848
theorem arm_bd {e : Edg} (he : NearE' e) {x y : Int} (hx : -8191 ≤ x ∧ x ≤ 8191) (hy : -8191 ≤ y ∧ y ≤ 8191) : ArmBd (armU e x y) (armK e x y) (armL e) := by
  obtain ⟨⟨h1, h2⟩, h3, h4⟩ := he
  have bX : -16382 ≤ e.x1 - e.x0 ∧ e.x1 - e.x0 ≤ 16382 := by omega
  have bY : -16382 ≤ e.y1 - e.y0 ∧ e.y1 - e.y0 ≤ 16382 := by omega
  have bV : -16382 ≤ x - e.x0 ∧ x - e.x0 ≤ 16382 := by omega
  have bZ : -16382 ≤ y - e.y0 ∧ y - e.y0 ≤ 16382 := by omega
  have bXX := mul_bd bX.1 bX.2 bX.1 bX.2
  have bYY := mul_bd bY.1 bY.2 bY.1 bY.2
  have bA1 := mul_bd bV.1 bV.2 bX.1 bX.2
  have bA2 := mul_bd bZ.1 bZ.2 bY.1 bY.2
  have bK1 := mul_bd bV.1 bV.2 bY.1 bY.2
  have bK2 := mul_bd bZ.1 bZ.2 bX.1 bX.2
  have nXX : 0 ≤ (e.x1 - e.x0) * (e.x1 - e.x0) := by rw [← Int.natAbs_mul_self]; omega
  have nYY : 0 ≤ (e.y1 - e.y0) * (e.y1 - e.y0) := by rw [← Int.natAbs_mul_self]; omega
  unfold armU armK armL
  exact ⟨by omega, by omega, by omega, by omega, by omega, by omega⟩
set_option maxRecDepth 100000 in
set_option maxHeartbeats 4000000 in
theorem rArm_calls (e : Edg) (he : NearE' e) (x y : Int) (hx : -8191 ≤ x ∧ x ≤ 8191) (hy : -8191 ≤ y ∧ y ≤ 8191) (w : World) :
    Calls Try.prog 74 #[.agg (edgeC e).toArray, .int .i64 x, .int .i64 y] w fun r w' => r = .returned (.agg #[.int .i64 (armU e x y), .int .i64 (armK e x y), .int .i64 (armL e)]) ∧ Below w.heap.size w w' := by
  have hL := Holds.start w
  obtain ⟨⟨h1, h2⟩, h3, h4⟩ := he
  obtain ⟨x0, y0, bt, cx, cy, x1, y1⟩ := e
  unfold edgeC
  dsimp only at *
  have hU : armU ⟨x0, y0, bt, cx, cy, x1, y1⟩ x y = (x - x0) * (x1 - x0) + (y - y0) * (y1 - y0) := rfl
  have hK : armK ⟨x0, y0, bt, cx, cy, x1, y1⟩ x y = (x - x0) * (y1 - y0) - (y - y0) * (x1 - x0) := rfl
  have hLn : armL ⟨x0, y0, bt, cx, cy, x1, y1⟩ = (x1 - x0) * (x1 - x0) + (y1 - y0) * (y1 - y0) := rfl
  generalize armU ⟨x0, y0, bt, cx, cy, x1, y1⟩ x y = U at *
  generalize armK ⟨x0, y0, bt, cx, cy, x1, y1⟩ x y = K at *
  generalize armL ⟨x0, y0, bt, cx, cy, x1, y1⟩ = LL at *
  have wDX : IntKind.i64.wrap (x1 - x0) = x1 - x0 := by rw [IntKind.wrap_i64]; omega
  have wDY : IntKind.i64.wrap (y1 - y0) = y1 - y0 := by rw [IntKind.wrap_i64]; omega
  have wVX : IntKind.i64.wrap (x - x0) = x - x0 := by rw [IntKind.wrap_i64]; omega
  have wVY : IntKind.i64.wrap (y - y0) = y - y0 := by rw [IntKind.wrap_i64]; omega
  have bX : -16382 ≤ x1 - x0 ∧ x1 - x0 ≤ 16382 := by omega
  have bY : -16382 ≤ y1 - y0 ∧ y1 - y0 ≤ 16382 := by omega
  have bV : -16382 ≤ x - x0 ∧ x - x0 ≤ 16382 := by omega
  have bZ : -16382 ≤ y - y0 ∧ y - y0 ≤ 16382 := by omega
  generalize hDX : x1 - x0 = DX at *
  generalize hDY : y1 - y0 = DY at *
  generalize hVX : x - x0 = VX at *
  generalize hVY : y - y0 = VY at *
  have bXX := mul_bd bX.1 bX.2 bX.1 bX.2
  have bYY := mul_bd bY.1 bY.2 bY.1 bY.2
  have bA1 := mul_bd bV.1 bV.2 bX.1 bX.2
  have bA2 := mul_bd bZ.1 bZ.2 bY.1 bY.2
  have bK1 := mul_bd bV.1 bV.2 bY.1 bY.2
  have bK2 := mul_bd bZ.1 bZ.2 bX.1 bX.2
  generalize hXX : DX * DX = XX at *
  generalize hYY : DY * DY = YY at *
  generalize hA1 : VX * DX = A1 at *
  generalize hA2 : VY * DY = A2 at *
  generalize hK1 : VX * DY = K1 at *
  generalize hK2 : VY * DX = K2 at *
  have HU := Lib.hid hU; have HK := Lib.hid hK; have HLn := Lib.hid hLn
  clear hU hK hLn
  have n1 : True := trivial; have n2 : True := trivial
  go_enter Try.func74, Try.ntmps74
  go_wp2_with (first | (first | (clear hL n1; with_reducible intro b1 w1 hL) | (clear hL n2; with_reducible intro b2 w2 hL) | (clear hL; with_reducible intro _ _ hL)) | (with_reducible refine wpC_alloc rfl _ rfl _ _ inferInstance hL ?_) | (with_reducible first | refine wpB_agg rfl _ _ _ rfl rfl hL ?_ | refine wpB_one rfl _ _ (.int _ _) rfl rfl rfl hL ?_ | refine wpB_one rfl _ _ (.slice _ _ _) rfl rfl rfl hL ?_ | refine wpB_one rfl _ _ (.bool _) rfl rfl rfl hL ?_ | refine wpB_one rfl _ _ (.pointer _) rfl rfl rfl hL ?_ | refine wpB_one rfl _ _ (.func _ _ _) rfl rfl rfl hL ?_) | (with_reducible first | refine wpH_max rfl _ _ _ _ rfl _ _ rfl rfl ?_ | refine wpH_min rfl _ _ _ _ rfl _ _ rfl rfl ?_) | ((with_reducible refine wpA_load rfl _ _ rfl _ rfl ?_); first | refine loadA hL ?_ | refine loadR hL ?_ | refine loadC hL ?_ | refine loadD ?_ | refine loadE hL ?_ | refine loadF ?_) | ((with_reducible refine wpA_index rfl _ _ _ rfl _ rfl _ rfl ?_); first | (refine indexA ?_; try rw [Int.toNat_natCast]) | refine indexC ?_) | ((with_reducible refine wpA_store rfl _ _ _ rfl _ rfl (.agg _) rfl ?_); refine storeR hL ?_; clear hL; intro _ hL) | ((with_reducible first | refine wpA_store rfl _ _ _ rfl _ rfl (.int _ _) rfl ?_ | refine wpA_store rfl _ _ _ rfl _ rfl (.slice _ _ _) rfl ?_ | refine wpA_store rfl _ _ _ rfl _ rfl (.bool _) rfl ?_ | refine wpA_store rfl _ _ _ rfl _ rfl (.pointer _) rfl ?_ | refine wpA_store rfl _ _ _ rfl _ rfl (.func _ _ _) rfl ?_); (first | refine storeA hL ?_ | refine storeO hL ?_); (clear hL; intro _ hL)) | ((with_reducible refine wpA_lit rfl _ _ _ rfl ?_); first | refine litA1 hL ?_ | refine litA2 hL ?_ | refine litA3 hL ?_ | refine litA4 hL ?_ | refine litA6 hL ?_) | ((with_reducible refine wpA_append rfl _ _ _ rfl (.slice _ _ _) rfl ?_); intro vq hvq; simp [go_sem] at hvq; subst hvq; refine appendA hL ?_; clear hL; intro _ _ _ hL; try dsimp only at hL) | ((with_reducible refine wpA_make rfl _ _ _ rfl _ rfl rfl ?_); refine makeA hL ?_))
  replace hL := hL.drew
  have hS : (fun w' : World => w'.rangeAt b1 0 [.int .i64 x0, .int .i64 y0, .bool bt, .int .i64 cx, .int .i64 cy, .int .i64 x1, .int .i64 y1]) _ := hL.range (by (repeat (first | with_reducible exact At.here | with_reducible apply At.there)))
  refine wpH_begin (by kernel_rfl) (fun w' : World => w'.rangeAt b1 0 [.int .i64 x0, .int .i64 y0, .bool bt, .int .i64 cx, .int .i64 cy, .int .i64 x1, .int .i64 y1]) ?_
  refine stH (i := 0) (.pointer (some ⟨b1, 5, none⟩)) hS ?_ ?_; (· exact fun w' _ => (by go_simp)); simp only [Act.put, List.setIfInBounds_toArray, List.set_cons_zero, List.set_cons_succ]
  refine stH (i := 1) (.int .i64 x1) hS ?_ ?_; (· exact fun w' hw => run_loadOp _ _ rfl _ rfl _ (load_cell (hw 5 _ rfl))); simp only [Act.put, List.setIfInBounds_toArray, List.set_cons_zero, List.set_cons_succ]
  refine stH (i := 2) (.pointer (some ⟨b1, 0, none⟩)) hS ?_ ?_; (· exact fun w' _ => (by go_simp)); simp only [Act.put, List.setIfInBounds_toArray, List.set_cons_zero, List.set_cons_succ]
  refine stH (i := 3) (.int .i64 x0) hS ?_ ?_; (· exact fun w' hw => run_loadOp _ _ rfl _ rfl _ (load_cell (hw 0 _ rfl))); simp only [Act.put, List.setIfInBounds_toArray, List.set_cons_zero, List.set_cons_succ]
  refine stH (i := 4) (.int .i64 DX) hS ?_ ?_; (· exact fun w' _ => (by go_simp)); simp only [Act.put, List.setIfInBounds_toArray, List.set_cons_zero, List.set_cons_succ]
  refine stH (i := 5) (.pointer (some ⟨b1, 6, none⟩)) hS ?_ ?_; (· exact fun w' _ => (by go_simp)); simp only [Act.put, List.setIfInBounds_toArray, List.set_cons_zero, List.set_cons_succ]
  refine stH (i := 6) (.int .i64 y1) hS ?_ ?_; (· exact fun w' hw => run_loadOp _ _ rfl _ rfl _ (load_cell (hw 6 _ rfl))); simp only [Act.put, List.setIfInBounds_toArray, List.set_cons_zero, List.set_cons_succ]
  refine stH (i := 7) (.pointer (some ⟨b1, 1, none⟩)) hS ?_ ?_; (· exact fun w' _ => (by go_simp)); simp only [Act.put, List.setIfInBounds_toArray, List.set_cons_zero, List.set_cons_succ]
  refine stH (i := 8) (.int .i64 y0) hS ?_ ?_; (· exact fun w' hw => run_loadOp _ _ rfl _ rfl _ (load_cell (hw 1 _ rfl))); simp only [Act.put, List.setIfInBounds_toArray, List.set_cons_zero, List.set_cons_succ]
  refine stH (i := 9) (.int .i64 DY) hS ?_ ?_; (· exact fun w' _ => (by go_simp)); simp only [Act.put, List.setIfInBounds_toArray, List.set_cons_zero, List.set_cons_succ]
  refine stH (i := 10) (.int .i64 DX) hS ?_ ?_; (· exact fun w' _ => (by go_simp)); simp only [Act.put, List.setIfInBounds_toArray, List.set_cons_zero, List.set_cons_succ]
  refine stH (i := 11) (.int .i64 DY) hS ?_ ?_; (· exact fun w' _ => (by go_simp)); simp only [Act.put, List.setIfInBounds_toArray, List.set_cons_zero, List.set_cons_succ]
  refine wpAnyH_done (by kernel_rfl) ?_ _
  clear hS
  go_wp2_with (first | (first | (clear hL n1; with_reducible intro b1 w1 hL) | (clear hL n2; with_reducible intro b2 w2 hL) | (clear hL; with_reducible intro _ _ hL)) | (with_reducible refine wpC_alloc rfl _ rfl _ _ inferInstance hL ?_) | (with_reducible first | refine wpB_agg rfl _ _ _ rfl rfl hL ?_ | refine wpB_one rfl _ _ (.int _ _) rfl rfl rfl hL ?_ | refine wpB_one rfl _ _ (.slice _ _ _) rfl rfl rfl hL ?_ | refine wpB_one rfl _ _ (.bool _) rfl rfl rfl hL ?_ | refine wpB_one rfl _ _ (.pointer _) rfl rfl rfl hL ?_ | refine wpB_one rfl _ _ (.func _ _ _) rfl rfl rfl hL ?_) | (with_reducible first | refine wpH_max rfl _ _ _ _ rfl _ _ rfl rfl ?_ | refine wpH_min rfl _ _ _ _ rfl _ _ rfl rfl ?_) | ((with_reducible refine wpA_load rfl _ _ rfl _ rfl ?_); first | refine loadA hL ?_ | refine loadR hL ?_ | refine loadC hL ?_ | refine loadD ?_ | refine loadE hL ?_ | refine loadF ?_) | ((with_reducible refine wpA_index rfl _ _ _ rfl _ rfl _ rfl ?_); first | (refine indexA ?_; try rw [Int.toNat_natCast]) | refine indexC ?_) | ((with_reducible refine wpA_store rfl _ _ _ rfl _ rfl (.agg _) rfl ?_); refine storeR hL ?_; clear hL; intro _ hL) | ((with_reducible first | refine wpA_store rfl _ _ _ rfl _ rfl (.int _ _) rfl ?_ | refine wpA_store rfl _ _ _ rfl _ rfl (.slice _ _ _) rfl ?_ | refine wpA_store rfl _ _ _ rfl _ rfl (.bool _) rfl ?_ | refine wpA_store rfl _ _ _ rfl _ rfl (.pointer _) rfl ?_ | refine wpA_store rfl _ _ _ rfl _ rfl (.func _ _ _) rfl ?_); (first | refine storeA hL ?_ | refine storeO hL ?_); (clear hL; intro _ hL)) | ((with_reducible refine wpA_lit rfl _ _ _ rfl ?_); first | refine litA1 hL ?_ | refine litA2 hL ?_ | refine litA3 hL ?_ | refine litA4 hL ?_ | refine litA6 hL ?_) | ((with_reducible refine wpA_append rfl _ _ _ rfl (.slice _ _ _) rfl ?_); intro vq hvq; simp [go_sem] at hvq; subst hvq; refine appendA hL ?_; clear hL; intro _ _ _ hL; try dsimp only at hL) | ((with_reducible refine wpA_make rfl _ _ _ rfl _ rfl rfl ?_); refine makeA hL ?_))
  replace hL := hL.drew
  have hS : (fun w' : World => w'.rangeAt b1 0 [.int .i64 x0, .int .i64 y0, .bool bt, .int .i64 cx, .int .i64 cy, .int .i64 x1, .int .i64 y1]) _ := hL.range (by (repeat (first | with_reducible exact At.here | with_reducible apply At.there)))
  refine wpH_begin (by kernel_rfl) (fun w' : World => w'.rangeAt b1 0 [.int .i64 x0, .int .i64 y0, .bool bt, .int .i64 cx, .int .i64 cy, .int .i64 x1, .int .i64 y1]) ?_
  refine stH (i := 0) (.int .i64 x) hS ?_ ?_; (· exact fun w' _ => (by go_simp)); simp only [Act.put, List.setIfInBounds_toArray, List.set_cons_zero, List.set_cons_succ]
  refine stH (i := 1) (.pointer (some ⟨b1, 0, none⟩)) hS ?_ ?_; (· exact fun w' _ => (by go_simp)); simp only [Act.put, List.setIfInBounds_toArray, List.set_cons_zero, List.set_cons_succ]
  refine stH (i := 2) (.int .i64 x0) hS ?_ ?_; (· exact fun w' hw => run_loadOp _ _ rfl _ rfl _ (load_cell (hw 0 _ rfl))); simp only [Act.put, List.setIfInBounds_toArray, List.set_cons_zero, List.set_cons_succ]
  refine stH (i := 3) (.int .i64 VX) hS ?_ ?_; (· exact fun w' _ => (by go_simp)); simp only [Act.put, List.setIfInBounds_toArray, List.set_cons_zero, List.set_cons_succ]
  refine stH (i := 4) (.int .i64 y) hS ?_ ?_; (· exact fun w' _ => (by go_simp)); simp only [Act.put, List.setIfInBounds_toArray, List.set_cons_zero, List.set_cons_succ]
  refine stH (i := 5) (.pointer (some ⟨b1, 1, none⟩)) hS ?_ ?_; (· exact fun w' _ => (by go_simp)); simp only [Act.put, List.setIfInBounds_toArray, List.set_cons_zero, List.set_cons_succ]
  refine stH (i := 6) (.int .i64 y0) hS ?_ ?_; (· exact fun w' hw => run_loadOp _ _ rfl _ rfl _ (load_cell (hw 1 _ rfl))); simp only [Act.put, List.setIfInBounds_toArray, List.set_cons_zero, List.set_cons_succ]
  refine stH (i := 7) (.int .i64 VY) hS ?_ ?_; (· exact fun w' _ => (by go_simp)); simp only [Act.put, List.setIfInBounds_toArray, List.set_cons_zero, List.set_cons_succ]
  refine stH (i := 8) (.int .i64 VX) hS ?_ ?_; (· exact fun w' _ => (by go_simp)); simp only [Act.put, List.setIfInBounds_toArray, List.set_cons_zero, List.set_cons_succ]
  refine stH (i := 9) (.int .i64 VY) hS ?_ ?_; (· exact fun w' _ => (by go_simp)); simp only [Act.put, List.setIfInBounds_toArray, List.set_cons_zero, List.set_cons_succ]
  refine wpAnyH_done (by kernel_rfl) ?_ _
  clear hS
  go_wp2_with (first | (first | (clear hL n1; with_reducible intro b1 w1 hL) | (clear hL n2; with_reducible intro b2 w2 hL) | (clear hL; with_reducible intro _ _ hL)) | (with_reducible refine wpC_alloc rfl _ rfl _ _ inferInstance hL ?_) | (with_reducible first | refine wpB_agg rfl _ _ _ rfl rfl hL ?_ | refine wpB_one rfl _ _ (.int _ _) rfl rfl rfl hL ?_ | refine wpB_one rfl _ _ (.slice _ _ _) rfl rfl rfl hL ?_ | refine wpB_one rfl _ _ (.bool _) rfl rfl rfl hL ?_ | refine wpB_one rfl _ _ (.pointer _) rfl rfl rfl hL ?_ | refine wpB_one rfl _ _ (.func _ _ _) rfl rfl rfl hL ?_) | (with_reducible first | refine wpH_max rfl _ _ _ _ rfl _ _ rfl rfl ?_ | refine wpH_min rfl _ _ _ _ rfl _ _ rfl rfl ?_) | ((with_reducible refine wpA_load rfl _ _ rfl _ rfl ?_); first | refine loadA hL ?_ | refine loadR hL ?_ | refine loadC hL ?_ | refine loadD ?_ | refine loadE hL ?_ | refine loadF ?_) | ((with_reducible refine wpA_index rfl _ _ _ rfl _ rfl _ rfl ?_); first | (refine indexA ?_; try rw [Int.toNat_natCast]) | refine indexC ?_) | ((with_reducible refine wpA_store rfl _ _ _ rfl _ rfl (.agg _) rfl ?_); refine storeR hL ?_; clear hL; intro _ hL) | ((with_reducible first | refine wpA_store rfl _ _ _ rfl _ rfl (.int _ _) rfl ?_ | refine wpA_store rfl _ _ _ rfl _ rfl (.slice _ _ _) rfl ?_ | refine wpA_store rfl _ _ _ rfl _ rfl (.bool _) rfl ?_ | refine wpA_store rfl _ _ _ rfl _ rfl (.pointer _) rfl ?_ | refine wpA_store rfl _ _ _ rfl _ rfl (.func _ _ _) rfl ?_); (first | refine storeA hL ?_ | refine storeO hL ?_); (clear hL; intro _ hL)) | ((with_reducible refine wpA_lit rfl _ _ _ rfl ?_); first | refine litA1 hL ?_ | refine litA2 hL ?_ | refine litA3 hL ?_ | refine litA4 hL ?_ | refine litA6 hL ?_) | ((with_reducible refine wpA_append rfl _ _ _ rfl (.slice _ _ _) rfl ?_); intro vq hvq; simp [go_sem] at hvq; subst hvq; refine appendA hL ?_; clear hL; intro _ _ _ hL; try dsimp only at hL) | ((with_reducible refine wpA_make rfl _ _ _ rfl _ rfl rfl ?_); refine makeA hL ?_))
  rw [HU.out, HK.out, HLn.out]
  exact bodyPost_ret (results_row inferInstance rfl _ hL b2 rfl _ _ (by (repeat (first | with_reducible exact At.here | with_reducible apply At.there))) rfl) rfl ⟨rfl, hL.below⟩
def nearA (K L w : Int) : Bool := decide (4 * (K * K) ≤ w * w * L)
set_option maxRecDepth 100000 in
theorem armNear_calls (U K L : Int) (hb : ArmBd U K L) (wide : Int) (hw : 0 ≤ wide ∧ wide ≤ 2048) (w : World) : Calls Try.prog 91 #[.agg #[.int .i64 U, .int .i64 K, .int .i64 L], .int .i64 wide] w fun e w' => e = .returned (.bool (nearA K L wide)) ∧ Below w.heap.size w w' := by
  have hL := Holds.start w
  obtain ⟨u0, u1, k0, k1, l0, l1⟩ := hb
  have hR : nearA K L wide = decide (4 * K * K ≤ wide * wide * L) := by unfold nearA; rw [Int.mul_assoc 4 K K]
  generalize nearA K L wide = R at *
  have bQ := mul_bd (a := 4 * K) (b := K) (A := 2146959392) (B := 536739848) (by omega) (by omega) (by omega) (by omega)
  have bWW := mul_bd (a := wide) (b := wide) (A := 2048) (B := 2048) (by omega) (by omega) (by omega) (by omega)
  have bWL := mul_bd (a := wide * wide) (b := L) (A := 4194304) (B := 536739848) (by omega) (by omega) (by omega) (by omega)
  generalize hWW : wide * wide = WW at *
  generalize hQ : 4 * K * K = Q at *
  generalize hN : WW * L = N at *
  have HR := Lib.hid hR
  clear hR
  have n1 : True := trivial
  go_enter Try.func91, Try.ntmps91
  go_wp2_with (first | (first | (clear hL n1; with_reducible intro b1 w1 hL) | (clear hL; with_reducible intro _ _ hL)) | (with_reducible refine wpC_alloc rfl _ rfl _ _ inferInstance hL ?_) | (with_reducible first | refine wpB_agg rfl _ _ _ rfl rfl hL ?_ | refine wpB_one rfl _ _ (.int _ _) rfl rfl rfl hL ?_ | refine wpB_one rfl _ _ (.slice _ _ _) rfl rfl rfl hL ?_ | refine wpB_one rfl _ _ (.bool _) rfl rfl rfl hL ?_ | refine wpB_one rfl _ _ (.pointer _) rfl rfl rfl hL ?_ | refine wpB_one rfl _ _ (.func _ _ _) rfl rfl rfl hL ?_) | (with_reducible first | refine wpH_max rfl _ _ _ _ rfl _ _ rfl rfl ?_ | refine wpH_min rfl _ _ _ _ rfl _ _ rfl rfl ?_) | ((with_reducible refine wpA_load rfl _ _ rfl _ rfl ?_); first | refine loadA hL ?_ | refine loadR hL ?_ | refine loadC hL ?_ | refine loadD ?_ | refine loadE hL ?_ | refine loadF ?_) | ((with_reducible refine wpA_index rfl _ _ _ rfl _ rfl _ rfl ?_); first | (refine indexA ?_; try rw [Int.toNat_natCast]) | refine indexC ?_) | ((with_reducible refine wpA_store rfl _ _ _ rfl _ rfl (.agg _) rfl ?_); refine storeR hL ?_; clear hL; intro _ hL) | ((with_reducible first | refine wpA_store rfl _ _ _ rfl _ rfl (.int _ _) rfl ?_ | refine wpA_store rfl _ _ _ rfl _ rfl (.slice _ _ _) rfl ?_ | refine wpA_store rfl _ _ _ rfl _ rfl (.bool _) rfl ?_ | refine wpA_store rfl _ _ _ rfl _ rfl (.pointer _) rfl ?_ | refine wpA_store rfl _ _ _ rfl _ rfl (.func _ _ _) rfl ?_); (first | refine storeA hL ?_ | refine storeO hL ?_); (clear hL; intro _ hL)) | ((with_reducible refine wpA_lit rfl _ _ _ rfl ?_); first | refine litA1 hL ?_ | refine litA2 hL ?_ | refine litA3 hL ?_ | refine litA4 hL ?_ | refine litA6 hL ?_) | ((with_reducible refine wpA_append rfl _ _ _ rfl (.slice _ _ _) rfl ?_); intro vq hvq; simp [go_sem] at hvq; subst hvq; refine appendA hL ?_; clear hL; intro _ _ _ hL; try dsimp only at hL) | ((with_reducible refine wpA_make rfl _ _ _ rfl _ rfl rfl ?_); refine makeA hL ?_))
  go_ret
  exact ⟨ret_bool HR.out.symm, hL.below⟩
def onA (U K L w : Int) : Bool := nearA K L w && (decide (0 ≤ U) && decide (U ≤ L))
def aheadA (U K L w : Int) : Bool := nearA K L w && (decide (U ≤ 0) && decide (4 * (U * U) ≤ w * w * L))
def behindA (U K L w : Int) : Bool := nearA K L w && (decide (L ≤ U) && decide (4 * ((U - L) * (U - L)) ≤ w * w * L))
set_option maxRecDepth 100000 in
theorem armOn_calls (U K L : Int) (hb : ArmBd U K L) (wide : Int) (hw : 0 ≤ wide ∧ wide ≤ 2048) (w : World) : Calls Try.prog 75 #[.agg #[.int .i64 U, .int .i64 K, .int .i64 L], .int .i64 wide] w fun e w' => e = .returned (.bool (onA U K L wide)) ∧ Below w.heap.size w w' := by
  have hL := Holds.start w
  have HNe := Lib.hid (fun w => armNear_calls U K L hb wide hw w)
  obtain ⟨u0, u1, k0, k1, l0, l1⟩ := hb
  have hR : onA U K L wide = (nearA K L wide && (decide (0 ≤ U) && decide (U ≤ L))) := rfl
  generalize onA U K L wide = R at *
  generalize nearA K L wide = nb at *
  rcases (by omega : ¬ 0 ≤ U ∨ 0 ≤ U) with g | g
  all_goals
    first
    | have d0 : decide (0 ≤ U) = true := decide_eq_true g
    | have d0 : decide (0 ≤ U) = false := decide_eq_false g
    rw [d0] at hR
    cases nb
  all_goals
    have HR := Lib.hid hR
    clear hR
    have n1 : True := trivial
    go_enter Try.func75, Try.ntmps75
    go_wp2_with (first | (clear hL n1; with_reducible intro bx wx hL) | (go_at_call 91; (with_reducible refine (HNe.out _).mono ?_); rintro e _ ⟨rfl, hb⟩; replace hL := hL.call hb; clear hb) | ((clear hL; with_reducible intro _ _ hL)) | (with_reducible refine wpC_alloc rfl _ rfl _ _ inferInstance hL ?_) | (with_reducible first | refine wpB_agg rfl _ _ _ rfl rfl hL ?_ | refine wpB_one rfl _ _ (.int _ _) rfl rfl rfl hL ?_ | refine wpB_one rfl _ _ (.slice _ _ _) rfl rfl rfl hL ?_ | refine wpB_one rfl _ _ (.bool _) rfl rfl rfl hL ?_ | refine wpB_one rfl _ _ (.pointer _) rfl rfl rfl hL ?_ | refine wpB_one rfl _ _ (.func _ _ _) rfl rfl rfl hL ?_) | (with_reducible first | refine wpH_max rfl _ _ _ _ rfl _ _ rfl rfl ?_ | refine wpH_min rfl _ _ _ _ rfl _ _ rfl rfl ?_) | ((with_reducible refine wpA_load rfl _ _ rfl _ rfl ?_); first | refine loadA hL ?_ | refine loadR hL ?_ | refine loadC hL ?_ | refine loadD ?_ | refine loadE hL ?_ | refine loadF ?_) | ((with_reducible refine wpA_index rfl _ _ _ rfl _ rfl _ rfl ?_); first | (refine indexA ?_; try rw [Int.toNat_natCast]) | refine indexC ?_) | ((with_reducible refine wpA_store rfl _ _ _ rfl _ rfl (.agg _) rfl ?_); refine storeR hL ?_; clear hL; intro _ hL) | ((with_reducible first | refine wpA_store rfl _ _ _ rfl _ rfl (.int _ _) rfl ?_ | refine wpA_store rfl _ _ _ rfl _ rfl (.slice _ _ _) rfl ?_ | refine wpA_store rfl _ _ _ rfl _ rfl (.bool _) rfl ?_ | refine wpA_store rfl _ _ _ rfl _ rfl (.pointer _) rfl ?_ | refine wpA_store rfl _ _ _ rfl _ rfl (.func _ _ _) rfl ?_); (first | refine storeA hL ?_ | refine storeO hL ?_); (clear hL; intro _ hL)) | ((with_reducible refine wpA_lit rfl _ _ _ rfl ?_); first | refine litA1 hL ?_ | refine litA2 hL ?_ | refine litA3 hL ?_ | refine litA4 hL ?_ | refine litA6 hL ?_) | ((with_reducible refine wpA_append rfl _ _ _ rfl (.slice _ _ _) rfl ?_); intro vq hvq; simp [go_sem] at hvq; subst hvq; refine appendA hL ?_; clear hL; intro _ _ _ hL; try dsimp only at hL) | ((with_reducible refine wpA_make rfl _ _ _ rfl _ rfl rfl ?_); refine makeA hL ?_))
    go_ret
    exact ⟨ret_bool (by rw [HR.out]; first | rfl | simp), hL.below⟩
set_option maxRecDepth 100000 in
theorem armAhead_calls (U K L : Int) (hb : ArmBd U K L) (wide : Int) (hw : 0 ≤ wide ∧ wide ≤ 2048) (w : World) : Calls Try.prog 92 #[.agg #[.int .i64 U, .int .i64 K, .int .i64 L], .int .i64 wide] w fun e w' => e = .returned (.bool (aheadA U K L wide)) ∧ Below w.heap.size w w' := by
  have hL := Holds.start w
  have HNe := Lib.hid (fun w => armNear_calls U K L hb wide hw w)
  obtain ⟨u0, u1, k0, k1, l0, l1⟩ := hb
  have hR : aheadA U K L wide = (nearA K L wide && (decide (U ≤ 0) && decide (4 * (U * U) ≤ wide * wide * L))) := rfl
  have hsg : U ≤ 0 → decide (4 * (U * U) ≤ wide * wide * L) = decide (0 ≤ sgR (2 * U) wide L) := fun h => by
    rw [decide_eq_decide, sgn_ahead (by omega) hw.1 l0, show 2 * U * (2 * U) = 4 * (U * U) by grind]
  have HS := Lib.hid (fun w => refSign_calls (2 * U) wide L ⟨by omega, by omega, by omega, by omega, by omega, by omega⟩ w)
  generalize aheadA U K L wide = R at *
  generalize nearA K L wide = nb at *
  rcases (by omega : ¬ U ≤ 0 ∨ U ≤ 0) with g | g
  · have d0 : decide (U ≤ 0) = false := decide_eq_false g
    rw [d0] at hR
    cases nb
    all_goals
      have HR := Lib.hid hR
      clear hR hsg
      have n1 : True := trivial
      go_enter Try.func92, Try.ntmps92
      go_wp2_with (first | (clear hL n1; with_reducible intro bx wx hL) | (go_at_call 91; (with_reducible refine (HNe.out _).mono ?_); rintro e _ ⟨rfl, hb⟩; replace hL := hL.call hb; clear hb) | ((clear hL; with_reducible intro _ _ hL)) | (with_reducible refine wpC_alloc rfl _ rfl _ _ inferInstance hL ?_) | (with_reducible first | refine wpB_agg rfl _ _ _ rfl rfl hL ?_ | refine wpB_one rfl _ _ (.int _ _) rfl rfl rfl hL ?_ | refine wpB_one rfl _ _ (.slice _ _ _) rfl rfl rfl hL ?_ | refine wpB_one rfl _ _ (.bool _) rfl rfl rfl hL ?_ | refine wpB_one rfl _ _ (.pointer _) rfl rfl rfl hL ?_ | refine wpB_one rfl _ _ (.func _ _ _) rfl rfl rfl hL ?_) | (with_reducible first | refine wpH_max rfl _ _ _ _ rfl _ _ rfl rfl ?_ | refine wpH_min rfl _ _ _ _ rfl _ _ rfl rfl ?_) | ((with_reducible refine wpA_load rfl _ _ rfl _ rfl ?_); first | refine loadA hL ?_ | refine loadR hL ?_ | refine loadC hL ?_ | refine loadD ?_ | refine loadE hL ?_ | refine loadF ?_) | ((with_reducible refine wpA_index rfl _ _ _ rfl _ rfl _ rfl ?_); first | (refine indexA ?_; try rw [Int.toNat_natCast]) | refine indexC ?_) | ((with_reducible refine wpA_store rfl _ _ _ rfl _ rfl (.agg _) rfl ?_); refine storeR hL ?_; clear hL; intro _ hL) | ((with_reducible first | refine wpA_store rfl _ _ _ rfl _ rfl (.int _ _) rfl ?_ | refine wpA_store rfl _ _ _ rfl _ rfl (.slice _ _ _) rfl ?_ | refine wpA_store rfl _ _ _ rfl _ rfl (.bool _) rfl ?_ | refine wpA_store rfl _ _ _ rfl _ rfl (.pointer _) rfl ?_ | refine wpA_store rfl _ _ _ rfl _ rfl (.func _ _ _) rfl ?_); (first | refine storeA hL ?_ | refine storeO hL ?_); (clear hL; intro _ hL)) | ((with_reducible refine wpA_lit rfl _ _ _ rfl ?_); first | refine litA1 hL ?_ | refine litA2 hL ?_ | refine litA3 hL ?_ | refine litA4 hL ?_ | refine litA6 hL ?_) | ((with_reducible refine wpA_append rfl _ _ _ rfl (.slice _ _ _) rfl ?_); intro vq hvq; simp [go_sem] at hvq; subst hvq; refine appendA hL ?_; clear hL; intro _ _ _ hL; try dsimp only at hL) | ((with_reducible refine wpA_make rfl _ _ _ rfl _ rfl rfl ?_); refine makeA hL ?_))
      go_ret
      exact ⟨ret_bool (by rw [HR.out]; rfl), hL.below⟩
  · have d0 : decide (U ≤ 0) = true := decide_eq_true g
    rw [d0, hsg g] at hR
    generalize sgR (2 * U) wide L = G at *
    cases nb
    all_goals
      have HR := Lib.hid hR
      clear hR hsg
      have n1 : True := trivial
      go_enter Try.func92, Try.ntmps92
      go_wp2_with (first | (clear hL n1; with_reducible intro bx wx hL) | (go_at_call 91; (with_reducible refine (HNe.out _).mono ?_); rintro e _ ⟨rfl, hb⟩; replace hL := hL.call hb; clear hb) | (go_at_call 102; (with_reducible refine (HS.out _).mono ?_); rintro e _ ⟨rfl, hb⟩; replace hL := hL.call hb; clear hb) | ((clear hL; with_reducible intro _ _ hL)) | (with_reducible refine wpC_alloc rfl _ rfl _ _ inferInstance hL ?_) | (with_reducible first | refine wpB_agg rfl _ _ _ rfl rfl hL ?_ | refine wpB_one rfl _ _ (.int _ _) rfl rfl rfl hL ?_ | refine wpB_one rfl _ _ (.slice _ _ _) rfl rfl rfl hL ?_ | refine wpB_one rfl _ _ (.bool _) rfl rfl rfl hL ?_ | refine wpB_one rfl _ _ (.pointer _) rfl rfl rfl hL ?_ | refine wpB_one rfl _ _ (.func _ _ _) rfl rfl rfl hL ?_) | (with_reducible first | refine wpH_max rfl _ _ _ _ rfl _ _ rfl rfl ?_ | refine wpH_min rfl _ _ _ _ rfl _ _ rfl rfl ?_) | ((with_reducible refine wpA_load rfl _ _ rfl _ rfl ?_); first | refine loadA hL ?_ | refine loadR hL ?_ | refine loadC hL ?_ | refine loadD ?_ | refine loadE hL ?_ | refine loadF ?_) | ((with_reducible refine wpA_index rfl _ _ _ rfl _ rfl _ rfl ?_); first | (refine indexA ?_; try rw [Int.toNat_natCast]) | refine indexC ?_) | ((with_reducible refine wpA_store rfl _ _ _ rfl _ rfl (.agg _) rfl ?_); refine storeR hL ?_; clear hL; intro _ hL) | ((with_reducible first | refine wpA_store rfl _ _ _ rfl _ rfl (.int _ _) rfl ?_ | refine wpA_store rfl _ _ _ rfl _ rfl (.slice _ _ _) rfl ?_ | refine wpA_store rfl _ _ _ rfl _ rfl (.bool _) rfl ?_ | refine wpA_store rfl _ _ _ rfl _ rfl (.pointer _) rfl ?_ | refine wpA_store rfl _ _ _ rfl _ rfl (.func _ _ _) rfl ?_); (first | refine storeA hL ?_ | refine storeO hL ?_); (clear hL; intro _ hL)) | ((with_reducible refine wpA_lit rfl _ _ _ rfl ?_); first | refine litA1 hL ?_ | refine litA2 hL ?_ | refine litA3 hL ?_ | refine litA4 hL ?_ | refine litA6 hL ?_) | ((with_reducible refine wpA_append rfl _ _ _ rfl (.slice _ _ _) rfl ?_); intro vq hvq; simp [go_sem] at hvq; subst hvq; refine appendA hL ?_; clear hL; intro _ _ _ hL; try dsimp only at hL) | ((with_reducible refine wpA_make rfl _ _ _ rfl _ rfl rfl ?_); refine makeA hL ?_))
      go_ret
      exact ⟨ret_bool (by rw [HR.out]; simp), hL.below⟩
set_option maxRecDepth 100000 in
theorem armBehind_calls (U K L : Int) (hb : ArmBd U K L) (wide : Int) (hw : 0 ≤ wide ∧ wide ≤ 2048) (w : World) : Calls Try.prog 93 #[.agg #[.int .i64 U, .int .i64 K, .int .i64 L], .int .i64 wide] w fun e w' => e = .returned (.bool (behindA U K L wide)) ∧ Below w.heap.size w w' := by
  have hL := Holds.start w
  have HNe := Lib.hid (fun w => armNear_calls U K L hb wide hw w)
  obtain ⟨u0, u1, k0, k1, l0, l1⟩ := hb
  have hR : behindA U K L wide = (nearA K L wide && (decide (L ≤ U) && decide (4 * ((U - L) * (U - L)) ≤ wide * wide * L))) := rfl
  have hsg : L ≤ U → decide (4 * ((U - L) * (U - L)) ≤ wide * wide * L) = decide (sgR (2 * (U - L)) (-wide) L ≤ 0) := fun h => by
    rw [decide_eq_decide, sgn_behind (by omega) hw.1 l0, show 2 * (U - L) * (2 * (U - L)) = 4 * ((U - L) * (U - L)) by grind]
  have HS := Lib.hid (fun w => refSign_calls (2 * (U - L)) (-wide) L ⟨by omega, by omega, by omega, by omega, by omega, by omega⟩ w)
  generalize behindA U K L wide = R at *
  generalize nearA K L wide = nb at *
  rcases (by omega : ¬ L ≤ U ∨ L ≤ U) with g | g
  · have d0 : decide (L ≤ U) = false := decide_eq_false g
    rw [d0] at hR
    cases nb
    all_goals
      have HR := Lib.hid hR
      clear hR hsg
      have n1 : True := trivial
      go_enter Try.func93, Try.ntmps93
      go_wp2_with (first | (clear hL n1; with_reducible intro bx wx hL) | (go_at_call 91; (with_reducible refine (HNe.out _).mono ?_); rintro e _ ⟨rfl, hb⟩; replace hL := hL.call hb; clear hb) | ((clear hL; with_reducible intro _ _ hL)) | (with_reducible refine wpC_alloc rfl _ rfl _ _ inferInstance hL ?_) | (with_reducible first | refine wpB_agg rfl _ _ _ rfl rfl hL ?_ | refine wpB_one rfl _ _ (.int _ _) rfl rfl rfl hL ?_ | refine wpB_one rfl _ _ (.slice _ _ _) rfl rfl rfl hL ?_ | refine wpB_one rfl _ _ (.bool _) rfl rfl rfl hL ?_ | refine wpB_one rfl _ _ (.pointer _) rfl rfl rfl hL ?_ | refine wpB_one rfl _ _ (.func _ _ _) rfl rfl rfl hL ?_) | (with_reducible first | refine wpH_max rfl _ _ _ _ rfl _ _ rfl rfl ?_ | refine wpH_min rfl _ _ _ _ rfl _ _ rfl rfl ?_) | ((with_reducible refine wpA_load rfl _ _ rfl _ rfl ?_); first | refine loadA hL ?_ | refine loadR hL ?_ | refine loadC hL ?_ | refine loadD ?_ | refine loadE hL ?_ | refine loadF ?_) | ((with_reducible refine wpA_index rfl _ _ _ rfl _ rfl _ rfl ?_); first | (refine indexA ?_; try rw [Int.toNat_natCast]) | refine indexC ?_) | ((with_reducible refine wpA_store rfl _ _ _ rfl _ rfl (.agg _) rfl ?_); refine storeR hL ?_; clear hL; intro _ hL) | ((with_reducible first | refine wpA_store rfl _ _ _ rfl _ rfl (.int _ _) rfl ?_ | refine wpA_store rfl _ _ _ rfl _ rfl (.slice _ _ _) rfl ?_ | refine wpA_store rfl _ _ _ rfl _ rfl (.bool _) rfl ?_ | refine wpA_store rfl _ _ _ rfl _ rfl (.pointer _) rfl ?_ | refine wpA_store rfl _ _ _ rfl _ rfl (.func _ _ _) rfl ?_); (first | refine storeA hL ?_ | refine storeO hL ?_); (clear hL; intro _ hL)) | ((with_reducible refine wpA_lit rfl _ _ _ rfl ?_); first | refine litA1 hL ?_ | refine litA2 hL ?_ | refine litA3 hL ?_ | refine litA4 hL ?_ | refine litA6 hL ?_) | ((with_reducible refine wpA_append rfl _ _ _ rfl (.slice _ _ _) rfl ?_); intro vq hvq; simp [go_sem] at hvq; subst hvq; refine appendA hL ?_; clear hL; intro _ _ _ hL; try dsimp only at hL) | ((with_reducible refine wpA_make rfl _ _ _ rfl _ rfl rfl ?_); refine makeA hL ?_))
      go_ret
      exact ⟨ret_bool (by rw [HR.out]; rfl), hL.below⟩
  · have d0 : decide (L ≤ U) = true := decide_eq_true g
    rw [d0, hsg g] at hR
    generalize sgR (2 * (U - L)) (-wide) L = G at *
    cases nb
    all_goals
      have HR := Lib.hid hR
      clear hR hsg
      have n1 : True := trivial
      go_enter Try.func93, Try.ntmps93
      go_wp2_with (first | (clear hL n1; with_reducible intro bx wx hL) | (go_at_call 91; (with_reducible refine (HNe.out _).mono ?_); rintro e _ ⟨rfl, hb⟩; replace hL := hL.call hb; clear hb) | (go_at_call 102; (with_reducible refine (HS.out _).mono ?_); rintro e _ ⟨rfl, hb⟩; replace hL := hL.call hb; clear hb) | ((clear hL; with_reducible intro _ _ hL)) | (with_reducible refine wpC_alloc rfl _ rfl _ _ inferInstance hL ?_) | (with_reducible first | refine wpB_agg rfl _ _ _ rfl rfl hL ?_ | refine wpB_one rfl _ _ (.int _ _) rfl rfl rfl hL ?_ | refine wpB_one rfl _ _ (.slice _ _ _) rfl rfl rfl hL ?_ | refine wpB_one rfl _ _ (.bool _) rfl rfl rfl hL ?_ | refine wpB_one rfl _ _ (.pointer _) rfl rfl rfl hL ?_ | refine wpB_one rfl _ _ (.func _ _ _) rfl rfl rfl hL ?_) | (with_reducible first | refine wpH_max rfl _ _ _ _ rfl _ _ rfl rfl ?_ | refine wpH_min rfl _ _ _ _ rfl _ _ rfl rfl ?_) | ((with_reducible refine wpA_load rfl _ _ rfl _ rfl ?_); first | refine loadA hL ?_ | refine loadR hL ?_ | refine loadC hL ?_ | refine loadD ?_ | refine loadE hL ?_ | refine loadF ?_) | ((with_reducible refine wpA_index rfl _ _ _ rfl _ rfl _ rfl ?_); first | (refine indexA ?_; try rw [Int.toNat_natCast]) | refine indexC ?_) | ((with_reducible refine wpA_store rfl _ _ _ rfl _ rfl (.agg _) rfl ?_); refine storeR hL ?_; clear hL; intro _ hL) | ((with_reducible first | refine wpA_store rfl _ _ _ rfl _ rfl (.int _ _) rfl ?_ | refine wpA_store rfl _ _ _ rfl _ rfl (.slice _ _ _) rfl ?_ | refine wpA_store rfl _ _ _ rfl _ rfl (.bool _) rfl ?_ | refine wpA_store rfl _ _ _ rfl _ rfl (.pointer _) rfl ?_ | refine wpA_store rfl _ _ _ rfl _ rfl (.func _ _ _) rfl ?_); (first | refine storeA hL ?_ | refine storeO hL ?_); (clear hL; intro _ hL)) | ((with_reducible refine wpA_lit rfl _ _ _ rfl ?_); first | refine litA1 hL ?_ | refine litA2 hL ?_ | refine litA3 hL ?_ | refine litA4 hL ?_ | refine litA6 hL ?_) | ((with_reducible refine wpA_append rfl _ _ _ rfl (.slice _ _ _) rfl ?_); intro vq hvq; simp [go_sem] at hvq; subst hvq; refine appendA hL ?_; clear hL; intro _ _ _ hL; try dsimp only at hL) | ((with_reducible refine wpA_make rfl _ _ _ rfl _ rfl rfl ?_); refine makeA hL ?_))
      go_ret
      exact ⟨ret_bool (by rw [HR.out]; simp), hL.below⟩
end Go.Proofs.Ytfnolaoohmecbaa
