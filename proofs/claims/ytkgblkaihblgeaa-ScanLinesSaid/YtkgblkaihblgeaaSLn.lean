/- ScanLines returns true. -/
import Derived.Test.YtkgblkaihblgeaaScnM
import Derived.Test.YtkgblkaihblgeaaWSays
-- lit6
namespace Go.Proofs.Ytkgblkaihblgeaa
open Go.RowKit

theorem runs_bad {l : List Edg} {rule : Int} (y : Int) (h0 : rule ≠ 0) (h1 : rule ≠ 1) (n : Nat) : runsTo (rowP l rule y) n = [] := by
  rw [← runs_none n]
  exact runsTo_congr fun i _ => by simp [rowP, isIn, h0, h1]
theorem lineS_all (l : List Edg) (rule : Int) {y : Int} {n : Nat} (hy : near1 y = true) (hn : n ≤ 64) : runsTo (rowP l rule y) n = lineS l rule y n := by
  by_cases h0 : rule = 0
  · rw [lineS_in (.inl h0) hy hn]
  by_cases h1 : rule = 1
  · rw [lineS_in (.inr h1) hy hn]
  rw [runs_bad y h0 h1, lineS, if_neg (by simp [lineOk, h0, h1])]
theorem lineS_out {l : List Edg} {rule y W : Int} (h : y < -8191 ∨ 8191 < y ∨ W < 0 ∨ 64 < W) : lineS l rule y W = [] := by
  rw [lineS, if_neg]
  simp [lineOk, near1]
  omega
theorem arr_step (p : Nat → Bool) (i : Nat) : arrB (fun j => if j = i then p i else decide (j < i) && p j) = arrB (fun j => decide (j < i + 1) && p j) := by
  refine arrB_congr fun j _ => ?_
  by_cases hj : j = i
  · subst hj; simp
  · have : j < i + 1 ↔ j < i := by omega
    simp [hj, this]
set_option maxRecDepth 100000 in
set_option maxHeartbeats 1000000 in
theorem refLine_no (w : World) (v : Value) (rule y W : Int) (h : y < -8191 ∨ 8191 < y ∨ W < 0 ∨ 64 < W) : Calls Try.prog 16 #[v, .int .i64 rule, .int .i64 y, .int .i64 W] w (RunsOut [] w) := by
  have hL := Holds.start w
  have h2 : y < -8191 ∨ (¬ y < -8191 ∧ 8191 < y) ∨ (¬ y < -8191 ∧ ¬ 8191 < y ∧ W < 0) ∨ (¬ y < -8191 ∧ ¬ 8191 < y ∧ ¬ W < 0 ∧ 64 < W) := by omega
  clear h
  rcases h2 with y0 | ⟨y0, y1⟩ | ⟨y0, y1, w0⟩ | ⟨y0, y1, w0, w1⟩
  all_goals
    have n1 : True := trivial
    go_enter Try.func16, Try.ntmps16
    go_wp2_with (first | (first | (clear hL n1; with_reducible intro b1 w1 hL) | (clear hL; with_reducible intro _ _ hL)) | (with_reducible refine wpC_alloc rfl _ rfl _ _ inferInstance hL ?_) | (with_reducible first | refine wpB_agg rfl _ _ _ rfl rfl hL ?_ | refine wpB_one rfl _ _ (.int _ _) rfl rfl rfl hL ?_ | refine wpB_one rfl _ _ (.slice _ _ _) rfl rfl rfl hL ?_ | refine wpB_one rfl _ _ (.bool _) rfl rfl rfl hL ?_ | refine wpB_one rfl _ _ (.pointer _) rfl rfl rfl hL ?_ | refine wpB_one rfl _ _ (.func _ _ _) rfl rfl rfl hL ?_) | (with_reducible first | refine wpH_max rfl _ _ _ _ rfl _ _ rfl rfl ?_ | refine wpH_min rfl _ _ _ _ rfl _ _ rfl rfl ?_) | ((with_reducible refine wpA_load rfl _ _ rfl _ rfl ?_); first | refine loadA hL ?_ | refine loadR hL ?_ | refine loadC hL ?_ | refine loadD ?_ | refine loadE hL ?_ | refine loadF ?_) | ((with_reducible refine wpA_index rfl _ _ _ rfl _ rfl _ rfl ?_); first | (refine indexA ?_; try rw [Int.toNat_natCast]) | refine indexC ?_) | ((with_reducible refine wpA_store rfl _ _ _ rfl _ rfl (.agg _) rfl ?_); refine storeR hL ?_; clear hL; intro _ hL) | ((with_reducible first | refine wpA_store rfl _ _ _ rfl _ rfl (.int _ _) rfl ?_ | refine wpA_store rfl _ _ _ rfl _ rfl (.slice _ _ _) rfl ?_ | refine wpA_store rfl _ _ _ rfl _ rfl (.bool _) rfl ?_ | refine wpA_store rfl _ _ _ rfl _ rfl (.pointer _) rfl ?_ | refine wpA_store rfl _ _ _ rfl _ rfl (.func _ _ _) rfl ?_); (first | refine storeA hL ?_ | refine storeO hL ?_); (clear hL; intro _ hL)) | ((with_reducible refine wpA_lit rfl _ _ _ rfl ?_); first | refine litA1 hL ?_ | refine litA2 hL ?_ | refine litA3 hL ?_ | refine litA4 hL ?_ | refine litA6 hL ?_) | ((with_reducible refine wpA_append rfl _ _ _ rfl (.slice _ _ _) rfl ?_); intro vq hvq; simp [go_sem] at hvq; subst hvq; refine appendA hL ?_; clear hL; intro _ _ _ hL; try dsimp only at hL) | ((with_reducible refine wpA_make rfl _ _ _ rfl _ rfl rfl ?_); refine makeA hL ?_))
    go_ret
    exact newNil (hL.drop .here)
set_option maxRecDepth 100000 in
set_option maxHeartbeats 2000000 in
theorem refLine_ok (w : World) (v : Value) (l : List Edg) (hv : EdgesAt w v l) (hlen : l.length ≤ 1152921504606846976) (rule y : Int) (hy : near1 y = true) (n : Nat) (hn : n ≤ 64) :
    Calls Try.prog 16 #[v, .int .i64 rule, .int .i64 y, .int .i64 n] w (RunsOut (runsTo (rowP l rule y) n) w) := by
  have Hv := Lib.hid hv
  obtain ⟨a, cap, rfl, _⟩ := hv.parts
  clear hv
  have hy2 : -8191 ≤ y ∧ y ≤ 8191 := by simpa [near1] using hy
  obtain ⟨y1, y2⟩ := hy2
  clear hy
  have HI := Lib.hid (show ∀ w' v', EdgesAt w' v' l → ∀ i : Nat, Calls Try.prog 40 #[v', .int .i64 rule, .int .i64 (16 * (i : Int) + 8), .int .i64 y] w' fun r w'' => r = .returned (.bool (rowP l rule y i)) ∧ Below w'.heap.size w' w'' from
    fun w' v' h i => rIn_calls w' v' l h hlen rule _ y)
  have HR := Lib.hid (show runsTo (fun j => decide (j < n) && rowP l rule y j) (cutI (n : Int)).toNat = runsTo (rowP l rule y) n by
    rw [show (cutI (n : Int)).toNat = n by unfold cutI; omega]
    exact runsTo_congr fun i hi => by simp [hi])
  generalize rowP l rule y = p at *
  have hL := Holds.start w
  have n1 : True := trivial; have n2 : True := trivial
  go_enter Try.func16, Try.ntmps16
  go_wp2_with (first | (first | (clear hL n1; with_reducible intro b1 w1 hL) | (clear hL n2; with_reducible intro b2 w2 hL) | (clear hL; with_reducible intro _ _ hL)) | (with_reducible refine wpC_alloc rfl _ rfl _ _ inferInstance hL ?_) | (with_reducible first | refine wpB_agg rfl _ _ _ rfl rfl hL ?_ | refine wpB_one rfl _ _ (.int _ _) rfl rfl rfl hL ?_ | refine wpB_one rfl _ _ (.slice _ _ _) rfl rfl rfl hL ?_ | refine wpB_one rfl _ _ (.bool _) rfl rfl rfl hL ?_ | refine wpB_one rfl _ _ (.pointer _) rfl rfl rfl hL ?_ | refine wpB_one rfl _ _ (.func _ _ _) rfl rfl rfl hL ?_) | (with_reducible first | refine wpH_max rfl _ _ _ _ rfl _ _ rfl rfl ?_ | refine wpH_min rfl _ _ _ _ rfl _ _ rfl rfl ?_) | ((with_reducible refine wpA_load rfl _ _ rfl _ rfl ?_); first | refine loadA hL ?_ | refine loadR hL ?_ | refine loadC hL ?_ | refine loadD ?_ | refine loadE hL ?_ | refine loadF ?_) | ((with_reducible refine wpA_index rfl _ _ _ rfl _ rfl _ rfl ?_); first | (refine indexA ?_; try rw [Int.toNat_natCast]) | refine indexC ?_) | ((with_reducible refine wpA_store rfl _ _ _ rfl _ rfl (.agg _) rfl ?_); refine storeR hL ?_; clear hL; intro _ hL) | ((with_reducible first | refine wpA_store rfl _ _ _ rfl _ rfl (.int _ _) rfl ?_ | refine wpA_store rfl _ _ _ rfl _ rfl (.slice _ _ _) rfl ?_ | refine wpA_store rfl _ _ _ rfl _ rfl (.bool _) rfl ?_ | refine wpA_store rfl _ _ _ rfl _ rfl (.pointer _) rfl ?_ | refine wpA_store rfl _ _ _ rfl _ rfl (.func _ _ _) rfl ?_); (first | refine storeA hL ?_ | refine storeO hL ?_); (clear hL; intro _ hL)) | ((with_reducible refine wpA_lit rfl _ _ _ rfl ?_); first | refine litA1 hL ?_ | refine litA2 hL ?_ | refine litA3 hL ?_ | refine litA4 hL ?_ | refine litA6 hL ?_) | ((with_reducible refine wpA_append rfl _ _ _ rfl (.slice _ _ _) rfl ?_); intro vq hvq; simp [go_sem] at hvq; subst hvq; refine appendA hL ?_; clear hL; intro _ _ _ hL; try dsimp only at hL) | ((with_reducible refine wpA_make rfl _ _ _ rfl _ rfl rfl ?_); refine makeA hL ?_))
  go_loopw [10] (fun s10 wr => ∃ i : Nat, i ≤ n ∧ s10 = .int .i64 i ∧ Holds w wr [blk b1 (arrB fun j => decide (j < i) && p j) 78] [])
    (fun s10 wr => (n - intOf s10).toNat)
  case atStart => exact ⟨0, by omega, rfl, by simpa using hL⟩
  case round =>
    clear hL
    obtain ⟨i, hi, rfl, hL⟩ := hrel
    by_cases hlt : i < n
    · have hj2 : (i : Int) < (n : Int) := by omega
      have hi64 : i < 64 := by omega
      have HS := Lib.hid (arr_step p i)
      go_wp2_with (first | (go_at_call 40; (with_reducible refine (HI.out _ _ (Hv.out.hold hL) i).mono ?_); rintro e _ ⟨rfl, hb⟩; replace hL := hL.call hb; clear hb) | (first | (clear hL n1; with_reducible intro b1 w1 hL) | (clear hL n2; with_reducible intro b2 w2 hL) | (clear hL; with_reducible intro _ _ hL)) | (with_reducible refine wpC_alloc rfl _ rfl _ _ inferInstance hL ?_) | (with_reducible first | refine wpB_agg rfl _ _ _ rfl rfl hL ?_ | refine wpB_one rfl _ _ (.int _ _) rfl rfl rfl hL ?_ | refine wpB_one rfl _ _ (.slice _ _ _) rfl rfl rfl hL ?_ | refine wpB_one rfl _ _ (.bool _) rfl rfl rfl hL ?_ | refine wpB_one rfl _ _ (.pointer _) rfl rfl rfl hL ?_ | refine wpB_one rfl _ _ (.func _ _ _) rfl rfl rfl hL ?_) | (with_reducible first | refine wpH_max rfl _ _ _ _ rfl _ _ rfl rfl ?_ | refine wpH_min rfl _ _ _ _ rfl _ _ rfl rfl ?_) | ((with_reducible refine wpA_load rfl _ _ rfl _ rfl ?_); first | refine loadA hL ?_ | refine loadR hL ?_ | refine loadC hL ?_ | refine loadD ?_ | refine loadE hL ?_ | refine loadF ?_) | ((with_reducible refine wpA_index rfl _ _ _ rfl _ rfl _ rfl ?_); first | (refine indexA ?_; try rw [Int.toNat_natCast]) | refine indexC ?_) | ((with_reducible refine wpA_store rfl _ _ _ rfl _ rfl (.agg _) rfl ?_); refine storeR hL ?_; clear hL; intro _ hL) | ((with_reducible first | refine wpA_store rfl _ _ _ rfl _ rfl (.int _ _) rfl ?_ | refine wpA_store rfl _ _ _ rfl _ rfl (.slice _ _ _) rfl ?_ | refine wpA_store rfl _ _ _ rfl _ rfl (.bool _) rfl ?_ | refine wpA_store rfl _ _ _ rfl _ rfl (.pointer _) rfl ?_ | refine wpA_store rfl _ _ _ rfl _ rfl (.func _ _ _) rfl ?_); (first | refine storeA hL ?_ | refine storeO hL ?_); (clear hL; intro _ hL)) | ((with_reducible refine wpA_lit rfl _ _ _ rfl ?_); first | refine litA1 hL ?_ | refine litA2 hL ?_ | refine litA3 hL ?_ | refine litA4 hL ?_ | refine litA6 hL ?_) | ((with_reducible refine wpA_append rfl _ _ _ rfl (.slice _ _ _) rfl ?_); intro vq hvq; simp [go_sem] at hvq; subst hvq; refine appendA hL ?_; clear hL; intro _ _ _ hL; try dsimp only at hL) | ((with_reducible refine wpA_make rfl _ _ _ rfl _ rfl rfl ?_); refine makeA hL ?_))
      go_roundw
      case rel =>
        rw [HS.out] at hL
        exact ⟨i + 1, by omega, by go_num, hL⟩
      case measure => simp [intOf]; omega
    · have e : i = n := by omega
      subst e
      go_wp2_with (first | (go_at_call 41; (with_reducible refine (refRuns_calls _ _ _).mono ?_); rintro e _ ⟨v, rfl, hb, hf⟩; replace hL := hL.callF hb hf; clear hb hf) | (first | (clear hL n1; with_reducible intro b1 w1 hL) | (clear hL n2; with_reducible intro b2 w2 hL) | (clear hL; with_reducible intro _ _ hL)) | (with_reducible refine wpC_alloc rfl _ rfl _ _ inferInstance hL ?_) | (with_reducible first | refine wpB_agg rfl _ _ _ rfl rfl hL ?_ | refine wpB_one rfl _ _ (.int _ _) rfl rfl rfl hL ?_ | refine wpB_one rfl _ _ (.slice _ _ _) rfl rfl rfl hL ?_ | refine wpB_one rfl _ _ (.bool _) rfl rfl rfl hL ?_ | refine wpB_one rfl _ _ (.pointer _) rfl rfl rfl hL ?_ | refine wpB_one rfl _ _ (.func _ _ _) rfl rfl rfl hL ?_) | (with_reducible first | refine wpH_max rfl _ _ _ _ rfl _ _ rfl rfl ?_ | refine wpH_min rfl _ _ _ _ rfl _ _ rfl rfl ?_) | ((with_reducible refine wpA_load rfl _ _ rfl _ rfl ?_); first | refine loadA hL ?_ | refine loadR hL ?_ | refine loadC hL ?_ | refine loadD ?_ | refine loadE hL ?_ | refine loadF ?_) | ((with_reducible refine wpA_index rfl _ _ _ rfl _ rfl _ rfl ?_); first | (refine indexA ?_; try rw [Int.toNat_natCast]) | refine indexC ?_) | ((with_reducible refine wpA_store rfl _ _ _ rfl _ rfl (.agg _) rfl ?_); refine storeR hL ?_; clear hL; intro _ hL) | ((with_reducible first | refine wpA_store rfl _ _ _ rfl _ rfl (.int _ _) rfl ?_ | refine wpA_store rfl _ _ _ rfl _ rfl (.slice _ _ _) rfl ?_ | refine wpA_store rfl _ _ _ rfl _ rfl (.bool _) rfl ?_ | refine wpA_store rfl _ _ _ rfl _ rfl (.pointer _) rfl ?_ | refine wpA_store rfl _ _ _ rfl _ rfl (.func _ _ _) rfl ?_); (first | refine storeA hL ?_ | refine storeO hL ?_); (clear hL; intro _ hL)) | ((with_reducible refine wpA_lit rfl _ _ _ rfl ?_); first | refine litA1 hL ?_ | refine litA2 hL ?_ | refine litA3 hL ?_ | refine litA4 hL ?_ | refine litA6 hL ?_) | ((with_reducible refine wpA_append rfl _ _ _ rfl (.slice _ _ _) rfl ?_); intro vq hvq; simp [go_sem] at hvq; subst hvq; refine appendA hL ?_; clear hL; intro _ _ _ hL; try dsimp only at hL) | ((with_reducible refine wpA_make rfl _ _ _ rfl _ rfl rfl ?_); refine makeA hL ?_))
      go_ret
      rw [← HR.out]
      exact hL.out0
theorem refLine_calls (w : World) (v : Value) (l : List Edg) (hv : EdgesAt w v l) (hlen : l.length ≤ 1152921504606846976) (rule y W : Int) :
    Calls Try.prog 16 #[v, .int .i64 rule, .int .i64 y, .int .i64 W] w (RunsOut (lineS l rule y W) w) := by
  by_cases h : y < -8191 ∨ 8191 < y ∨ W < 0 ∨ 64 < W
  · rw [lineS_out h]; exact refLine_no w v rule y W h
  · have hy : near1 y = true := by simp [near1]; omega
    obtain ⟨n, rfl⟩ := Int.eq_ofNat_of_zero_le (show 0 ≤ W by omega)
    rw [← lineS_all l rule hy (by omega)]
    exact refLine_ok w v l hv hlen rule y hy n (by omega)

set_option maxRecDepth 100000 in
set_option maxHeartbeats 2000000 in
theorem scanLines_calls (w : World) (v : Value) (l : List Edg) (hv : EdgesAt w v l) (rule y W : Int) :
    Calls Try.prog 3 #[v, .int .i64 rule, .int .i64 y, .int .i64 W] w fun e w' => e = .returned (.bool true) ∧ Below w.heap.size w w' := by
  have Hv := Lib.hid hv
  obtain ⟨a, cap, rfl, hlc, hcm, _⟩ := hv.parts
  clear hv
  unfold maxLen at hcm
  have hL := Holds.start w
  by_cases hbig : (30 : Int) < (l.length : Int)
  · go_enter Try.func3, Try.ntmps3
    go_wp2_with (first | (go_at_call 13; (with_reducible refine (known_calls _).mono ?_); rintro e _ ⟨rfl, hb⟩; replace hL := hL.call hb; clear hb) | ((clear hL; with_reducible intro _ _ hL)) | (with_reducible refine wpC_alloc rfl _ rfl _ _ inferInstance hL ?_) | (with_reducible first | refine wpB_agg rfl _ _ _ rfl rfl hL ?_ | refine wpB_one rfl _ _ (.int _ _) rfl rfl rfl hL ?_ | refine wpB_one rfl _ _ (.slice _ _ _) rfl rfl rfl hL ?_ | refine wpB_one rfl _ _ (.bool _) rfl rfl rfl hL ?_ | refine wpB_one rfl _ _ (.pointer _) rfl rfl rfl hL ?_ | refine wpB_one rfl _ _ (.func _ _ _) rfl rfl rfl hL ?_) | (with_reducible first | refine wpH_max rfl _ _ _ _ rfl _ _ rfl rfl ?_ | refine wpH_min rfl _ _ _ _ rfl _ _ rfl rfl ?_) | ((with_reducible refine wpA_load rfl _ _ rfl _ rfl ?_); first | refine loadA hL ?_ | refine loadR hL ?_ | refine loadC hL ?_ | refine loadD ?_ | refine loadE hL ?_ | refine loadF ?_) | ((with_reducible refine wpA_index rfl _ _ _ rfl _ rfl _ rfl ?_); first | (refine indexA ?_; try rw [Int.toNat_natCast]) | refine indexC ?_) | ((with_reducible refine wpA_store rfl _ _ _ rfl _ rfl (.agg _) rfl ?_); refine storeR hL ?_; clear hL; intro _ hL) | ((with_reducible first | refine wpA_store rfl _ _ _ rfl _ rfl (.int _ _) rfl ?_ | refine wpA_store rfl _ _ _ rfl _ rfl (.slice _ _ _) rfl ?_ | refine wpA_store rfl _ _ _ rfl _ rfl (.bool _) rfl ?_ | refine wpA_store rfl _ _ _ rfl _ rfl (.pointer _) rfl ?_ | refine wpA_store rfl _ _ _ rfl _ rfl (.func _ _ _) rfl ?_); (first | refine storeA hL ?_ | refine storeO hL ?_); (clear hL; intro _ hL)) | ((with_reducible refine wpA_lit rfl _ _ _ rfl ?_); first | refine litA1 hL ?_ | refine litA2 hL ?_ | refine litA3 hL ?_ | refine litA4 hL ?_ | refine litA6 hL ?_) | ((with_reducible refine wpA_append rfl _ _ _ rfl (.slice _ _ _) rfl ?_); intro vq hvq; simp [go_sem] at hvq; subst hvq; refine appendA hL ?_; clear hL; intro _ _ _ hL; try dsimp only at hL) | ((with_reducible refine wpA_make rfl _ _ _ rfl _ rfl rfl ?_); refine makeA hL ?_))
    go_ret
    exact ⟨rfl, hL.below⟩
  · have hlen : l.length ≤ 1152921504606846976 := by omega
    go_enter Try.func3, Try.ntmps3
    go_wp2_with (first | (go_at_call 13; (with_reducible refine (known_calls _).mono ?_); rintro e _ ⟨rfl, hb⟩; replace hL := hL.call hb; clear hb) | (go_at_call 15; (with_reducible refine (scanLine_calls _ _ l (Hv.out.hold hL) hlen rule y W).mono ?_); rintro e _ ⟨v1, rfl, hb, hf⟩; replace hf := runsFresh hf; replace hL := hL.callF hb hf; clear hb hf) | (go_at_call 16; (with_reducible refine (refLine_calls _ _ l (Hv.out.hold hL) hlen rule y W).mono ?_); rintro e _ ⟨v2, rfl, hb, hf⟩; replace hf := runsFresh hf; replace hL := hL.callF hb hf; clear hb hf) | (go_at_call 14; (with_reducible refine (same_calls _ _ _ _ _ hL.fact1 hL.fact0).mono ?_); rintro e _ ⟨rfl, hb⟩; replace hL := hL.call hb; clear hb) | ((clear hL; with_reducible intro _ _ hL)) | (with_reducible refine wpC_alloc rfl _ rfl _ _ inferInstance hL ?_) | (with_reducible first | refine wpB_agg rfl _ _ _ rfl rfl hL ?_ | refine wpB_one rfl _ _ (.int _ _) rfl rfl rfl hL ?_ | refine wpB_one rfl _ _ (.slice _ _ _) rfl rfl rfl hL ?_ | refine wpB_one rfl _ _ (.bool _) rfl rfl rfl hL ?_ | refine wpB_one rfl _ _ (.pointer _) rfl rfl rfl hL ?_ | refine wpB_one rfl _ _ (.func _ _ _) rfl rfl rfl hL ?_) | (with_reducible first | refine wpH_max rfl _ _ _ _ rfl _ _ rfl rfl ?_ | refine wpH_min rfl _ _ _ _ rfl _ _ rfl rfl ?_) | ((with_reducible refine wpA_load rfl _ _ rfl _ rfl ?_); first | refine loadA hL ?_ | refine loadR hL ?_ | refine loadC hL ?_ | refine loadD ?_ | refine loadE hL ?_ | refine loadF ?_) | ((with_reducible refine wpA_index rfl _ _ _ rfl _ rfl _ rfl ?_); first | (refine indexA ?_; try rw [Int.toNat_natCast]) | refine indexC ?_) | ((with_reducible refine wpA_store rfl _ _ _ rfl _ rfl (.agg _) rfl ?_); refine storeR hL ?_; clear hL; intro _ hL) | ((with_reducible first | refine wpA_store rfl _ _ _ rfl _ rfl (.int _ _) rfl ?_ | refine wpA_store rfl _ _ _ rfl _ rfl (.slice _ _ _) rfl ?_ | refine wpA_store rfl _ _ _ rfl _ rfl (.bool _) rfl ?_ | refine wpA_store rfl _ _ _ rfl _ rfl (.pointer _) rfl ?_ | refine wpA_store rfl _ _ _ rfl _ rfl (.func _ _ _) rfl ?_); (first | refine storeA hL ?_ | refine storeO hL ?_); (clear hL; intro _ hL)) | ((with_reducible refine wpA_lit rfl _ _ _ rfl ?_); first | refine litA1 hL ?_ | refine litA2 hL ?_ | refine litA3 hL ?_ | refine litA4 hL ?_ | refine litA6 hL ?_) | ((with_reducible refine wpA_append rfl _ _ _ rfl (.slice _ _ _) rfl ?_); intro vq hvq; simp [go_sem] at hvq; subst hvq; refine appendA hL ?_; clear hL; intro _ _ _ hL; try dsimp only at hL) | ((with_reducible refine wpA_make rfl _ _ _ rfl _ rfl rfl ?_); refine makeA hL ?_))
    go_ret
    exact ⟨ret_bool (by simp), hL.below⟩
end Go.Proofs.Ytkgblkaihblgeaa
