/- Package hem: disc, square; the ends of any shape. -/
import Derived.Test.YtfnolaoohmecbaaHmS
-- lit6
namespace Go.Proofs.Ytfnolaoohmecbaa
open Go.RowKit

theorem half_tdiv (r : Nat) : (r : Int).tdiv 2 = ((r : Int) / 2) := by
  rw [Int.tdiv_eq_ediv_of_nonneg (by omega)]
set_option maxRecDepth 100000 in
set_option maxHeartbeats 8000000 in
theorem hemDisc_calls (x0 y0 : Int) (bt : Bool) (cx cy x1 y1 wide : Int) (f l : Bool) (y : Int) (hx0 : -8191 ≤ x0 ∧ x0 ≤ 8191) (hy0 : -8191 ≤ y0 ∧ y0 ≤ 8191) (hw : 0 ≤ wide ∧ wide ≤ 2048) (hy : -8191 ≤ y ∧ y ≤ 8191) (w : World) :
    Calls Try.prog 96 #[.agg #[.int .i64 x0, .int .i64 y0, .bool bt, .int .i64 cx, .int .i64 cy, .int .i64 x1, .int .i64 y1, .int .i64 wide, .bool f, .bool l, .func (.func 96) #[] #[]], .int .i64 y] w (CovOut ⟨⟨x0, y0, bt, cx, cy, x1, y1⟩, wide, f, l, 1⟩ y w) := by
  have hL := Holds.start w
  have hc : ∀ x, covS ⟨⟨x0, y0, bt, cx, cy, x1, y1⟩, wide, f, l, 1⟩ x y = true ↔ 4 * ((x - x0) * (x - x0)) ≤ wide * wide - 4 * (y - y0) * (y - y0) := by
    intro x
    unfold covS discIn
    simp only [show (1 : Nat) = 0 ↔ False by decide, if_false, if_true, decide_eq_true_eq]
    rw [Int.mul_add, ← Int.mul_assoc 4 (y - y0)]
    omega
  have wV : IntKind.i64.wrap (y - y0) = y - y0 := by rw [IntKind.wrap_i64]; omega
  have bV : -16382 ≤ y - y0 ∧ y - y0 ≤ 16382 := by omega
  generalize hVY : y - y0 = VY at *
  have b4 : -65528 ≤ 4 * VY ∧ 4 * VY ≤ 65528 := by omega
  have bQ := mul_bd b4.1 b4.2 bV.1 bV.2
  have bWW := mul_bd (a := wide) (b := wide) (A := 2048) (B := 2048) (by omega) (by omega) (by omega) (by omega)
  have nn : ∀ t : Int, 0 ≤ t * t := fun t => by rw [← Int.natAbs_mul_self]; omega
  generalize hWW : wide * wide = WW at *
  generalize hQ : 4 * VY * VY = Q at *
  rcases (by omega : WW - Q < 0 ∨ 0 ≤ WW - Q) with h | h
  · have HC := Lib.hid (show ∀ x, -8191 ≤ x → x ≤ 8191 → (((1 : Int) ≤ x ∧ x ≤ 0) ↔ covS ⟨⟨x0, y0, bt, cx, cy, x1, y1⟩, wide, f, l, 1⟩ x y = true) by
      intro x _ _
      rw [hc x]
      have := nn (x - x0)
      omega)
    clear hc nn
    have n1 : True := trivial; have n2 : True := trivial; have n3 : True := trivial
    go_enter Try.func96, Try.ntmps96
    go_wp2_with (first | (go_at_call 103; (with_reducible refine (none_calls _).mono ?_); rintro e _ ⟨rfl, hb⟩; replace hL := hL.call hb; clear hb) | (first | (clear hL n1; with_reducible intro b1 w1 hL) | (clear hL n2; with_reducible intro b2 w2 hL) | (clear hL n3; with_reducible intro b3 w3 hL) | (clear hL; with_reducible intro _ _ hL)) | (with_reducible refine wpC_alloc rfl _ rfl _ _ inferInstance hL ?_) | (with_reducible first | refine wpB_agg rfl _ _ _ rfl rfl hL ?_ | refine wpB_one rfl _ _ (.int _ _) rfl rfl rfl hL ?_ | refine wpB_one rfl _ _ (.slice _ _ _) rfl rfl rfl hL ?_ | refine wpB_one rfl _ _ (.bool _) rfl rfl rfl hL ?_ | refine wpB_one rfl _ _ (.pointer _) rfl rfl rfl hL ?_ | refine wpB_one rfl _ _ (.func _ _ _) rfl rfl rfl hL ?_) | (with_reducible first | refine wpH_max rfl _ _ _ _ rfl _ _ rfl rfl ?_ | refine wpH_min rfl _ _ _ _ rfl _ _ rfl rfl ?_) | ((with_reducible refine wpA_load rfl _ _ rfl _ rfl ?_); first | refine loadA hL ?_ | refine loadR hL ?_ | refine loadC hL ?_ | refine loadD ?_ | refine loadE hL ?_ | refine loadF ?_) | ((with_reducible refine wpA_index rfl _ _ _ rfl _ rfl _ rfl ?_); first | (refine indexA ?_; try rw [Int.toNat_natCast]) | refine indexC ?_) | ((with_reducible refine wpA_store rfl _ _ _ rfl _ rfl (.agg _) rfl ?_); refine storeR hL ?_; clear hL; intro _ hL) | ((with_reducible first | refine wpA_store rfl _ _ _ rfl _ rfl (.int _ _) rfl ?_ | refine wpA_store rfl _ _ _ rfl _ rfl (.slice _ _ _) rfl ?_ | refine wpA_store rfl _ _ _ rfl _ rfl (.bool _) rfl ?_ | refine wpA_store rfl _ _ _ rfl _ rfl (.pointer _) rfl ?_ | refine wpA_store rfl _ _ _ rfl _ rfl (.func _ _ _) rfl ?_); (first | refine storeA hL ?_ | refine storeO hL ?_); (clear hL; intro _ hL)) | ((with_reducible refine wpA_lit rfl _ _ _ rfl ?_); first | refine litA1 hL ?_ | refine litA2 hL ?_ | refine litA3 hL ?_ | refine litA4 hL ?_ | refine litA6 hL ?_) | ((with_reducible refine wpA_append rfl _ _ _ rfl (.slice _ _ _) rfl ?_); intro vq hvq; simp [go_sem] at hvq; subst hvq; refine appendA hL ?_; clear hL; intro _ _ _ hL; try dsimp only at hL) | ((with_reducible refine wpA_make rfl _ _ _ rfl _ rfl rfl ?_); refine makeA hL ?_))
    exact bodyPost_ret (results_row inferInstance rfl _ hL b2 rfl _ _ (by (repeat (first | with_reducible exact At.here | with_reducible apply At.there))) rfl) rfl ⟨⟨_, _, rfl, ⟨by omega, by omega, by omega, by omega⟩, HC.out⟩, hL.below⟩
  · obtain ⟨n, hn⟩ := Int.eq_ofNat_of_zero_le h
    have HC := Lib.hid (show ∀ r : Nat, r * r ≤ n → n < (r + 1) * (r + 1) → ∀ x, -8191 ≤ x → x ≤ 8191 → ((x0 - ((r : Int) / 2) ≤ x ∧ x ≤ x0 + ((r : Int) / 2)) ↔ covS ⟨⟨x0, y0, bt, cx, cy, x1, y1⟩, wide, f, l, 1⟩ x y = true) by
      intro r h1 h2 x _ _
      rw [hc x, hn]
      have := far_iff h1 h2 (2 * (x - x0))
      rw [show 2 * (x - x0) * (2 * (x - x0)) = 4 * ((x - x0) * (x - x0)) by grind] at this
      rw [this]
      omega)
    clear hc nn
    have n1 : True := trivial; have n2 : True := trivial; have n3 : True := trivial
    go_enter Try.func96, Try.ntmps96
    go_wp2_with (first | (go_at_call 104; (with_reducible refine (rootFloor_calls n (by omega) _).mono ?_); rintro e _ ⟨⟨r, rfl, hr1, hr2, hr3⟩, hb⟩; have HQ := Lib.hid (HC.out r hr1 hr2); clear hr1 hr2; have ht := half_tdiv r; replace hL := hL.call hb; clear hb) | (first | (clear hL n1; with_reducible intro b1 w1 hL) | (clear hL n2; with_reducible intro b2 w2 hL) | (clear hL n3; with_reducible intro b3 w3 hL) | (clear hL; with_reducible intro _ _ hL)) | (with_reducible refine wpC_alloc rfl _ rfl _ _ inferInstance hL ?_) | (with_reducible first | refine wpB_agg rfl _ _ _ rfl rfl hL ?_ | refine wpB_one rfl _ _ (.int _ _) rfl rfl rfl hL ?_ | refine wpB_one rfl _ _ (.slice _ _ _) rfl rfl rfl hL ?_ | refine wpB_one rfl _ _ (.bool _) rfl rfl rfl hL ?_ | refine wpB_one rfl _ _ (.pointer _) rfl rfl rfl hL ?_ | refine wpB_one rfl _ _ (.func _ _ _) rfl rfl rfl hL ?_) | (with_reducible first | refine wpH_max rfl _ _ _ _ rfl _ _ rfl rfl ?_ | refine wpH_min rfl _ _ _ _ rfl _ _ rfl rfl ?_) | ((with_reducible refine wpA_load rfl _ _ rfl _ rfl ?_); first | refine loadA hL ?_ | refine loadR hL ?_ | refine loadC hL ?_ | refine loadD ?_ | refine loadE hL ?_ | refine loadF ?_) | ((with_reducible refine wpA_index rfl _ _ _ rfl _ rfl _ rfl ?_); first | (refine indexA ?_; try rw [Int.toNat_natCast]) | refine indexC ?_) | ((with_reducible refine wpA_store rfl _ _ _ rfl _ rfl (.agg _) rfl ?_); refine storeR hL ?_; clear hL; intro _ hL) | ((with_reducible first | refine wpA_store rfl _ _ _ rfl _ rfl (.int _ _) rfl ?_ | refine wpA_store rfl _ _ _ rfl _ rfl (.slice _ _ _) rfl ?_ | refine wpA_store rfl _ _ _ rfl _ rfl (.bool _) rfl ?_ | refine wpA_store rfl _ _ _ rfl _ rfl (.pointer _) rfl ?_ | refine wpA_store rfl _ _ _ rfl _ rfl (.func _ _ _) rfl ?_); (first | refine storeA hL ?_ | refine storeO hL ?_); (clear hL; intro _ hL)) | ((with_reducible refine wpA_lit rfl _ _ _ rfl ?_); first | refine litA1 hL ?_ | refine litA2 hL ?_ | refine litA3 hL ?_ | refine litA4 hL ?_ | refine litA6 hL ?_) | ((with_reducible refine wpA_append rfl _ _ _ rfl (.slice _ _ _) rfl ?_); intro vq hvq; simp [go_sem] at hvq; subst hvq; refine appendA hL ?_; clear hL; intro _ _ _ hL; try dsimp only at hL) | ((with_reducible refine wpA_make rfl _ _ _ rfl _ rfl rfl ?_); refine makeA hL ?_))
    exact bodyPost_ret (results_row inferInstance rfl _ hL b2 rfl _ _ (by (repeat (first | with_reducible exact At.here | with_reducible apply At.there))) rfl) rfl ⟨⟨_, _, rfl, ⟨by omega, by omega, by omega, by omega⟩, HQ.out⟩, hL.below⟩
set_option maxRecDepth 100000 in
set_option maxHeartbeats 8000000 in
theorem hemSquare_calls (x0 y0 : Int) (bt : Bool) (cx cy x1 y1 wide : Int) (f l : Bool) (y : Int) (hx0 : -8191 ≤ x0 ∧ x0 ≤ 8191) (hy0 : -8191 ≤ y0 ∧ y0 ≤ 8191) (hw : 0 ≤ wide ∧ wide ≤ 2048) (hy : -8191 ≤ y ∧ y ≤ 8191) (w : World) :
    Calls Try.prog 97 #[.agg #[.int .i64 x0, .int .i64 y0, .bool bt, .int .i64 cx, .int .i64 cy, .int .i64 x1, .int .i64 y1, .int .i64 wide, .bool f, .bool l, .func (.func 97) #[] #[]], .int .i64 y] w (CovOut ⟨⟨x0, y0, bt, cx, cy, x1, y1⟩, wide, f, l, 2⟩ y w) := by
  have hL := Holds.start w
  have hc : ∀ x, covS ⟨⟨x0, y0, bt, cx, cy, x1, y1⟩, wide, f, l, 2⟩ x y = true ↔ (2 * (x - x0) ≤ wide ∧ 2 * (x0 - x) ≤ wide) ∧ (2 * (y - y0) ≤ wide ∧ 2 * (y0 - y) ≤ wide) := by
    intro x
    unfold covS squareIn
    simp
  obtain ⟨wd, rfl⟩ := Int.eq_ofNat_of_zero_le hw.1
  have ht := half_tdiv wd
  obtain ⟨m, hm⟩ : ∃ m, max (2 * (y - y0)) (-2 * (y - y0)) = m := ⟨_, rfl⟩
  rcases (by omega : (wd : Int) < m ∨ ¬ (wd : Int) < m) with h | h
  · have HC := Lib.hid (show ∀ x, -8191 ≤ x → x ≤ 8191 → (((1 : Int) ≤ x ∧ x ≤ 0) ↔ covS ⟨⟨x0, y0, bt, cx, cy, x1, y1⟩, wd, f, l, 2⟩ x y = true) by
      intro x _ _
      rw [hc x]
      omega)
    clear hc
    have n1 : True := trivial; have n2 : True := trivial; have n3 : True := trivial
    go_enter Try.func97, Try.ntmps97
    go_wp2_with (first | (go_at_call 103; (with_reducible refine (none_calls _).mono ?_); rintro e _ ⟨rfl, hb⟩; replace hL := hL.call hb; clear hb) | (first | (clear hL n1; with_reducible intro b1 w1 hL) | (clear hL n2; with_reducible intro b2 w2 hL) | (clear hL n3; with_reducible intro b3 w3 hL) | (clear hL; with_reducible intro _ _ hL)) | (with_reducible refine wpC_alloc rfl _ rfl _ _ inferInstance hL ?_) | (with_reducible first | refine wpB_agg rfl _ _ _ rfl rfl hL ?_ | refine wpB_one rfl _ _ (.int _ _) rfl rfl rfl hL ?_ | refine wpB_one rfl _ _ (.slice _ _ _) rfl rfl rfl hL ?_ | refine wpB_one rfl _ _ (.bool _) rfl rfl rfl hL ?_ | refine wpB_one rfl _ _ (.pointer _) rfl rfl rfl hL ?_ | refine wpB_one rfl _ _ (.func _ _ _) rfl rfl rfl hL ?_) | (with_reducible first | refine wpH_max rfl _ _ _ _ rfl _ _ rfl rfl ?_ | refine wpH_min rfl _ _ _ _ rfl _ _ rfl rfl ?_) | ((with_reducible refine wpA_load rfl _ _ rfl _ rfl ?_); first | refine loadA hL ?_ | refine loadR hL ?_ | refine loadC hL ?_ | refine loadD ?_ | refine loadE hL ?_ | refine loadF ?_) | ((with_reducible refine wpA_index rfl _ _ _ rfl _ rfl _ rfl ?_); first | (refine indexA ?_; try rw [Int.toNat_natCast]) | refine indexC ?_) | ((with_reducible refine wpA_store rfl _ _ _ rfl _ rfl (.agg _) rfl ?_); refine storeR hL ?_; clear hL; intro _ hL) | ((with_reducible first | refine wpA_store rfl _ _ _ rfl _ rfl (.int _ _) rfl ?_ | refine wpA_store rfl _ _ _ rfl _ rfl (.slice _ _ _) rfl ?_ | refine wpA_store rfl _ _ _ rfl _ rfl (.bool _) rfl ?_ | refine wpA_store rfl _ _ _ rfl _ rfl (.pointer _) rfl ?_ | refine wpA_store rfl _ _ _ rfl _ rfl (.func _ _ _) rfl ?_); (first | refine storeA hL ?_ | refine storeO hL ?_); (clear hL; intro _ hL)) | ((with_reducible refine wpA_lit rfl _ _ _ rfl ?_); first | refine litA1 hL ?_ | refine litA2 hL ?_ | refine litA3 hL ?_ | refine litA4 hL ?_ | refine litA6 hL ?_) | ((with_reducible refine wpA_append rfl _ _ _ rfl (.slice _ _ _) rfl ?_); intro vq hvq; simp [go_sem] at hvq; subst hvq; refine appendA hL ?_; clear hL; intro _ _ _ hL; try dsimp only at hL) | ((with_reducible refine wpA_make rfl _ _ _ rfl _ rfl rfl ?_); refine makeA hL ?_))
    exact bodyPost_ret (results_row inferInstance rfl _ hL b2 rfl _ _ (by (repeat (first | with_reducible exact At.here | with_reducible apply At.there))) rfl) rfl ⟨⟨_, _, rfl, ⟨by omega, by omega, by omega, by omega⟩, HC.out⟩, hL.below⟩
  · have HC := Lib.hid (show ∀ x, -8191 ≤ x → x ≤ 8191 → ((x0 - ((wd : Int) / 2) ≤ x ∧ x ≤ x0 + ((wd : Int) / 2)) ↔ covS ⟨⟨x0, y0, bt, cx, cy, x1, y1⟩, wd, f, l, 2⟩ x y = true) by
      intro x _ _
      rw [hc x]
      omega)
    clear hc
    have n1 : True := trivial; have n2 : True := trivial; have n3 : True := trivial
    go_enter Try.func97, Try.ntmps97
    go_wp2_with (first | (first | (clear hL n1; with_reducible intro b1 w1 hL) | (clear hL n2; with_reducible intro b2 w2 hL) | (clear hL n3; with_reducible intro b3 w3 hL) | (clear hL; with_reducible intro _ _ hL)) | (with_reducible refine wpC_alloc rfl _ rfl _ _ inferInstance hL ?_) | (with_reducible first | refine wpB_agg rfl _ _ _ rfl rfl hL ?_ | refine wpB_one rfl _ _ (.int _ _) rfl rfl rfl hL ?_ | refine wpB_one rfl _ _ (.slice _ _ _) rfl rfl rfl hL ?_ | refine wpB_one rfl _ _ (.bool _) rfl rfl rfl hL ?_ | refine wpB_one rfl _ _ (.pointer _) rfl rfl rfl hL ?_ | refine wpB_one rfl _ _ (.func _ _ _) rfl rfl rfl hL ?_) | (with_reducible first | refine wpH_max rfl _ _ _ _ rfl _ _ rfl rfl ?_ | refine wpH_min rfl _ _ _ _ rfl _ _ rfl rfl ?_) | ((with_reducible refine wpA_load rfl _ _ rfl _ rfl ?_); first | refine loadA hL ?_ | refine loadR hL ?_ | refine loadC hL ?_ | refine loadD ?_ | refine loadE hL ?_ | refine loadF ?_) | ((with_reducible refine wpA_index rfl _ _ _ rfl _ rfl _ rfl ?_); first | (refine indexA ?_; try rw [Int.toNat_natCast]) | refine indexC ?_) | ((with_reducible refine wpA_store rfl _ _ _ rfl _ rfl (.agg _) rfl ?_); refine storeR hL ?_; clear hL; intro _ hL) | ((with_reducible first | refine wpA_store rfl _ _ _ rfl _ rfl (.int _ _) rfl ?_ | refine wpA_store rfl _ _ _ rfl _ rfl (.slice _ _ _) rfl ?_ | refine wpA_store rfl _ _ _ rfl _ rfl (.bool _) rfl ?_ | refine wpA_store rfl _ _ _ rfl _ rfl (.pointer _) rfl ?_ | refine wpA_store rfl _ _ _ rfl _ rfl (.func _ _ _) rfl ?_); (first | refine storeA hL ?_ | refine storeO hL ?_); (clear hL; intro _ hL)) | ((with_reducible refine wpA_lit rfl _ _ _ rfl ?_); first | refine litA1 hL ?_ | refine litA2 hL ?_ | refine litA3 hL ?_ | refine litA4 hL ?_ | refine litA6 hL ?_) | ((with_reducible refine wpA_append rfl _ _ _ rfl (.slice _ _ _) rfl ?_); intro vq hvq; simp [go_sem] at hvq; subst hvq; refine appendA hL ?_; clear hL; intro _ _ _ hL; try dsimp only at hL) | ((with_reducible refine wpA_make rfl _ _ _ rfl _ rfl rfl ?_); refine makeA hL ?_))
    exact bodyPost_ret (results_row inferInstance rfl _ hL b2 rfl _ _ (by (repeat (first | with_reducible exact At.here | with_reducible apply At.there))) rfl) rfl ⟨⟨_, _, rfl, ⟨by omega, by omega, by omega, by omega⟩, HC.out⟩, hL.below⟩
/-- the ends of a shape on a line -/
theorem ends_calls (s : Shp) (hg : GoodS s) (y : Int) (hy : -8191 ≤ y ∧ y ≤ 8191) (w : World) : Calls Try.prog (fnK s.kind) #[.agg (shpC s).toArray, .int .i64 y] w (CovOut s y w) := by
  obtain ⟨⟨x0, y0, bt, cx, cy, x1, y1⟩, wide, f, l, k⟩ := s
  obtain ⟨⟨⟨h1, h2⟩, h3, h4⟩, hw, hk⟩ := hg
  dsimp only at *
  rcases (by omega : k = 0 ∨ k = 1 ∨ k = 2) with rfl | rfl | rfl
  · exact hemPiece_calls x0 y0 bt cx cy x1 y1 wide f l y h1 h2 h3 h4 hw hy w
  · exact hemDisc_calls x0 y0 bt cx cy x1 y1 wide f l y h1 h2 hw hy w
  · exact hemSquare_calls x0 y0 bt cx cy x1 y1 wide f l y h1 h2 hw hy w
end Go.Proofs.Ytfnolaoohmecbaa
