/- The document's: a bent edge's crossing. -/
import Derived.Test.YtneddfiohekhiaaRefH
-- lit6
namespace Go.Proofs.Ytneddfiohekhiaa
open Go.RowKit

theorem hit_ring (s a b ax bx : Int) : s * (2 * a * bx - 2 * ax * b) = oneQ s a b ax bx := by unfold oneQ; rw [show 2 * ax * b = 2 * b * ax by grind]
set_option maxRecDepth 100000 in
set_option maxHeartbeats 4000000 in
theorem rHit_calls (e : Edg) (a b s d y : Int) (hs6 : Small6 e y) (hB : BOk e.x0 a b d (bAX e) (bBX e)) (hbb : b * b + d ≤ 1073479696) (hs : s = 1 ∨ s = -1) (w : World) : Calls Try.prog 85 #[edgeV e, .int .i64 a, .int .i64 b, .int .i64 s, .int .i64 d] w fun r w' => r = .returned (.agg #[.int .i64 s, .int .i64 (oneP e.x0 a b d (bAX e) (bBX e)), .int .i64 (oneQ s a b (bAX e) (bBX e)), .int .i64 d, .int .i64 (a * a)]) ∧ Below w.heap.size w w' := by
  obtain ⟨x0, y0, bt, cx, cy, x1, y1⟩ := e
  obtain ⟨a0, a1, b0, b1, c0, c1, d0, d1, e0, e1, f0, f1, g0, g1⟩ := hs6
  obtain ⟨b0', b1', a0', a1', _, _, _, _, _, _, d0', d1'⟩ := hB
  dsimp only [bAX, bBX] at *
  unfold edgeV
  dsimp only
  have hL := Holds.start w
  have HQ := Lib.hid (hit_ring s a b (x0 - 2 * cx + x1) (cx - x0))
  have HP := Lib.hid (show oneP x0 a b d (x0 - 2 * cx + x1) (cx - x0) = x0 * a * a - 2 * a * b * (cx - x0) + (x0 - 2 * cx + x1) * (b * b + d) from rfl)
  generalize oneQ s a b (x0 - 2 * cx + x1) (cx - x0) = Q at *
  generalize oneP x0 a b d (x0 - 2 * cx + x1) (cx - x0) = PP at *
  have n1 : True := trivial; have n2 : True := trivial
  go_enter Try.func85, Try.ntmps85
  go_wp2_with (first | (first | (clear hL n1; with_reducible intro b1 w1 hL) | (clear hL n2; with_reducible intro b2 w2 hL) | (clear hL; with_reducible intro _ _ hL)) | (with_reducible refine wpC_alloc rfl _ rfl _ _ inferInstance hL ?_) | (with_reducible first | refine wpB_agg rfl _ _ _ rfl rfl hL ?_ | refine wpB_one rfl _ _ (.int _ _) rfl rfl rfl hL ?_ | refine wpB_one rfl _ _ (.slice _ _ _) rfl rfl rfl hL ?_ | refine wpB_one rfl _ _ (.bool _) rfl rfl rfl hL ?_ | refine wpB_one rfl _ _ (.pointer _) rfl rfl rfl hL ?_ | refine wpB_one rfl _ _ (.func _ _ _) rfl rfl rfl hL ?_) | (with_reducible first | refine wpH_max rfl _ _ _ _ rfl _ _ rfl rfl ?_ | refine wpH_min rfl _ _ _ _ rfl _ _ rfl rfl ?_) | ((with_reducible refine wpA_load rfl _ _ rfl _ rfl ?_); first | refine loadA hL ?_ | refine loadR hL ?_ | refine loadC hL ?_ | refine loadD ?_ | refine loadE hL ?_ | refine loadF ?_) | ((with_reducible refine wpA_index rfl _ _ _ rfl _ rfl _ rfl ?_); first | (refine indexA ?_; try rw [Int.toNat_natCast]) | refine indexC ?_) | ((with_reducible refine wpA_store rfl _ _ _ rfl _ rfl (.agg _) rfl ?_); refine storeR hL ?_; clear hL; intro _ hL) | ((with_reducible first | refine wpA_store rfl _ _ _ rfl _ rfl (.int _ _) rfl ?_ | refine wpA_store rfl _ _ _ rfl _ rfl (.slice _ _ _) rfl ?_ | refine wpA_store rfl _ _ _ rfl _ rfl (.bool _) rfl ?_ | refine wpA_store rfl _ _ _ rfl _ rfl (.pointer _) rfl ?_ | refine wpA_store rfl _ _ _ rfl _ rfl (.func _ _ _) rfl ?_); (first | refine storeA hL ?_ | refine storeO hL ?_); (clear hL; intro _ hL)) | ((with_reducible refine wpA_lit rfl _ _ _ rfl ?_); first | refine litA1 hL ?_ | refine litA2 hL ?_ | refine litA3 hL ?_ | refine litA4 hL ?_ | refine litA6 hL ?_) | ((with_reducible refine wpA_append rfl _ _ _ rfl (.slice _ _ _) rfl ?_); intro vq hvq; simp [go_sem] at hvq; subst hvq; refine appendA hL ?_; clear hL; intro _ _ _ hL; try dsimp only at hL) | ((with_reducible refine wpA_make rfl _ _ _ rfl _ rfl rfl ?_); refine makeA hL ?_))
  have r0 : w2.cell? ⟨b1, 0, none⟩ = some (.int .i64 x0) := (hL.cell (.there .here)).trans rfl
  have r3 : w2.cell? ⟨b1, 3, none⟩ = some (.int .i64 cx) := (hL.cell (.there .here)).trans rfl
  have r5 : w2.cell? ⟨b1, 5, none⟩ = some (.int .i64 x1) := (hL.cell (.there .here)).trans rfl
  have q6 : IntKind.i64.wrap (2 * cx) = 2 * cx := by rw [IntKind.wrap_i64]; omega
  have q7 : IntKind.i64.wrap (x0 - 2 * cx) = x0 - 2 * cx := by rw [IntKind.wrap_i64]; omega
  have q8 : IntKind.i64.wrap (x0 - 2 * cx + x1) = x0 - 2 * cx + x1 := by rw [IntKind.wrap_i64]; omega
  have q9 : IntKind.i64.wrap (cx - x0) = cx - x0 := by rw [IntKind.wrap_i64]; omega
  have hK := (Holds.start w2).drew
  refine wpH_begin (by kernel_rfl) (fun w' => Below w2.heap.size w2 w') ?_
  refine stH (i := 0) (.pointer (some ⟨b1, 3, none⟩)) hK.below ?_ ?_; (· exact fun w' _ => (by go_simp)); simp only [Act.put, List.setIfInBounds_toArray, List.set_cons_zero, List.set_cons_succ]
  refine stH (i := 1) (.int .i64 cx) hK.below ?_ ?_; (· exact fun w' hw => run_loadOp _ _ rfl _ rfl _ (load_cell (cell_later hw r3))); simp only [Act.put, List.setIfInBounds_toArray, List.set_cons_zero, List.set_cons_succ]
  refine stH (i := 2) (.pointer (some ⟨b1, 0, none⟩)) hK.below ?_ ?_; (· exact fun w' _ => (by go_simp)); simp only [Act.put, List.setIfInBounds_toArray, List.set_cons_zero, List.set_cons_succ]
  refine stH (i := 3) (.int .i64 x0) hK.below ?_ ?_; (· exact fun w' hw => run_loadOp _ _ rfl _ rfl _ (load_cell (cell_later hw r0))); simp only [Act.put, List.setIfInBounds_toArray, List.set_cons_zero, List.set_cons_succ]
  refine stH (i := 4) (.int .i64 (cx - x0)) hK.below ?_ ?_; (· exact fun w' _ => (by go_simp)); simp only [Act.put, List.setIfInBounds_toArray, List.set_cons_zero, List.set_cons_succ]
  refine stH (i := 5) (.pointer (some ⟨b1, 0, none⟩)) hK.below ?_ ?_; (· exact fun w' _ => (by go_simp)); simp only [Act.put, List.setIfInBounds_toArray, List.set_cons_zero, List.set_cons_succ]
  refine stH (i := 6) (.int .i64 x0) hK.below ?_ ?_; (· exact fun w' hw => run_loadOp _ _ rfl _ rfl _ (load_cell (cell_later hw r0))); simp only [Act.put, List.setIfInBounds_toArray, List.set_cons_zero, List.set_cons_succ]
  refine stH (i := 7) (.pointer (some ⟨b1, 3, none⟩)) hK.below ?_ ?_; (· exact fun w' _ => (by go_simp)); simp only [Act.put, List.setIfInBounds_toArray, List.set_cons_zero, List.set_cons_succ]
  refine stH (i := 8) (.int .i64 cx) hK.below ?_ ?_; (· exact fun w' hw => run_loadOp _ _ rfl _ rfl _ (load_cell (cell_later hw r3))); simp only [Act.put, List.setIfInBounds_toArray, List.set_cons_zero, List.set_cons_succ]
  refine stH (i := 9) (.int .i64 (2 * cx)) hK.below ?_ ?_; (· exact fun w' _ => (by go_simp)); simp only [Act.put, List.setIfInBounds_toArray, List.set_cons_zero, List.set_cons_succ]
  refine stH (i := 10) (.int .i64 (x0 - 2 * cx)) hK.below ?_ ?_; (· exact fun w' _ => (by go_simp)); simp only [Act.put, List.setIfInBounds_toArray, List.set_cons_zero, List.set_cons_succ]
  refine stH (i := 11) (.pointer (some ⟨b1, 5, none⟩)) hK.below ?_ ?_; (· exact fun w' _ => (by go_simp)); simp only [Act.put, List.setIfInBounds_toArray, List.set_cons_zero, List.set_cons_succ]
  refine stH (i := 12) (.int .i64 x1) hK.below ?_ ?_; (· exact fun w' hw => run_loadOp _ _ rfl _ rfl _ (load_cell (cell_later hw r5))); simp only [Act.put, List.setIfInBounds_toArray, List.set_cons_zero, List.set_cons_succ]
  refine stH (i := 13) (.int .i64 (x0 - 2 * cx + x1)) hK.below ?_ ?_; (· exact fun w' _ => (by go_simp)); simp only [Act.put, List.setIfInBounds_toArray, List.set_cons_zero, List.set_cons_succ]
  refine stH (i := 14) (.int .i64 (cx - x0)) hK.below ?_ ?_; (· exact fun w' _ => (by go_simp)); simp only [Act.put, List.setIfInBounds_toArray, List.set_cons_zero, List.set_cons_succ]
  refine stH (i := 15) (.int .i64 (x0 - 2 * cx + x1)) hK.below ?_ ?_; (· exact fun w' _ => (by go_simp)); simp only [Act.put, List.setIfInBounds_toArray, List.set_cons_zero, List.set_cons_succ]
  refine wpAnyH_done (by kernel_rfl) ?_ _
  replace hL := hL.drew
  clear hK r0 r3 r5 q6 q7 q8 q9
  have hax : -32764 ≤ x0 - 2 * cx + x1 ∧ x0 - 2 * cx + x1 ≤ 32764 := by omega
  have hbx : -16382 ≤ cx - x0 ∧ cx - x0 ≤ 16382 := by omega
  generalize x0 - 2 * cx + x1 = ax at *
  generalize cx - x0 = bx at *
  obtain ⟨hax1, hax2⟩ := hax
  obtain ⟨hbx1, hbx2⟩ := hbx
  obtain ⟨j1, j2⟩ := mul_bd (a := b) (b := b) (A := 16382) (B := 16382) (by omega) (by omega) (by omega) (by omega)
  obtain ⟨k1, k2⟩ := mul_bd (a := x0) (b := a) (A := 8191) (B := 32764) (by omega) (by omega) (by omega) (by omega)
  obtain ⟨l1, l2⟩ := mul_bd (a := x0 * a) (b := a) (A := 268369924) (B := 32764) (by omega) (by omega) (by omega) (by omega)
  obtain ⟨m1, m2⟩ := mul_bd (a := 2 * a) (b := b) (A := 65528) (B := 16382) (by omega) (by omega) (by omega) (by omega)
  obtain ⟨n1, n2⟩ := mul_bd (a := 2 * a * b) (b := bx) (A := 1073479696) (B := 16382) (by omega) (by omega) (by omega) (by omega)
  obtain ⟨o1, o2⟩ := mul_bd (a := ax) (b := b * b + d) (A := 32764) (B := 1073479696) (by omega) (by omega) (by omega) (by omega)
  obtain ⟨p1, p2⟩ := mul_bd (a := 2 * a) (b := bx) (A := 65528) (B := 16382) (by omega) (by omega) (by omega) (by omega)
  obtain ⟨q1, q2⟩ := mul_bd (a := 2 * ax) (b := b) (A := 65528) (B := 16382) (by omega) (by omega) (by omega) (by omega)
  obtain ⟨r1, r2⟩ := mul_bd (a := a) (b := a) (A := 32764) (B := 32764) (by omega) (by omega) (by omega) (by omega)
  rcases hs with rfl | rfl
  all_goals
    go_wp2_with (first | (first | (clear hL n1; with_reducible intro b1 w1 hL) | (clear hL n2; with_reducible intro b2 w2 hL) | (clear hL; with_reducible intro _ _ hL)) | (with_reducible refine wpC_alloc rfl _ rfl _ _ inferInstance hL ?_) | (with_reducible first | refine wpB_agg rfl _ _ _ rfl rfl hL ?_ | refine wpB_one rfl _ _ (.int _ _) rfl rfl rfl hL ?_ | refine wpB_one rfl _ _ (.slice _ _ _) rfl rfl rfl hL ?_ | refine wpB_one rfl _ _ (.bool _) rfl rfl rfl hL ?_ | refine wpB_one rfl _ _ (.pointer _) rfl rfl rfl hL ?_ | refine wpB_one rfl _ _ (.func _ _ _) rfl rfl rfl hL ?_) | (with_reducible first | refine wpH_max rfl _ _ _ _ rfl _ _ rfl rfl ?_ | refine wpH_min rfl _ _ _ _ rfl _ _ rfl rfl ?_) | ((with_reducible refine wpA_load rfl _ _ rfl _ rfl ?_); first | refine loadA hL ?_ | refine loadR hL ?_ | refine loadC hL ?_ | refine loadD ?_ | refine loadE hL ?_ | refine loadF ?_) | ((with_reducible refine wpA_index rfl _ _ _ rfl _ rfl _ rfl ?_); first | (refine indexA ?_; try rw [Int.toNat_natCast]) | refine indexC ?_) | ((with_reducible refine wpA_store rfl _ _ _ rfl _ rfl (.agg _) rfl ?_); refine storeR hL ?_; clear hL; intro _ hL) | ((with_reducible first | refine wpA_store rfl _ _ _ rfl _ rfl (.int _ _) rfl ?_ | refine wpA_store rfl _ _ _ rfl _ rfl (.slice _ _ _) rfl ?_ | refine wpA_store rfl _ _ _ rfl _ rfl (.bool _) rfl ?_ | refine wpA_store rfl _ _ _ rfl _ rfl (.pointer _) rfl ?_ | refine wpA_store rfl _ _ _ rfl _ rfl (.func _ _ _) rfl ?_); (first | refine storeA hL ?_ | refine storeO hL ?_); (clear hL; intro _ hL)) | ((with_reducible refine wpA_lit rfl _ _ _ rfl ?_); first | refine litA1 hL ?_ | refine litA2 hL ?_ | refine litA3 hL ?_ | refine litA4 hL ?_ | refine litA6 hL ?_) | ((with_reducible refine wpA_append rfl _ _ _ rfl (.slice _ _ _) rfl ?_); intro vq hvq; simp [go_sem] at hvq; subst hvq; refine appendA hL ?_; clear hL; intro _ _ _ hL; try dsimp only at hL) | ((with_reducible refine wpA_make rfl _ _ _ rfl _ rfl rfl ?_); refine makeA hL ?_))
    refine bodyPost_ret (results_row inferInstance rfl _ hL b2 rfl _ _ .here rfl) rfl ⟨?_, hL.below⟩
    rw [HP.out, ← HQ.out]
    try simp only [Int.one_mul, Int.neg_one_mul]
end Go.Proofs.Ytneddfiohekhiaa
