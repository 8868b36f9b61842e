/- WindTriangle returns true. -/
import Derived.Test.YtmoabhfpibkcnaaPt
import Derived.Test.YtmoabhfpibkcnaaWindP
-- lit6
namespace Go.Proofs.Ytmoabhfpibkcnaa
open Go.RowKit

theorem tri_or {p q r n : Int} (h : p ≠ 0 → q ≠ 0 → r ≠ 0 → ¬ (0 < p ∧ 0 < q ∧ 0 < r) → ¬ (p < 0 ∧ q < 0 ∧ r < 0) → n = 0) : p = 0 ∨ q = 0 ∨ r = 0 ∨ (0 < p ∧ 0 < q ∧ 0 < r) ∨ (p < 0 ∧ q < 0 ∧ r < 0) ∨ n = 0 := by
  by_cases z0 : p = 0
  · exact .inl z0
  by_cases z1 : q = 0
  · exact .inr (.inl z1)
  by_cases z2 : r = 0
  · exact .inr (.inr (.inl z2))
  by_cases z3 : 0 < p ∧ 0 < q ∧ 0 < r
  · exact .inr (.inr (.inr (.inl z3)))
  by_cases z4 : p < 0 ∧ q < 0 ∧ r < 0
  · exact .inr (.inr (.inr (.inr (.inl z4))))
  exact .inr (.inr (.inr (.inr (.inr (h z0 z1 z2 z3 z4)))))
theorem area_calls (w : World) {ax ay bx by_ cx cy : Int} (h1 : -60 ≤ ax) (h2 : ax ≤ 339) (h3 : -60 ≤ ay) (h4 : ay ≤ 339) (h5 : -60 ≤ bx) (h6 : bx ≤ 339) (h7 : -60 ≤ by_) (h8 : by_ ≤ 339) (h9 : -60 ≤ cx) (h10 : cx ≤ 339) (h11 : -60 ≤ cy) (h12 : cy ≤ 339) :
    Calls Try.prog 19 #[.int .i64 ax, .int .i64 ay, .int .i64 bx, .int .i64 by_, .int .i64 cx, .int .i64 cy] w fun e w' => e = .returned (.int .i64 (areaI ax ay bx by_ cx cy)) ∧ w = w' := by
  obtain ⟨p1, p2⟩ := mul_bd (a := bx - ax) (b := cy - ay) (A := 399) (B := 399) (by omega) (by omega) (by omega) (by omega)
  obtain ⟨p3, p4⟩ := mul_bd (a := by_ - ay) (b := cx - ax) (A := 399) (B := 399) (by omega) (by omega) (by omega) (by omega)
  go_enter Try.func19, Try.ntmps19
  go_wp2
  go_ret
  exact ⟨rfl, rfl⟩
theorem arrI_congr {n : Nat} {p q : Nat → Int} (h : ∀ i, i < n → p i = q i) : arrI n p = arrI n q := by
  apply Array.ext_getElem?
  intro j
  by_cases h64 : j < n
  · rw [arrI_get _ h64, arrI_get _ h64, h j h64]
  · rw [Array.getElem?_eq_none (by rw [arrI_size]; omega), Array.getElem?_eq_none (by rw [arrI_size]; omega)]

def triL (a0 a1 a2 a3 a4 a5 : Int) : List Edg := [⟨a0, a1, false, 0, 0, a2, a3⟩, ⟨a2, a3, false, 0, 0, a4, a5⟩, ⟨a4, a5, false, 0, 0, a0, a1⟩]
theorem triL_at {w0 w : World} {M : List Res} {Φ : List (World → Prop)} {b : Nat} {T : TypeId} {a0 a1 a2 a3 a4 a5 : Int} (hL : Holds w0 w M Φ) (k : At M (blk b #[.int .i64 a0, .int .i64 a1, .bool false, .int .i64 0, .int .i64 0, .int .i64 a2, .int .i64 a3, .int .i64 a2, .int .i64 a3, .bool false, .int .i64 0, .int .i64 0, .int .i64 a4, .int .i64 a5, .int .i64 a4, .int .i64 a5, .bool false, .int .i64 0, .int .i64 0, .int .i64 a0, .int .i64 a1] T)) : EdgesAt w (.slice (some ⟨b, 0, none⟩) 3 3) (triL a0 a1 a2 a3 a4 a5) := hL.edgesLit (triL a0 a1 a2 a3 a4 a5) k rfl (by unfold triL maxLen; simp)
theorem triL_straight (a0 a1 a2 a3 a4 a5 : Int) : ∀ e ∈ triL a0 a1 a2 a3 a4 a5, e.bent = false := by
  intro e he
  simp [triL] at he
  rcases he with rfl | rfl | rfl <;> rfl
theorem tri_windS {a0 a1 a2 a3 a4 a5 u v : Int} (h0 : -60 ≤ a0 ∧ a0 ≤ 339) (h1 : -60 ≤ a1 ∧ a1 ≤ 339) (h2 : -60 ≤ a2 ∧ a2 ≤ 339) (h3 : -60 ≤ a3 ∧ a3 ≤ 339) (h4 : -60 ≤ a4 ∧ a4 ≤ 339) (h5 : -60 ≤ a5 ∧ a5 ≤ 339) (h6 : -60 ≤ u ∧ u ≤ 339) (h7 : -60 ≤ v ∧ v ≤ 339) :
    windS (triL a0 a1 a2 a3 a4 a5) u v = stepUp a1 a3 v (areaI a0 a1 a2 a3 u v) + stepUp a3 a5 v (areaI a2 a3 a4 a5 u v) + stepUp a5 a1 v (areaI a4 a5 a0 a1 u v) := by
  simp only [windS, triL, List.map_cons, List.map_nil, List.sum_cons, List.sum_nil]
  rw [turnE_small h0 h1 h2 h3 h6 h7, turnE_small h2 h3 h4 h5 h6 h7, turnE_small h4 h5 h0 h1 h6 h7, turnS_area, turnS_area, turnS_area]
  omega

set_option maxRecDepth 100000 in
set_option maxHeartbeats 8000000 in
theorem triangle_calls (w : World) (pa : Nat → Int) (x y : Int) : Calls Try.prog 4 #[.agg (arrI 6 pa), .int .i64 x, .int .i64 y] w fun e w' => e = .returned (.bool true) ∧ Below w.heap.size w w' := by
  have hL := Holds.start w
  have hP : ∀ j, -60 ≤ ptI (pa j) ∧ ptI (pa j) ≤ 339 := fun j => ptI_bd _
  have hU := ptI_bd x
  have hV := ptI_bd y
  have n1 : True := trivial; have n2 : True := trivial
  go_enter Try.func4, Try.ntmps4
  go_wp2_with (first | (go_at_call 13; (with_reducible refine (known_calls _).mono ?_); rintro e _ ⟨rfl, hb⟩; replace hL := hL.call hb; clear hb) | (first | (clear hL n1; with_reducible intro b1 w1 hL) | (clear hL n2; with_reducible intro b2 w2 hL) | (clear hL; with_reducible intro _ _ hL)) | (with_reducible refine wpC_alloc rfl _ rfl _ _ inferInstance hL ?_) | (with_reducible first | refine wpB_agg rfl _ _ _ rfl rfl hL ?_ | refine wpB_one rfl _ _ (.int _ _) rfl rfl rfl hL ?_ | refine wpB_one rfl _ _ (.slice _ _ _) rfl rfl rfl hL ?_ | refine wpB_one rfl _ _ (.bool _) rfl rfl rfl hL ?_ | refine wpB_one rfl _ _ (.pointer _) rfl rfl rfl hL ?_ | refine wpB_one rfl _ _ (.func _ _ _) rfl rfl rfl hL ?_) | (with_reducible first | refine wpH_max rfl _ _ _ _ rfl _ _ rfl rfl ?_ | refine wpH_min rfl _ _ _ _ rfl _ _ rfl rfl ?_) | ((with_reducible refine wpA_load rfl _ _ rfl _ rfl ?_); first | refine loadA hL ?_ | refine loadR hL ?_ | refine loadC hL ?_ | refine loadD ?_ | refine loadE hL ?_ | refine loadF ?_) | ((with_reducible refine wpA_index rfl _ _ _ rfl _ rfl _ rfl ?_); first | (refine indexA ?_; try rw [Int.toNat_natCast]) | refine indexC ?_) | ((with_reducible refine wpA_store rfl _ _ _ rfl _ rfl (.agg _) rfl ?_); refine storeR hL ?_; clear hL; intro _ hL) | ((with_reducible first | refine wpA_store rfl _ _ _ rfl _ rfl (.int _ _) rfl ?_ | refine wpA_store rfl _ _ _ rfl _ rfl (.slice _ _ _) rfl ?_ | refine wpA_store rfl _ _ _ rfl _ rfl (.bool _) rfl ?_ | refine wpA_store rfl _ _ _ rfl _ rfl (.pointer _) rfl ?_ | refine wpA_store rfl _ _ _ rfl _ rfl (.func _ _ _) rfl ?_); (first | refine storeA hL ?_ | refine storeO hL ?_); (clear hL; intro _ hL)) | ((with_reducible refine wpA_lit rfl _ _ _ rfl ?_); first | refine litA1 hL ?_ | refine litA2 hL ?_ | refine litA3 hL ?_ | refine litA4 hL ?_ | refine litA6 hL ?_) | ((with_reducible refine wpA_append rfl _ _ _ rfl (.slice _ _ _) rfl ?_); intro vq hvq; simp [go_sem] at hvq; subst hvq; refine appendA hL ?_; clear hL; intro _ _ _ hL; try dsimp only at hL) | ((with_reducible refine wpA_make rfl _ _ _ rfl _ rfl rfl ?_); refine makeA hL ?_))
  go_loopw [7] (fun s7 wr => ∃ (k : Nat), k ≤ 6 ∧ s7 = .int .i64 k ∧ Holds w wr [blk b1 (arrI 6 fun j => if j < k then ptI (pa j) else pa j) 26] [])
    (fun s7 wr => 6 - (intOf s7).toNat)
  case atStart => exact ⟨0, by omega, rfl, by rw [show arrI 6 (fun j => if j < 0 then ptI (pa j) else pa j) = arrI 6 pa from arrI_congr fun j _ => by simp]; exact hL⟩
  case round =>
    clear hL
    obtain ⟨k, hk, rfl, hL⟩ := hrel
    by_cases hkt : k < 6
    · have hkb : (k : Int) < 6 := by omega
      have hk0 : (0 : Int) ≤ (k : Int) := by omega
      have HA := Lib.hid (show ∀ z : Int, z = ptI (pa k) → arrI 6 (fun j => if j = k then z else if j < k then ptI (pa j) else pa j) = arrI 6 (fun j => if j < k + 1 then ptI (pa j) else pa j) from fun z hz => arrI_congr fun j _ => by
        subst hz
        by_cases h1 : j = k
        · subst h1; simp
        · have : j < k + 1 ↔ j < k := by omega
          simp [h1, this])
      have HB := Lib.hid (show (if k < k then ptI (pa k) else pa k) = pa k by simp)
      go_wp2_with (first | (go_at_call 18; (with_reducible refine (point_calls _ _).mono ?_); rintro e _ ⟨rfl, rfl⟩; try rw [HB.out]) | (first | (clear hL n1; with_reducible intro b1 w1 hL) | (clear hL n2; with_reducible intro b2 w2 hL) | (clear hL; with_reducible intro _ _ hL)) | (with_reducible refine wpC_alloc rfl _ rfl _ _ inferInstance hL ?_) | (with_reducible first | refine wpB_agg rfl _ _ _ rfl rfl hL ?_ | refine wpB_one rfl _ _ (.int _ _) rfl rfl rfl hL ?_ | refine wpB_one rfl _ _ (.slice _ _ _) rfl rfl rfl hL ?_ | refine wpB_one rfl _ _ (.bool _) rfl rfl rfl hL ?_ | refine wpB_one rfl _ _ (.pointer _) rfl rfl rfl hL ?_ | refine wpB_one rfl _ _ (.func _ _ _) rfl rfl rfl hL ?_) | (with_reducible first | refine wpH_max rfl _ _ _ _ rfl _ _ rfl rfl ?_ | refine wpH_min rfl _ _ _ _ rfl _ _ rfl rfl ?_) | ((with_reducible refine wpA_load rfl _ _ rfl _ rfl ?_); first | refine loadA hL ?_ | refine loadR hL ?_ | refine loadC hL ?_ | refine loadD ?_ | refine loadE hL ?_ | refine loadF ?_) | ((with_reducible refine wpA_index rfl _ _ _ rfl _ rfl _ rfl ?_); first | (refine indexA ?_; try rw [Int.toNat_natCast]) | refine indexC ?_) | ((with_reducible refine wpA_store rfl _ _ _ rfl _ rfl (.agg _) rfl ?_); refine storeR hL ?_; clear hL; intro _ hL) | ((with_reducible first | refine wpA_store rfl _ _ _ rfl _ rfl (.int _ _) rfl ?_ | refine wpA_store rfl _ _ _ rfl _ rfl (.slice _ _ _) rfl ?_ | refine wpA_store rfl _ _ _ rfl _ rfl (.bool _) rfl ?_ | refine wpA_store rfl _ _ _ rfl _ rfl (.pointer _) rfl ?_ | refine wpA_store rfl _ _ _ rfl _ rfl (.func _ _ _) rfl ?_); (first | refine storeA hL ?_ | refine storeO hL ?_); (clear hL; intro _ hL)) | ((with_reducible refine wpA_lit rfl _ _ _ rfl ?_); first | refine litA1 hL ?_ | refine litA2 hL ?_ | refine litA3 hL ?_ | refine litA4 hL ?_ | refine litA6 hL ?_) | ((with_reducible refine wpA_append rfl _ _ _ rfl (.slice _ _ _) rfl ?_); intro vq hvq; simp [go_sem] at hvq; subst hvq; refine appendA hL ?_; clear hL; intro _ _ _ hL; try dsimp only at hL) | ((with_reducible refine wpA_make rfl _ _ _ rfl _ rfl rfl ?_); refine makeA hL ?_))
      go_roundw
      case rel => exact ⟨k + 1, by omega, by go_num, by rw [HA.out _ rfl] at hL; exact hL⟩
      case measure => simp [intOf]; omega
    · have e : k = 6 := by omega
      subst e
      rw [show arrI 6 (fun j => if j < 6 then ptI (pa j) else pa j) = arrI 6 (fun j => ptI (pa j)) from arrI_congr fun j hj => by simp [hj]] at hL
      obtain ⟨h00, h01⟩ := hP 0
      obtain ⟨h10, h11⟩ := hP 1
      obtain ⟨h20, h21⟩ := hP 2
      obtain ⟨h30, h31⟩ := hP 3
      obtain ⟨h40, h41⟩ := hP 4
      obtain ⟨h50, h51⟩ := hP 5
      obtain ⟨hu0, hu1⟩ := hU
      obtain ⟨hv0, hv1⟩ := hV
      have c : ∀ j, j < 6 → wr.cell? ⟨b1, j, none⟩ = some (.int .i64 (ptI (pa j))) := fun j hj => (hL.cell .here).trans (arrI_get _ hj)
      have r0 := c 0 (by omega)
      have r1 := c 1 (by omega)
      have r2 := c 2 (by omega)
      have r3 := c 3 (by omega)
      have r4 := c 4 (by omega)
      have r5 := c 5 (by omega)
      have hA : arrI 6 (fun j => ptI (pa j)) = #[.int .i64 (ptI (pa 0)), .int .i64 (ptI (pa 1)), .int .i64 (ptI (pa 2)), .int .i64 (ptI (pa 3)), .int .i64 (ptI (pa 4)), .int .i64 (ptI (pa 5))] := by unfold arrI; rfl
      rw [hA] at hL
      clear c hP hA
      generalize ptI (pa 0) = a0 at *
      generalize ptI (pa 1) = a1 at *
      generalize ptI (pa 2) = a2 at *
      generalize ptI (pa 3) = a3 at *
      generalize ptI (pa 4) = a4 at *
      generalize ptI (pa 5) = a5 at *
      have HU := Lib.hid (fun w => point_calls x w)
      have HV := Lib.hid (fun w => point_calls y w)
      generalize ptI x = u at *
      generalize ptI y = v at *
      have hK := (Holds.start wr).drew
      have hlaw := tri_wind a0 a1 a2 a3 a4 a5 u v
      have hsum := tri_windS ⟨h00, h01⟩ ⟨h10, h11⟩ ⟨h20, h21⟩ ⟨h30, h31⟩ ⟨h40, h41⟩ ⟨h50, h51⟩ ⟨hu0, hu1⟩ ⟨hv0, hv1⟩
      obtain ⟨p, hp⟩ : ∃ p, areaI a0 a1 a2 a3 u v = p := ⟨_, rfl⟩
      obtain ⟨q, hq⟩ : ∃ q, areaI a2 a3 a4 a5 u v = q := ⟨_, rfl⟩
      obtain ⟨r, hr⟩ : ∃ r, areaI a4 a5 a0 a1 u v = r := ⟨_, rfl⟩
      rw [hp, hq, hr] at hlaw hsum
      have Hp := Lib.hid hp
      have Hq := Lib.hid hq
      have Hr := Lib.hid hr
      clear hp hq hr
      unfold TriLaw at hlaw
      rw [← hsum] at hlaw
      clear hsum
      obtain ⟨n, hn⟩ : ∃ n, windS (triL a0 a1 a2 a3 a4 a5) u v = n := ⟨_, rfl⟩
      rw [hn] at hlaw
      have HN := Lib.hid hn
      clear hn
      have HLaw := Lib.hid hlaw
      clear hlaw
      go_wp2_with (first | (go_at_call 18; first | ((with_reducible refine (HU.out _).mono ?_); rintro e _ ⟨rfl, rfl⟩) | ((with_reducible refine (HV.out _).mono ?_); rintro e _ ⟨rfl, rfl⟩)) | (first | (clear hL n1; with_reducible intro b1 w1 hL) | (clear hL n2; with_reducible intro b2 w2 hL) | (clear hL; with_reducible intro _ _ hL)) | (with_reducible refine wpC_alloc rfl _ rfl _ _ inferInstance hL ?_) | (with_reducible first | refine wpB_agg rfl _ _ _ rfl rfl hL ?_ | refine wpB_one rfl _ _ (.int _ _) rfl rfl rfl hL ?_ | refine wpB_one rfl _ _ (.slice _ _ _) rfl rfl rfl hL ?_ | refine wpB_one rfl _ _ (.bool _) rfl rfl rfl hL ?_ | refine wpB_one rfl _ _ (.pointer _) rfl rfl rfl hL ?_ | refine wpB_one rfl _ _ (.func _ _ _) rfl rfl rfl hL ?_) | (with_reducible first | refine wpH_max rfl _ _ _ _ rfl _ _ rfl rfl ?_ | refine wpH_min rfl _ _ _ _ rfl _ _ rfl rfl ?_) | ((with_reducible refine wpA_load rfl _ _ rfl _ rfl ?_); first | refine loadA hL ?_ | refine loadR hL ?_ | refine loadC hL ?_ | refine loadD ?_ | refine loadE hL ?_ | refine loadF ?_) | ((with_reducible refine wpA_index rfl _ _ _ rfl _ rfl _ rfl ?_); first | (refine indexA ?_; try rw [Int.toNat_natCast]) | refine indexC ?_) | ((with_reducible refine wpA_store rfl _ _ _ rfl _ rfl (.agg _) rfl ?_); refine storeR hL ?_; clear hL; intro _ hL) | ((with_reducible first | refine wpA_store rfl _ _ _ rfl _ rfl (.int _ _) rfl ?_ | refine wpA_store rfl _ _ _ rfl _ rfl (.slice _ _ _) rfl ?_ | refine wpA_store rfl _ _ _ rfl _ rfl (.bool _) rfl ?_ | refine wpA_store rfl _ _ _ rfl _ rfl (.pointer _) rfl ?_ | refine wpA_store rfl _ _ _ rfl _ rfl (.func _ _ _) rfl ?_); (first | refine storeA hL ?_ | refine storeO hL ?_); (clear hL; intro _ hL)) | ((with_reducible refine wpA_lit rfl _ _ _ rfl ?_); first | refine litA1 hL ?_ | refine litA2 hL ?_ | refine litA3 hL ?_ | refine litA4 hL ?_ | refine litA6 hL ?_) | ((with_reducible refine wpA_append rfl _ _ _ rfl (.slice _ _ _) rfl ?_); intro vq hvq; simp [go_sem] at hvq; subst hvq; refine appendA hL ?_; clear hL; intro _ _ _ hL; try dsimp only at hL) | ((with_reducible refine wpA_make rfl _ _ _ rfl _ rfl rfl ?_); refine makeA hL ?_))
      have hq1 : ∀ w, Calls Try.prog 19 #[.int .i64 a0, .int .i64 a1, .int .i64 a2, .int .i64 a3, .int .i64 u, .int .i64 v] w fun e w' => e = .returned (.int .i64 p) ∧ w = w' := fun w => by rw [← Hp.out]; exact area_calls w (by omega) (by omega) (by omega) (by omega) (by omega) (by omega) (by omega) (by omega) (by omega) (by omega) (by omega) (by omega)
      have hq2 : ∀ w, Calls Try.prog 19 #[.int .i64 a2, .int .i64 a3, .int .i64 a4, .int .i64 a5, .int .i64 u, .int .i64 v] w fun e w' => e = .returned (.int .i64 q) ∧ w = w' := fun w => by rw [← Hq.out]; exact area_calls w (by omega) (by omega) (by omega) (by omega) (by omega) (by omega) (by omega) (by omega) (by omega) (by omega) (by omega) (by omega)
      have hq3 : ∀ w, Calls Try.prog 19 #[.int .i64 a4, .int .i64 a5, .int .i64 a0, .int .i64 a1, .int .i64 u, .int .i64 v] w fun e w' => e = .returned (.int .i64 r) ∧ w = w' := fun w => by rw [← Hr.out]; exact area_calls w (by omega) (by omega) (by omega) (by omega) (by omega) (by omega) (by omega) (by omega) (by omega) (by omega) (by omega) (by omega)
      have HQ1 := Lib.hid hq1; have HQ2 := Lib.hid hq2; have HQ3 := Lib.hid hq3
      clear hq1 hq2 hq3 Hp Hq Hr
      refine wpH_begin (by kernel_rfl) (fun w' => Below wr.heap.size wr w') ?_
      refine stH (i := 0) (.pointer (some ⟨b1, 0, none⟩)) hK.below ?_ ?_; (· exact fun w' _ => (by go_simp)); simp only [Act.put, List.setIfInBounds_toArray, List.set_cons_zero, List.set_cons_succ]
      refine stH (i := 1) (.int .i64 a0) hK.below ?_ ?_; (· exact fun w' hw => run_loadOp _ _ rfl _ rfl _ (load_cell (cell_later hw r0))); simp only [Act.put, List.setIfInBounds_toArray, List.set_cons_zero, List.set_cons_succ]
      refine stH (i := 2) (.pointer (some ⟨b1, 1, none⟩)) hK.below ?_ ?_; (· exact fun w' _ => (by go_simp)); simp only [Act.put, List.setIfInBounds_toArray, List.set_cons_zero, List.set_cons_succ]
      refine stH (i := 3) (.int .i64 a1) hK.below ?_ ?_; (· exact fun w' hw => run_loadOp _ _ rfl _ rfl _ (load_cell (cell_later hw r1))); simp only [Act.put, List.setIfInBounds_toArray, List.set_cons_zero, List.set_cons_succ]
      refine stH (i := 4) (.pointer (some ⟨b1, 2, none⟩)) hK.below ?_ ?_; (· exact fun w' _ => (by go_simp)); simp only [Act.put, List.setIfInBounds_toArray, List.set_cons_zero, List.set_cons_succ]
      refine stH (i := 5) (.int .i64 a2) hK.below ?_ ?_; (· exact fun w' hw => run_loadOp _ _ rfl _ rfl _ (load_cell (cell_later hw r2))); simp only [Act.put, List.setIfInBounds_toArray, List.set_cons_zero, List.set_cons_succ]
      refine stH (i := 6) (.pointer (some ⟨b1, 3, none⟩)) hK.below ?_ ?_; (· exact fun w' _ => (by go_simp)); simp only [Act.put, List.setIfInBounds_toArray, List.set_cons_zero, List.set_cons_succ]
      refine stH (i := 7) (.int .i64 a3) hK.below ?_ ?_; (· exact fun w' hw => run_loadOp _ _ rfl _ rfl _ (load_cell (cell_later hw r3))); simp only [Act.put, List.setIfInBounds_toArray, List.set_cons_zero, List.set_cons_succ]
      refine stH (i := 8) (.int .i64 u) hK.below ?_ ?_; (· exact fun w' _ => (by go_simp)); simp only [Act.put, List.setIfInBounds_toArray, List.set_cons_zero, List.set_cons_succ]
      refine stH (i := 9) (.int .i64 v) hK.below ?_ ?_; (· exact fun w' _ => (by go_simp)); simp only [Act.put, List.setIfInBounds_toArray, List.set_cons_zero, List.set_cons_succ]
      as_aux_lemma =>
        refine stH (i := 11) (.pointer (some ⟨b1, 2, none⟩)) hK.below ?_ ?_; (· exact fun w' _ => (by go_simp)); simp only [Act.put, List.setIfInBounds_toArray, List.set_cons_zero, List.set_cons_succ]
        refine stH (i := 12) (.int .i64 a2) hK.below ?_ ?_; (· exact fun w' hw => run_loadOp _ _ rfl _ rfl _ (load_cell (cell_later hw r2))); simp only [Act.put, List.setIfInBounds_toArray, List.set_cons_zero, List.set_cons_succ]
        refine stH (i := 13) (.pointer (some ⟨b1, 3, none⟩)) hK.below ?_ ?_; (· exact fun w' _ => (by go_simp)); simp only [Act.put, List.setIfInBounds_toArray, List.set_cons_zero, List.set_cons_succ]
        refine stH (i := 14) (.int .i64 a3) hK.below ?_ ?_; (· exact fun w' hw => run_loadOp _ _ rfl _ rfl _ (load_cell (cell_later hw r3))); simp only [Act.put, List.setIfInBounds_toArray, List.set_cons_zero, List.set_cons_succ]
        refine stH (i := 15) (.pointer (some ⟨b1, 4, none⟩)) hK.below ?_ ?_; (· exact fun w' _ => (by go_simp)); simp only [Act.put, List.setIfInBounds_toArray, List.set_cons_zero, List.set_cons_succ]
        refine stH (i := 16) (.int .i64 a4) hK.below ?_ ?_; (· exact fun w' hw => run_loadOp _ _ rfl _ rfl _ (load_cell (cell_later hw r4))); simp only [Act.put, List.setIfInBounds_toArray, List.set_cons_zero, List.set_cons_succ]
        refine stH (i := 17) (.pointer (some ⟨b1, 5, none⟩)) hK.below ?_ ?_; (· exact fun w' _ => (by go_simp)); simp only [Act.put, List.setIfInBounds_toArray, List.set_cons_zero, List.set_cons_succ]
        refine stH (i := 18) (.int .i64 a5) hK.below ?_ ?_; (· exact fun w' hw => run_loadOp _ _ rfl _ rfl _ (load_cell (cell_later hw r5))); simp only [Act.put, List.setIfInBounds_toArray, List.set_cons_zero, List.set_cons_succ]
        refine stH (i := 19) (.int .i64 u) hK.below ?_ ?_; (· exact fun w' _ => (by go_simp)); simp only [Act.put, List.setIfInBounds_toArray, List.set_cons_zero, List.set_cons_succ]
        refine stH (i := 20) (.int .i64 v) hK.below ?_ ?_; (· exact fun w' _ => (by go_simp)); simp only [Act.put, List.setIfInBounds_toArray, List.set_cons_zero, List.set_cons_succ]
        as_aux_lemma =>
          refine stH (i := 22) (.pointer (some ⟨b1, 4, none⟩)) hK.below ?_ ?_; (· exact fun w' _ => (by go_simp)); simp only [Act.put, List.setIfInBounds_toArray, List.set_cons_zero, List.set_cons_succ]
          refine stH (i := 23) (.int .i64 a4) hK.below ?_ ?_; (· exact fun w' hw => run_loadOp _ _ rfl _ rfl _ (load_cell (cell_later hw r4))); simp only [Act.put, List.setIfInBounds_toArray, List.set_cons_zero, List.set_cons_succ]
          refine stH (i := 24) (.pointer (some ⟨b1, 5, none⟩)) hK.below ?_ ?_; (· exact fun w' _ => (by go_simp)); simp only [Act.put, List.setIfInBounds_toArray, List.set_cons_zero, List.set_cons_succ]
          refine stH (i := 25) (.int .i64 a5) hK.below ?_ ?_; (· exact fun w' hw => run_loadOp _ _ rfl _ rfl _ (load_cell (cell_later hw r5))); simp only [Act.put, List.setIfInBounds_toArray, List.set_cons_zero, List.set_cons_succ]
          refine stH (i := 26) (.pointer (some ⟨b1, 0, none⟩)) hK.below ?_ ?_; (· exact fun w' _ => (by go_simp)); simp only [Act.put, List.setIfInBounds_toArray, List.set_cons_zero, List.set_cons_succ]
          refine stH (i := 27) (.int .i64 a0) hK.below ?_ ?_; (· exact fun w' hw => run_loadOp _ _ rfl _ rfl _ (load_cell (cell_later hw r0))); simp only [Act.put, List.setIfInBounds_toArray, List.set_cons_zero, List.set_cons_succ]
          refine stH (i := 28) (.pointer (some ⟨b1, 1, none⟩)) hK.below ?_ ?_; (· exact fun w' _ => (by go_simp)); simp only [Act.put, List.setIfInBounds_toArray, List.set_cons_zero, List.set_cons_succ]
          refine stH (i := 29) (.int .i64 a1) hK.below ?_ ?_; (· exact fun w' hw => run_loadOp _ _ rfl _ rfl _ (load_cell (cell_later hw r1))); simp only [Act.put, List.setIfInBounds_toArray, List.set_cons_zero, List.set_cons_succ]
          refine stH (i := 30) (.int .i64 u) hK.below ?_ ?_; (· exact fun w' _ => (by go_simp)); simp only [Act.put, List.setIfInBounds_toArray, List.set_cons_zero, List.set_cons_succ]
          refine stH (i := 31) (.int .i64 v) hK.below ?_ ?_; (· exact fun w' _ => (by go_simp)); simp only [Act.put, List.setIfInBounds_toArray, List.set_cons_zero, List.set_cons_succ]
          as_aux_lemma =>
            refine wpH_one (i := 10) (by kernel_rfl) (wpOp_of (by simp only [List.getElem?_toArray, List.getElem?_cons_zero, List.getElem?_cons_succ]; rfl) ?_)
            refine st_call rfl 19 #[.int .i64 a0, .int .i64 a1, .int .i64 a2, .int .i64 a3, .int .i64 u, .int .i64 v] (by go_simp) (HQ1.out _) ?_
            rintro e w' ⟨rfl, rfl⟩
            refine ⟨_, rfl, hK.below, ?_⟩
            simp only [Act.put, List.setIfInBounds_toArray, List.set_cons_zero, List.set_cons_succ]
            refine wpH_one (i := 21) (by kernel_rfl) (wpOp_of (by simp only [List.getElem?_toArray, List.getElem?_cons_zero, List.getElem?_cons_succ]; rfl) ?_)
            as_aux_lemma =>
              refine st_call rfl 19 #[.int .i64 a2, .int .i64 a3, .int .i64 a4, .int .i64 a5, .int .i64 u, .int .i64 v] (by go_simp) (HQ2.out _) ?_
              rintro e w' ⟨rfl, rfl⟩
              refine ⟨_, rfl, hK.below, ?_⟩
              simp only [Act.put, List.setIfInBounds_toArray, List.set_cons_zero, List.set_cons_succ]
              refine wpH_one (i := 32) (by kernel_rfl) (wpOp_of (by simp only [List.getElem?_toArray, List.getElem?_cons_zero, List.getElem?_cons_succ]; rfl) ?_)
              refine st_call rfl 19 #[.int .i64 a4, .int .i64 a5, .int .i64 a0, .int .i64 a1, .int .i64 u, .int .i64 v] (by go_simp) (HQ3.out _) ?_
              as_aux_lemma =>
                rintro e w' ⟨rfl, rfl⟩
                refine ⟨_, rfl, hK.below, ?_⟩
                simp only [Act.put, List.setIfInBounds_toArray, List.set_cons_zero, List.set_cons_succ]
                refine stH (i := 33) (.int .i64 p) hK.below ?_ ?_; (· exact fun w' _ => (by go_simp)); simp only [Act.put, List.setIfInBounds_toArray, List.set_cons_zero, List.set_cons_succ]
                refine stH (i := 34) (.int .i64 q) hK.below ?_ ?_; (· exact fun w' _ => (by go_simp)); simp only [Act.put, List.setIfInBounds_toArray, List.set_cons_zero, List.set_cons_succ]
                refine stH (i := 35) (.int .i64 r) hK.below ?_ ?_; (· exact fun w' _ => (by go_simp)); simp only [Act.put, List.setIfInBounds_toArray, List.set_cons_zero, List.set_cons_succ]
                as_aux_lemma =>
                  refine wpAnyH_done (by kernel_rfl) ?_ _
                  replace hL := hL.call hK.below
                  clear hK r0 r1 r2 r3 r4 r5
                  go_wp2_with (first | (go_at_call 14; (with_reducible refine (windAt_calls _ _ (triL a0 a1 a2 a3 a4 a5) (triL_at hL atO) (triL_straight _ _ _ _ _ _) u v).mono ?_); rintro e _ ⟨rfl, hb⟩; rw [HN.out]; replace hL := hL.call hb; clear hb) | (first | (clear hL n1; with_reducible intro b1 w1 hL) | (clear hL n2; with_reducible intro b2 w2 hL) | (clear hL; with_reducible intro _ _ hL)) | (with_reducible refine wpC_alloc rfl _ rfl _ _ inferInstance hL ?_) | (with_reducible first | refine wpB_agg rfl _ _ _ rfl rfl hL ?_ | refine wpB_one rfl _ _ (.int _ _) rfl rfl rfl hL ?_ | refine wpB_one rfl _ _ (.slice _ _ _) rfl rfl rfl hL ?_ | refine wpB_one rfl _ _ (.bool _) rfl rfl rfl hL ?_ | refine wpB_one rfl _ _ (.pointer _) rfl rfl rfl hL ?_ | refine wpB_one rfl _ _ (.func _ _ _) rfl rfl rfl hL ?_) | (with_reducible first | refine wpH_max rfl _ _ _ _ rfl _ _ rfl rfl ?_ | refine wpH_min rfl _ _ _ _ rfl _ _ rfl rfl ?_) | ((with_reducible refine wpA_load rfl _ _ rfl _ rfl ?_); first | refine loadA hL ?_ | refine loadR hL ?_ | refine loadC hL ?_ | refine loadD ?_ | refine loadE hL ?_ | refine loadF ?_) | ((with_reducible refine wpA_index rfl _ _ _ rfl _ rfl _ rfl ?_); first | (refine indexA ?_; try rw [Int.toNat_natCast]) | refine indexC ?_) | ((with_reducible refine wpA_store rfl _ _ _ rfl _ rfl (.agg _) rfl ?_); refine storeR hL ?_; clear hL; intro _ hL) | ((with_reducible first | refine wpA_store rfl _ _ _ rfl _ rfl (.int _ _) rfl ?_ | refine wpA_store rfl _ _ _ rfl _ rfl (.slice _ _ _) rfl ?_ | refine wpA_store rfl _ _ _ rfl _ rfl (.bool _) rfl ?_ | refine wpA_store rfl _ _ _ rfl _ rfl (.pointer _) rfl ?_ | refine wpA_store rfl _ _ _ rfl _ rfl (.func _ _ _) rfl ?_); (first | refine storeA hL ?_ | refine storeO hL ?_); (clear hL; intro _ hL)) | ((with_reducible refine wpA_lit rfl _ _ _ rfl ?_); first | refine litA1 hL ?_ | refine litA2 hL ?_ | refine litA3 hL ?_ | refine litA4 hL ?_ | refine litA6 hL ?_) | ((with_reducible refine wpA_append rfl _ _ _ rfl (.slice _ _ _) rfl ?_); intro vq hvq; simp [go_sem] at hvq; subst hvq; refine appendA hL ?_; clear hL; intro _ _ _ hL; try dsimp only at hL) | ((with_reducible refine wpA_make rfl _ _ _ rfl _ rfl rfl ?_); refine makeA hL ?_))
                  all_goals
                    obtain ⟨l1, l2, l3, l4⟩ := HLaw.out
                    have l5 : p = 0 ∨ q = 0 ∨ r = 0 ∨ (0 < p ∧ 0 < q ∧ 0 < r) ∨ (p < 0 ∧ q < 0 ∧ r < 0) ∨ n = 0 := tri_or l4
                    clear l4
                    try simp only [beq_eq_false_iff_ne, ne_eq] at *
                    go_ret
                    refine ⟨ret_bool ?_, hL.below⟩
                    first | (simp only [beq_iff_eq]; omega) | (simp only [decide_eq_true_eq]; omega) | (simp; omega) | rfl
end Go.Proofs.Ytmoabhfpibkcnaa
