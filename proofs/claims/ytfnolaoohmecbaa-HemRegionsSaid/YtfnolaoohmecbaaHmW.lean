/- Package hem: down, none, within. -/
import Derived.Test.YtfnolaoohmecbaaHmR
import Derived.Test.YtfnolaoohmecbaaBxPM
-- lit6
namespace Go.Proofs.Ytfnolaoohmecbaa
open Go.RowKit

theorem divFloor (v m : Int) (hm : 0 < m) : (v.tmod m < 0 ∧ v.tdiv m = v / m + 1) ∨ (0 ≤ v.tmod m ∧ v.tdiv m = v / m) := by
  have h1 := Int.mul_tdiv_add_tmod v m
  have h2 := Int.tmod_lt_of_pos v hm
  have h3 : -m < v.tmod m := by
    rcases Int.le_total 0 v with h | h
    · have := Int.tmod_nonneg m h; omega
    · have h4 := Int.tmod_lt_of_pos (-v) hm
      rw [Int.neg_tmod] at h4
      omega
  generalize v.tmod m = r at *
  generalize v.tdiv m = q at *
  by_cases hr : r < 0
  · refine .inl ⟨hr, ?_⟩
    have e : v = (r + m) + m * (q - 1) := by rw [← h1, Int.mul_sub]; omega
    rw [e, Int.add_mul_ediv_left _ _ (by omega), Int.ediv_eq_zero_of_lt (by omega) (by omega)]
    omega
  · refine .inr ⟨by omega, ?_⟩
    rw [← h1, Int.add_comm, Int.add_mul_ediv_left _ _ (by omega), Int.ediv_eq_zero_of_lt (by omega) (by omega)]
    omega
theorem div_bd {v m B : Int} (hm : 0 < m) (hB : 0 ≤ B) (h1 : -B ≤ v) (h2 : v ≤ B) : -B ≤ v / m ∧ v / m ≤ B := by
  constructor
  · rw [Int.le_ediv_iff_mul_le hm]
    have : B * 1 ≤ B * m := Int.mul_le_mul_of_nonneg_left (by omega) hB
    rw [Int.neg_mul]; omega
  · exact Int.le_trans (Int.ediv_le_ediv hm h2) (Int.ediv_le_self _ hB)
theorem down_calls (a b : Int) (hb : 0 < b) (hb2 : b ≤ 1099511627776) (h1 : -70368744177664 ≤ a) (h2 : a ≤ 70368744177664) (w : World) : Calls Try.prog 78 #[.int .i64 a, .int .i64 b] w fun e w' => e = .returned (.int .i64 (a / b)) ∧ w = w' := by
  have hd := divFloor a b hb
  have hq := div_bd hb (by decide) h1 h2
  generalize a / b = q at *
  have m0 : (b == 0) = false := by simp; omega
  have m1 : (b == -1) = false := by simp; omega
  rcases hd with ⟨hr, hq2⟩ | ⟨hr, hq2⟩
  · generalize hr2 : a.tmod b = r at *
    go_enter Try.func78, Try.ntmps78
    go_wp2
    go_ret
    exact ⟨by first | rfl | go_num, rfl⟩
  · generalize hr2 : a.tmod b = r at *
    go_enter Try.func78, Try.ntmps78
    go_wp2
    go_ret
    exact ⟨by first | rfl | go_num, rfl⟩
theorem none_calls (w : World) : Calls Try.prog 103 #[] w fun e w' => e = .returned (.agg #[.int .i64 1, .int .i64 0]) ∧ Below w.heap.size w w' := by
  have hL := Holds.start w
  have n1 : True := trivial
  go_enter Try.func103, Try.ntmps103
  go_wp2_with (first | (first | (clear hL n1; with_reducible intro b1 w1 hL) | (clear hL; with_reducible intro _ _ hL)) | (with_reducible refine wpC_alloc rfl _ rfl _ _ inferInstance hL ?_) | (with_reducible first | refine wpB_agg rfl _ _ _ rfl rfl hL ?_ | refine wpB_one rfl _ _ (.int _ _) rfl rfl rfl hL ?_ | refine wpB_one rfl _ _ (.slice _ _ _) rfl rfl rfl hL ?_ | refine wpB_one rfl _ _ (.bool _) rfl rfl rfl hL ?_ | refine wpB_one rfl _ _ (.pointer _) rfl rfl rfl hL ?_ | refine wpB_one rfl _ _ (.func _ _ _) rfl rfl rfl hL ?_) | (with_reducible first | refine wpH_max rfl _ _ _ _ rfl _ _ rfl rfl ?_ | refine wpH_min rfl _ _ _ _ rfl _ _ rfl rfl ?_) | ((with_reducible refine wpA_load rfl _ _ rfl _ rfl ?_); first | refine loadA hL ?_ | refine loadR hL ?_ | refine loadC hL ?_ | refine loadD ?_ | refine loadE hL ?_ | refine loadF ?_) | ((with_reducible refine wpA_index rfl _ _ _ rfl _ rfl _ rfl ?_); first | (refine indexA ?_; try rw [Int.toNat_natCast]) | refine indexC ?_) | ((with_reducible refine wpA_store rfl _ _ _ rfl _ rfl (.agg _) rfl ?_); refine storeR hL ?_; clear hL; intro _ hL) | ((with_reducible first | refine wpA_store rfl _ _ _ rfl _ rfl (.int _ _) rfl ?_ | refine wpA_store rfl _ _ _ rfl _ rfl (.slice _ _ _) rfl ?_ | refine wpA_store rfl _ _ _ rfl _ rfl (.bool _) rfl ?_ | refine wpA_store rfl _ _ _ rfl _ rfl (.pointer _) rfl ?_ | refine wpA_store rfl _ _ _ rfl _ rfl (.func _ _ _) rfl ?_); (first | refine storeA hL ?_ | refine storeO hL ?_); (clear hL; intro _ hL)) | ((with_reducible refine wpA_lit rfl _ _ _ rfl ?_); first | refine litA1 hL ?_ | refine litA2 hL ?_ | refine litA3 hL ?_ | refine litA4 hL ?_ | refine litA6 hL ?_) | ((with_reducible refine wpA_append rfl _ _ _ rfl (.slice _ _ _) rfl ?_); intro vq hvq; simp [go_sem] at hvq; subst hvq; refine appendA hL ?_; clear hL; intro _ _ _ hL; try dsimp only at hL) | ((with_reducible refine wpA_make rfl _ _ _ rfl _ rfl rfl ?_); refine makeA hL ?_))
  exact bodyPost_ret (results_row inferInstance rfl _ hL b1 rfl _ _ .here rfl) rfl ⟨rfl, hL.below⟩
/-- a slot's ends are small -/
def SlotBd (lo hi : Int) : Prop := -17592186044416 ≤ lo ∧ lo ≤ 17592186044416 ∧ -17592186044416 ≤ hi ∧ hi ≤ 17592186044416
def SlotOut (P : Int → Prop) (w : World) (e : Ending) (w' : World) : Prop := (∃ lo hi, e = .returned (.agg #[.int .i64 lo, .int .i64 hi]) ∧ SlotBd lo hi ∧ ∀ x, (lo ≤ x ∧ x ≤ hi) ↔ P x) ∧ Below w.heap.size w w'
theorem slot_pos {slo shi a b lo hi x : Int} (ha : 0 < a) : (max slo (-(-(lo - b) / a)) ≤ x ∧ x ≤ min shi ((hi - b) / a)) ↔ ((slo ≤ x ∧ x ≤ shi) ∧ (lo ≤ a * x + b ∧ a * x + b ≤ hi)) := by
  have e1 : -(-(lo - b) / a) ≤ x ↔ lo ≤ a * x + b := by
    have : -x ≤ -(lo - b) / a ↔ -x * a ≤ -(lo - b) := Int.le_ediv_iff_mul_le ha
    rw [Int.neg_mul, Int.mul_comm x a] at this
    omega
  have e2 : x ≤ (hi - b) / a ↔ a * x + b ≤ hi := by
    have : x ≤ (hi - b) / a ↔ x * a ≤ hi - b := Int.le_ediv_iff_mul_le ha
    rw [Int.mul_comm x a] at this
    omega
  omega
set_option maxRecDepth 100000 in
set_option maxHeartbeats 4000000 in
theorem within_calls (slo shi a b lo hi : Int) (hs : SlotBd slo shi) (ha : -1099511627776 ≤ a ∧ a ≤ 1099511627776) (hb : -1099511627776 ≤ b ∧ b ≤ 1099511627776) (hlo : -1099511627776 ≤ lo ∧ lo ≤ 1099511627776) (hhi : -1099511627776 ≤ hi ∧ hi ≤ 1099511627776) (w : World) :
    Calls Try.prog 105 #[.agg #[.int .i64 slo, .int .i64 shi], .int .i64 a, .int .i64 b, .int .i64 lo, .int .i64 hi] w (SlotOut (fun x => (slo ≤ x ∧ x ≤ shi) ∧ (lo ≤ a * x + b ∧ a * x + b ≤ hi)) w) := by
  have hL := Holds.start w
  have HsB := Lib.hid hs
  obtain ⟨s1, s2, s3, s4⟩ := hs
  obtain ⟨a1, a2⟩ := ha
  obtain ⟨c1, c2⟩ := hb
  obtain ⟨l1, l2⟩ := hlo
  obtain ⟨h1, h2⟩ := hhi
  rcases (by omega : a < 0 ∨ a = 0 ∨ 0 < a) with h | h | h
  · generalize hP : lo - b = P at *
    generalize hQ : hi - b = Q at *
    generalize hA : -a = A at *
    generalize hP2 : -P = P2 at *
    generalize hQ2 : -Q = Q2 at *
    have hx : ∀ x, (max slo (-(-Q2 / A)) ≤ x ∧ x ≤ min shi (P2 / A)) ↔ ((slo ≤ x ∧ x ≤ shi) ∧ (lo ≤ a * x + b ∧ a * x + b ≤ hi)) := by
      intro x
      have := slot_pos (slo := slo) (shi := shi) (a := A) (b := -b) (lo := -hi) (hi := -lo) (x := x) (by omega)
      rw [show -hi - -b = Q2 by omega, show -lo - -b = P2 by omega, ← hA, Int.neg_mul] at this
      rw [← hA]
      omega
    have d1 := div_bd (v := -Q2) (m := A) (B := 4398046511104) (by omega) (by omega) (by omega) (by omega)
    have d2 := div_bd (v := P2) (m := A) (B := 4398046511104) (by omega) (by omega) (by omega) (by omega)
    have HD1 := Lib.hid (fun w => down_calls (-Q2) A (by omega) (by omega) (by omega) (by omega) w)
    have HD2 := Lib.hid (fun w => down_calls P2 A (by omega) (by omega) (by omega) (by omega) w)
    generalize -Q2 / A = D1 at *
    generalize P2 / A = D2 at *
    have v1 : IntKind.i64.wrap (-Q2) = -Q2 := by rw [IntKind.wrap_i64]; omega
    have v2 : IntKind.i64.wrap (-D1) = -D1 := by rw [IntKind.wrap_i64]; omega
    have hA0 : (A == 0) = false := by simp; omega
    have HX := Lib.hid hx
    clear hx
    have n1 : True := trivial; have n2 : True := trivial
    go_enter Try.func105, Try.ntmps105
    go_wp2_with (first | (first | (clear hL n1; with_reducible intro b1 w1 hL) | (clear hL n2; with_reducible intro b2 w2 hL) | (clear hL; with_reducible intro _ _ hL)) | (with_reducible refine wpC_alloc rfl _ rfl _ _ inferInstance hL ?_) | (with_reducible first | refine wpB_agg rfl _ _ _ rfl rfl hL ?_ | refine wpB_one rfl _ _ (.int _ _) rfl rfl rfl hL ?_ | refine wpB_one rfl _ _ (.slice _ _ _) rfl rfl rfl hL ?_ | refine wpB_one rfl _ _ (.bool _) rfl rfl rfl hL ?_ | refine wpB_one rfl _ _ (.pointer _) rfl rfl rfl hL ?_ | refine wpB_one rfl _ _ (.func _ _ _) rfl rfl rfl hL ?_) | (with_reducible first | refine wpH_max rfl _ _ _ _ rfl _ _ rfl rfl ?_ | refine wpH_min rfl _ _ _ _ rfl _ _ rfl rfl ?_) | ((with_reducible refine wpA_load rfl _ _ rfl _ rfl ?_); first | refine loadA hL ?_ | refine loadR hL ?_ | refine loadC hL ?_ | refine loadD ?_ | refine loadE hL ?_ | refine loadF ?_) | ((with_reducible refine wpA_index rfl _ _ _ rfl _ rfl _ rfl ?_); first | (refine indexA ?_; try rw [Int.toNat_natCast]) | refine indexC ?_) | ((with_reducible refine wpA_store rfl _ _ _ rfl _ rfl (.agg _) rfl ?_); refine storeR hL ?_; clear hL; intro _ hL) | ((with_reducible first | refine wpA_store rfl _ _ _ rfl _ rfl (.int _ _) rfl ?_ | refine wpA_store rfl _ _ _ rfl _ rfl (.slice _ _ _) rfl ?_ | refine wpA_store rfl _ _ _ rfl _ rfl (.bool _) rfl ?_ | refine wpA_store rfl _ _ _ rfl _ rfl (.pointer _) rfl ?_ | refine wpA_store rfl _ _ _ rfl _ rfl (.func _ _ _) rfl ?_); (first | refine storeA hL ?_ | refine storeO hL ?_); (clear hL; intro _ hL)) | ((with_reducible refine wpA_lit rfl _ _ _ rfl ?_); first | refine litA1 hL ?_ | refine litA2 hL ?_ | refine litA3 hL ?_ | refine litA4 hL ?_ | refine litA6 hL ?_) | ((with_reducible refine wpA_append rfl _ _ _ rfl (.slice _ _ _) rfl ?_); intro vq hvq; simp [go_sem] at hvq; subst hvq; refine appendA hL ?_; clear hL; intro _ _ _ hL; try dsimp only at hL) | ((with_reducible refine wpA_make rfl _ _ _ rfl _ rfl rfl ?_); refine makeA hL ?_))
    replace hL := hL.drew
    have hS : (fun w' : World => w'.rangeAt b1 0 [.int .i64 slo, .int .i64 shi]) _ := hL.range (by (repeat (first | with_reducible exact At.here | with_reducible apply At.there)))
    refine wpM_begin (by kernel_rfl) (fun w' : World => w'.rangeAt b1 0 [.int .i64 slo, .int .i64 shi]) 15 ?_
    refine stM (i := 0) (.pointer (some ⟨b1, 0, none⟩)) hS ?_ ?_; (· exact fun w' _ => (by go_simp)); simp only [Act.put, List.setIfInBounds_toArray, List.set_cons_zero, List.set_cons_succ]
    refine stM (i := 1) (.int .i64 slo) hS ?_ ?_; (· exact fun w' hw => run_loadOp _ _ rfl _ rfl _ (load_cell (hw 0 _ rfl))); simp only [Act.put, List.setIfInBounds_toArray, List.set_cons_zero, List.set_cons_succ]
    refine stM (i := 2) (.int .i64 Q2) hS ?_ ?_; (· exact fun w' _ => (by go_simp)); simp only [Act.put, List.setIfInBounds_toArray, List.set_cons_zero, List.set_cons_succ]
    refine stM (i := 3) (.int .i64 (-Q2)) hS ?_ ?_; (· exact fun w' _ => (by go_simp)); simp only [Act.put, List.setIfInBounds_toArray, List.set_cons_zero, List.set_cons_succ]
    refine stM (i := 4) (.int .i64 A) hS ?_ ?_; (· exact fun w' _ => (by go_simp)); simp only [Act.put, List.setIfInBounds_toArray, List.set_cons_zero, List.set_cons_succ]
    refine stM (i := 8) (.pointer (some ⟨b1, 1, none⟩)) hS ?_ ?_; (· exact fun w' _ => (by go_simp)); simp only [Act.put, List.setIfInBounds_toArray, List.set_cons_zero, List.set_cons_succ]
    refine stM (i := 9) (.int .i64 shi) hS ?_ ?_; (· exact fun w' hw => run_loadOp _ _ rfl _ rfl _ (load_cell (hw 1 _ rfl))); simp only [Act.put, List.setIfInBounds_toArray, List.set_cons_zero, List.set_cons_succ]
    refine stM (i := 10) (.int .i64 P2) hS ?_ ?_; (· exact fun w' _ => (by go_simp)); simp only [Act.put, List.setIfInBounds_toArray, List.set_cons_zero, List.set_cons_succ]
    refine stM (i := 11) (.int .i64 A) hS ?_ ?_; (· exact fun w' _ => (by go_simp)); simp only [Act.put, List.setIfInBounds_toArray, List.set_cons_zero, List.set_cons_succ]
    refine wpM_one (i := 5) (by kernel_rfl) (wpOp_of (by simp only [List.getElem?_toArray, List.getElem?_cons_zero, List.getElem?_cons_succ]; rfl) ?_)
    refine st_call rfl 78 #[.int .i64 (-Q2), .int .i64 A] (by go_simp) (HD1.out _) ?_
    rintro e _ ⟨rfl, rfl⟩
    refine ⟨_, rfl, fun _ => hS, ?_⟩
    simp only [Act.put, List.setIfInBounds_toArray, List.set_cons_zero, List.set_cons_succ]
    refine stM (i := 6) (.int .i64 (-D1)) hS ?_ ?_; (· exact fun w' _ => (by go_simp)); simp only [Act.put, List.setIfInBounds_toArray, List.set_cons_zero, List.set_cons_succ]
    refine stM (i := 7) (.int .i64 (max (slo) ((-D1)))) hS ?_ ?_; (· exact fun w' _ => run_maxV _ _ _ _ rfl rfl rfl); simp only [Act.put, List.setIfInBounds_toArray, List.set_cons_zero, List.set_cons_succ]
    refine wpM_one (i := 12) (by kernel_rfl) (wpOp_of (by simp only [List.getElem?_toArray, List.getElem?_cons_zero, List.getElem?_cons_succ]; rfl) ?_)
    refine st_call rfl 78 #[.int .i64 P2, .int .i64 A] (by go_simp) (HD2.out _) ?_
    rintro e _ ⟨rfl, rfl⟩
    refine ⟨_, rfl, fun _ => hS, ?_⟩
    simp only [Act.put, List.setIfInBounds_toArray, List.set_cons_zero, List.set_cons_succ]
    refine stM (i := 13) (.int .i64 (min (shi) (D2))) hS ?_ ?_; (· exact fun w' _ => run_minV _ _ _ _ rfl rfl rfl); simp only [Act.put, List.setIfInBounds_toArray, List.set_cons_zero, List.set_cons_succ]
    refine stM (i := 14) (.agg #[.int .i64 (max (slo) ((-D1))), .int .i64 (min (shi) (D2))]) hS ?_ ?_; (· exact fun w' _ => (by go_simp)); simp only [Act.put, List.setIfInBounds_toArray, List.set_cons_zero, List.set_cons_succ]
    refine wpM_one (i := 15) (by kernel_rfl) (wpOp_of (by simp only [List.getElem?_toArray, List.getElem?_cons_zero, List.getElem?_cons_succ]; rfl) ?_)
    refine st_store rfl _ _ _ rfl ⟨b2, 0, none⟩ rfl (.agg #[.int .i64 (max (slo) ((-D1))), .int .i64 (min (shi) (D2))]) rfl (storeR hL ?_)
    clear hL
    intro w9 hL
    refine ⟨fun h => absurd rfl h, ?_⟩
    simp only [Act.put]
    refine wpM_done (by kernel_rfl) ?_
    clear hS
    go_wp2
    exact bodyPost_ret (results_row inferInstance rfl _ hL b2 rfl _ _ (by (repeat (first | with_reducible exact At.here | with_reducible apply At.there))) rfl) rfl ⟨⟨_, _, rfl, ⟨by omega, by omega, by omega, by omega⟩, HX.out⟩, hL.below⟩
  · subst h
    rcases (by omega : 0 < lo - b ∨ hi - b < 0 ∨ (lo - b ≤ 0 ∧ 0 ≤ hi - b)) with g | g | ⟨g, g2⟩
    · have HX := Lib.hid (show ∀ x, (1 ≤ x ∧ x ≤ 0) ↔ ((slo ≤ x ∧ x ≤ shi) ∧ (lo ≤ 0 * x + b ∧ 0 * x + b ≤ hi)) by intro x; omega)
      have dg : decide (0 < lo - b) = true := by simp; omega
      have n1 : True := trivial; have n2 : True := trivial
      go_enter Try.func105, Try.ntmps105
      go_wp2_with (first | (go_at_call 103; (with_reducible refine (none_calls _).mono ?_); rintro e _ ⟨rfl, hb⟩; replace hL := hL.call hb; clear hb) | (first | (clear hL n1; with_reducible intro b1 w1 hL) | (clear hL n2; with_reducible intro b2 w2 hL) | (clear hL; with_reducible intro _ _ hL)) | (with_reducible refine wpC_alloc rfl _ rfl _ _ inferInstance hL ?_) | (with_reducible first | refine wpB_agg rfl _ _ _ rfl rfl hL ?_ | refine wpB_one rfl _ _ (.int _ _) rfl rfl rfl hL ?_ | refine wpB_one rfl _ _ (.slice _ _ _) rfl rfl rfl hL ?_ | refine wpB_one rfl _ _ (.bool _) rfl rfl rfl hL ?_ | refine wpB_one rfl _ _ (.pointer _) rfl rfl rfl hL ?_ | refine wpB_one rfl _ _ (.func _ _ _) rfl rfl rfl hL ?_) | (with_reducible first | refine wpH_max rfl _ _ _ _ rfl _ _ rfl rfl ?_ | refine wpH_min rfl _ _ _ _ rfl _ _ rfl rfl ?_) | ((with_reducible refine wpA_load rfl _ _ rfl _ rfl ?_); first | refine loadA hL ?_ | refine loadR hL ?_ | refine loadC hL ?_ | refine loadD ?_ | refine loadE hL ?_ | refine loadF ?_) | ((with_reducible refine wpA_index rfl _ _ _ rfl _ rfl _ rfl ?_); first | (refine indexA ?_; try rw [Int.toNat_natCast]) | refine indexC ?_) | ((with_reducible refine wpA_store rfl _ _ _ rfl _ rfl (.agg _) rfl ?_); refine storeR hL ?_; clear hL; intro _ hL) | ((with_reducible first | refine wpA_store rfl _ _ _ rfl _ rfl (.int _ _) rfl ?_ | refine wpA_store rfl _ _ _ rfl _ rfl (.slice _ _ _) rfl ?_ | refine wpA_store rfl _ _ _ rfl _ rfl (.bool _) rfl ?_ | refine wpA_store rfl _ _ _ rfl _ rfl (.pointer _) rfl ?_ | refine wpA_store rfl _ _ _ rfl _ rfl (.func _ _ _) rfl ?_); (first | refine storeA hL ?_ | refine storeO hL ?_); (clear hL; intro _ hL)) | ((with_reducible refine wpA_lit rfl _ _ _ rfl ?_); first | refine litA1 hL ?_ | refine litA2 hL ?_ | refine litA3 hL ?_ | refine litA4 hL ?_ | refine litA6 hL ?_) | ((with_reducible refine wpA_append rfl _ _ _ rfl (.slice _ _ _) rfl ?_); intro vq hvq; simp [go_sem] at hvq; subst hvq; refine appendA hL ?_; clear hL; intro _ _ _ hL; try dsimp only at hL) | ((with_reducible refine wpA_make rfl _ _ _ rfl _ rfl rfl ?_); refine makeA hL ?_))
      exact bodyPost_ret (results_row inferInstance rfl _ hL b2 rfl _ _ (by (repeat (first | with_reducible exact At.here | with_reducible apply At.there))) rfl) rfl ⟨⟨_, _, rfl, ⟨by omega, by omega, by omega, by omega⟩, HX.out⟩, hL.below⟩
    · have HX := Lib.hid (show ∀ x, (1 ≤ x ∧ x ≤ 0) ↔ ((slo ≤ x ∧ x ≤ shi) ∧ (lo ≤ 0 * x + b ∧ 0 * x + b ≤ hi)) by intro x; omega)
      rcases (by omega : 0 < lo - b ∨ ¬ 0 < lo - b) with g3 | g3
      · have dg : decide (0 < lo - b) = true := by simp; omega
        have n1 : True := trivial; have n2 : True := trivial
        go_enter Try.func105, Try.ntmps105
        go_wp2_with (first | (go_at_call 103; (with_reducible refine (none_calls _).mono ?_); rintro e _ ⟨rfl, hb⟩; replace hL := hL.call hb; clear hb) | (first | (clear hL n1; with_reducible intro b1 w1 hL) | (clear hL n2; with_reducible intro b2 w2 hL) | (clear hL; with_reducible intro _ _ hL)) | (with_reducible refine wpC_alloc rfl _ rfl _ _ inferInstance hL ?_) | (with_reducible first | refine wpB_agg rfl _ _ _ rfl rfl hL ?_ | refine wpB_one rfl _ _ (.int _ _) rfl rfl rfl hL ?_ | refine wpB_one rfl _ _ (.slice _ _ _) rfl rfl rfl hL ?_ | refine wpB_one rfl _ _ (.bool _) rfl rfl rfl hL ?_ | refine wpB_one rfl _ _ (.pointer _) rfl rfl rfl hL ?_ | refine wpB_one rfl _ _ (.func _ _ _) rfl rfl rfl hL ?_) | (with_reducible first | refine wpH_max rfl _ _ _ _ rfl _ _ rfl rfl ?_ | refine wpH_min rfl _ _ _ _ rfl _ _ rfl rfl ?_) | ((with_reducible refine wpA_load rfl _ _ rfl _ rfl ?_); first | refine loadA hL ?_ | refine loadR hL ?_ | refine loadC hL ?_ | refine loadD ?_ | refine loadE hL ?_ | refine loadF ?_) | ((with_reducible refine wpA_index rfl _ _ _ rfl _ rfl _ rfl ?_); first | (refine indexA ?_; try rw [Int.toNat_natCast]) | refine indexC ?_) | ((with_reducible refine wpA_store rfl _ _ _ rfl _ rfl (.agg _) rfl ?_); refine storeR hL ?_; clear hL; intro _ hL) | ((with_reducible first | refine wpA_store rfl _ _ _ rfl _ rfl (.int _ _) rfl ?_ | refine wpA_store rfl _ _ _ rfl _ rfl (.slice _ _ _) rfl ?_ | refine wpA_store rfl _ _ _ rfl _ rfl (.bool _) rfl ?_ | refine wpA_store rfl _ _ _ rfl _ rfl (.pointer _) rfl ?_ | refine wpA_store rfl _ _ _ rfl _ rfl (.func _ _ _) rfl ?_); (first | refine storeA hL ?_ | refine storeO hL ?_); (clear hL; intro _ hL)) | ((with_reducible refine wpA_lit rfl _ _ _ rfl ?_); first | refine litA1 hL ?_ | refine litA2 hL ?_ | refine litA3 hL ?_ | refine litA4 hL ?_ | refine litA6 hL ?_) | ((with_reducible refine wpA_append rfl _ _ _ rfl (.slice _ _ _) rfl ?_); intro vq hvq; simp [go_sem] at hvq; subst hvq; refine appendA hL ?_; clear hL; intro _ _ _ hL; try dsimp only at hL) | ((with_reducible refine wpA_make rfl _ _ _ rfl _ rfl rfl ?_); refine makeA hL ?_))
        exact bodyPost_ret (results_row inferInstance rfl _ hL b2 rfl _ _ (by (repeat (first | with_reducible exact At.here | with_reducible apply At.there))) rfl) rfl ⟨⟨_, _, rfl, ⟨by omega, by omega, by omega, by omega⟩, HX.out⟩, hL.below⟩
      · have dg : decide (0 < lo - b) = false := by simp; omega
        have dh : decide (hi - b < 0) = true := by simp; omega
        have n1 : True := trivial; have n2 : True := trivial
        go_enter Try.func105, Try.ntmps105
        go_wp2_with (first | (go_at_call 103; (with_reducible refine (none_calls _).mono ?_); rintro e _ ⟨rfl, hb⟩; replace hL := hL.call hb; clear hb) | (first | (clear hL n1; with_reducible intro b1 w1 hL) | (clear hL n2; with_reducible intro b2 w2 hL) | (clear hL; with_reducible intro _ _ hL)) | (with_reducible refine wpC_alloc rfl _ rfl _ _ inferInstance hL ?_) | (with_reducible first | refine wpB_agg rfl _ _ _ rfl rfl hL ?_ | refine wpB_one rfl _ _ (.int _ _) rfl rfl rfl hL ?_ | refine wpB_one rfl _ _ (.slice _ _ _) rfl rfl rfl hL ?_ | refine wpB_one rfl _ _ (.bool _) rfl rfl rfl hL ?_ | refine wpB_one rfl _ _ (.pointer _) rfl rfl rfl hL ?_ | refine wpB_one rfl _ _ (.func _ _ _) rfl rfl rfl hL ?_) | (with_reducible first | refine wpH_max rfl _ _ _ _ rfl _ _ rfl rfl ?_ | refine wpH_min rfl _ _ _ _ rfl _ _ rfl rfl ?_) | ((with_reducible refine wpA_load rfl _ _ rfl _ rfl ?_); first | refine loadA hL ?_ | refine loadR hL ?_ | refine loadC hL ?_ | refine loadD ?_ | refine loadE hL ?_ | refine loadF ?_) | ((with_reducible refine wpA_index rfl _ _ _ rfl _ rfl _ rfl ?_); first | (refine indexA ?_; try rw [Int.toNat_natCast]) | refine indexC ?_) | ((with_reducible refine wpA_store rfl _ _ _ rfl _ rfl (.agg _) rfl ?_); refine storeR hL ?_; clear hL; intro _ hL) | ((with_reducible first | refine wpA_store rfl _ _ _ rfl _ rfl (.int _ _) rfl ?_ | refine wpA_store rfl _ _ _ rfl _ rfl (.slice _ _ _) rfl ?_ | refine wpA_store rfl _ _ _ rfl _ rfl (.bool _) rfl ?_ | refine wpA_store rfl _ _ _ rfl _ rfl (.pointer _) rfl ?_ | refine wpA_store rfl _ _ _ rfl _ rfl (.func _ _ _) rfl ?_); (first | refine storeA hL ?_ | refine storeO hL ?_); (clear hL; intro _ hL)) | ((with_reducible refine wpA_lit rfl _ _ _ rfl ?_); first | refine litA1 hL ?_ | refine litA2 hL ?_ | refine litA3 hL ?_ | refine litA4 hL ?_ | refine litA6 hL ?_) | ((with_reducible refine wpA_append rfl _ _ _ rfl (.slice _ _ _) rfl ?_); intro vq hvq; simp [go_sem] at hvq; subst hvq; refine appendA hL ?_; clear hL; intro _ _ _ hL; try dsimp only at hL) | ((with_reducible refine wpA_make rfl _ _ _ rfl _ rfl rfl ?_); refine makeA hL ?_))
        exact bodyPost_ret (results_row inferInstance rfl _ hL b2 rfl _ _ (by (repeat (first | with_reducible exact At.here | with_reducible apply At.there))) rfl) rfl ⟨⟨_, _, rfl, ⟨by omega, by omega, by omega, by omega⟩, HX.out⟩, hL.below⟩
    · have HX := Lib.hid (show ∀ x, (slo ≤ x ∧ x ≤ shi) ↔ ((slo ≤ x ∧ x ≤ shi) ∧ (lo ≤ 0 * x + b ∧ 0 * x + b ≤ hi)) by intro x; omega)
      have dg : decide (0 < lo - b) = false := by simp; omega
      have dh : decide (hi - b < 0) = false := by simp; omega
      have n1 : True := trivial; have n2 : True := trivial
      go_enter Try.func105, Try.ntmps105
      go_wp2_with (first | (first | (clear hL n1; with_reducible intro b1 w1 hL) | (clear hL n2; with_reducible intro b2 w2 hL) | (clear hL; with_reducible intro _ _ hL)) | (with_reducible refine wpC_alloc rfl _ rfl _ _ inferInstance hL ?_) | (with_reducible first | refine wpB_agg rfl _ _ _ rfl rfl hL ?_ | refine wpB_one rfl _ _ (.int _ _) rfl rfl rfl hL ?_ | refine wpB_one rfl _ _ (.slice _ _ _) rfl rfl rfl hL ?_ | refine wpB_one rfl _ _ (.bool _) rfl rfl rfl hL ?_ | refine wpB_one rfl _ _ (.pointer _) rfl rfl rfl hL ?_ | refine wpB_one rfl _ _ (.func _ _ _) rfl rfl rfl hL ?_) | (with_reducible first | refine wpH_max rfl _ _ _ _ rfl _ _ rfl rfl ?_ | refine wpH_min rfl _ _ _ _ rfl _ _ rfl rfl ?_) | ((with_reducible refine wpA_load rfl _ _ rfl _ rfl ?_); first | refine loadA hL ?_ | refine loadR hL ?_ | refine loadC hL ?_ | refine loadD ?_ | refine loadE hL ?_ | refine loadF ?_) | ((with_reducible refine wpA_index rfl _ _ _ rfl _ rfl _ rfl ?_); first | (refine indexA ?_; try rw [Int.toNat_natCast]) | refine indexC ?_) | ((with_reducible refine wpA_store rfl _ _ _ rfl _ rfl (.agg _) rfl ?_); refine storeR hL ?_; clear hL; intro _ hL) | ((with_reducible first | refine wpA_store rfl _ _ _ rfl _ rfl (.int _ _) rfl ?_ | refine wpA_store rfl _ _ _ rfl _ rfl (.slice _ _ _) rfl ?_ | refine wpA_store rfl _ _ _ rfl _ rfl (.bool _) rfl ?_ | refine wpA_store rfl _ _ _ rfl _ rfl (.pointer _) rfl ?_ | refine wpA_store rfl _ _ _ rfl _ rfl (.func _ _ _) rfl ?_); (first | refine storeA hL ?_ | refine storeO hL ?_); (clear hL; intro _ hL)) | ((with_reducible refine wpA_lit rfl _ _ _ rfl ?_); first | refine litA1 hL ?_ | refine litA2 hL ?_ | refine litA3 hL ?_ | refine litA4 hL ?_ | refine litA6 hL ?_) | ((with_reducible refine wpA_append rfl _ _ _ rfl (.slice _ _ _) rfl ?_); intro vq hvq; simp [go_sem] at hvq; subst hvq; refine appendA hL ?_; clear hL; intro _ _ _ hL; try dsimp only at hL) | ((with_reducible refine wpA_make rfl _ _ _ rfl _ rfl rfl ?_); refine makeA hL ?_))
      exact bodyPost_ret (results_row inferInstance rfl _ hL b2 rfl _ _ (by (repeat (first | with_reducible exact At.here | with_reducible apply At.there))) rfl) rfl ⟨⟨_, _, rfl, HsB.out, HX.out⟩, hL.below⟩
  · have HX := Lib.hid (fun x => slot_pos (slo := slo) (shi := shi) (a := a) (b := b) (lo := lo) (hi := hi) (x := x) h)
    generalize hP : lo - b = P at *
    generalize hQ : hi - b = Q at *
    have d1 := div_bd (v := -P) (m := a) (B := 4398046511104) (by omega) (by omega) (by omega) (by omega)
    have d2 := div_bd (v := Q) (m := a) (B := 4398046511104) (by omega) (by omega) (by omega) (by omega)
    have HD1 := Lib.hid (fun w => down_calls (-P) a (by omega) (by omega) (by omega) (by omega) w)
    have HD2 := Lib.hid (fun w => down_calls Q a (by omega) (by omega) (by omega) (by omega) w)
    generalize -P / a = D1 at *
    generalize Q / a = D2 at *
    have v1 : IntKind.i64.wrap (-P) = -P := by rw [IntKind.wrap_i64]; omega
    have v2 : IntKind.i64.wrap (-D1) = -D1 := by rw [IntKind.wrap_i64]; omega
    have hA0 : (a == 0) = false := by simp; omega
    have n1 : True := trivial; have n2 : True := trivial
    go_enter Try.func105, Try.ntmps105
    go_wp2_with (first | (first | (clear hL n1; with_reducible intro b1 w1 hL) | (clear hL n2; with_reducible intro b2 w2 hL) | (clear hL; with_reducible intro _ _ hL)) | (with_reducible refine wpC_alloc rfl _ rfl _ _ inferInstance hL ?_) | (with_reducible first | refine wpB_agg rfl _ _ _ rfl rfl hL ?_ | refine wpB_one rfl _ _ (.int _ _) rfl rfl rfl hL ?_ | refine wpB_one rfl _ _ (.slice _ _ _) rfl rfl rfl hL ?_ | refine wpB_one rfl _ _ (.bool _) rfl rfl rfl hL ?_ | refine wpB_one rfl _ _ (.pointer _) rfl rfl rfl hL ?_ | refine wpB_one rfl _ _ (.func _ _ _) rfl rfl rfl hL ?_) | (with_reducible first | refine wpH_max rfl _ _ _ _ rfl _ _ rfl rfl ?_ | refine wpH_min rfl _ _ _ _ rfl _ _ rfl rfl ?_) | ((with_reducible refine wpA_load rfl _ _ rfl _ rfl ?_); first | refine loadA hL ?_ | refine loadR hL ?_ | refine loadC hL ?_ | refine loadD ?_ | refine loadE hL ?_ | refine loadF ?_) | ((with_reducible refine wpA_index rfl _ _ _ rfl _ rfl _ rfl ?_); first | (refine indexA ?_; try rw [Int.toNat_natCast]) | refine indexC ?_) | ((with_reducible refine wpA_store rfl _ _ _ rfl _ rfl (.agg _) rfl ?_); refine storeR hL ?_; clear hL; intro _ hL) | ((with_reducible first | refine wpA_store rfl _ _ _ rfl _ rfl (.int _ _) rfl ?_ | refine wpA_store rfl _ _ _ rfl _ rfl (.slice _ _ _) rfl ?_ | refine wpA_store rfl _ _ _ rfl _ rfl (.bool _) rfl ?_ | refine wpA_store rfl _ _ _ rfl _ rfl (.pointer _) rfl ?_ | refine wpA_store rfl _ _ _ rfl _ rfl (.func _ _ _) rfl ?_); (first | refine storeA hL ?_ | refine storeO hL ?_); (clear hL; intro _ hL)) | ((with_reducible refine wpA_lit rfl _ _ _ rfl ?_); first | refine litA1 hL ?_ | refine litA2 hL ?_ | refine litA3 hL ?_ | refine litA4 hL ?_ | refine litA6 hL ?_) | ((with_reducible refine wpA_append rfl _ _ _ rfl (.slice _ _ _) rfl ?_); intro vq hvq; simp [go_sem] at hvq; subst hvq; refine appendA hL ?_; clear hL; intro _ _ _ hL; try dsimp only at hL) | ((with_reducible refine wpA_make rfl _ _ _ rfl _ rfl rfl ?_); refine makeA hL ?_))
    replace hL := hL.drew
    have hS : (fun w' : World => w'.rangeAt b1 0 [.int .i64 slo, .int .i64 shi]) _ := hL.range (by (repeat (first | with_reducible exact At.here | with_reducible apply At.there)))
    refine wpM_begin (by kernel_rfl) (fun w' : World => w'.rangeAt b1 0 [.int .i64 slo, .int .i64 shi]) 15 ?_
    refine stM (i := 0) (.pointer (some ⟨b1, 0, none⟩)) hS ?_ ?_; (· exact fun w' _ => (by go_simp)); simp only [Act.put, List.setIfInBounds_toArray, List.set_cons_zero, List.set_cons_succ]
    refine stM (i := 1) (.int .i64 slo) hS ?_ ?_; (· exact fun w' hw => run_loadOp _ _ rfl _ rfl _ (load_cell (hw 0 _ rfl))); simp only [Act.put, List.setIfInBounds_toArray, List.set_cons_zero, List.set_cons_succ]
    refine stM (i := 2) (.int .i64 P) hS ?_ ?_; (· exact fun w' _ => (by go_simp)); simp only [Act.put, List.setIfInBounds_toArray, List.set_cons_zero, List.set_cons_succ]
    refine stM (i := 3) (.int .i64 (-P)) hS ?_ ?_; (· exact fun w' _ => (by go_simp)); simp only [Act.put, List.setIfInBounds_toArray, List.set_cons_zero, List.set_cons_succ]
    refine stM (i := 4) (.int .i64 a) hS ?_ ?_; (· exact fun w' _ => (by go_simp)); simp only [Act.put, List.setIfInBounds_toArray, List.set_cons_zero, List.set_cons_succ]
    refine stM (i := 8) (.pointer (some ⟨b1, 1, none⟩)) hS ?_ ?_; (· exact fun w' _ => (by go_simp)); simp only [Act.put, List.setIfInBounds_toArray, List.set_cons_zero, List.set_cons_succ]
    refine stM (i := 9) (.int .i64 shi) hS ?_ ?_; (· exact fun w' hw => run_loadOp _ _ rfl _ rfl _ (load_cell (hw 1 _ rfl))); simp only [Act.put, List.setIfInBounds_toArray, List.set_cons_zero, List.set_cons_succ]
    refine stM (i := 10) (.int .i64 Q) hS ?_ ?_; (· exact fun w' _ => (by go_simp)); simp only [Act.put, List.setIfInBounds_toArray, List.set_cons_zero, List.set_cons_succ]
    refine stM (i := 11) (.int .i64 a) hS ?_ ?_; (· exact fun w' _ => (by go_simp)); simp only [Act.put, List.setIfInBounds_toArray, List.set_cons_zero, List.set_cons_succ]
    refine wpM_one (i := 5) (by kernel_rfl) (wpOp_of (by simp only [List.getElem?_toArray, List.getElem?_cons_zero, List.getElem?_cons_succ]; rfl) ?_)
    refine st_call rfl 78 #[.int .i64 (-P), .int .i64 a] (by go_simp) (HD1.out _) ?_
    rintro e _ ⟨rfl, rfl⟩
    refine ⟨_, rfl, fun _ => hS, ?_⟩
    simp only [Act.put, List.setIfInBounds_toArray, List.set_cons_zero, List.set_cons_succ]
    refine stM (i := 6) (.int .i64 (-D1)) hS ?_ ?_; (· exact fun w' _ => (by go_simp)); simp only [Act.put, List.setIfInBounds_toArray, List.set_cons_zero, List.set_cons_succ]
    refine stM (i := 7) (.int .i64 (max (slo) ((-D1)))) hS ?_ ?_; (· exact fun w' _ => run_maxV _ _ _ _ rfl rfl rfl); simp only [Act.put, List.setIfInBounds_toArray, List.set_cons_zero, List.set_cons_succ]
    refine wpM_one (i := 12) (by kernel_rfl) (wpOp_of (by simp only [List.getElem?_toArray, List.getElem?_cons_zero, List.getElem?_cons_succ]; rfl) ?_)
    refine st_call rfl 78 #[.int .i64 Q, .int .i64 a] (by go_simp) (HD2.out _) ?_
    rintro e _ ⟨rfl, rfl⟩
    refine ⟨_, rfl, fun _ => hS, ?_⟩
    simp only [Act.put, List.setIfInBounds_toArray, List.set_cons_zero, List.set_cons_succ]
    refine stM (i := 13) (.int .i64 (min (shi) (D2))) hS ?_ ?_; (· exact fun w' _ => run_minV _ _ _ _ rfl rfl rfl); simp only [Act.put, List.setIfInBounds_toArray, List.set_cons_zero, List.set_cons_succ]
    refine stM (i := 14) (.agg #[.int .i64 (max (slo) ((-D1))), .int .i64 (min (shi) (D2))]) hS ?_ ?_; (· exact fun w' _ => (by go_simp)); simp only [Act.put, List.setIfInBounds_toArray, List.set_cons_zero, List.set_cons_succ]
    refine wpM_one (i := 15) (by kernel_rfl) (wpOp_of (by simp only [List.getElem?_toArray, List.getElem?_cons_zero, List.getElem?_cons_succ]; rfl) ?_)
    refine st_store rfl _ _ _ rfl ⟨b2, 0, none⟩ rfl (.agg #[.int .i64 (max (slo) ((-D1))), .int .i64 (min (shi) (D2))]) rfl (storeR hL ?_)
    clear hL
    intro w9 hL
    refine ⟨fun h => absurd rfl h, ?_⟩
    simp only [Act.put]
    refine wpM_done (by kernel_rfl) ?_
    clear hS
    go_wp2
    exact bodyPost_ret (results_row inferInstance rfl _ hL b2 rfl _ _ (by (repeat (first | with_reducible exact At.here | with_reducible apply At.there))) rfl) rfl ⟨⟨_, _, rfl, ⟨by omega, by omega, by omega, by omega⟩, HX.out⟩, hL.below⟩
end Go.Proofs.Ytfnolaoohmecbaa
