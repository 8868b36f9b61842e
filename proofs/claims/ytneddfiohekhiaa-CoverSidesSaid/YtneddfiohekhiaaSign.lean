/- The sign of p + q times the root of d. -/
import Derived.Test.YtneddfiohekhiaaWide2
-- lit6
namespace Go.Proofs.Ytneddfiohekhiaa
open Go.RowKit

def sgR (p q d : Int) : Int := if sgn p = 0 ∨ sgn p = sgn q * sgn d then sgn q * sgn d else if sgn q * sgn d = 0 then sgn p else sgn p * cmpI (p * p) (q * q * d)
theorem sgR_eq (p q d : Int) : sgR p q d = if sgn p = 0 ∨ sgn p = sgn q * sgn d then sgn q * sgn d else if sgn q * sgn d = 0 then sgn p else sgn p * cmpI (p * p) (q * q * d) := rfl
theorem sgn_bd (p : Int) : -1 ≤ sgn p ∧ sgn p ≤ 1 := by unfold sgn; (repeat' split) <;> omega
theorem cmpI_bd (x y : Int) : -1 ≤ cmpI x y ∧ cmpI x y ≤ 1 := by unfold cmpI; (repeat' split) <;> omega
theorem mul1_bd {a b : Int} (ha : -1 ≤ a ∧ a ≤ 1) (hb : -1 ≤ b ∧ b ≤ 1) : -1 ≤ a * b ∧ a * b ≤ 1 := mul_bd (A := 1) (B := 1) (by omega) (by omega) (by omega) (by omega)

theorem ret_ib {a b : Int} {c : Bool} (h : a = b) : Ending.returned (.tuple #[.int .i64 a, .bool c]) = .returned (.tuple #[.int .i64 b, .bool c]) := by rw [h]
theorem rootMay_calls (q d : Int) (hq0 : -2147483648 ≤ q) (hq : q ≤ 2147483648) (hd0 : 0 ≤ d) (hd : d ≤ 2147483648) (w : World) : Calls Try.prog 97 #[.int .i64 q, .int .i64 d] w fun e w' => e = .returned (.bool true) ∧ w = w' := by
  go_enter Try.func97, Try.ntmps97
  go_wp2
  go_ret
  exact ⟨rfl, rfl⟩
structure Fit (p q d : Int) : Prop where
  p0 : -4611686018427387904 ≤ p
  p1 : p ≤ 4611686018427387904
  q0 : -2147483648 ≤ q
  q1 : q ≤ 2147483648
  d0 : 0 ≤ d
  d1 : d ≤ 2147483648
theorem sq_bd {q : Int} (h0 : -2147483648 ≤ q) (h1 : q ≤ 2147483648) : 0 ≤ q * q ∧ q * q ≤ 4611686018427387904 := by
  refine ⟨?_, (mul_bd (A := 2147483648) (B := 2147483648) h0 h1 h0 h1).2⟩
  rcases (by omega : 0 ≤ q ∨ q < 0) with h | h
  · exact Int.mul_nonneg h h
  · exact Int.le_of_lt (Int.mul_pos_of_neg_of_neg h h)

set_option maxRecDepth 100000 in
set_option maxHeartbeats 1000000 in
theorem rootSign_calls (p q d : Int) (hf : Fit p q d) (w : World) : Calls Try.prog 90 #[.int .i64 p, .int .i64 q, .int .i64 d] w fun e w' => e = .returned (.tuple #[.int .i64 (sgR p q d), .bool true]) ∧ Below w.heap.size w w' := by
  obtain ⟨p0, p1, q0, q1, d0, d1⟩ := hf
  have hL := Holds.start w
  obtain ⟨k1, k2⟩ := sq_bd q0 q1
  have HC := Lib.hid (fun w => wideCmp_calls p p (q * q) d (by omega) (by omega) (by omega) (by omega) (by omega) (by omega) (by omega) (by omega) (by omega) (by omega) w)
  have HM := Lib.hid (fun w => rootMay_calls q d q0 q1 d0 d1 w)
  obtain ⟨m1, m2⟩ := mul1_bd (sgn_bd q) (sgn_bd d)
  obtain ⟨m3, m4⟩ := mul1_bd (sgn_bd p) (cmpI_bd (p * p) (q * q * d))
  have HP := Lib.hid (fun w => rootSgn_calls p w)
  have HQ := Lib.hid (fun w => rootSgn_calls q w)
  have HD := Lib.hid (fun w => rootSgn_calls d w)
  have HR := Lib.hid (sgR_eq p q d)
  generalize sgR p q d = R at *
  have hb1 := sgn_bd p
  generalize sgn p = a at *
  generalize sgn q = x at *
  generalize sgn d = y at *
  generalize cmpI (p * p) (q * q * d) = r at *
  obtain ⟨hb1, hb2⟩ := hb1
  go_enter Try.func90, Try.ntmps90
  go_wp2_with (first | (go_at_call 97; (with_reducible refine (HM.out _).mono ?_); rintro e _ ⟨rfl, rfl⟩) | (go_at_call 98; (first | ((with_reducible refine (HP.out _).mono ?_); rintro e _ ⟨rfl, rfl⟩) | ((with_reducible refine (HQ.out _).mono ?_); rintro e _ ⟨rfl, rfl⟩) | ((with_reducible refine (HD.out _).mono ?_); rintro e _ ⟨rfl, rfl⟩))) | (go_at_call 99; (with_reducible refine (HC.out _).mono ?_); rintro e _ ⟨rfl, hb⟩; replace hL := hL.call hb; clear hb) | ((clear hL; with_reducible intro _ _ hL)) | (with_reducible refine wpC_alloc rfl _ rfl _ _ inferInstance hL ?_) | (with_reducible first | refine wpB_agg rfl _ _ _ rfl rfl hL ?_ | refine wpB_one rfl _ _ (.int _ _) rfl rfl rfl hL ?_ | refine wpB_one rfl _ _ (.slice _ _ _) rfl rfl rfl hL ?_ | refine wpB_one rfl _ _ (.bool _) rfl rfl rfl hL ?_ | refine wpB_one rfl _ _ (.pointer _) rfl rfl rfl hL ?_ | refine wpB_one rfl _ _ (.func _ _ _) rfl rfl rfl hL ?_) | (with_reducible first | refine wpH_max rfl _ _ _ _ rfl _ _ rfl rfl ?_ | refine wpH_min rfl _ _ _ _ rfl _ _ rfl rfl ?_) | ((with_reducible refine wpA_load rfl _ _ rfl _ rfl ?_); first | refine loadA hL ?_ | refine loadR hL ?_ | refine loadC hL ?_ | refine loadD ?_ | refine loadE hL ?_ | refine loadF ?_) | ((with_reducible refine wpA_index rfl _ _ _ rfl _ rfl _ rfl ?_); first | (refine indexA ?_; try rw [Int.toNat_natCast]) | refine indexC ?_) | ((with_reducible refine wpA_store rfl _ _ _ rfl _ rfl (.agg _) rfl ?_); refine storeR hL ?_; clear hL; intro _ hL) | ((with_reducible first | refine wpA_store rfl _ _ _ rfl _ rfl (.int _ _) rfl ?_ | refine wpA_store rfl _ _ _ rfl _ rfl (.slice _ _ _) rfl ?_ | refine wpA_store rfl _ _ _ rfl _ rfl (.bool _) rfl ?_ | refine wpA_store rfl _ _ _ rfl _ rfl (.pointer _) rfl ?_ | refine wpA_store rfl _ _ _ rfl _ rfl (.func _ _ _) rfl ?_); (first | refine storeA hL ?_ | refine storeO hL ?_); (clear hL; intro _ hL)) | ((with_reducible refine wpA_lit rfl _ _ _ rfl ?_); first | refine litA1 hL ?_ | refine litA2 hL ?_ | refine litA3 hL ?_ | refine litA4 hL ?_ | refine litA6 hL ?_) | ((with_reducible refine wpA_append rfl _ _ _ rfl (.slice _ _ _) rfl ?_); intro vq hvq; simp [go_sem] at hvq; subst hvq; refine appendA hL ?_; clear hL; intro _ _ _ hL; try dsimp only at hL) | ((with_reducible refine wpA_make rfl _ _ _ rfl _ rfl rfl ?_); refine makeA hL ?_))
  all_goals
    go_ret2
    refine ⟨ret_ib ?_, hL.below⟩
    rw [HR.out]
    try simp only [beq_iff_eq, beq_eq_false_iff_ne, ne_eq] at *
    (repeat' split) <;> omega
theorem bowSign_calls (p q d : Int) (hf : Fit p q d) (w : World) : Calls Try.prog 80 #[.int .i64 p, .int .i64 q, .int .i64 d] w fun e w' => e = .returned (.int .i64 (sgR p q d)) ∧ Below w.heap.size w w' := by
  have hL := Holds.start w
  have HS := Lib.hid (fun w => rootSign_calls p q d hf w)
  clear hf
  go_enter Try.func80, Try.ntmps80
  go_wp2_with (first | (go_at_call 90; (with_reducible refine (HS.out _).mono ?_); rintro e _ ⟨rfl, hb⟩; replace hL := hL.call hb; clear hb) | ((clear hL; with_reducible intro _ _ hL)) | (with_reducible refine wpC_alloc rfl _ rfl _ _ inferInstance hL ?_) | (with_reducible first | refine wpB_agg rfl _ _ _ rfl rfl hL ?_ | refine wpB_one rfl _ _ (.int _ _) rfl rfl rfl hL ?_ | refine wpB_one rfl _ _ (.slice _ _ _) rfl rfl rfl hL ?_ | refine wpB_one rfl _ _ (.bool _) rfl rfl rfl hL ?_ | refine wpB_one rfl _ _ (.pointer _) rfl rfl rfl hL ?_ | refine wpB_one rfl _ _ (.func _ _ _) rfl rfl rfl hL ?_) | (with_reducible first | refine wpH_max rfl _ _ _ _ rfl _ _ rfl rfl ?_ | refine wpH_min rfl _ _ _ _ rfl _ _ rfl rfl ?_) | ((with_reducible refine wpA_load rfl _ _ rfl _ rfl ?_); first | refine loadA hL ?_ | refine loadR hL ?_ | refine loadC hL ?_ | refine loadD ?_ | refine loadE hL ?_ | refine loadF ?_) | ((with_reducible refine wpA_index rfl _ _ _ rfl _ rfl _ rfl ?_); first | (refine indexA ?_; try rw [Int.toNat_natCast]) | refine indexC ?_) | ((with_reducible refine wpA_store rfl _ _ _ rfl _ rfl (.agg _) rfl ?_); refine storeR hL ?_; clear hL; intro _ hL) | ((with_reducible first | refine wpA_store rfl _ _ _ rfl _ rfl (.int _ _) rfl ?_ | refine wpA_store rfl _ _ _ rfl _ rfl (.slice _ _ _) rfl ?_ | refine wpA_store rfl _ _ _ rfl _ rfl (.bool _) rfl ?_ | refine wpA_store rfl _ _ _ rfl _ rfl (.pointer _) rfl ?_ | refine wpA_store rfl _ _ _ rfl _ rfl (.func _ _ _) rfl ?_); (first | refine storeA hL ?_ | refine storeO hL ?_); (clear hL; intro _ hL)) | ((with_reducible refine wpA_lit rfl _ _ _ rfl ?_); first | refine litA1 hL ?_ | refine litA2 hL ?_ | refine litA3 hL ?_ | refine litA4 hL ?_ | refine litA6 hL ?_) | ((with_reducible refine wpA_append rfl _ _ _ rfl (.slice _ _ _) rfl ?_); intro vq hvq; simp [go_sem] at hvq; subst hvq; refine appendA hL ?_; clear hL; intro _ _ _ hL; try dsimp only at hL) | ((with_reducible refine wpA_make rfl _ _ _ rfl _ rfl rfl ?_); refine makeA hL ?_))
  go_ret
  exact ⟨rfl, hL.below⟩

/-! the document's -/
theorem refSgn_calls (p : Int) (w : World) : Calls Try.prog 92 #[.int .i64 p] w fun e w' => e = .returned (.int .i64 (sgn p)) ∧ w = w' := by
  rcases (by omega : p < 0 ∨ p = 0 ∨ 0 < p) with h | h | h
  · go_enter Try.func92, Try.ntmps92
    go_wp2
    go_ret
    exact ⟨ret_int (by unfold sgn; rw [if_pos h]), rfl⟩
  · subst h
    go_enter Try.func92, Try.ntmps92
    go_wp2
    go_ret
    exact ⟨ret_int (by unfold sgn; rfl), rfl⟩
  · go_enter Try.func92, Try.ntmps92
    go_wp2
    go_ret
    exact ⟨ret_int (by unfold sgn; rw [if_neg (by omega), if_pos h]), rfl⟩
theorem cmp_words (ah al bh bl : Int) (h1 : 0 ≤ al) (h2 : al < 18446744073709551616) (h3 : 0 ≤ bl) (h4 : bl < 18446744073709551616) : cmpI (ah * 18446744073709551616 + al) (bh * 18446744073709551616 + bl) = if ah < bh ∨ (ah = bh ∧ al < bl) then -1 else if ah = bh ∧ al = bl then 0 else 1 := by
  unfold cmpI
  (repeat' split) <;> omega
set_option maxRecDepth 100000 in
set_option maxHeartbeats 1000000 in
theorem refCmp_calls (ah al bh bl : Int) (h1 : 0 ≤ al) (h2 : al < 18446744073709551616) (h3 : 0 ≤ bl) (h4 : bl < 18446744073709551616) (w : World) :
    Calls Try.prog 100 #[.agg #[.int .u64 ah, .int .u64 al], .agg #[.int .u64 bh, .int .u64 bl]] w fun e w' => e = .returned (.int .i64 (cmpI (ah * 18446744073709551616 + al) (bh * 18446744073709551616 + bl))) ∧ Below w.heap.size w w' := by
  have HQ := Lib.hid (cmp_words ah al bh bl h1 h2 h3 h4)
  generalize cmpI (ah * 18446744073709551616 + al) (bh * 18446744073709551616 + bl) = r at *
  have hL := Holds.start w
  rcases (by omega : ah < bh ∨ (ah = bh ∧ al < bl) ∨ (ah = bh ∧ al = bl) ∨ (ah = bh ∧ bl < al) ∨ bh < ah) with g | ⟨g, g2⟩ | ⟨g, g2⟩ | ⟨g, g2⟩ | g
  all_goals
    try subst g
    try subst g2
    try (have d1 : (al == bl) = false := by simp; omega)
    try (have d2 : (ah == bh) = false := by simp; omega)
    try (have d3 : decide (ah < bh) = false := by simp; omega)
    try (have d4 : decide (al < bl) = false := by simp; omega)
    have n1 : True := trivial; have n2 : True := trivial
    go_enter Try.func100, Try.ntmps100
    go_wp2_with (first | (first | (clear hL n1; with_reducible intro b1 w1 hL) | (clear hL n2; with_reducible intro b2 w2 hL) | (clear hL; with_reducible intro _ _ hL)) | (with_reducible refine wpC_alloc rfl _ rfl _ _ inferInstance hL ?_) | (with_reducible first | refine wpB_agg rfl _ _ _ rfl rfl hL ?_ | refine wpB_one rfl _ _ (.int _ _) rfl rfl rfl hL ?_ | refine wpB_one rfl _ _ (.slice _ _ _) rfl rfl rfl hL ?_ | refine wpB_one rfl _ _ (.bool _) rfl rfl rfl hL ?_ | refine wpB_one rfl _ _ (.pointer _) rfl rfl rfl hL ?_ | refine wpB_one rfl _ _ (.func _ _ _) rfl rfl rfl hL ?_) | (with_reducible first | refine wpH_max rfl _ _ _ _ rfl _ _ rfl rfl ?_ | refine wpH_min rfl _ _ _ _ rfl _ _ rfl rfl ?_) | ((with_reducible refine wpA_load rfl _ _ rfl _ rfl ?_); first | refine loadA hL ?_ | refine loadR hL ?_ | refine loadC hL ?_ | refine loadD ?_ | refine loadE hL ?_ | refine loadF ?_) | ((with_reducible refine wpA_index rfl _ _ _ rfl _ rfl _ rfl ?_); first | (refine indexA ?_; try rw [Int.toNat_natCast]) | refine indexC ?_) | ((with_reducible refine wpA_store rfl _ _ _ rfl _ rfl (.agg _) rfl ?_); refine storeR hL ?_; clear hL; intro _ hL) | ((with_reducible first | refine wpA_store rfl _ _ _ rfl _ rfl (.int _ _) rfl ?_ | refine wpA_store rfl _ _ _ rfl _ rfl (.slice _ _ _) rfl ?_ | refine wpA_store rfl _ _ _ rfl _ rfl (.bool _) rfl ?_ | refine wpA_store rfl _ _ _ rfl _ rfl (.pointer _) rfl ?_ | refine wpA_store rfl _ _ _ rfl _ rfl (.func _ _ _) rfl ?_); (first | refine storeA hL ?_ | refine storeO hL ?_); (clear hL; intro _ hL)) | ((with_reducible refine wpA_lit rfl _ _ _ rfl ?_); first | refine litA1 hL ?_ | refine litA2 hL ?_ | refine litA3 hL ?_ | refine litA4 hL ?_ | refine litA6 hL ?_) | ((with_reducible refine wpA_append rfl _ _ _ rfl (.slice _ _ _) rfl ?_); intro vq hvq; simp [go_sem] at hvq; subst hvq; refine appendA hL ?_; clear hL; intro _ _ _ hL; try dsimp only at hL) | ((with_reducible refine wpA_make rfl _ _ _ rfl _ rfl rfl ?_); refine makeA hL ?_))
  all_goals
    go_ret
    exact ⟨ret_int (by have hq := HQ.out; (try simp only [true_and, and_true, Int.lt_irrefl, false_or, or_false, if_true, if_false] at hq); (try simp only [if_true, if_false] at hq); first | exact hq.symm | (rw [hq]; (repeat' split) <;> omega)), hL.below⟩

set_option maxRecDepth 100000 in
set_option maxHeartbeats 1000000 in
/-- a product against a number of two words -/
theorem refCmpTimes_calls (x n yh yl : Int) (hx0 : 0 ≤ x) (hx : x < 18446744073709551616) (hn0 : 0 ≤ n) (hn : n < 18446744073709551616) (h3 : 0 ≤ yl) (h4 : yl < 18446744073709551616) (w : World) :
    Calls Try.prog 95 #[.agg #[.int .u64 0, .int .u64 x], .int .u64 n, .agg #[.int .u64 yh, .int .u64 yl]] w fun e w' => e = .returned (.int .i64 (cmpI (x * n) (yh * 18446744073709551616 + yl))) ∧ Below w.heap.size w w' := by
  have HT := Lib.hid (fun w => times_calls x n hx0 hx hn0 hn w)
  have h0 := fun w => times_calls 0 n (by omega) (by omega) hn0 hn w
  rw [Int.zero_mul] at h0
  have H0 := Lib.hid h0
  clear h0
  have l0 := Int.emod_nonneg (x * n) (show (18446744073709551616 : Int) ≠ 0 by omega)
  have l1 := Int.emod_lt_of_pos (x * n) (show (0 : Int) < 18446744073709551616 by omega)
  have hC := fun w => refCmp_calls (x * n / 18446744073709551616) (x * n % 18446744073709551616) yh yl l0 l1 h3 h4 w
  rw [show x * n / 18446744073709551616 * 18446744073709551616 + x * n % 18446744073709551616 = x * n by omega] at hC
  have HC := Lib.hid hC
  have hz : 0 ≤ x * n / 18446744073709551616 ∧ x * n / 18446744073709551616 < 18446744073709551616 := by
    have := mul_bd (a := x) (b := n) (A := 18446744073709551615) (B := 18446744073709551615) (by omega) (by omega) (by omega) (by omega)
    have := Int.mul_nonneg hx0 hn0
    omega
  obtain ⟨z0, z1⟩ := hz
  clear hC
  generalize cmpI (x * n) (yh * 18446744073709551616 + yl) = r at *
  generalize x * n / 18446744073709551616 = hi at *
  generalize x * n % 18446744073709551616 = lo at *
  have hL := Holds.start w
  have n1 : True := trivial; have n2 : True := trivial; have n3 : True := trivial; have n4 : True := trivial
  go_enter Try.func95, Try.ntmps95
  go_wp2_with (first | (go_at_call 93; (first | ((with_reducible refine (HT.out _).mono ?_); rintro e _ ⟨rfl, hb⟩; replace hL := hL.call hb; clear hb) | ((with_reducible refine (H0.out _).mono ?_); rintro e _ ⟨rfl, hb⟩; replace hL := hL.call hb; clear hb; try simp only [Int.zero_ediv, Int.zero_emod]))) | (go_at_call 100; (with_reducible refine (HC.out _).mono ?_); rintro e _ ⟨rfl, hb⟩; replace hL := hL.call hb; clear hb) | (first | (clear hL n1; with_reducible intro b1 w1 hL) | (clear hL n2; with_reducible intro b2 w2 hL) | (clear hL n3; with_reducible intro b3 w3 hL) | (clear hL n4; with_reducible intro b4 w4 hL) | (clear hL; with_reducible intro _ _ hL)) | (with_reducible refine wpC_alloc rfl _ rfl _ _ inferInstance hL ?_) | (with_reducible first | refine wpB_agg rfl _ _ _ rfl rfl hL ?_ | refine wpB_one rfl _ _ (.int _ _) rfl rfl rfl hL ?_ | refine wpB_one rfl _ _ (.slice _ _ _) rfl rfl rfl hL ?_ | refine wpB_one rfl _ _ (.bool _) rfl rfl rfl hL ?_ | refine wpB_one rfl _ _ (.pointer _) rfl rfl rfl hL ?_ | refine wpB_one rfl _ _ (.func _ _ _) rfl rfl rfl hL ?_) | (with_reducible first | refine wpH_max rfl _ _ _ _ rfl _ _ rfl rfl ?_ | refine wpH_min rfl _ _ _ _ rfl _ _ rfl rfl ?_) | ((with_reducible refine wpA_load rfl _ _ rfl _ rfl ?_); first | refine loadA hL ?_ | refine loadR hL ?_ | refine loadC hL ?_ | refine loadD ?_ | refine loadE hL ?_ | refine loadF ?_) | ((with_reducible refine wpA_index rfl _ _ _ rfl _ rfl _ rfl ?_); first | (refine indexA ?_; try rw [Int.toNat_natCast]) | refine indexC ?_) | ((with_reducible refine wpA_store rfl _ _ _ rfl _ rfl (.agg _) rfl ?_); refine storeR hL ?_; clear hL; intro _ hL) | ((with_reducible first | refine wpA_store rfl _ _ _ rfl _ rfl (.int _ _) rfl ?_ | refine wpA_store rfl _ _ _ rfl _ rfl (.slice _ _ _) rfl ?_ | refine wpA_store rfl _ _ _ rfl _ rfl (.bool _) rfl ?_ | refine wpA_store rfl _ _ _ rfl _ rfl (.pointer _) rfl ?_ | refine wpA_store rfl _ _ _ rfl _ rfl (.func _ _ _) rfl ?_); (first | refine storeA hL ?_ | refine storeO hL ?_); (clear hL; intro _ hL)) | ((with_reducible refine wpA_lit rfl _ _ _ rfl ?_); first | refine litA1 hL ?_ | refine litA2 hL ?_ | refine litA3 hL ?_ | refine litA4 hL ?_ | refine litA6 hL ?_) | ((with_reducible refine wpA_append rfl _ _ _ rfl (.slice _ _ _) rfl ?_); intro vq hvq; simp [go_sem] at hvq; subst hvq; refine appendA hL ?_; clear hL; intro _ _ _ hL; try dsimp only at hL) | ((with_reducible refine wpA_make rfl _ _ _ rfl _ rfl rfl ?_); refine makeA hL ?_))
  go_ret
  exact ⟨rfl, hL.below⟩
end Go.Proofs.Ytneddfiohekhiaa
