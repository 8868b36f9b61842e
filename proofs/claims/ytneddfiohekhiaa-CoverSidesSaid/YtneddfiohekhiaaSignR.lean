/- The document's sign of p + q times the root of d. -/
import Derived.Test.YtneddfiohekhiaaSign
-- lit6
namespace Go.Proofs.Ytneddfiohekhiaa
open Go.RowKit

theorem sgR_zero (p q : Int) : sgR p q 0 = sgn p := by
  have h0 : sgn 0 = 0 := rfl
  rw [sgR_eq, h0, Int.mul_zero]
  (repeat' split) <;> omega
theorem sgR_pos (p q : Int) {d : Int} (h : 0 < d) : sgR p q d = if sgn p = 0 ∨ sgn p = sgn q then sgn q else if sgn q = 0 then sgn p else sgn p * cmpI (p * p) (q * q * d) := by
  have h0 : sgn d = 1 := by unfold sgn; rw [if_neg (by omega), if_pos h]
  rw [sgR_eq, h0, Int.mul_one]
theorem cmpI_swap (x y : Int) : cmpI y x = -cmpI x y := by unfold cmpI; (repeat' split) <;> omega
theorem sgn_sgn (a : Int) (h : -1 ≤ a ∧ a ≤ 1) : sgn a = a := by unfold sgn; (repeat' split) <;> omega
theorem absI_sq (q : Int) : absI q * absI q = q * q := absI_mul (by omega)

set_option maxRecDepth 100000 in
set_option maxHeartbeats 2000000 in
theorem refSign_calls (p q d : Int) (hf : Fit p q d) (w : World) : Calls Try.prog 87 #[.int .i64 p, .int .i64 q, .int .i64 d] w fun e w' => e = .returned (.int .i64 (sgR p q d)) ∧ Below w.heap.size w w' := by
  obtain ⟨p0, p1, q0, q1, d0, d1⟩ := hf
  have hL := Holds.start w
  have hb1 := sgn_bd p
  have hb2 := sgn_bd q
  have HP := Lib.hid (fun w => refSgn_calls p w)
  have HQ := Lib.hid (fun w => refSgn_calls q w)
  have HS := Lib.hid (fun a w => refSgn_calls a w)
  have HN := Lib.hid sgn_sgn
  rcases (by omega : d = 0 ∨ 0 < d) with hd | hd
  · subst hd
    have HR := Lib.hid (sgR_zero p q)
    generalize sgR p q 0 = R at *
    generalize sgn p = a at *
    generalize sgn q = x at *
    obtain ⟨b1, b2⟩ := hb1
    obtain ⟨b3, b4⟩ := hb2
    go_enter Try.func87, Try.ntmps87
    go_wp2_with (first | (go_at_call 92; (first | ((with_reducible refine (HP.out _).mono ?_); rintro e _ ⟨rfl, rfl⟩) | ((with_reducible refine (HQ.out _).mono ?_); rintro e _ ⟨rfl, rfl⟩) | ((with_reducible refine (HS.out _ _).mono ?_); rintro e _ ⟨rfl, rfl⟩; rw [HN.out _ (by omega)]))) | ((clear hL; with_reducible intro _ _ hL)) | (with_reducible refine wpC_alloc rfl _ rfl _ _ inferInstance hL ?_) | (with_reducible first | refine wpB_agg rfl _ _ _ rfl rfl hL ?_ | refine wpB_one rfl _ _ (.int _ _) rfl rfl rfl hL ?_ | refine wpB_one rfl _ _ (.slice _ _ _) rfl rfl rfl hL ?_ | refine wpB_one rfl _ _ (.bool _) rfl rfl rfl hL ?_ | refine wpB_one rfl _ _ (.pointer _) rfl rfl rfl hL ?_ | refine wpB_one rfl _ _ (.func _ _ _) rfl rfl rfl hL ?_) | (with_reducible first | refine wpH_max rfl _ _ _ _ rfl _ _ rfl rfl ?_ | refine wpH_min rfl _ _ _ _ rfl _ _ rfl rfl ?_) | ((with_reducible refine wpA_load rfl _ _ rfl _ rfl ?_); first | refine loadA hL ?_ | refine loadR hL ?_ | refine loadC hL ?_ | refine loadD ?_ | refine loadE hL ?_ | refine loadF ?_) | ((with_reducible refine wpA_index rfl _ _ _ rfl _ rfl _ rfl ?_); first | (refine indexA ?_; try rw [Int.toNat_natCast]) | refine indexC ?_) | ((with_reducible refine wpA_store rfl _ _ _ rfl _ rfl (.agg _) rfl ?_); refine storeR hL ?_; clear hL; intro _ hL) | ((with_reducible first | refine wpA_store rfl _ _ _ rfl _ rfl (.int _ _) rfl ?_ | refine wpA_store rfl _ _ _ rfl _ rfl (.slice _ _ _) rfl ?_ | refine wpA_store rfl _ _ _ rfl _ rfl (.bool _) rfl ?_ | refine wpA_store rfl _ _ _ rfl _ rfl (.pointer _) rfl ?_ | refine wpA_store rfl _ _ _ rfl _ rfl (.func _ _ _) rfl ?_); (first | refine storeA hL ?_ | refine storeO hL ?_); (clear hL; intro _ hL)) | ((with_reducible refine wpA_lit rfl _ _ _ rfl ?_); first | refine litA1 hL ?_ | refine litA2 hL ?_ | refine litA3 hL ?_ | refine litA4 hL ?_ | refine litA6 hL ?_) | ((with_reducible refine wpA_append rfl _ _ _ rfl (.slice _ _ _) rfl ?_); intro vq hvq; simp [go_sem] at hvq; subst hvq; refine appendA hL ?_; clear hL; intro _ _ _ hL; try dsimp only at hL) | ((with_reducible refine wpA_make rfl _ _ _ rfl _ rfl rfl ?_); refine makeA hL ?_))
    all_goals
      go_ret
      exact ⟨ret_int (by have := HR.out; omega), hL.below⟩
  · have HR := Lib.hid (sgR_pos p q hd)
    generalize sgR p q d = R at *
    obtain ⟨k1, k2⟩ := sq_bd q0 q1
    have hq1 := fun w => times_calls (absI q) (absI q) (absI_nn q) (absI_bd (by omega) (by omega)) (absI_nn q) (absI_bd (by omega) (by omega)) w
    rw [absI_sq, show q * q / 18446744073709551616 = 0 by omega, show q * q % 18446744073709551616 = q * q by omega] at hq1
    have hp1 := fun w => times_calls (absI p) (absI p) (absI_nn p) (absI_bd (by omega) (by omega)) (absI_nn p) (absI_bd (by omega) (by omega)) w
    rw [absI_sq] at hp1
    have l0 := Int.emod_nonneg (p * p) (show (18446744073709551616 : Int) ≠ 0 by omega)
    have l1 := Int.emod_lt_of_pos (p * p) (show (0 : Int) < 18446744073709551616 by omega)
    have hc1 := fun w => refCmpTimes_calls (q * q) d (p * p / 18446744073709551616) (p * p % 18446744073709551616) k1 (by omega) d0 (by omega) l0 l1 w
    rw [show p * p / 18446744073709551616 * 18446744073709551616 + p * p % 18446744073709551616 = p * p by omega] at hc1
    have HTQ := Lib.hid hq1; have HTP := Lib.hid hp1; have HC := Lib.hid hc1
    have HAQ := Lib.hid (fun w => refAbs_calls q (by omega) (by omega) w)
    have HAP := Lib.hid (fun w => refAbs_calls p (by omega) (by omega) w)
    clear hq1 hp1 hc1 l0 l1 k1 k2
    obtain ⟨m3, m4⟩ := mul1_bd hb2 (cmpI_bd (q * q * d) (p * p))
    have HK := Lib.hid (show sgn p = -sgn q → sgn q * cmpI (q * q * d) (p * p) = sgn p * cmpI (p * p) (q * q * d) from fun h => by rw [h, cmpI_swap (p * p)]; grind)
    generalize sgn p = a at *
    generalize sgn q = x at *
    generalize cmpI (p * p) (q * q * d) = r at *
    generalize cmpI (q * q * d) (p * p) = r2 at *
    generalize absI q = aq at *
    generalize absI p = ap at *
    generalize q * q = qq at *
    generalize p * p / 18446744073709551616 = ph at *
    generalize p * p % 18446744073709551616 = pl at *
    obtain ⟨b1, b2⟩ := hb1
    obtain ⟨b3, b4⟩ := hb2
    have de : (d == 0) = false := by simp; omega
    have n1 : True := trivial; have n2 : True := trivial
    go_enter Try.func87, Try.ntmps87
    go_wp2_with (first | (go_at_call 92; (first | ((with_reducible refine (HP.out _).mono ?_); rintro e _ ⟨rfl, rfl⟩) | ((with_reducible refine (HQ.out _).mono ?_); rintro e _ ⟨rfl, rfl⟩) | ((with_reducible refine (HS.out _ _).mono ?_); rintro e _ ⟨rfl, rfl⟩))) | (go_at_call 94; (first | ((with_reducible refine (HAQ.out _).mono ?_); rintro e _ ⟨rfl, rfl⟩) | ((with_reducible refine (HAP.out _).mono ?_); rintro e _ ⟨rfl, rfl⟩))) | (go_at_call 93; (first | ((with_reducible refine (HTQ.out _).mono ?_); rintro e _ ⟨rfl, hb⟩; replace hL := hL.call hb; clear hb) | ((with_reducible refine (HTP.out _).mono ?_); rintro e _ ⟨rfl, hb⟩; replace hL := hL.call hb; clear hb))) | (go_at_call 95; (with_reducible refine (HC.out _).mono ?_); rintro e _ ⟨rfl, hb⟩; replace hL := hL.call hb; clear hb) | (first | (clear hL n1; with_reducible intro b1 w1 hL) | (clear hL n2; with_reducible intro b2 w2 hL) | (clear hL; with_reducible intro _ _ hL)) | (with_reducible refine wpC_alloc rfl _ rfl _ _ inferInstance hL ?_) | (with_reducible first | refine wpB_agg rfl _ _ _ rfl rfl hL ?_ | refine wpB_one rfl _ _ (.int _ _) rfl rfl rfl hL ?_ | refine wpB_one rfl _ _ (.slice _ _ _) rfl rfl rfl hL ?_ | refine wpB_one rfl _ _ (.bool _) rfl rfl rfl hL ?_ | refine wpB_one rfl _ _ (.pointer _) rfl rfl rfl hL ?_ | refine wpB_one rfl _ _ (.func _ _ _) rfl rfl rfl hL ?_) | (with_reducible first | refine wpH_max rfl _ _ _ _ rfl _ _ rfl rfl ?_ | refine wpH_min rfl _ _ _ _ rfl _ _ rfl rfl ?_) | ((with_reducible refine wpA_load rfl _ _ rfl _ rfl ?_); first | refine loadA hL ?_ | refine loadR hL ?_ | refine loadC hL ?_ | refine loadD ?_ | refine loadE hL ?_ | refine loadF ?_) | ((with_reducible refine wpA_index rfl _ _ _ rfl _ rfl _ rfl ?_); first | (refine indexA ?_; try rw [Int.toNat_natCast]) | refine indexC ?_) | ((with_reducible refine wpA_store rfl _ _ _ rfl _ rfl (.agg _) rfl ?_); refine storeR hL ?_; clear hL; intro _ hL) | ((with_reducible first | refine wpA_store rfl _ _ _ rfl _ rfl (.int _ _) rfl ?_ | refine wpA_store rfl _ _ _ rfl _ rfl (.slice _ _ _) rfl ?_ | refine wpA_store rfl _ _ _ rfl _ rfl (.bool _) rfl ?_ | refine wpA_store rfl _ _ _ rfl _ rfl (.pointer _) rfl ?_ | refine wpA_store rfl _ _ _ rfl _ rfl (.func _ _ _) rfl ?_); (first | refine storeA hL ?_ | refine storeO hL ?_); (clear hL; intro _ hL)) | ((with_reducible refine wpA_lit rfl _ _ _ rfl ?_); first | refine litA1 hL ?_ | refine litA2 hL ?_ | refine litA3 hL ?_ | refine litA4 hL ?_ | refine litA6 hL ?_) | ((with_reducible refine wpA_append rfl _ _ _ rfl (.slice _ _ _) rfl ?_); intro vq hvq; simp [go_sem] at hvq; subst hvq; refine appendA hL ?_; clear hL; intro _ _ _ hL; try dsimp only at hL) | ((with_reducible refine wpA_make rfl _ _ _ rfl _ rfl rfl ?_); refine makeA hL ?_))
    all_goals
      try simp only [beq_iff_eq, beq_eq_false_iff_ne, ne_eq] at *
    all_goals
      go_ret
      refine ⟨ret_int ?_, hL.below⟩
      rw [HR.out]
      first
      | (rw [if_neg (by omega), if_neg (by omega)]; exact HK.out (by omega))
      | (unfold sgn; (repeat' split) <;> omega)
end Go.Proofs.Ytneddfiohekhiaa
