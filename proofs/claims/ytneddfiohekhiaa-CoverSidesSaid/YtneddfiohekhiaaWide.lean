/- Products of two words. -/
import Derived.Test.YtneddfiohekhiaaBow
import Derived.Laws.MathBits
namespace Go.Proofs.Ytneddfiohekhiaa
open Go.RowKit

theorem and_low (z : Int) : bits .and .u64 (z % 18446744073709551616) 4294967295 = z % 18446744073709551616 % 4294967296 :=
  and_low32 _ (Int.emod_nonneg _ (by omega)) (Int.emod_lt_of_pos _ (by omega))
theorem or_low (z y : Int) : bits .or .u64 (z * 4294967296 % 18446744073709551616) (y % 4294967296) = z % 4294967296 * 4294967296 + y % 4294967296 := by
  have h1 : z * 4294967296 % 18446744073709551616 = z % 4294967296 * 4294967296 := by omega
  have a0 := Int.emod_nonneg z (show (4294967296 : Int) ≠ 0 by omega)
  have a1 := Int.emod_lt_of_pos z (show (0 : Int) < 4294967296 by omega)
  have b0 := Int.emod_nonneg y (show (4294967296 : Int) ≠ 0 by omega)
  have b1 := Int.emod_lt_of_pos y (show (0 : Int) < 4294967296 by omega)
  rw [h1]
  generalize z % 4294967296 = a at *
  generalize y % 4294967296 = b at *
  obtain ⟨m, rfl⟩ := Int.eq_ofNat_of_zero_le a0
  obtain ⟨n, rfl⟩ := Int.eq_ofNat_of_zero_le b0
  rw [u64_or _ _ (by omega) (by omega) (by omega) (by omega)]
  have e1 : ((m : Int) * 4294967296).toNat = 2 ^ 32 * m := by omega
  rw [e1, Int.toNat_natCast, ← Nat.two_pow_add_eq_or_of_lt (i := 32) (by omega)]
  omega
theorem mul64_lo (x y : Int) (hx0 : 0 ≤ x) (hx : x < 18446744073709551616) (hy0 : 0 ≤ y) (hy : y < 18446744073709551616) :
    (((x % 4294967296 * (y / 4294967296)) % 18446744073709551616 +
      (((x / 4294967296 * (y % 4294967296)) % 18446744073709551616 + ((x % 4294967296 * (y % 4294967296)) % 18446744073709551616) / 4294967296) % 18446744073709551616) % 4294967296) % 18446744073709551616) % 4294967296 * 4294967296 +
      ((x % 4294967296 * (y % 4294967296)) % 18446744073709551616) % 4294967296 = x * y % 18446744073709551616 := by
  have ex : x = x / 4294967296 * 4294967296 + x % 4294967296 := by omega
  have ey : y = y / 4294967296 * 4294967296 + y % 4294967296 := by omega
  generalize hx1 : x / 4294967296 = x1 at *
  generalize hx0' : x % 4294967296 = x0 at *
  generalize hy1 : y / 4294967296 = y1 at *
  generalize hy0' : y % 4294967296 = y0 at *
  have b1 : 0 ≤ x1 ∧ x1 ≤ 4294967295 := by omega
  have b2 : 0 ≤ x0 ∧ x0 ≤ 4294967295 := by omega
  have b3 : 0 ≤ y1 ∧ y1 ≤ 4294967295 := by omega
  have b4 : 0 ≤ y0 ∧ y0 ≤ 4294967295 := by omega
  have pA := prod_bound x1 y1 b1.1 b1.2 b3.1 b3.2
  have pB := prod_bound x1 y0 b1.1 b1.2 b4.1 b4.2
  have pC := prod_bound x0 y0 b2.1 b2.2 b4.1 b4.2
  have pD := prod_bound x0 y1 b2.1 b2.2 b3.1 b3.2
  have hxy : x * y = x1 * y1 * 18446744073709551616 + (x1 * y0 + x0 * y1) * 4294967296 + x0 * y0 := by rw [ex, ey]; exact split_mul x1 x0 y1 y0
  rw [hxy]
  generalize x1 * y1 = A at *
  generalize x1 * y0 = B at *
  generalize x0 * y0 = C at *
  generalize x0 * y1 = D at *
  omega
theorem ret_two {a b c d : Int} (h : a = c) (k : b = d) : Ending.returned (.agg #[.int .u64 a, .int .u64 b]) = .returned (.agg #[.int .u64 c, .int .u64 d]) := by rw [h, k]
theorem ret_pair {a b c d : Int} {i j : IntKind} (h : a = c) (k : b = d) : Ending.returned (.tuple #[.int i a, .int j b]) = .returned (.tuple #[.int i c, .int j d]) := by rw [h, k]

set_option maxRecDepth 100000 in
set_option maxHeartbeats 1000000 in
theorem times_calls (a b : Int) (ha0 : 0 ≤ a) (ha : a < 18446744073709551616) (hb0 : 0 ≤ b) (hb : b < 18446744073709551616) (w : World) : Calls Try.prog 93 #[.int .u64 a, .int .u64 b] w fun e w' => e = .returned (.agg #[.int .u64 (a * b / 18446744073709551616), .int .u64 (a * b % 18446744073709551616)]) ∧ Below w.heap.size w w' := by
  have hL := Holds.start w
  have n1 : True := trivial
  go_enter Try.func93, Try.ntmps93
  go_wp2_with (first | (first | (clear hL n1; with_reducible intro b1 w1 hL) | (clear hL; with_reducible intro _ _ hL)) | (with_reducible refine wpC_alloc rfl _ rfl _ _ inferInstance hL ?_) | (with_reducible first | refine wpB_agg rfl _ _ _ rfl rfl hL ?_ | refine wpB_one rfl _ _ (.int _ _) rfl rfl rfl hL ?_ | refine wpB_one rfl _ _ (.slice _ _ _) rfl rfl rfl hL ?_ | refine wpB_one rfl _ _ (.bool _) rfl rfl rfl hL ?_ | refine wpB_one rfl _ _ (.pointer _) rfl rfl rfl hL ?_ | refine wpB_one rfl _ _ (.func _ _ _) rfl rfl rfl hL ?_) | (with_reducible first | refine wpH_max rfl _ _ _ _ rfl _ _ rfl rfl ?_ | refine wpH_min rfl _ _ _ _ rfl _ _ rfl rfl ?_) | ((with_reducible refine wpA_load rfl _ _ rfl _ rfl ?_); first | refine loadA hL ?_ | refine loadR hL ?_ | refine loadC hL ?_ | refine loadD ?_ | refine loadE hL ?_ | refine loadF ?_) | ((with_reducible refine wpA_index rfl _ _ _ rfl _ rfl _ rfl ?_); first | (refine indexA ?_; try rw [Int.toNat_natCast]) | refine indexC ?_) | ((with_reducible refine wpA_store rfl _ _ _ rfl _ rfl (.agg _) rfl ?_); refine storeR hL ?_; clear hL; intro _ hL) | ((with_reducible first | refine wpA_store rfl _ _ _ rfl _ rfl (.int _ _) rfl ?_ | refine wpA_store rfl _ _ _ rfl _ rfl (.slice _ _ _) rfl ?_ | refine wpA_store rfl _ _ _ rfl _ rfl (.bool _) rfl ?_ | refine wpA_store rfl _ _ _ rfl _ rfl (.pointer _) rfl ?_ | refine wpA_store rfl _ _ _ rfl _ rfl (.func _ _ _) rfl ?_); (first | refine storeA hL ?_ | refine storeO hL ?_); (clear hL; intro _ hL)) | ((with_reducible refine wpA_lit rfl _ _ _ rfl ?_); first | refine litA1 hL ?_ | refine litA2 hL ?_) | ((with_reducible refine wpA_append rfl _ _ _ rfl (.slice _ _ _) rfl ?_); intro vq hvq; simp [go_sem] at hvq; subst hvq; refine appendA hL ?_; clear hL; intro _ _ _ hL; try dsimp only at hL) | ((with_reducible refine wpA_make rfl _ _ _ rfl _ rfl rfl ?_); refine makeA hL ?_))
  refine bodyPost_ret (results_row inferInstance rfl _ hL b1 rfl _ _ .here rfl) rfl ⟨ret_two ?_ ?_, hL.below⟩
  · simp only [and_low32 a ha0 ha, and_low32 b hb0 hb, IntKind.wrap_u64, and_low]
    rw [← mul64_arith a b ha0 ha hb0 hb]
    omega
  · simp only [and_low32 a ha0 ha, and_low32 b hb0 hb, IntKind.wrap_u64, and_low]
    rw [or_low, ← mul64_lo a b ha0 ha hb0 hb]

/-- the size of a number -/
def absI (a : Int) : Int := if a < 0 then -a else a
theorem refAbs_calls (a : Int) (h0 : -9223372036854775807 ≤ a) (h1 : a ≤ 9223372036854775807) (w : World) : Calls Try.prog 94 #[.int .i64 a] w fun e w' => e = .returned (.int .u64 (absI a)) ∧ w = w' := by
  rcases (by omega : a < 0 ∨ ¬ a < 0) with h | h
  · go_enter Try.func94, Try.ntmps94
    go_wp2
    go_ret
    exact ⟨ret_int (by unfold absI; split <;> (try simp only [IntKind.wrap_u64, IntKind.wrap_i64]) <;> omega), rfl⟩
  · go_enter Try.func94, Try.ntmps94
    go_wp2
    go_ret
    exact ⟨ret_int (by unfold absI; split <;> omega), rfl⟩
theorem wideSize_calls (a : Int) (h0 : -9223372036854775807 ≤ a) (h1 : a ≤ 9223372036854775807) (w : World) : Calls Try.prog 103 #[.int .i64 a] w fun e w' => e = .returned (.int .u64 (absI a)) ∧ w = w' := by
  rcases (by omega : a < 0 ∨ ¬ a < 0) with h | h
  · go_enter Try.func103, Try.ntmps103
    go_wp2
    go_ret
    exact ⟨ret_int (by unfold absI; split <;> (try simp only [IntKind.wrap_u64, IntKind.wrap_i64]) <;> omega), rfl⟩
  · go_enter Try.func103, Try.ntmps103
    go_wp2
    go_ret
    exact ⟨ret_int (by unfold absI; split <;> omega), rfl⟩
end Go.Proofs.Ytneddfiohekhiaa
