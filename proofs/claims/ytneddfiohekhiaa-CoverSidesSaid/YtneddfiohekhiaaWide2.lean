/- Package wide: products compared. -/
import Derived.Test.YtneddfiohekhiaaWide
import Derived.Test.YtneddfiohekhiaaSteps
namespace Go.Proofs.Ytneddfiohekhiaa
open Go.RowKit

theorem product_arith {a1 a0 b1 b0 p0 p1 p2 p3 x y : Int} (hx : x = a1 * 4294967296 + a0) (hy : y = b1 * 4294967296 + b0) (h0 : p0 = a0 * b0) (h1 : p1 = a1 * b0) (h2 : p2 = a0 * b1) (h3 : p3 = a1 * b1) : x * y = p3 * 18446744073709551616 + (p1 + p2) * 4294967296 + p0 := by
  subst hx hy h0 h1 h2 h3
  exact split_mul a1 a0 b1 b0

set_option maxRecDepth 100000 in
set_option maxHeartbeats 4000000 in
theorem product_calls (a b : Int) (ha0 : 0 ≤ a) (ha : a < 18446744073709551616) (hb0 : 0 ≤ b) (hb : b < 18446744073709551616) (w : World) : Calls Try.prog 102 #[.int .u64 a, .int .u64 b] w fun e w' => e = .returned (.tuple #[.int .u64 (a * b / 18446744073709551616), .int .u64 (a * b % 18446744073709551616)]) ∧ Below w.heap.size w w' := by
  have hL := Holds.start w
  have ea := and_low32 a ha0 ha
  have eb := and_low32 b hb0 hb
  have ex : a = a / 4294967296 * 4294967296 + a % 4294967296 := by omega
  have ey : b = b / 4294967296 * 4294967296 + b % 4294967296 := by omega
  have b1' : 0 ≤ a / 4294967296 ∧ a / 4294967296 ≤ 4294967295 := by omega
  have b2' : 0 ≤ a % 4294967296 ∧ a % 4294967296 ≤ 4294967295 := by omega
  have b3' : 0 ≤ b / 4294967296 ∧ b / 4294967296 ≤ 4294967295 := by omega
  have b4' : 0 ≤ b % 4294967296 ∧ b % 4294967296 ≤ 4294967295 := by omega
  obtain ⟨qA0, qA⟩ := prod_bound _ _ b1'.1 b1'.2 b3'.1 b3'.2
  obtain ⟨qB0, qB⟩ := prod_bound _ _ b1'.1 b1'.2 b4'.1 b4'.2
  obtain ⟨qC0, qC⟩ := prod_bound _ _ b2'.1 b2'.2 b4'.1 b4'.2
  obtain ⟨qD0, qD⟩ := prod_bound _ _ b2'.1 b2'.2 b3'.1 b3'.2
  have eB := and_low32 _ qB0 (by omega)
  have eC := and_low32 _ qC0 (by omega)
  have eD := and_low32 _ qD0 (by omega)
  have HX := Lib.hid (product_arith ex ey rfl rfl rfl rfl)
  clear ex ey b1' b2' b3' b4'
  have n1 : True := trivial
  go_enter Try.func102, Try.ntmps102
  go_wp2_with (first | (first | (clear hL n1; with_reducible intro b1 w1 hL) | (clear hL; with_reducible intro _ _ hL)) | (with_reducible refine wpC_alloc rfl _ rfl _ _ inferInstance hL ?_) | (with_reducible first | refine wpB_agg rfl _ _ _ rfl rfl hL ?_ | refine wpB_one rfl _ _ (.int _ _) rfl rfl rfl hL ?_ | refine wpB_one rfl _ _ (.slice _ _ _) rfl rfl rfl hL ?_ | refine wpB_one rfl _ _ (.bool _) rfl rfl rfl hL ?_ | refine wpB_one rfl _ _ (.pointer _) rfl rfl rfl hL ?_ | refine wpB_one rfl _ _ (.func _ _ _) rfl rfl rfl hL ?_) | (with_reducible first | refine wpH_max rfl _ _ _ _ rfl _ _ rfl rfl ?_ | refine wpH_min rfl _ _ _ _ rfl _ _ rfl rfl ?_) | ((with_reducible refine wpA_load rfl _ _ rfl _ rfl ?_); first | refine loadA hL ?_ | refine loadR hL ?_ | refine loadC hL ?_ | refine loadD ?_ | refine loadE hL ?_ | refine loadF ?_) | ((with_reducible refine wpA_index rfl _ _ _ rfl _ rfl _ rfl ?_); first | (refine indexA ?_; try rw [Int.toNat_natCast]) | refine indexC ?_) | ((with_reducible refine wpA_store rfl _ _ _ rfl _ rfl (.agg _) rfl ?_); refine storeR hL ?_; clear hL; intro _ hL) | ((with_reducible first | refine wpA_store rfl _ _ _ rfl _ rfl (.int _ _) rfl ?_ | refine wpA_store rfl _ _ _ rfl _ rfl (.slice _ _ _) rfl ?_ | refine wpA_store rfl _ _ _ rfl _ rfl (.bool _) rfl ?_ | refine wpA_store rfl _ _ _ rfl _ rfl (.pointer _) rfl ?_ | refine wpA_store rfl _ _ _ rfl _ rfl (.func _ _ _) rfl ?_); (first | refine storeA hL ?_ | refine storeO hL ?_); (clear hL; intro _ hL)) | ((with_reducible refine wpA_lit rfl _ _ _ rfl ?_); first | refine litA1 hL ?_ | refine litA2 hL ?_) | ((with_reducible refine wpA_append rfl _ _ _ rfl (.slice _ _ _) rfl ?_); intro vq hvq; simp [go_sem] at hvq; subst hvq; refine appendA hL ?_; clear hL; intro _ _ _ hL; try dsimp only at hL) | ((with_reducible refine wpA_make rfl _ _ _ rfl _ rfl rfl ?_); refine makeA hL ?_))
  rename_i wk K0 a0
  generalize a % 4294967296 * (b % 4294967296) = p0 at *
  generalize a / 4294967296 * (b % 4294967296) = p1 at *
  generalize a % 4294967296 * (b / 4294967296) = p2 at *
  generalize a / 4294967296 * (b / 4294967296) = p3 at *
  have hmid : 0 ≤ p0 / 4294967296 + p1 % 4294967296 + p2 % 4294967296 ∧ p0 / 4294967296 + p1 % 4294967296 + p2 % 4294967296 < 18446744073709551616 := by omega
  have HM : Hid (∀ mid, mid = p0 / 4294967296 + p1 % 4294967296 + p2 % 4294967296 → p3 + p1 / 4294967296 + p2 / 4294967296 + mid / 4294967296 = a * b / 18446744073709551616 ∧ mid % 4294967296 * 4294967296 + p0 % 4294967296 = a * b % 18446744073709551616) := Lib.hid (fun mid h => by
    rw [HX.out]; omega)
  have hsmall : a * b < 340282366920938463463374607431768211456 := by
    have := mul_bd (a := a) (b := b) (A := 18446744073709551615) (B := 18446744073709551615) (by omega) (by omega) (by omega) (by omega)
    omega
  have hhi : 0 ≤ p3 + p1 / 4294967296 + p2 / 4294967296 + (p0 / 4294967296 + p1 % 4294967296 + p2 % 4294967296) / 4294967296 ∧ p3 + p1 / 4294967296 + p2 / 4294967296 + (p0 / 4294967296 + p1 % 4294967296 + p2 % 4294967296) / 4294967296 < 18446744073709551616 := by
    have := HX.out
    omega
  have HMm := HM.out _ rfl
  generalize p0 / 4294967296 + p1 % 4294967296 + p2 % 4294967296 = mid at *
  obtain ⟨hi1, hi2⟩ := HMm
  have HI1 := Lib.hid hi1
  have HI2 := Lib.hid hi2
  clear hi1 hi2 HM HX hsmall
  have hw1 : IntKind.u64.wrap (p3 + p1 / 4294967296) = p3 + p1 / 4294967296 := by rw [IntKind.wrap_u64]; omega
  have hw2 : IntKind.u64.wrap (p3 + p1 / 4294967296 + p2 / 4294967296) = p3 + p1 / 4294967296 + p2 / 4294967296 := by rw [IntKind.wrap_u64]; omega
  have hw3 : IntKind.u64.wrap (p3 + p1 / 4294967296 + p2 / 4294967296 + mid / 4294967296) = p3 + p1 / 4294967296 + p2 / 4294967296 + mid / 4294967296 := by rw [IntKind.wrap_u64]; omega
  have hK := (Holds.start wk).drew
  have r0 : wk.cell? ⟨b1, 0, none⟩ = some (.int .u64 p0) := (hL.cell .here).trans rfl
  have r1 : wk.cell? ⟨b1, 1, none⟩ = some (.int .u64 p1) := (hL.cell .here).trans rfl
  have r2 : wk.cell? ⟨b1, 2, none⟩ = some (.int .u64 p2) := (hL.cell .here).trans rfl
  have r3 : wk.cell? ⟨b1, 3, none⟩ = some (.int .u64 p3) := (hL.cell .here).trans rfl
  refine wpH_begin (by kernel_rfl) (fun w' => Below wk.heap.size wk w') ?_
  refine stH (i := 0) (.pointer (some ⟨b1, 3, none⟩)) hK.below ?_ ?_; (· exact fun w' _ => (by go_simp)); simp only [Act.put, List.setIfInBounds_toArray, List.set_cons_zero, List.set_cons_succ]
  refine stH (i := 1) (.int .u64 p3) hK.below ?_ ?_; (· exact fun w' hw => run_loadOp _ _ rfl _ rfl _ (load_cell (cell_later hw r3))); simp only [Act.put, List.setIfInBounds_toArray, List.set_cons_zero, List.set_cons_succ]
  refine stH (i := 2) (.pointer (some ⟨b1, 1, none⟩)) hK.below ?_ ?_; (· exact fun w' _ => (by go_simp)); simp only [Act.put, List.setIfInBounds_toArray, List.set_cons_zero, List.set_cons_succ]
  refine stH (i := 3) (.int .u64 p1) hK.below ?_ ?_; (· exact fun w' hw => run_loadOp _ _ rfl _ rfl _ (load_cell (cell_later hw r1))); simp only [Act.put, List.setIfInBounds_toArray, List.set_cons_zero, List.set_cons_succ]
  refine stH (i := 4) (.int .u64 (p1 / 4294967296)) hK.below ?_ ?_; (· exact fun w' _ => (by go_simp)); simp only [Act.put, List.setIfInBounds_toArray, List.set_cons_zero, List.set_cons_succ]
  refine stH (i := 5) (.int .u64 (p3 + p1 / 4294967296)) hK.below ?_ ?_; (· exact fun w' _ => (by go_simp)); simp only [Act.put, List.setIfInBounds_toArray, List.set_cons_zero, List.set_cons_succ]
  refine stH (i := 6) (.pointer (some ⟨b1, 2, none⟩)) hK.below ?_ ?_; (· exact fun w' _ => (by go_simp)); simp only [Act.put, List.setIfInBounds_toArray, List.set_cons_zero, List.set_cons_succ]
  refine stH (i := 7) (.int .u64 p2) hK.below ?_ ?_; (· exact fun w' hw => run_loadOp _ _ rfl _ rfl _ (load_cell (cell_later hw r2))); simp only [Act.put, List.setIfInBounds_toArray, List.set_cons_zero, List.set_cons_succ]
  as_aux_lemma =>
    refine stH (i := 8) (.int .u64 (p2 / 4294967296)) hK.below ?_ ?_; (· exact fun w' _ => (by go_simp)); simp only [Act.put, List.setIfInBounds_toArray, List.set_cons_zero, List.set_cons_succ]
    refine stH (i := 9) (.int .u64 (p3 + p1 / 4294967296 + p2 / 4294967296)) hK.below ?_ ?_; (· exact fun w' _ => (by go_simp)); simp only [Act.put, List.setIfInBounds_toArray, List.set_cons_zero, List.set_cons_succ]
    refine stH (i := 10) (.int .u64 mid) hK.below ?_ ?_; (· exact fun w' _ => (by go_simp)); simp only [Act.put, List.setIfInBounds_toArray, List.set_cons_zero, List.set_cons_succ]
    refine stH (i := 11) (.int .u64 (mid / 4294967296)) hK.below ?_ ?_; (· exact fun w' _ => (by go_simp)); simp only [Act.put, List.setIfInBounds_toArray, List.set_cons_zero, List.set_cons_succ]
    refine stH (i := 12) (.int .u64 (p3 + p1 / 4294967296 + p2 / 4294967296 + mid / 4294967296)) hK.below ?_ ?_; (· exact fun w' _ => (by go_simp)); simp only [Act.put, List.setIfInBounds_toArray, List.set_cons_zero, List.set_cons_succ]
    refine stH (i := 13) (.int .u64 mid) hK.below ?_ ?_; (· exact fun w' _ => (by go_simp)); simp only [Act.put, List.setIfInBounds_toArray, List.set_cons_zero, List.set_cons_succ]
    refine stH (i := 14) (.int .u64 (IntKind.u64.wrap (mid * 4294967296))) hK.below ?_ ?_; (· exact fun w' _ => (by go_simp)); simp only [Act.put, List.setIfInBounds_toArray, List.set_cons_zero, List.set_cons_succ]
    refine stH (i := 15) (.pointer (some ⟨b1, 0, none⟩)) hK.below ?_ ?_; (· exact fun w' _ => (by go_simp)); simp only [Act.put, List.setIfInBounds_toArray, List.set_cons_zero, List.set_cons_succ]
    as_aux_lemma =>
      refine stH (i := 16) (.int .u64 p0) hK.below ?_ ?_; (· exact fun w' hw => run_loadOp _ _ rfl _ rfl _ (load_cell (cell_later hw r0))); simp only [Act.put, List.setIfInBounds_toArray, List.set_cons_zero, List.set_cons_succ]
      refine stH (i := 17) (.int .u64 (p0 % 4294967296)) hK.below ?_ ?_; (· exact fun w' _ => (by go_simp)); simp only [Act.put, List.setIfInBounds_toArray, List.set_cons_zero, List.set_cons_succ]
      refine stH (i := 18) (.int .u64 (bits .or .u64 (IntKind.u64.wrap (mid * 4294967296)) (p0 % 4294967296))) hK.below ?_ ?_; (· exact fun w' _ => (by go_simp)); simp only [Act.put, List.setIfInBounds_toArray, List.set_cons_zero, List.set_cons_succ]
      refine stH (i := 19) (.int .u64 (p3 + p1 / 4294967296 + p2 / 4294967296 + mid / 4294967296)) hK.below ?_ ?_; (· exact fun w' _ => (by go_simp)); simp only [Act.put, List.setIfInBounds_toArray, List.set_cons_zero, List.set_cons_succ]
      refine stH (i := 20) (.int .u64 (bits .or .u64 (IntKind.u64.wrap (mid * 4294967296)) (p0 % 4294967296))) hK.below ?_ ?_; (· exact fun w' _ => (by go_simp)); simp only [Act.put, List.setIfInBounds_toArray, List.set_cons_zero, List.set_cons_succ]
      refine wpAnyH_done (by kernel_rfl) ?_ _
      go_wp2
      go_ret2
      exact ⟨ret_pair HI1.out (by rw [IntKind.wrap_u64, or_low, HI2.out]), hL.below.trans (hK.below.mono hL.size)⟩

theorem absI_nn (a : Int) : 0 ≤ absI a := by unfold absI; split <;> omega
theorem absI_bd {a : Int} (h0 : -9223372036854775807 ≤ a) (h1 : a ≤ 9223372036854775807) : absI a < 18446744073709551616 := by unfold absI; split <;> omega
theorem absI_mul {a b : Int} (h : (a < 0 ↔ b < 0) ∨ a = 0 ∨ b = 0) : absI a * absI b = a * b := by
  unfold absI
  rcases (by omega : a < 0 ∨ a = 0 ∨ 0 < a) with ha | ha | ha <;> rcases (by omega : b < 0 ∨ b = 0 ∨ 0 < b) with hb | hb | hb
  all_goals first | (subst ha; simp) | (subst hb; simp) | (exfalso; omega) | (simp only [ha, hb, if_true]; grind) | (rw [if_neg (by omega), if_neg (by omega)])
/-- factors that are below 0 both, or not below 0 both -/
theorem mul_calls (a b : Int) (ha0 : -9223372036854775807 ≤ a) (ha : a ≤ 9223372036854775807) (hb0 : -9223372036854775807 ≤ b) (hb : b ≤ 9223372036854775807) (hs : (a < 0 ∧ b < 0) ∨ (0 ≤ a ∧ 0 ≤ b)) (w : World) :
    Calls Try.prog 101 #[.int .i64 a, .int .i64 b] w fun e w' => e = .returned (.tuple #[.int .i64 (a * b / 18446744073709551616), .int .u64 (a * b % 18446744073709551616)]) ∧ Below w.heap.size w w' := by
  have hL := Holds.start w
  have hm : absI a * absI b = a * b := absI_mul (by omega)
  have hP := fun w => product_calls (absI a) (absI b) (absI_nn a) (absI_bd ha0 ha) (absI_nn b) (absI_bd hb0 hb) w
  rw [hm] at hP
  have HP := Lib.hid hP
  have hbig := mul_bd (a := absI a) (b := absI b) (A := 9223372036854775807) (B := 9223372036854775807) (by have := absI_nn a; omega) (by unfold absI; split <;> omega) (by have := absI_nn b; omega) (by unfold absI; split <;> omega)
  have hnn : 0 ≤ a * b := by rw [← hm]; exact Int.mul_nonneg (absI_nn a) (absI_nn b)
  rw [hm] at hbig
  clear hP hm
  generalize a * b = z at *
  have hz : 0 ≤ z / 18446744073709551616 ∧ z / 18446744073709551616 ≤ 4611686018427387904 := by omega
  obtain ⟨hz0, hz1⟩ := hz
  generalize z / 18446744073709551616 = hi at *
  generalize z % 18446744073709551616 = lo at *
  have de : (!decide (a < 0) == decide (b < 0)) = false := by
    rcases hs with ⟨s1, s2⟩ | ⟨s1, s2⟩
    · simp [s1, s2]
    · have t1 : ¬ a < 0 := by omega
      have t2 : ¬ b < 0 := by omega
      simp [t1, t2]
  clear hs
  all_goals
    go_enter Try.func101, Try.ntmps101
    go_wp2_with (first | (go_at_call 103; (with_reducible refine (wideSize_calls _ (by omega) (by omega) _).mono ?_); rintro e _ ⟨rfl, rfl⟩) | (go_at_call 102; (with_reducible refine (HP.out _).mono ?_); rintro e _ ⟨rfl, hb⟩; replace hL := hL.call hb; clear hb) | ((clear hL; with_reducible intro _ _ hL)) | (with_reducible refine wpC_alloc rfl _ rfl _ _ inferInstance hL ?_) | (with_reducible first | refine wpB_agg rfl _ _ _ rfl rfl hL ?_ | refine wpB_one rfl _ _ (.int _ _) rfl rfl rfl hL ?_ | refine wpB_one rfl _ _ (.slice _ _ _) rfl rfl rfl hL ?_ | refine wpB_one rfl _ _ (.bool _) rfl rfl rfl hL ?_ | refine wpB_one rfl _ _ (.pointer _) rfl rfl rfl hL ?_ | refine wpB_one rfl _ _ (.func _ _ _) rfl rfl rfl hL ?_) | (with_reducible first | refine wpH_max rfl _ _ _ _ rfl _ _ rfl rfl ?_ | refine wpH_min rfl _ _ _ _ rfl _ _ rfl rfl ?_) | ((with_reducible refine wpA_load rfl _ _ rfl _ rfl ?_); first | refine loadA hL ?_ | refine loadR hL ?_ | refine loadC hL ?_ | refine loadD ?_ | refine loadE hL ?_ | refine loadF ?_) | ((with_reducible refine wpA_index rfl _ _ _ rfl _ rfl _ rfl ?_); first | (refine indexA ?_; try rw [Int.toNat_natCast]) | refine indexC ?_) | ((with_reducible refine wpA_store rfl _ _ _ rfl _ rfl (.agg _) rfl ?_); refine storeR hL ?_; clear hL; intro _ hL) | ((with_reducible first | refine wpA_store rfl _ _ _ rfl _ rfl (.int _ _) rfl ?_ | refine wpA_store rfl _ _ _ rfl _ rfl (.slice _ _ _) rfl ?_ | refine wpA_store rfl _ _ _ rfl _ rfl (.bool _) rfl ?_ | refine wpA_store rfl _ _ _ rfl _ rfl (.pointer _) rfl ?_ | refine wpA_store rfl _ _ _ rfl _ rfl (.func _ _ _) rfl ?_); (first | refine storeA hL ?_ | refine storeO hL ?_); (clear hL; intro _ hL)) | ((with_reducible refine wpA_lit rfl _ _ _ rfl ?_); first | refine litA1 hL ?_ | refine litA2 hL ?_) | ((with_reducible refine wpA_append rfl _ _ _ rfl (.slice _ _ _) rfl ?_); intro vq hvq; simp [go_sem] at hvq; subst hvq; refine appendA hL ?_; clear hL; intro _ _ _ hL; try dsimp only at hL) | ((with_reducible refine wpA_make rfl _ _ _ rfl _ rfl rfl ?_); refine makeA hL ?_))
    go_ret2
    exact ⟨ret_pair (by first | rfl | (simp only [IntKind.wrap_i64]; omega) | omega) rfl, hL.below⟩

/-- which of two numbers is greater -/
def cmpI (x y : Int) : Int := if x < y then -1 else if x = y then 0 else 1
theorem wideCmp_calls (a b c d : Int) (ha0 : -9223372036854775807 ≤ a) (ha : a ≤ 9223372036854775807) (hb0 : -9223372036854775807 ≤ b) (hb : b ≤ 9223372036854775807) (hs : (a < 0 ∧ b < 0) ∨ (0 ≤ a ∧ 0 ≤ b))
    (hc0 : -9223372036854775807 ≤ c) (hc : c ≤ 9223372036854775807) (hd0 : -9223372036854775807 ≤ d) (hd : d ≤ 9223372036854775807) (ht : (c < 0 ∧ d < 0) ∨ (0 ≤ c ∧ 0 ≤ d)) (w : World) :
    Calls Try.prog 99 #[.int .i64 a, .int .i64 b, .int .i64 c, .int .i64 d] w fun e w' => e = .returned (.int .i64 (cmpI (a * b) (c * d))) ∧ Below w.heap.size w w' := by
  have hL := Holds.start w
  have HA := Lib.hid (fun w => mul_calls a b ha0 ha hb0 hb hs w)
  have HC := Lib.hid (fun w => mul_calls c d hc0 hc hd0 hd ht w)
  have HR := Lib.hid (show ∀ x y : Int, cmpI x y = if x / 18446744073709551616 < y / 18446744073709551616 ∨ (x / 18446744073709551616 = y / 18446744073709551616 ∧ x % 18446744073709551616 < y % 18446744073709551616) then -1 else if x / 18446744073709551616 = y / 18446744073709551616 ∧ x % 18446744073709551616 = y % 18446744073709551616 then 0 else 1 from fun x y => by
    unfold cmpI
    (repeat' split) <;> omega)
  have hR := HR.out (a * b) (c * d)
  have HQ := Lib.hid hR
  clear hR HR
  clear hs ht ha0 ha hb0 hb hc0 hc hd0 hd
  generalize cmpI (a * b) (c * d) = r at *
  generalize a * b / 18446744073709551616 = h1 at *
  generalize a * b % 18446744073709551616 = l1 at *
  generalize c * d / 18446744073709551616 = h2 at *
  generalize c * d % 18446744073709551616 = l2 at *
  go_enter Try.func99, Try.ntmps99
  go_wp2_with (first | (go_at_call 101; (first | ((with_reducible refine (HA.out _).mono ?_); rintro e _ ⟨rfl, hb⟩; replace hL := hL.call hb; clear hb) | ((with_reducible refine (HC.out _).mono ?_); rintro e _ ⟨rfl, hb⟩; replace hL := hL.call hb; clear hb))) | ((clear hL; with_reducible intro _ _ hL)) | (with_reducible refine wpC_alloc rfl _ rfl _ _ inferInstance hL ?_) | (with_reducible first | refine wpB_agg rfl _ _ _ rfl rfl hL ?_ | refine wpB_one rfl _ _ (.int _ _) rfl rfl rfl hL ?_ | refine wpB_one rfl _ _ (.slice _ _ _) rfl rfl rfl hL ?_ | refine wpB_one rfl _ _ (.bool _) rfl rfl rfl hL ?_ | refine wpB_one rfl _ _ (.pointer _) rfl rfl rfl hL ?_ | refine wpB_one rfl _ _ (.func _ _ _) rfl rfl rfl hL ?_) | (with_reducible first | refine wpH_max rfl _ _ _ _ rfl _ _ rfl rfl ?_ | refine wpH_min rfl _ _ _ _ rfl _ _ rfl rfl ?_) | ((with_reducible refine wpA_load rfl _ _ rfl _ rfl ?_); first | refine loadA hL ?_ | refine loadR hL ?_ | refine loadC hL ?_ | refine loadD ?_ | refine loadE hL ?_ | refine loadF ?_) | ((with_reducible refine wpA_index rfl _ _ _ rfl _ rfl _ rfl ?_); first | (refine indexA ?_; try rw [Int.toNat_natCast]) | refine indexC ?_) | ((with_reducible refine wpA_store rfl _ _ _ rfl _ rfl (.agg _) rfl ?_); refine storeR hL ?_; clear hL; intro _ hL) | ((with_reducible first | refine wpA_store rfl _ _ _ rfl _ rfl (.int _ _) rfl ?_ | refine wpA_store rfl _ _ _ rfl _ rfl (.slice _ _ _) rfl ?_ | refine wpA_store rfl _ _ _ rfl _ rfl (.bool _) rfl ?_ | refine wpA_store rfl _ _ _ rfl _ rfl (.pointer _) rfl ?_ | refine wpA_store rfl _ _ _ rfl _ rfl (.func _ _ _) rfl ?_); (first | refine storeA hL ?_ | refine storeO hL ?_); (clear hL; intro _ hL)) | ((with_reducible refine wpA_lit rfl _ _ _ rfl ?_); first | refine litA1 hL ?_ | refine litA2 hL ?_) | ((with_reducible refine wpA_append rfl _ _ _ rfl (.slice _ _ _) rfl ?_); intro vq hvq; simp [go_sem] at hvq; subst hvq; refine appendA hL ?_; clear hL; intro _ _ _ hL; try dsimp only at hL) | ((with_reducible refine wpA_make rfl _ _ _ rfl _ rfl rfl ?_); refine makeA hL ?_))
  all_goals
    go_ret
    refine ⟨ret_int ?_, hL.below⟩
    rw [HQ.out]
    try simp only [beq_iff_eq, beq_eq_false_iff_ne, ne_eq] at *
    (repeat' split) <;> omega
end Go.Proofs.Ytneddfiohekhiaa
