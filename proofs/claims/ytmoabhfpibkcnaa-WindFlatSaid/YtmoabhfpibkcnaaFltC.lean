/- Package flat: size, over, Count, Edges: the walks. -/
import Derived.Test.YtmoabhfpibkcnaaFltM
import Derived.Test.YtmoabhfpibkcnaaBxPM
-- lit6
namespace Go.Proofs.Ytmoabhfpibkcnaa
open Go.RowKit

theorem size_calls (v : Int) (hv : -4611686018427387904 ≤ v ∧ v ≤ 4611686018427387904) (w : World) : Calls Try.prog 61 #[.int .i64 v] w fun e w' => e = .returned (.int .i64 (max v (-v))) ∧ w = w' := by
  obtain ⟨h1, h2⟩ := hv
  go_enter Try.func61, Try.ntmps61
  go_wp2_with (with_reducible refine wpH_max rfl _ _ _ _ rfl _ _ rfl rfl ?_)
  go_ret
  exact ⟨rfl, rfl⟩
theorem div_floor (v m : Int) (hm : 0 < m) : (v.tmod m < 0 ∧ v.tdiv m = v / m + 1) ∨ (0 ≤ v.tmod m ∧ v.tdiv m = v / m) := by
  have h1 := Int.mul_tdiv_add_tmod v m
  have h2 := Int.tmod_lt_of_pos v hm
  have h3 : -m < v.tmod m := by
    rcases Int.le_total 0 v with h | h
    · have := Int.tmod_nonneg m h; omega
    · have h4 := Int.tmod_lt_of_pos (-v) hm
      rw [Int.neg_tmod] at h4
      omega
  generalize v.tmod m = r at *
  generalize v.tdiv m = q at *
  by_cases hr : r < 0
  · refine .inl ⟨hr, ?_⟩
    have e : v = (r + m) + m * (q - 1) := by rw [← h1, Int.mul_sub]; omega
    rw [e, Int.add_mul_ediv_left _ _ (by omega), Int.ediv_eq_zero_of_lt (by omega) (by omega)]
    omega
  · refine .inr ⟨by omega, ?_⟩
    rw [← h1, Int.add_comm, Int.add_mul_ediv_left _ _ (by omega), Int.ediv_eq_zero_of_lt (by omega) (by omega)]
    omega
theorem over_calls (v m : Int) (hm : 0 < m) (hm2 : m ≤ 1099511627776) (hv1 : -1099511627776 ≤ v) (hv2 : v ≤ 1099511627776) (w : World) : Calls Try.prog 50 #[.int .i64 v, .int .i64 m] w fun e w' => e = .returned (.int .i64 (overI v m)) ∧ w = w' := by
  have hR : overI v m = (if 2 * (v - v / m * m) > m ∨ (2 * (v - v / m * m) = m ∧ ¬ v / m % 2 = 0) then v / m + 1 else v / m) := rfl
  have hd := div_floor v m hm
  have q1 : v / m * m ≤ v := Int.ediv_mul_le v (by omega)
  have q2 : v < (v / m + 1) * m := Int.lt_ediv_add_one_mul_self v hm
  rw [Int.add_mul, Int.one_mul] at q2
  have q3 : -1099511627776 ≤ v / m := by
    rw [Int.le_ediv_iff_mul_le hm]
    have : 1099511627776 * 1 ≤ 1099511627776 * m := Int.mul_le_mul_of_nonneg_left (by omega) (by omega)
    rw [Int.neg_mul]; omega
  have q4 : v / m ≤ 1099511627776 := Int.le_trans (Int.ediv_le_ediv hm hv2) (Int.ediv_le_self _ (by omega))
  generalize overI v m = R at *
  generalize hq : v / m = q at *
  clear hq
  have hb := and_bitX q
  generalize hP : q * m = P at *
  have w0 : IntKind.i64.wrap P = P := by rw [IntKind.wrap_i64]; omega
  have m0 : (m == 0) = false := by simp; omega
  have m1 : (m == -1) = false := by simp; omega
  generalize hbit : bits .and .i64 q 1 = t at *
  rcases hd with ⟨hr, hq⟩ | ⟨hr, hq⟩
  · generalize hr2 : v.tmod m = r at *
    rcases (by omega : 2 * (v - P) > m ∨ (2 * (v - P) = m ∧ ¬ q % 2 = 0) ∨ (2 * (v - P) = m ∧ q % 2 = 0) ∨ 2 * (v - P) < m) with h | ⟨h, h'⟩ | ⟨h, h'⟩ | h
    · rw [if_pos (.inl h)] at hR
      subst hR
      clear hb
      go_enter Try.func50, Try.ntmps50
      go_wp2
      go_ret
      exact ⟨by first | rfl | go_num, rfl⟩
    · rw [if_pos (.inr ⟨h, h'⟩)] at hR
      subst hR
      have hb2 : (t == 0) = false := by simp; omega
      clear hb h'
      go_enter Try.func50, Try.ntmps50
      go_wp2
      go_ret
      exact ⟨by first | rfl | go_num, rfl⟩
    · rw [if_neg (by omega)] at hR
      subst hR
      have hb2 : t = 0 := by omega
      clear hb h'
      go_enter Try.func50, Try.ntmps50
      go_wp2
      go_ret
      exact ⟨by first | rfl | go_num, rfl⟩
    · rw [if_neg (by omega)] at hR
      subst hR
      clear hb
      go_enter Try.func50, Try.ntmps50
      go_wp2
      go_ret
      exact ⟨by first | rfl | go_num, rfl⟩
  · generalize hr2 : v.tmod m = r at *
    rcases (by omega : 2 * (v - P) > m ∨ (2 * (v - P) = m ∧ ¬ q % 2 = 0) ∨ (2 * (v - P) = m ∧ q % 2 = 0) ∨ 2 * (v - P) < m) with h | ⟨h, h'⟩ | ⟨h, h'⟩ | h
    · rw [if_pos (.inl h)] at hR
      subst hR
      clear hb
      go_enter Try.func50, Try.ntmps50
      go_wp2
      go_ret
      exact ⟨by first | rfl | go_num, rfl⟩
    · rw [if_pos (.inr ⟨h, h'⟩)] at hR
      subst hR
      have hb2 : (t == 0) = false := by simp; omega
      clear hb h'
      go_enter Try.func50, Try.ntmps50
      go_wp2
      go_ret
      exact ⟨by first | rfl | go_num, rfl⟩
    · rw [if_neg (by omega)] at hR
      subst hR
      have hb2 : t = 0 := by omega
      clear hb h'
      go_enter Try.func50, Try.ntmps50
      go_wp2
      go_ret
      exact ⟨by first | rfl | go_num, rfl⟩
    · rw [if_neg (by omega)] at hR
      subst hR
      clear hb
      go_enter Try.func50, Try.ntmps50
      go_wp2
      go_ret
      exact ⟨by first | rfl | go_num, rfl⟩

/-- the least n, doubled from 1, with 4 n n at least far -/
def cntF : Nat → Nat → Int → Nat
  | 0, n, _ => n
  | f + 1, n, far => if 4 * (n : Int) * n < far then cntF f (2 * n) far else n
def farE (e : Edg) : Int := max (max (e.x0 - 2 * e.cx + e.x1) (-(e.x0 - 2 * e.cx + e.x1))) (max (e.y0 - 2 * e.cy + e.y1) (-(e.y0 - 2 * e.cy + e.y1)))
def cntE (e : Edg) : Nat := if e.bent then cntF 8 1 (farE e) else 1
theorem cntF_bd : ∀ (f n : Nat) (far : Int), 1 ≤ n → 1 ≤ cntF f n far ∧ cntF f n far ≤ n * 2 ^ f
  | 0, n, _, h => by simp [cntF]; omega
  | f + 1, n, far, h => by
    rw [cntF]
    split
    · have := cntF_bd f (2 * n) far (by omega)
      refine ⟨this.1, Nat.le_trans this.2 (Nat.le_of_eq ?_)⟩
      rw [Nat.pow_succ]
      simp [Nat.mul_comm, Nat.mul_assoc, Nat.mul_left_comm]
    · exact ⟨h, Nat.le_mul_of_pos_right _ (Nat.two_pow_pos _)⟩
theorem cntE_bd (e : Edg) : 1 ≤ cntE e ∧ cntE e ≤ 256 := by
  unfold cntE
  split
  · exact cntF_bd 8 1 _ (by omega)
  · omega
theorem near_bd (t : Int) : near1 t = true ↔ -8191 ≤ t ∧ t ≤ 8191 := by unfold near1; simp
theorem mayE_bd {e : Edg} (h : mayE e = true) : (-8191 ≤ e.x0 ∧ e.x0 ≤ 8191) ∧ (-8191 ≤ e.y0 ∧ e.y0 ≤ 8191) ∧ (-8191 ≤ e.cx ∧ e.cx ≤ 8191) ∧ (-8191 ≤ e.cy ∧ e.cy ≤ 8191) ∧ (-8191 ≤ e.x1 ∧ e.x1 ≤ 8191) ∧ (-8191 ≤ e.y1 ∧ e.y1 ≤ 8191) := by
  unfold mayE at h
  simp only [Bool.and_eq_true, near_bd] at h
  obtain ⟨h1, h2, h3, h4, h5, h6, _⟩ := h
  exact ⟨h1, h2, h3, h4, h5, h6⟩
set_option maxRecDepth 100000 in
set_option maxHeartbeats 4000000 in
theorem flatCount_calls (e : Edg) (hm : mayE e = true) (w : World) : Calls Try.prog 48 #[edgeV e] w fun r w' => r = .returned (.int .i64 (cntE e : Nat)) ∧ Below w.heap.size w w' := by
  have hL := Holds.start w
  have hbd := mayE_bd hm
  have HM := Lib.hid (fun w => bowMay_calls e w)
  rw [hm] at HM
  clear hm
  obtain ⟨x0, y0, bt, cx, cy, x1, y1⟩ := e
  unfold edgeV at *
  dsimp only at *
  obtain ⟨⟨a1, a2⟩, ⟨a3, a4⟩, ⟨a5, a6⟩, ⟨a7, a8⟩, ⟨a9, a10⟩, a11, a12⟩ := hbd
  cases bt with
  | false =>
    have n1 : True := trivial
    go_enter Try.func48, Try.ntmps48
    go_wp2_with (first | (go_at_call 39; (with_reducible refine (HM.out _).mono ?_); rintro e _ ⟨rfl, hb⟩; replace hL := hL.call hb; clear hb) | (first | (clear hL n1; with_reducible intro b1 w1 hL) | (clear hL; with_reducible intro _ _ hL)) | (with_reducible refine wpC_alloc rfl _ rfl _ _ inferInstance hL ?_) | (with_reducible first | refine wpB_agg rfl _ _ _ rfl rfl hL ?_ | refine wpB_one rfl _ _ (.int _ _) rfl rfl rfl hL ?_ | refine wpB_one rfl _ _ (.slice _ _ _) rfl rfl rfl hL ?_ | refine wpB_one rfl _ _ (.bool _) rfl rfl rfl hL ?_ | refine wpB_one rfl _ _ (.pointer _) rfl rfl rfl hL ?_ | refine wpB_one rfl _ _ (.func _ _ _) rfl rfl rfl hL ?_) | (with_reducible first | refine wpH_max rfl _ _ _ _ rfl _ _ rfl rfl ?_ | refine wpH_min rfl _ _ _ _ rfl _ _ rfl rfl ?_) | ((with_reducible refine wpA_load rfl _ _ rfl _ rfl ?_); first | refine loadA hL ?_ | refine loadR hL ?_ | refine loadC hL ?_ | refine loadD ?_ | refine loadE hL ?_ | refine loadF ?_) | ((with_reducible refine wpA_index rfl _ _ _ rfl _ rfl _ rfl ?_); first | (refine indexA ?_; try rw [Int.toNat_natCast]) | refine indexC ?_) | ((with_reducible refine wpA_store rfl _ _ _ rfl _ rfl (.agg _) rfl ?_); refine storeR hL ?_; clear hL; intro _ hL) | ((with_reducible first | refine wpA_store rfl _ _ _ rfl _ rfl (.int _ _) rfl ?_ | refine wpA_store rfl _ _ _ rfl _ rfl (.slice _ _ _) rfl ?_ | refine wpA_store rfl _ _ _ rfl _ rfl (.bool _) rfl ?_ | refine wpA_store rfl _ _ _ rfl _ rfl (.pointer _) rfl ?_ | refine wpA_store rfl _ _ _ rfl _ rfl (.func _ _ _) rfl ?_); (first | refine storeA hL ?_ | refine storeO hL ?_); (clear hL; intro _ hL)) | ((with_reducible refine wpA_lit rfl _ _ _ rfl ?_); first | refine litA1 hL ?_ | refine litA2 hL ?_ | refine litA3 hL ?_ | refine litA4 hL ?_ | refine litA6 hL ?_) | ((with_reducible refine wpA_append rfl _ _ _ rfl (.slice _ _ _) rfl ?_); intro vq hvq; simp [go_sem] at hvq; subst hvq; refine appendA hL ?_; clear hL; intro _ _ _ hL; try dsimp only at hL) | ((with_reducible refine wpA_make rfl _ _ _ rfl _ rfl rfl ?_); refine makeA hL ?_))
    go_ret
    exact ⟨rfl, hL.below⟩
  | true =>
    have HN0 := Lib.hid (show cntF 8 1 (farE ⟨x0, y0, true, cx, cy, x1, y1⟩) = cntE ⟨x0, y0, true, cx, cy, x1, y1⟩ from rfl)
    generalize cntE ⟨x0, y0, true, cx, cy, x1, y1⟩ = N at *
    have hfar : farE ⟨x0, y0, true, cx, cy, x1, y1⟩ ≤ 32764 := by unfold farE; dsimp only; omega
    have HR0 : Hid (max (max (x0 - 2 * cx + x1) (-(x0 - 2 * cx + x1))) (max (y0 - 2 * cy + y1) (-(y0 - 2 * cy + y1))) = farE ⟨x0, y0, true, cx, cy, x1, y1⟩) := Lib.hid rfl
    generalize farE ⟨x0, y0, true, cx, cy, x1, y1⟩ = R at *
    have HN := HN0
    have v0 : IntKind.i64.wrap (2 * cx) = 2 * cx := by rw [IntKind.wrap_i64]; omega
    have v1 : IntKind.i64.wrap (x0 - (2 * cx)) = x0 - (2 * cx) := by rw [IntKind.wrap_i64]; omega
    have v2 : IntKind.i64.wrap ((x0 - (2 * cx)) + x1) = (x0 - (2 * cx)) + x1 := by rw [IntKind.wrap_i64]; omega
    have v3 : IntKind.i64.wrap (2 * cy) = 2 * cy := by rw [IntKind.wrap_i64]; omega
    have v4 : IntKind.i64.wrap (y0 - (2 * cy)) = y0 - (2 * cy) := by rw [IntKind.wrap_i64]; omega
    have v5 : IntKind.i64.wrap ((y0 - (2 * cy)) + y1) = (y0 - (2 * cy)) + y1 := by rw [IntKind.wrap_i64]; omega
    have n1 : True := trivial
    go_enter Try.func48, Try.ntmps48
    go_wp2_with (first | (go_at_call 39; (with_reducible refine (HM.out _).mono ?_); rintro e _ ⟨rfl, hb⟩; replace hL := hL.call hb; clear hb) | (first | (clear hL n1; with_reducible intro b1 w1 hL) | (clear hL; with_reducible intro _ _ hL)) | (with_reducible refine wpC_alloc rfl _ rfl _ _ inferInstance hL ?_) | (with_reducible first | refine wpB_agg rfl _ _ _ rfl rfl hL ?_ | refine wpB_one rfl _ _ (.int _ _) rfl rfl rfl hL ?_ | refine wpB_one rfl _ _ (.slice _ _ _) rfl rfl rfl hL ?_ | refine wpB_one rfl _ _ (.bool _) rfl rfl rfl hL ?_ | refine wpB_one rfl _ _ (.pointer _) rfl rfl rfl hL ?_ | refine wpB_one rfl _ _ (.func _ _ _) rfl rfl rfl hL ?_) | (with_reducible first | refine wpH_max rfl _ _ _ _ rfl _ _ rfl rfl ?_ | refine wpH_min rfl _ _ _ _ rfl _ _ rfl rfl ?_) | ((with_reducible refine wpA_load rfl _ _ rfl _ rfl ?_); first | refine loadA hL ?_ | refine loadR hL ?_ | refine loadC hL ?_ | refine loadD ?_ | refine loadE hL ?_ | refine loadF ?_) | ((with_reducible refine wpA_index rfl _ _ _ rfl _ rfl _ rfl ?_); first | (refine indexA ?_; try rw [Int.toNat_natCast]) | refine indexC ?_) | ((with_reducible refine wpA_store rfl _ _ _ rfl _ rfl (.agg _) rfl ?_); refine storeR hL ?_; clear hL; intro _ hL) | ((with_reducible first | refine wpA_store rfl _ _ _ rfl _ rfl (.int _ _) rfl ?_ | refine wpA_store rfl _ _ _ rfl _ rfl (.slice _ _ _) rfl ?_ | refine wpA_store rfl _ _ _ rfl _ rfl (.bool _) rfl ?_ | refine wpA_store rfl _ _ _ rfl _ rfl (.pointer _) rfl ?_ | refine wpA_store rfl _ _ _ rfl _ rfl (.func _ _ _) rfl ?_); (first | refine storeA hL ?_ | refine storeO hL ?_); (clear hL; intro _ hL)) | ((with_reducible refine wpA_lit rfl _ _ _ rfl ?_); first | refine litA1 hL ?_ | refine litA2 hL ?_ | refine litA3 hL ?_ | refine litA4 hL ?_ | refine litA6 hL ?_) | ((with_reducible refine wpA_append rfl _ _ _ rfl (.slice _ _ _) rfl ?_); intro vq hvq; simp [go_sem] at hvq; subst hvq; refine appendA hL ?_; clear hL; intro _ _ _ hL; try dsimp only at hL) | ((with_reducible refine wpA_make rfl _ _ _ rfl _ rfl rfl ?_); refine makeA hL ?_))
    replace hL := hL.drew
    have hS : ((fun w' : World => w'.rangeAt b1 0 [.int .i64 x0, .int .i64 y0, .bool true, .int .i64 cx, .int .i64 cy, .int .i64 x1, .int .i64 y1])) _ := hL.range (by (repeat (first | with_reducible exact At.here | with_reducible apply At.there)))
    refine wpH_begin (by kernel_rfl) ((fun w' : World => w'.rangeAt b1 0 [.int .i64 x0, .int .i64 y0, .bool true, .int .i64 cx, .int .i64 cy, .int .i64 x1, .int .i64 y1])) ?_
    refine stH (i := 0) (.pointer (some ⟨b1, 0, none⟩)) hS ?_ ?_; (· exact fun w' _ => (by go_simp)); simp only [Act.put, List.setIfInBounds_toArray, List.set_cons_zero, List.set_cons_succ]
    refine stH (i := 1) (.int .i64 x0) hS ?_ ?_; (· exact fun w' hw => run_loadOp _ _ rfl _ rfl _ (load_cell (hw 0 _ rfl))); simp only [Act.put, List.setIfInBounds_toArray, List.set_cons_zero, List.set_cons_succ]
    refine stH (i := 2) (.pointer (some ⟨b1, 3, none⟩)) hS ?_ ?_; (· exact fun w' _ => (by go_simp)); simp only [Act.put, List.setIfInBounds_toArray, List.set_cons_zero, List.set_cons_succ]
    refine stH (i := 3) (.int .i64 cx) hS ?_ ?_; (· exact fun w' hw => run_loadOp _ _ rfl _ rfl _ (load_cell (hw 3 _ rfl))); simp only [Act.put, List.setIfInBounds_toArray, List.set_cons_zero, List.set_cons_succ]
    refine stH (i := 4) (.int .i64 (2 * cx)) hS ?_ ?_; (· exact fun w' _ => (by go_simp)); simp only [Act.put, List.setIfInBounds_toArray, List.set_cons_zero, List.set_cons_succ]
    refine stH (i := 5) (.int .i64 (x0 - (2 * cx))) hS ?_ ?_; (· exact fun w' _ => (by go_simp)); simp only [Act.put, List.setIfInBounds_toArray, List.set_cons_zero, List.set_cons_succ]
    refine stH (i := 6) (.pointer (some ⟨b1, 5, none⟩)) hS ?_ ?_; (· exact fun w' _ => (by go_simp)); simp only [Act.put, List.setIfInBounds_toArray, List.set_cons_zero, List.set_cons_succ]
    refine stH (i := 7) (.int .i64 x1) hS ?_ ?_; (· exact fun w' hw => run_loadOp _ _ rfl _ rfl _ (load_cell (hw 5 _ rfl))); simp only [Act.put, List.setIfInBounds_toArray, List.set_cons_zero, List.set_cons_succ]
    refine stH (i := 8) (.int .i64 ((x0 - (2 * cx)) + x1)) hS ?_ ?_; (· exact fun w' _ => (by go_simp)); simp only [Act.put, List.setIfInBounds_toArray, List.set_cons_zero, List.set_cons_succ]
    refine stH (i := 10) (.pointer (some ⟨b1, 1, none⟩)) hS ?_ ?_; (· exact fun w' _ => (by go_simp)); simp only [Act.put, List.setIfInBounds_toArray, List.set_cons_zero, List.set_cons_succ]
    refine stH (i := 11) (.int .i64 y0) hS ?_ ?_; (· exact fun w' hw => run_loadOp _ _ rfl _ rfl _ (load_cell (hw 1 _ rfl))); simp only [Act.put, List.setIfInBounds_toArray, List.set_cons_zero, List.set_cons_succ]
    refine stH (i := 12) (.pointer (some ⟨b1, 4, none⟩)) hS ?_ ?_; (· exact fun w' _ => (by go_simp)); simp only [Act.put, List.setIfInBounds_toArray, List.set_cons_zero, List.set_cons_succ]
    refine stH (i := 13) (.int .i64 cy) hS ?_ ?_; (· exact fun w' hw => run_loadOp _ _ rfl _ rfl _ (load_cell (hw 4 _ rfl))); simp only [Act.put, List.setIfInBounds_toArray, List.set_cons_zero, List.set_cons_succ]
    refine stH (i := 14) (.int .i64 (2 * cy)) hS ?_ ?_; (· exact fun w' _ => (by go_simp)); simp only [Act.put, List.setIfInBounds_toArray, List.set_cons_zero, List.set_cons_succ]
    refine stH (i := 15) (.int .i64 (y0 - (2 * cy))) hS ?_ ?_; (· exact fun w' _ => (by go_simp)); simp only [Act.put, List.setIfInBounds_toArray, List.set_cons_zero, List.set_cons_succ]
    refine stH (i := 16) (.pointer (some ⟨b1, 6, none⟩)) hS ?_ ?_; (· exact fun w' _ => (by go_simp)); simp only [Act.put, List.setIfInBounds_toArray, List.set_cons_zero, List.set_cons_succ]
    refine stH (i := 17) (.int .i64 y1) hS ?_ ?_; (· exact fun w' hw => run_loadOp _ _ rfl _ rfl _ (load_cell (hw 6 _ rfl))); simp only [Act.put, List.setIfInBounds_toArray, List.set_cons_zero, List.set_cons_succ]
    refine stH (i := 18) (.int .i64 ((y0 - (2 * cy)) + y1)) hS ?_ ?_; (· exact fun w' _ => (by go_simp)); simp only [Act.put, List.setIfInBounds_toArray, List.set_cons_zero, List.set_cons_succ]
    refine wpH_one (i := 9) (by kernel_rfl) (wpOp_of (by simp only [List.getElem?_toArray, List.getElem?_cons_zero, List.getElem?_cons_succ]; rfl) ?_)
    refine st_call rfl 61 #[.int .i64 ((x0 - (2 * cx)) + x1)] (by go_simp) (size_calls ((x0 - (2 * cx)) + x1) (by omega) _) ?_
    rintro e _ ⟨rfl, rfl⟩
    refine ⟨_, rfl, hS, ?_⟩
    simp only [Act.put, List.setIfInBounds_toArray, List.set_cons_zero, List.set_cons_succ]
    refine wpH_one (i := 19) (by kernel_rfl) (wpOp_of (by simp only [List.getElem?_toArray, List.getElem?_cons_zero, List.getElem?_cons_succ]; rfl) ?_)
    refine st_call rfl 61 #[.int .i64 ((y0 - (2 * cy)) + y1)] (by go_simp) (size_calls ((y0 - (2 * cy)) + y1) (by omega) _) ?_
    rintro e _ ⟨rfl, rfl⟩
    refine ⟨_, rfl, hS, ?_⟩
    simp only [Act.put, List.setIfInBounds_toArray, List.set_cons_zero, List.set_cons_succ]
    refine stH (i := 20) (.int .i64 R) hS ?_ ?_; (· exact fun w' _ => (run_maxV _ _ _ _ rfl rfl rfl).trans (by rw [HR0.out]))
    simp only [Act.put, List.setIfInBounds_toArray, List.set_cons_zero, List.set_cons_succ]
    refine stH (i := 21) (.int .i64 R) hS ?_ ?_; (· exact fun w' _ => (by go_simp)); simp only [Act.put, List.setIfInBounds_toArray, List.set_cons_zero, List.set_cons_succ]
    refine wpAnyH_done (by kernel_rfl) ?_ _
    clear hS
    go_wp2
    go_loopw [4] (fun s4 wr => ∃ f n : Nat, 1 ≤ n ∧ n * 2 ^ f = 256 ∧ s4 = .int .i64 n ∧ cntF f n R = N ∧ Holds w wr [blk b1 #[.int .i64 x0, .int .i64 y0, .bool true, .int .i64 cx, .int .i64 cy, .int .i64 x1, .int .i64 y1] 30] [])
      (fun s4 wr => 512 - (intOf s4).toNat)
    case atStart => exact ⟨8, 1, Nat.le_refl _, rfl, rfl, HN.out, hL⟩
    case round =>
      clear hL
      obtain ⟨f, n, h1, h2, rfl, h3, hL⟩ := hrel
      have h256 : n ≤ 256 := by rw [← h2]; exact Nat.le_mul_of_pos_right _ (Nat.two_pow_pos f)
      have hnn : (n : Int) * n ≤ 256 * 256 := by exact_mod_cast Nat.mul_le_mul h256 h256
      have hn0 : 0 ≤ (n : Int) * n := by exact_mod_cast Nat.zero_le _
      have h4 : (4 * (n : Int)) * n = 4 * ((n : Int) * n) := Int.mul_assoc _ _ _
      have w1 : IntKind.i64.wrap (4 * (n : Int) * n) = 4 * (n : Int) * n := by rw [IntKind.wrap_i64]; omega
      by_cases hf : 4 * (n : Int) * n < R
      · obtain ⟨g, rfl⟩ : ∃ g, f = g + 1 := by
          rcases f with _ | g
          · exfalso
            have : n = 256 := by simpa using h2
            subst this
            omega
          · exact ⟨g, rfl⟩
        rw [cntF, if_pos hf] at h3
        have H3 := Lib.hid h3
        have H2 := Lib.hid (show (2 * n) * 2 ^ g = 256 by rw [← h2, Nat.pow_succ]; simp [Nat.mul_comm, Nat.mul_assoc, Nat.mul_left_comm])
        clear h2 h3 h4 hnn hn0
        go_wp2
        go_roundw
        case rel => exact ⟨g, 2 * n, by omega, H2.out, by go_num, H3.out, hL⟩
        case measure => simp [intOf]; omega
      · have e : n = N := by
          rw [← h3]
          rcases f with _ | g
          · rfl
          · rw [cntF, if_neg hf]
        subst e
        clear h2 h3 h4 hnn hn0
        go_wp2
        go_ret
        exact ⟨rfl, hL.below⟩

theorem place_wraps {a b c n k : Int} (h1 : 1 ≤ n) (h2 : n ≤ 256) (h3 : 0 ≤ k) (h4 : k ≤ n) (ha : -8191 ≤ a ∧ a ≤ 8191) (hb : -8191 ≤ b ∧ b ≤ 8191) (hc : -8191 ≤ c ∧ c ≤ 8191) :
    IntKind.i64.wrap (a * (n - k)) = a * (n - k) ∧ IntKind.i64.wrap ((a * (n - k)) * (n - k)) = (a * (n - k)) * (n - k) ∧ IntKind.i64.wrap (2 * b) = 2 * b ∧ IntKind.i64.wrap ((2 * b) * k) = (2 * b) * k ∧ IntKind.i64.wrap (((2 * b) * k) * (n - k)) = ((2 * b) * k) * (n - k) ∧
    IntKind.i64.wrap ((a * (n - k)) * (n - k) + ((2 * b) * k) * (n - k)) = (a * (n - k)) * (n - k) + ((2 * b) * k) * (n - k) ∧ IntKind.i64.wrap (c * k) = c * k ∧ IntKind.i64.wrap ((c * k) * k) = (c * k) * k ∧
    IntKind.i64.wrap (((a * (n - k)) * (n - k) + ((2 * b) * k) * (n - k)) + (c * k) * k) = ((a * (n - k)) * (n - k) + ((2 * b) * k) * (n - k)) + (c * k) * k ∧
    -1099511627776 ≤ ((a * (n - k)) * (n - k) + ((2 * b) * k) * (n - k)) + (c * k) * k ∧ ((a * (n - k)) * (n - k) + ((2 * b) * k) * (n - k)) + (c * k) * k ≤ 1099511627776 := by
  have hj : -256 ≤ n - k ∧ n - k ≤ 256 := by omega
  generalize n - k = j at *
  have p1 := mul_bd ha.1 ha.2 hj.1 hj.2
  have p2 := mul_bd p1.1 p1.2 hj.1 hj.2
  have p3 := mul_bd (a := 2 * b) (b := k) (A := 16382) (B := 256) (by omega) (by omega) (by omega) (by omega)
  have p4 := mul_bd p3.1 p3.2 hj.1 hj.2
  have p5 := mul_bd (b := k) (B := 256) hc.1 hc.2 (by omega) (by omega)
  have p6 := mul_bd (b := k) (B := 256) p5.1 p5.2 (by omega) (by omega)
  simp only [IntKind.wrap_i64]
  omega
set_option maxRecDepth 100000 in
set_option maxHeartbeats 4000000 in
theorem flatPlace_calls (x0 y0 cx cy x1 y1 : Int) (hx0 : -8191 ≤ x0 ∧ x0 ≤ 8191) (hy0 : -8191 ≤ y0 ∧ y0 ≤ 8191) (hcx : -8191 ≤ cx ∧ cx ≤ 8191) (hcy : -8191 ≤ cy ∧ cy ≤ 8191) (hx1 : -8191 ≤ x1 ∧ x1 ≤ 8191) (hy1 : -8191 ≤ y1 ∧ y1 ≤ 8191)
    (n k : Int) (h1 : 1 ≤ n) (h2 : n ≤ 256) (h3 : 0 ≤ k) (h4 : k ≤ n) (w : World) (bn be : Nat) (hbn : w.cell? ⟨bn, 0, none⟩ = some (.int .i64 n)) (hbe : w.rangeAt be 0 [.int .i64 x0, .int .i64 y0, .bool true, .int .i64 cx, .int .i64 cy, .int .i64 x1, .int .i64 y1]) :
    Calls Try.prog 49 #[.int .i64 k, .pointer (some ⟨bn, 0, none⟩), .pointer (some ⟨be, 0, none⟩)] w fun r w' => r = .returned (.tuple #[.int .i64 (overI (x0 * (n - k) * (n - k) + 2 * cx * k * (n - k) + x1 * k * k) (n * n)), .int .i64 (overI (y0 * (n - k) * (n - k) + 2 * cy * k * (n - k) + y1 * k * k) (n * n))]) ∧ Below w.heap.size w w' := by
  have hL := Holds.start w
  obtain ⟨u1, u2, u3, u4, u5, u6, u7, u8, u9, gx1, gx2⟩ := place_wraps h1 h2 h3 h4 hx0 hcx hx1
  obtain ⟨v1, v2, v3, v4, v5, v6, v7, v8, v9, gy1, gy2⟩ := place_wraps h1 h2 h3 h4 hy0 hcy hy1
  have hnn : 0 < n * n := Int.mul_pos (by omega) (by omega)
  have hnn2 : n * n ≤ 1099511627776 := Int.le_trans (Int.mul_le_mul h2 h2 (by omega) (by omega)) (by decide)
  have u10 : IntKind.i64.wrap (n * n) = n * n := by rw [IntKind.wrap_i64]; omega
  have Hbn := Lib.hid hbn
  have Hbe := Lib.hid hbe
  clear hbn hbe
  go_enter Try.func49, Try.ntmps49
  go_wp2_with (first | (refine wpA_load rfl _ _ rfl _ rfl ?_; refine loadC hL ?_ Hbn.out) | ((clear hL; with_reducible intro _ _ hL)) | (with_reducible refine wpC_alloc rfl _ rfl _ _ inferInstance hL ?_) | (with_reducible first | refine wpB_agg rfl _ _ _ rfl rfl hL ?_ | refine wpB_one rfl _ _ (.int _ _) rfl rfl rfl hL ?_ | refine wpB_one rfl _ _ (.slice _ _ _) rfl rfl rfl hL ?_ | refine wpB_one rfl _ _ (.bool _) rfl rfl rfl hL ?_ | refine wpB_one rfl _ _ (.pointer _) rfl rfl rfl hL ?_ | refine wpB_one rfl _ _ (.func _ _ _) rfl rfl rfl hL ?_) | (with_reducible first | refine wpH_max rfl _ _ _ _ rfl _ _ rfl rfl ?_ | refine wpH_min rfl _ _ _ _ rfl _ _ rfl rfl ?_) | ((with_reducible refine wpA_load rfl _ _ rfl _ rfl ?_); first | refine loadA hL ?_ | refine loadR hL ?_ | refine loadC hL ?_ | refine loadD ?_ | refine loadE hL ?_ | refine loadF ?_) | ((with_reducible refine wpA_index rfl _ _ _ rfl _ rfl _ rfl ?_); first | (refine indexA ?_; try rw [Int.toNat_natCast]) | refine indexC ?_) | ((with_reducible refine wpA_store rfl _ _ _ rfl _ rfl (.agg _) rfl ?_); refine storeR hL ?_; clear hL; intro _ hL) | ((with_reducible first | refine wpA_store rfl _ _ _ rfl _ rfl (.int _ _) rfl ?_ | refine wpA_store rfl _ _ _ rfl _ rfl (.slice _ _ _) rfl ?_ | refine wpA_store rfl _ _ _ rfl _ rfl (.bool _) rfl ?_ | refine wpA_store rfl _ _ _ rfl _ rfl (.pointer _) rfl ?_ | refine wpA_store rfl _ _ _ rfl _ rfl (.func _ _ _) rfl ?_); (first | refine storeA hL ?_ | refine storeO hL ?_); (clear hL; intro _ hL)) | ((with_reducible refine wpA_lit rfl _ _ _ rfl ?_); first | refine litA1 hL ?_ | refine litA2 hL ?_ | refine litA3 hL ?_ | refine litA4 hL ?_ | refine litA6 hL ?_) | ((with_reducible refine wpA_append rfl _ _ _ rfl (.slice _ _ _) rfl ?_); intro vq hvq; simp [go_sem] at hvq; subst hvq; refine appendA hL ?_; clear hL; intro _ _ _ hL; try dsimp only at hL) | ((with_reducible refine wpA_make rfl _ _ _ rfl _ rfl rfl ?_); refine makeA hL ?_))
  replace hL := hL.drew
  have hS : ((fun w' : World => w'.cell? ⟨bn, 0, none⟩ = some (.int .i64 n) ∧ w'.rangeAt be 0 [.int .i64 x0, .int .i64 y0, .bool true, .int .i64 cx, .int .i64 cy, .int .i64 x1, .int .i64 y1])) _ := ⟨hL.old Hbn.out, hL.olds Hbe.out⟩
  refine wpH_begin (by kernel_rfl) ((fun w' : World => w'.cell? ⟨bn, 0, none⟩ = some (.int .i64 n) ∧ w'.rangeAt be 0 [.int .i64 x0, .int .i64 y0, .bool true, .int .i64 cx, .int .i64 cy, .int .i64 x1, .int .i64 y1])) ?_
  refine stH (i := 0) (.pointer (some ⟨be, 0, none⟩)) hS ?_ ?_; (· exact fun w' _ => (by go_simp)); simp only [Act.put, List.setIfInBounds_toArray, List.set_cons_zero, List.set_cons_succ]
  refine stH (i := 1) (.int .i64 x0) hS ?_ ?_; (· exact fun w' hw => run_loadOp _ _ rfl _ rfl _ (load_cell (hw.2 0 _ rfl))); simp only [Act.put, List.setIfInBounds_toArray, List.set_cons_zero, List.set_cons_succ]
  refine stH (i := 2) (.int .i64 (n - k)) hS ?_ ?_; (· exact fun w' _ => (by go_simp)); simp only [Act.put, List.setIfInBounds_toArray, List.set_cons_zero, List.set_cons_succ]
  refine stH (i := 3) (.int .i64 (x0 * (n - k))) hS ?_ ?_; (· exact fun w' _ => (by go_simp)); simp only [Act.put, List.setIfInBounds_toArray, List.set_cons_zero, List.set_cons_succ]
  refine stH (i := 4) (.int .i64 (n - k)) hS ?_ ?_; (· exact fun w' _ => (by go_simp)); simp only [Act.put, List.setIfInBounds_toArray, List.set_cons_zero, List.set_cons_succ]
  refine stH (i := 5) (.int .i64 ((x0 * (n - k)) * (n - k))) hS ?_ ?_; (· exact fun w' _ => (by go_simp)); simp only [Act.put, List.setIfInBounds_toArray, List.set_cons_zero, List.set_cons_succ]
  refine stH (i := 6) (.pointer (some ⟨be, 3, none⟩)) hS ?_ ?_; (· exact fun w' _ => (by go_simp)); simp only [Act.put, List.setIfInBounds_toArray, List.set_cons_zero, List.set_cons_succ]
  refine stH (i := 7) (.int .i64 cx) hS ?_ ?_; (· exact fun w' hw => run_loadOp _ _ rfl _ rfl _ (load_cell (hw.2 3 _ rfl))); simp only [Act.put, List.setIfInBounds_toArray, List.set_cons_zero, List.set_cons_succ]
  refine stH (i := 8) (.int .i64 (2 * cx)) hS ?_ ?_; (· exact fun w' _ => (by go_simp)); simp only [Act.put, List.setIfInBounds_toArray, List.set_cons_zero, List.set_cons_succ]
  refine stH (i := 9) (.int .i64 k) hS ?_ ?_; (· exact fun w' _ => (by go_simp)); simp only [Act.put, List.setIfInBounds_toArray, List.set_cons_zero, List.set_cons_succ]
  refine stH (i := 10) (.int .i64 ((2 * cx) * k)) hS ?_ ?_; (· exact fun w' _ => (by go_simp)); simp only [Act.put, List.setIfInBounds_toArray, List.set_cons_zero, List.set_cons_succ]
  refine stH (i := 11) (.int .i64 (n - k)) hS ?_ ?_; (· exact fun w' _ => (by go_simp)); simp only [Act.put, List.setIfInBounds_toArray, List.set_cons_zero, List.set_cons_succ]
  refine stH (i := 12) (.int .i64 (((2 * cx) * k) * (n - k))) hS ?_ ?_; (· exact fun w' _ => (by go_simp)); simp only [Act.put, List.setIfInBounds_toArray, List.set_cons_zero, List.set_cons_succ]
  refine stH (i := 13) (.int .i64 (((x0 * (n - k)) * (n - k)) + (((2 * cx) * k) * (n - k)))) hS ?_ ?_; (· exact fun w' _ => (by go_simp)); simp only [Act.put, List.setIfInBounds_toArray, List.set_cons_zero, List.set_cons_succ]
  refine stH (i := 14) (.pointer (some ⟨be, 5, none⟩)) hS ?_ ?_; (· exact fun w' _ => (by go_simp)); simp only [Act.put, List.setIfInBounds_toArray, List.set_cons_zero, List.set_cons_succ]
  refine stH (i := 15) (.int .i64 x1) hS ?_ ?_; (· exact fun w' hw => run_loadOp _ _ rfl _ rfl _ (load_cell (hw.2 5 _ rfl))); simp only [Act.put, List.setIfInBounds_toArray, List.set_cons_zero, List.set_cons_succ]
  refine stH (i := 16) (.int .i64 k) hS ?_ ?_; (· exact fun w' _ => (by go_simp)); simp only [Act.put, List.setIfInBounds_toArray, List.set_cons_zero, List.set_cons_succ]
  refine stH (i := 17) (.int .i64 (x1 * k)) hS ?_ ?_; (· exact fun w' _ => (by go_simp)); simp only [Act.put, List.setIfInBounds_toArray, List.set_cons_zero, List.set_cons_succ]
  refine stH (i := 18) (.int .i64 k) hS ?_ ?_; (· exact fun w' _ => (by go_simp)); simp only [Act.put, List.setIfInBounds_toArray, List.set_cons_zero, List.set_cons_succ]
  refine stH (i := 19) (.int .i64 ((x1 * k) * k)) hS ?_ ?_; (· exact fun w' _ => (by go_simp)); simp only [Act.put, List.setIfInBounds_toArray, List.set_cons_zero, List.set_cons_succ]
  refine stH (i := 20) (.int .i64 ((((x0 * (n - k)) * (n - k)) + (((2 * cx) * k) * (n - k))) + ((x1 * k) * k))) hS ?_ ?_; (· exact fun w' _ => (by go_simp)); simp only [Act.put, List.setIfInBounds_toArray, List.set_cons_zero, List.set_cons_succ]
  refine stH (i := 21) (.int .i64 n) hS ?_ ?_; (· exact fun w' hw => run_loadOp _ _ rfl _ rfl _ (load_cell hw.1)); simp only [Act.put, List.setIfInBounds_toArray, List.set_cons_zero, List.set_cons_succ]
  refine stH (i := 22) (.int .i64 n) hS ?_ ?_; (· exact fun w' hw => run_loadOp _ _ rfl _ rfl _ (load_cell hw.1)); simp only [Act.put, List.setIfInBounds_toArray, List.set_cons_zero, List.set_cons_succ]
  refine stH (i := 23) (.int .i64 (n * n)) hS ?_ ?_; (· exact fun w' _ => (by go_simp)); simp only [Act.put, List.setIfInBounds_toArray, List.set_cons_zero, List.set_cons_succ]
  refine stH (i := 25) (.pointer (some ⟨be, 1, none⟩)) hS ?_ ?_; (· exact fun w' _ => (by go_simp)); simp only [Act.put, List.setIfInBounds_toArray, List.set_cons_zero, List.set_cons_succ]
  refine stH (i := 26) (.int .i64 y0) hS ?_ ?_; (· exact fun w' hw => run_loadOp _ _ rfl _ rfl _ (load_cell (hw.2 1 _ rfl))); simp only [Act.put, List.setIfInBounds_toArray, List.set_cons_zero, List.set_cons_succ]
  refine stH (i := 27) (.int .i64 (n - k)) hS ?_ ?_; (· exact fun w' _ => (by go_simp)); simp only [Act.put, List.setIfInBounds_toArray, List.set_cons_zero, List.set_cons_succ]
  refine stH (i := 28) (.int .i64 (y0 * (n - k))) hS ?_ ?_; (· exact fun w' _ => (by go_simp)); simp only [Act.put, List.setIfInBounds_toArray, List.set_cons_zero, List.set_cons_succ]
  refine stH (i := 29) (.int .i64 (n - k)) hS ?_ ?_; (· exact fun w' _ => (by go_simp)); simp only [Act.put, List.setIfInBounds_toArray, List.set_cons_zero, List.set_cons_succ]
  refine stH (i := 30) (.int .i64 ((y0 * (n - k)) * (n - k))) hS ?_ ?_; (· exact fun w' _ => (by go_simp)); simp only [Act.put, List.setIfInBounds_toArray, List.set_cons_zero, List.set_cons_succ]
  refine stH (i := 31) (.pointer (some ⟨be, 4, none⟩)) hS ?_ ?_; (· exact fun w' _ => (by go_simp)); simp only [Act.put, List.setIfInBounds_toArray, List.set_cons_zero, List.set_cons_succ]
  refine stH (i := 32) (.int .i64 cy) hS ?_ ?_; (· exact fun w' hw => run_loadOp _ _ rfl _ rfl _ (load_cell (hw.2 4 _ rfl))); simp only [Act.put, List.setIfInBounds_toArray, List.set_cons_zero, List.set_cons_succ]
  refine stH (i := 33) (.int .i64 (2 * cy)) hS ?_ ?_; (· exact fun w' _ => (by go_simp)); simp only [Act.put, List.setIfInBounds_toArray, List.set_cons_zero, List.set_cons_succ]
  refine stH (i := 34) (.int .i64 k) hS ?_ ?_; (· exact fun w' _ => (by go_simp)); simp only [Act.put, List.setIfInBounds_toArray, List.set_cons_zero, List.set_cons_succ]
  refine stH (i := 35) (.int .i64 ((2 * cy) * k)) hS ?_ ?_; (· exact fun w' _ => (by go_simp)); simp only [Act.put, List.setIfInBounds_toArray, List.set_cons_zero, List.set_cons_succ]
  refine stH (i := 36) (.int .i64 (n - k)) hS ?_ ?_; (· exact fun w' _ => (by go_simp)); simp only [Act.put, List.setIfInBounds_toArray, List.set_cons_zero, List.set_cons_succ]
  refine stH (i := 37) (.int .i64 (((2 * cy) * k) * (n - k))) hS ?_ ?_; (· exact fun w' _ => (by go_simp)); simp only [Act.put, List.setIfInBounds_toArray, List.set_cons_zero, List.set_cons_succ]
  refine stH (i := 38) (.int .i64 (((y0 * (n - k)) * (n - k)) + (((2 * cy) * k) * (n - k)))) hS ?_ ?_; (· exact fun w' _ => (by go_simp)); simp only [Act.put, List.setIfInBounds_toArray, List.set_cons_zero, List.set_cons_succ]
  refine stH (i := 39) (.pointer (some ⟨be, 6, none⟩)) hS ?_ ?_; (· exact fun w' _ => (by go_simp)); simp only [Act.put, List.setIfInBounds_toArray, List.set_cons_zero, List.set_cons_succ]
  refine stH (i := 40) (.int .i64 y1) hS ?_ ?_; (· exact fun w' hw => run_loadOp _ _ rfl _ rfl _ (load_cell (hw.2 6 _ rfl))); simp only [Act.put, List.setIfInBounds_toArray, List.set_cons_zero, List.set_cons_succ]
  refine stH (i := 41) (.int .i64 k) hS ?_ ?_; (· exact fun w' _ => (by go_simp)); simp only [Act.put, List.setIfInBounds_toArray, List.set_cons_zero, List.set_cons_succ]
  refine stH (i := 42) (.int .i64 (y1 * k)) hS ?_ ?_; (· exact fun w' _ => (by go_simp)); simp only [Act.put, List.setIfInBounds_toArray, List.set_cons_zero, List.set_cons_succ]
  refine stH (i := 43) (.int .i64 k) hS ?_ ?_; (· exact fun w' _ => (by go_simp)); simp only [Act.put, List.setIfInBounds_toArray, List.set_cons_zero, List.set_cons_succ]
  refine stH (i := 44) (.int .i64 ((y1 * k) * k)) hS ?_ ?_; (· exact fun w' _ => (by go_simp)); simp only [Act.put, List.setIfInBounds_toArray, List.set_cons_zero, List.set_cons_succ]
  refine stH (i := 45) (.int .i64 ((((y0 * (n - k)) * (n - k)) + (((2 * cy) * k) * (n - k))) + ((y1 * k) * k))) hS ?_ ?_; (· exact fun w' _ => (by go_simp)); simp only [Act.put, List.setIfInBounds_toArray, List.set_cons_zero, List.set_cons_succ]
  refine stH (i := 46) (.int .i64 n) hS ?_ ?_; (· exact fun w' hw => run_loadOp _ _ rfl _ rfl _ (load_cell hw.1)); simp only [Act.put, List.setIfInBounds_toArray, List.set_cons_zero, List.set_cons_succ]
  refine stH (i := 47) (.int .i64 n) hS ?_ ?_; (· exact fun w' hw => run_loadOp _ _ rfl _ rfl _ (load_cell hw.1)); simp only [Act.put, List.setIfInBounds_toArray, List.set_cons_zero, List.set_cons_succ]
  refine stH (i := 48) (.int .i64 (n * n)) hS ?_ ?_; (· exact fun w' _ => (by go_simp)); simp only [Act.put, List.setIfInBounds_toArray, List.set_cons_zero, List.set_cons_succ]
  refine wpH_one (i := 24) (by kernel_rfl) (wpOp_of (by simp only [List.getElem?_toArray, List.getElem?_cons_zero, List.getElem?_cons_succ]; rfl) ?_)
  refine st_call rfl 50 #[.int .i64 ((((x0 * (n - k)) * (n - k)) + (((2 * cx) * k) * (n - k))) + ((x1 * k) * k)), .int .i64 (n * n)] (by go_simp) (over_calls _ _ hnn hnn2 gx1 gx2 _) ?_
  rintro e _ ⟨rfl, rfl⟩
  refine ⟨_, rfl, hS, ?_⟩
  simp only [Act.put, List.setIfInBounds_toArray, List.set_cons_zero, List.set_cons_succ]
  refine wpH_one (i := 49) (by kernel_rfl) (wpOp_of (by simp only [List.getElem?_toArray, List.getElem?_cons_zero, List.getElem?_cons_succ]; rfl) ?_)
  refine st_call rfl 50 #[.int .i64 ((((y0 * (n - k)) * (n - k)) + (((2 * cy) * k) * (n - k))) + ((y1 * k) * k)), .int .i64 (n * n)] (by go_simp) (over_calls _ _ hnn hnn2 gy1 gy2 _) ?_
  rintro e _ ⟨rfl, rfl⟩
  refine ⟨_, rfl, hS, ?_⟩
  simp only [Act.put, List.setIfInBounds_toArray, List.set_cons_zero, List.set_cons_succ]
  refine stH (i := 50) (.int .i64 (overI ((((x0 * (n - k)) * (n - k)) + (((2 * cx) * k) * (n - k))) + ((x1 * k) * k)) (n * n))) hS ?_ ?_; (· exact fun w' _ => (by go_simp)); simp only [Act.put, List.setIfInBounds_toArray, List.set_cons_zero, List.set_cons_succ]
  refine stH (i := 51) (.int .i64 (overI ((((y0 * (n - k)) * (n - k)) + (((2 * cy) * k) * (n - k))) + ((y1 * k) * k)) (n * n))) hS ?_ ?_; (· exact fun w' _ => (by go_simp)); simp only [Act.put, List.setIfInBounds_toArray, List.set_cons_zero, List.set_cons_succ]
  refine wpAnyH_done (by kernel_rfl) ?_ _
  clear hS
  go_wp2
  go_ret2
  exact ⟨rfl, hL.below⟩

theorem flatE_cells (x0 y0 cx cy x1 y1 : Int) {n : Nat} (hn : 1 ≤ n) : ∃ (X Y : Nat → Int) (XS : Nat → List Value), X 0 = x0 ∧ Y 0 = y0 ∧ XS 0 = [] ∧ XS n = ((flatE n ⟨x0, y0, true, cx, cy, x1, y1⟩).map edgeC).flatten ∧ (flatE n ⟨x0, y0, true, cx, cy, x1, y1⟩).length = n ∧
    (∀ k : Nat, k < n → X (k + 1) = overI (x0 * ((n : Int) - ((k : Int) + 1)) * ((n : Int) - ((k : Int) + 1)) + 2 * cx * ((k : Int) + 1) * ((n : Int) - ((k : Int) + 1)) + x1 * ((k : Int) + 1) * ((k : Int) + 1)) ((n : Int) * n)) ∧
    (∀ k : Nat, k < n → Y (k + 1) = overI (y0 * ((n : Int) - ((k : Int) + 1)) * ((n : Int) - ((k : Int) + 1)) + 2 * cy * ((k : Int) + 1) * ((n : Int) - ((k : Int) + 1)) + y1 * ((k : Int) + 1) * ((k : Int) + 1)) ((n : Int) * n)) ∧
    (∀ k : Nat, k < n → XS (k + 1) = XS k ++ [.int .i64 (X k), .int .i64 (Y k), .bool false, .int .i64 0, .int .i64 0, .int .i64 (X (k + 1)), .int .i64 (Y (k + 1))]) := by
  have hl : (flatPts ⟨x0, y0, true, cx, cy, x1, y1⟩ n).length = n := by unfold flatPts; simp
  have hget : ∀ k (h : k < n), (flatPts ⟨x0, y0, true, cx, cy, x1, y1⟩ n)[k]? = some (placeR x0 cx x1 n (k + 1), placeR y0 cy y1 n (k + 1)) := by intro k h; unfold flatPts; simp [h]
  have he : flatE n ⟨x0, y0, true, cx, cy, x1, y1⟩ = linesOf x0 y0 (flatPts ⟨x0, y0, true, cx, cy, x1, y1⟩ n) := by unfold flatE; rfl
  have hlin : ∀ (l : List (Int × Int)) (a b : Int), (linesOf a b l).length = l.length := by
    intro l
    induction l with
    | nil => intro a b; rfl
    | cons p l ih => intro a b; obtain ⟨c, d⟩ := p; rw [linesOf, List.length_cons, ih, List.length_cons]
  rw [he]
  generalize flatPts ⟨x0, y0, true, cx, cy, x1, y1⟩ n = P at *
  have hstep : ∀ k, k < n → P.take (k + 1) = P.take k ++ [(placeR x0 cx x1 n (k + 1), placeR y0 cy y1 n (k + 1))] := by
    intro k h
    rw [List.take_add_one, hget k h]; rfl
  refine ⟨fun k => (lastOf x0 y0 (P.take k)).1, fun k => (lastOf x0 y0 (P.take k)).2, fun k => ((linesOf x0 y0 (P.take k)).map edgeC).flatten, rfl, rfl, rfl, ?_, by rw [hlin, hl], ?_, ?_, ?_⟩
  · dsimp only
    rw [List.take_of_length_le (by omega)]
  · intro k h
    dsimp only
    rw [hstep k h, lastOf_snoc]
    rfl
  · intro k h
    dsimp only
    rw [hstep k h, lastOf_snoc]
    rfl
  · intro k h
    dsimp only
    rw [hstep k h, linesOf_snoc, lastOf_snoc, List.map_append, List.flatten_append]
    rfl
set_option maxRecDepth 100000 in
set_option maxHeartbeats 4000000 in
theorem flatEdges_calls (e : Edg) (hm : mayE e = true) (w : World) : Calls Try.prog 40 #[edgeV e] w (EdgesOut (flatE (cntE e) e) w) := by
  have hL := Holds.start w
  have hbd := mayE_bd hm
  have HC := Lib.hid (fun w => flatCount_calls e hm w)
  clear hm
  obtain ⟨hN1, hN2⟩ := cntE_bd e
  generalize cntE e = N at *
  obtain ⟨x0, y0, bt, cx, cy, x1, y1⟩ := e
  unfold edgeV at *
  dsimp only at *
  cases bt with
  | false =>
    have hN : ¬ (N : Int) = 0 := by omega
    have n1 : True := trivial; have n2 : True := trivial; have n3 : True := trivial
    go_enter Try.func40, Try.ntmps40
    go_wp2_with (first | (go_at_call 48; (with_reducible refine (HC.out _).mono ?_); rintro e _ ⟨rfl, hb⟩; replace hL := hL.call hb; clear hb) | (first | (clear hL n1; with_reducible intro b1 w1 hL) | (clear hL n2; with_reducible intro b2 w2 hL) | (clear hL n3; with_reducible intro b3 w3 hL) | (clear hL; with_reducible intro _ _ hL)) | (with_reducible refine wpC_alloc rfl _ rfl _ _ inferInstance hL ?_) | (with_reducible first | refine wpB_agg rfl _ _ _ rfl rfl hL ?_ | refine wpB_one rfl _ _ (.int _ _) rfl rfl rfl hL ?_ | refine wpB_one rfl _ _ (.slice _ _ _) rfl rfl rfl hL ?_ | refine wpB_one rfl _ _ (.bool _) rfl rfl rfl hL ?_ | refine wpB_one rfl _ _ (.pointer _) rfl rfl rfl hL ?_ | refine wpB_one rfl _ _ (.func _ _ _) rfl rfl rfl hL ?_) | (with_reducible first | refine wpH_max rfl _ _ _ _ rfl _ _ rfl rfl ?_ | refine wpH_min rfl _ _ _ _ rfl _ _ rfl rfl ?_) | ((with_reducible refine wpA_load rfl _ _ rfl _ rfl ?_); first | refine loadA hL ?_ | refine loadR hL ?_ | refine loadC hL ?_ | refine loadD ?_ | refine loadE hL ?_ | refine loadF ?_) | ((with_reducible refine wpA_index rfl _ _ _ rfl _ rfl _ rfl ?_); first | (refine indexA ?_; try rw [Int.toNat_natCast]) | refine indexC ?_) | ((with_reducible refine wpA_store rfl _ _ _ rfl _ rfl (.agg _) rfl ?_); refine storeR hL ?_; clear hL; intro _ hL) | ((with_reducible first | refine wpA_store rfl _ _ _ rfl _ rfl (.int _ _) rfl ?_ | refine wpA_store rfl _ _ _ rfl _ rfl (.slice _ _ _) rfl ?_ | refine wpA_store rfl _ _ _ rfl _ rfl (.bool _) rfl ?_ | refine wpA_store rfl _ _ _ rfl _ rfl (.pointer _) rfl ?_ | refine wpA_store rfl _ _ _ rfl _ rfl (.func _ _ _) rfl ?_); (first | refine storeA hL ?_ | refine storeO hL ?_); (clear hL; intro _ hL)) | ((with_reducible refine wpA_lit rfl _ _ _ rfl ?_); first | refine litA1 hL ?_ | refine litA2 hL ?_ | refine litA3 hL ?_ | refine litA4 hL ?_ | refine litA6 hL ?_) | ((with_reducible refine wpA_append rfl _ _ _ rfl (.slice _ _ _) rfl ?_); intro vq hvq; simp [go_sem] at hvq; subst hvq; refine appendA hL ?_; clear hL; intro _ _ _ hL; try dsimp only at hL) | ((with_reducible refine wpA_make rfl _ _ _ rfl _ rfl rfl ?_); refine makeA hL ?_))
    go_ret
    have hL2 := hL.litOwn (k := 7) (n := 1) (e := 30) updO rfl (by unfold maxLen; omega)
    exact ⟨_, rfl, hL.below, (hL2.settle .here (φ := fun w => EdgesAt w _ [⟨x0, y0, false, cx, cy, x1, y1⟩]) fun w h => own_sliceAt h rfl rfl (edgeC_len _)).fresh⟩
  | true =>
    obtain ⟨hx0, hy0, hcx, hcy, hx1, hy1⟩ := hbd
    have hN : ¬ (N : Int) = 0 := by omega
    have HPl := Lib.hid (fun (n k : Int) h1 h2 h3 h4 w bn be h5 h6 => flatPlace_calls x0 y0 cx cy x1 y1 hx0 hy0 hcx hcy hx1 hy1 n k h1 h2 h3 h4 w bn be h5 h6)
    have HX := flatE_cells x0 y0 cx cy x1 y1 (n := N) hN1
    generalize flatE N ⟨x0, y0, true, cx, cy, x1, y1⟩ = out at *
    obtain ⟨X, Y, XS, hX0, hY0, hXS0, hXSN, hlen, hXk, hYk, hXSk⟩ := HX
    have H1 := Lib.hid hX0; have H2 := Lib.hid hY0; have H3 := Lib.hid hXS0; have H4 := Lib.hid hXSN; have H5 := Lib.hid hlen; have H6 := Lib.hid hXk; have H7 := Lib.hid hYk; have H8 := Lib.hid hXSk
    clear hX0 hY0 hXS0 hXSN hlen hXk hYk hXSk
    have n1 : True := trivial; have n2 : True := trivial; have n3 : True := trivial
    go_enter Try.func40, Try.ntmps40
    go_wp2_with (first | (go_at_call 48; (with_reducible refine (HC.out _).mono ?_); rintro e _ ⟨rfl, hb⟩; replace hL := hL.call hb; clear hb) | (first | (clear hL n1; with_reducible intro b1 w1 hL) | (clear hL n2; with_reducible intro b2 w2 hL) | (clear hL n3; with_reducible intro b3 w3 hL) | (clear hL; with_reducible intro _ _ hL)) | (with_reducible refine wpC_alloc rfl _ rfl _ _ inferInstance hL ?_) | (with_reducible first | refine wpB_agg rfl _ _ _ rfl rfl hL ?_ | refine wpB_one rfl _ _ (.int _ _) rfl rfl rfl hL ?_ | refine wpB_one rfl _ _ (.slice _ _ _) rfl rfl rfl hL ?_ | refine wpB_one rfl _ _ (.bool _) rfl rfl rfl hL ?_ | refine wpB_one rfl _ _ (.pointer _) rfl rfl rfl hL ?_ | refine wpB_one rfl _ _ (.func _ _ _) rfl rfl rfl hL ?_) | (with_reducible first | refine wpH_max rfl _ _ _ _ rfl _ _ rfl rfl ?_ | refine wpH_min rfl _ _ _ _ rfl _ _ rfl rfl ?_) | ((with_reducible refine wpA_load rfl _ _ rfl _ rfl ?_); first | refine loadA hL ?_ | refine loadR hL ?_ | refine loadC hL ?_ | refine loadD ?_ | refine loadE hL ?_ | refine loadF ?_) | ((with_reducible refine wpA_index rfl _ _ _ rfl _ rfl _ rfl ?_); first | (refine indexA ?_; try rw [Int.toNat_natCast]) | refine indexC ?_) | ((with_reducible refine wpA_store rfl _ _ _ rfl _ rfl (.agg _) rfl ?_); refine storeR hL ?_; clear hL; intro _ hL) | ((with_reducible first | refine wpA_store rfl _ _ _ rfl _ rfl (.int _ _) rfl ?_ | refine wpA_store rfl _ _ _ rfl _ rfl (.slice _ _ _) rfl ?_ | refine wpA_store rfl _ _ _ rfl _ rfl (.bool _) rfl ?_ | refine wpA_store rfl _ _ _ rfl _ rfl (.pointer _) rfl ?_ | refine wpA_store rfl _ _ _ rfl _ rfl (.func _ _ _) rfl ?_); (first | refine storeA hL ?_ | refine storeO hL ?_); (clear hL; intro _ hL)) | ((with_reducible refine wpA_lit rfl _ _ _ rfl ?_); first | refine litA1 hL ?_ | refine litA2 hL ?_ | refine litA3 hL ?_ | refine litA4 hL ?_ | refine litA6 hL ?_) | ((with_reducible refine wpA_append rfl _ _ _ rfl (.slice _ _ _) rfl ?_); intro vq hvq; simp [go_sem] at hvq; subst hvq; refine appendA hL ?_; clear hL; intro _ _ _ hL; try dsimp only at hL) | ((with_reducible refine wpA_make rfl _ _ _ rfl _ rfl rfl ?_); refine makeA hL ?_))
    replace hL := hL.drew
    have hS : ((fun w' : World => w'.rangeAt b1 0 [.int .i64 x0, .int .i64 y0, .bool true, .int .i64 cx, .int .i64 cy, .int .i64 x1, .int .i64 y1])) _ := hL.range (by (repeat (first | with_reducible exact At.here | with_reducible apply At.there)))
    refine wpH_begin (by kernel_rfl) ((fun w' : World => w'.rangeAt b1 0 [.int .i64 x0, .int .i64 y0, .bool true, .int .i64 cx, .int .i64 cy, .int .i64 x1, .int .i64 y1])) ?_
    refine stH (i := 0) (.pointer (some ⟨b1, 0, none⟩)) hS ?_ ?_; (· exact fun w' _ => (by go_simp)); simp only [Act.put, List.setIfInBounds_toArray, List.set_cons_zero, List.set_cons_succ]
    refine stH (i := 1) (.int .i64 x0) hS ?_ ?_; (· exact fun w' hw => run_loadOp _ _ rfl _ rfl _ (load_cell (hw 0 _ rfl))); simp only [Act.put, List.setIfInBounds_toArray, List.set_cons_zero, List.set_cons_succ]
    refine stH (i := 2) (.pointer (some ⟨b1, 1, none⟩)) hS ?_ ?_; (· exact fun w' _ => (by go_simp)); simp only [Act.put, List.setIfInBounds_toArray, List.set_cons_zero, List.set_cons_succ]
    refine stH (i := 3) (.int .i64 y0) hS ?_ ?_; (· exact fun w' hw => run_loadOp _ _ rfl _ rfl _ (load_cell (hw 1 _ rfl))); simp only [Act.put, List.setIfInBounds_toArray, List.set_cons_zero, List.set_cons_succ]
    refine stH (i := 4) (.int .i64 x0) hS ?_ ?_; (· exact fun w' _ => (by go_simp)); simp only [Act.put, List.setIfInBounds_toArray, List.set_cons_zero, List.set_cons_succ]
    refine stH (i := 5) (.int .i64 y0) hS ?_ ?_; (· exact fun w' _ => (by go_simp)); simp only [Act.put, List.setIfInBounds_toArray, List.set_cons_zero, List.set_cons_succ]
    refine wpAnyH_done (by kernel_rfl) ?_ _
    clear hS
    go_wp2_with (refine wpA_load rfl _ _ rfl _ rfl ?_; refine loadA hL ?_)
    go_loopw [5, 6, 7, 26] (fun s5 s6 s7 s26 wr => ∃ k : Nat, k ≤ N ∧ s26 = .int .i64 k ∧ s6 = .int .i64 (X k) ∧ s7 = .int .i64 (Y k) ∧ Holds w wr [own w.heap.size 30 7 s5 k (XS k), blk b2 #[.int .i64 N] 3, blk b1 #[.int .i64 x0, .int .i64 y0, .bool true, .int .i64 cx, .int .i64 cy, .int .i64 x1, .int .i64 y1] 30] [])
      (fun s5 s6 s7 s26 wr => N - (intOf s26).toNat)
    case atStart => exact ⟨0, by omega, rfl, by rw [H1.out], by rw [H2.out], by rw [H3.out]; exact hL.newOwn⟩
    case round =>
      clear hL
      obtain ⟨k, hk, rfl, rfl, rfl, hL⟩ := hrel
      obtain ⟨ga, gc, rfl⟩ := own_slice hL .here
      by_cases hkt : k < N
      · have hkb : (k : Int) < (N : Int) := by omega
        have g3 := H8.out k hkt
        rw [H6.out k hkt, H7.out k hkt] at g3
        have G3 := Lib.hid g3
        clear g3
        generalize X k = ux at *
        generalize Y k = uy at *
        have n1 : True := trivial; have n2 : True := trivial; have n3 : True := trivial
        go_wp2_with (first | (go_at_call 49; (with_reducible refine (HPl.out (N : Int) ((k : Int) + 1) (by omega) (by omega) (by omega) (by omega) _ _ _ ((hL.cell (.there .here)).trans rfl) (hL.range (.there (.there .here)))).mono ?_); rintro e _ ⟨rfl, hb⟩; replace hL := hL.call hb; clear hb) | (first | (clear hL n1; with_reducible intro b1 w1 hL) | (clear hL n2; with_reducible intro b2 w2 hL) | (clear hL n3; with_reducible intro b3 w3 hL) | (clear hL; with_reducible intro _ _ hL)) | (with_reducible refine wpC_alloc rfl _ rfl _ _ inferInstance hL ?_) | (with_reducible first | refine wpB_agg rfl _ _ _ rfl rfl hL ?_ | refine wpB_one rfl _ _ (.int _ _) rfl rfl rfl hL ?_ | refine wpB_one rfl _ _ (.slice _ _ _) rfl rfl rfl hL ?_ | refine wpB_one rfl _ _ (.bool _) rfl rfl rfl hL ?_ | refine wpB_one rfl _ _ (.pointer _) rfl rfl rfl hL ?_ | refine wpB_one rfl _ _ (.func _ _ _) rfl rfl rfl hL ?_) | (with_reducible first | refine wpH_max rfl _ _ _ _ rfl _ _ rfl rfl ?_ | refine wpH_min rfl _ _ _ _ rfl _ _ rfl rfl ?_) | ((with_reducible refine wpA_load rfl _ _ rfl _ rfl ?_); first | refine loadA hL ?_ | refine loadR hL ?_ | refine loadC hL ?_ | refine loadD ?_ | refine loadE hL ?_ | refine loadF ?_) | ((with_reducible refine wpA_index rfl _ _ _ rfl _ rfl _ rfl ?_); first | (refine indexA ?_; try rw [Int.toNat_natCast]) | refine indexC ?_) | ((with_reducible refine wpA_store rfl _ _ _ rfl _ rfl (.agg _) rfl ?_); refine storeR hL ?_; clear hL; intro _ hL) | ((with_reducible first | refine wpA_store rfl _ _ _ rfl _ rfl (.int _ _) rfl ?_ | refine wpA_store rfl _ _ _ rfl _ rfl (.slice _ _ _) rfl ?_ | refine wpA_store rfl _ _ _ rfl _ rfl (.bool _) rfl ?_ | refine wpA_store rfl _ _ _ rfl _ rfl (.pointer _) rfl ?_ | refine wpA_store rfl _ _ _ rfl _ rfl (.func _ _ _) rfl ?_); (first | refine storeA hL ?_ | refine storeO hL ?_); (clear hL; intro _ hL)) | ((with_reducible refine wpA_lit rfl _ _ _ rfl ?_); first | refine litA1 hL ?_ | refine litA2 hL ?_ | refine litA3 hL ?_ | refine litA4 hL ?_ | refine litA6 hL ?_) | ((with_reducible refine wpA_append rfl _ _ _ rfl (.slice _ _ _) rfl ?_); intro vq hvq; simp [go_sem] at hvq; subst hvq; refine appendA hL ?_; clear hL; intro _ _ _ hL; try dsimp only at hL) | ((with_reducible refine wpA_make rfl _ _ _ rfl _ rfl rfl ?_); refine makeA hL ?_))
        go_roundw
        case rel => exact ⟨k + 1, by omega, by go_num, by rw [H6.out k hkt], by rw [H7.out k hkt], by rw [G3.out]; exact hL⟩
        case measure => simp [intOf]; omega
      · have e : k = N := by omega
        subst e
        go_wp2_with (first | (first | (clear hL n1; with_reducible intro b1 w1 hL) | (clear hL n2; with_reducible intro b2 w2 hL) | (clear hL n3; with_reducible intro b3 w3 hL) | (clear hL; with_reducible intro _ _ hL)) | (with_reducible refine wpC_alloc rfl _ rfl _ _ inferInstance hL ?_) | (with_reducible first | refine wpB_agg rfl _ _ _ rfl rfl hL ?_ | refine wpB_one rfl _ _ (.int _ _) rfl rfl rfl hL ?_ | refine wpB_one rfl _ _ (.slice _ _ _) rfl rfl rfl hL ?_ | refine wpB_one rfl _ _ (.bool _) rfl rfl rfl hL ?_ | refine wpB_one rfl _ _ (.pointer _) rfl rfl rfl hL ?_ | refine wpB_one rfl _ _ (.func _ _ _) rfl rfl rfl hL ?_) | (with_reducible first | refine wpH_max rfl _ _ _ _ rfl _ _ rfl rfl ?_ | refine wpH_min rfl _ _ _ _ rfl _ _ rfl rfl ?_) | ((with_reducible refine wpA_load rfl _ _ rfl _ rfl ?_); first | refine loadA hL ?_ | refine loadR hL ?_ | refine loadC hL ?_ | refine loadD ?_ | refine loadE hL ?_ | refine loadF ?_) | ((with_reducible refine wpA_index rfl _ _ _ rfl _ rfl _ rfl ?_); first | (refine indexA ?_; try rw [Int.toNat_natCast]) | refine indexC ?_) | ((with_reducible refine wpA_store rfl _ _ _ rfl _ rfl (.agg _) rfl ?_); refine storeR hL ?_; clear hL; intro _ hL) | ((with_reducible first | refine wpA_store rfl _ _ _ rfl _ rfl (.int _ _) rfl ?_ | refine wpA_store rfl _ _ _ rfl _ rfl (.slice _ _ _) rfl ?_ | refine wpA_store rfl _ _ _ rfl _ rfl (.bool _) rfl ?_ | refine wpA_store rfl _ _ _ rfl _ rfl (.pointer _) rfl ?_ | refine wpA_store rfl _ _ _ rfl _ rfl (.func _ _ _) rfl ?_); (first | refine storeA hL ?_ | refine storeO hL ?_); (clear hL; intro _ hL)) | ((with_reducible refine wpA_lit rfl _ _ _ rfl ?_); first | refine litA1 hL ?_ | refine litA2 hL ?_ | refine litA3 hL ?_ | refine litA4 hL ?_ | refine litA6 hL ?_) | ((with_reducible refine wpA_append rfl _ _ _ rfl (.slice _ _ _) rfl ?_); intro vq hvq; simp [go_sem] at hvq; subst hvq; refine appendA hL ?_; clear hL; intro _ _ _ hL; try dsimp only at hL) | ((with_reducible refine wpA_make rfl _ _ _ rfl _ rfl rfl ?_); refine makeA hL ?_))
        go_ret
        have h4 := H4.out
        rw [h4] at hL
        refine ⟨_, rfl, hL.below, (hL.settle .here (φ := fun w => EdgesAt w (.slice ga k gc) out) fun w h => own_sliceAt h (by rw [List.length_map]; exact H5.out.symm) rfl (edgeC_len _)).fresh⟩
end Go.Proofs.Ytmoabhfpibkcnaa
