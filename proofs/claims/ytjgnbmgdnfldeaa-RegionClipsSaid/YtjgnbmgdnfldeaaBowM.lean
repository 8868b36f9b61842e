/- Package bow: straight edges. -/
import Derived.Test.YtjgnbmgdnfldeaaArmM
namespace Go.Proofs.Ytjgnbmgdnfldeaa
def areaI (ax ay bx by_ cx cy : Int) : Int := (bx - ax) * (cy - ay) - (by_ - ay) * (cx - ax)
def stepUp (a b v p : Int) : Int := (if a ≤ v ∧ v < b ∧ 0 < p then 1 else 0) - (if b ≤ v ∧ v < a ∧ p < 0 then 1 else 0)
theorem turnS_area (ax ay bx by_ u v cx cy : Int) (bt : Bool) : turnS ⟨ax, ay, bt, cx, cy, bx, by_⟩ u v = stepUp ay by_ v (areaI ax ay bx by_ u v) := by
  have h1 : -(ax * (by_ - ay) + (bx - ax) * (v - ay)) - u * -(by_ - ay) = -(areaI ax ay bx by_ u v) := by unfold areaI; grind
  have h2 : (ax * (by_ - ay) + (bx - ax) * (v - ay)) - u * (by_ - ay) = areaI ax ay bx by_ u v := by unfold areaI; grind
  unfold turnS stepUp
  simp only [h1, h2]
  generalize areaI ax ay bx by_ u v = p
  split <;> (repeat' split) <;> omega
theorem mulsg (a b : Int) : (0 < a → 0 < b → 0 < a * b) ∧ (a < 0 → 0 < b → a * b < 0) ∧ (0 < a → b < 0 → a * b < 0) ∧ (a < 0 → b < 0 → 0 < a * b) ∧ (b = 0 → a * b = 0) :=
  ⟨fun h k => Int.mul_pos h k, fun h k => Int.mul_neg_of_neg_of_pos h k, fun h k => Int.mul_neg_of_pos_of_neg h k, fun h k => Int.mul_pos_of_neg_of_neg h k, fun h => by rw [h, Int.mul_zero]⟩
theorem area_flat {ax ay bx by_ u v : Int} (h : ay = v) (k : by_ = v) : areaI ax ay bx by_ u v = 0 := by
  subst h; subst k; unfold areaI; simp
theorem tri_sum (ax ay bx by_ cx cy u v : Int) : areaI ax ay bx by_ u v * (cy - v) + areaI bx by_ cx cy u v * (ay - v) + areaI cx cy ax ay u v * (by_ - v) = 0 := by
  unfold areaI; grind
/-- the sign of a product, as far as it is known -/
theorem sg_pos {a b : Int} (h : 0 < a) : (0 < b → 0 < a * b) ∧ (b < 0 → a * b < 0) ∧ (b = 0 → a * b = 0) := ⟨(mulsg a b).1 h, (mulsg a b).2.2.1 h, (mulsg a b).2.2.2.2⟩
theorem sg_neg {a b : Int} (h : a < 0) : (0 < b → a * b < 0) ∧ (b < 0 → 0 < a * b) ∧ (b = 0 → a * b = 0) := ⟨(mulsg a b).2.1 h, (mulsg a b).2.2.2.1 h, (mulsg a b).2.2.2.2⟩
def TriLaw (a b c p q r v : Int) : Prop :=
  (0 < p ∧ 0 < q ∧ 0 < r → stepUp a b v p + stepUp b c v q + stepUp c a v r = 1) ∧ (p < 0 ∧ q < 0 ∧ r < 0 → stepUp a b v p + stepUp b c v q + stepUp c a v r = -1) ∧ (-1 ≤ stepUp a b v p + stepUp b c v q + stepUp c a v r ∧ stepUp a b v p + stepUp b c v q + stepUp c a v r ≤ 1) ∧
    (p ≠ 0 → q ≠ 0 → r ≠ 0 → ¬ (0 < p ∧ 0 < q ∧ 0 < r) → ¬ (p < 0 ∧ q < 0 ∧ r < 0) → stepUp a b v p + stepUp b c v q + stepUp c a v r = 0)
theorem tri_bound (a b c p q r v : Int) : -1 ≤ stepUp a b v p + stepUp b c v q + stepUp c a v r ∧ stepUp a b v p + stepUp b c v q + stepUp c a v r ≤ 1 := by
  have one : ∀ x y p : Int, (x ≤ v → y ≤ v → stepUp x y v p = 0) ∧ (v < x → v < y → stepUp x y v p = 0) ∧ (x ≤ v → v < y → 0 ≤ stepUp x y v p ∧ stepUp x y v p ≤ 1) ∧ (v < x → y ≤ v → -1 ≤ stepUp x y v p ∧ stepUp x y v p ≤ 0) := by
    intro x y p
    unfold stepUp
    refine ⟨fun h k => ?_, fun h k => ?_, fun h k => ?_, fun h k => ?_⟩ <;> (repeat' split) <;> omega
  obtain ⟨a1, a2, a3, a4⟩ := one a b p
  obtain ⟨b1, b2, b3, b4⟩ := one b c q
  obtain ⟨c1, c2, c3, c4⟩ := one c a r
  generalize stepUp a b v p = x at *
  generalize stepUp b c v q = y at *
  generalize stepUp c a v r = z at *
  clear one
  rcases Int.lt_or_le v a with ha | ha <;> rcases Int.lt_or_le v b with hb | hb <;> rcases Int.lt_or_le v c with hc | hc <;> simp only [ha, hb, hc, true_implies] at * <;> omega
theorem up_pos {a b v p : Int} (h : 0 < p) : stepUp a b v p = if a ≤ v ∧ v < b then 1 else 0 := by
  unfold stepUp; (repeat' split) <;> omega
theorem up_neg {a b v p : Int} (h : p < 0) : stepUp a b v p = if b ≤ v ∧ v < a then -1 else 0 := by
  unfold stepUp; (repeat' split) <;> omega
set_option maxHeartbeats 4000000 in
theorem tri_law {a b c p q r v : Int} (hI : p * (c - v) + q * (a - v) + r * (b - v) = 0) (hp : a = v → b = v → p = 0) : TriLaw a b c p q r v := by
  refine ⟨?_, ?_, tri_bound a b c p q r v, ?_⟩
  · rintro ⟨h1, h2, h3⟩
    rw [up_pos h1, up_pos h2, up_pos h3]
    obtain ⟨p1, p2, p3⟩ := sg_pos (b := c - v) h1
    obtain ⟨q1, q2, q3⟩ := sg_pos (b := a - v) h2
    obtain ⟨r1, r2, r3⟩ := sg_pos (b := b - v) h3
    generalize p * (c - v) = P at *
    generalize q * (a - v) = Q at *
    generalize r * (b - v) = R at *
    rcases Int.lt_trichotomy v a with ha | ha | ha <;> rcases Int.lt_trichotomy v b with hb | hb | hb <;> rcases Int.lt_trichotomy v c with hc | hc | hc <;> (repeat' split) <;> omega
  · rintro ⟨h1, h2, h3⟩
    rw [up_neg h1, up_neg h2, up_neg h3]
    obtain ⟨p1, p2, p3⟩ := sg_neg (b := c - v) h1
    obtain ⟨q1, q2, q3⟩ := sg_neg (b := a - v) h2
    obtain ⟨r1, r2, r3⟩ := sg_neg (b := b - v) h3
    generalize p * (c - v) = P at *
    generalize q * (a - v) = Q at *
    generalize r * (b - v) = R at *
    rcases Int.lt_trichotomy v a with ha | ha | ha <;> rcases Int.lt_trichotomy v b with hb | hb | hb <;> rcases Int.lt_trichotomy v c with hc | hc | hc <;> (repeat' split) <;> omega
  · intro n1 n2 n3 n4 n5
    rcases (by omega : 0 < p ∨ p < 0) with h1 | h1 <;> rcases (by omega : 0 < q ∨ q < 0) with h2 | h2 <;> rcases (by omega : 0 < r ∨ r < 0) with h3 | h3
    all_goals
      first
      | omega
      | (first | rw [up_pos h1] | rw [up_neg h1]); (first | rw [up_pos h2] | rw [up_neg h2]); (first | rw [up_pos h3] | rw [up_neg h3])
        obtain ⟨p1, p2, p3⟩ := (by first | exact sg_pos (b := c - v) h1 | exact sg_neg (b := c - v) h1 : _ ∧ _ ∧ _)
        obtain ⟨q1, q2, q3⟩ := (by first | exact sg_pos (b := a - v) h2 | exact sg_neg (b := a - v) h2 : _ ∧ _ ∧ _)
        obtain ⟨r1, r2, r3⟩ := (by first | exact sg_pos (b := b - v) h3 | exact sg_neg (b := b - v) h3 : _ ∧ _ ∧ _)
        generalize p * (c - v) = P at *
        generalize q * (a - v) = Q at *
        generalize r * (b - v) = R at *
        rcases Int.lt_trichotomy v a with ha | ha | ha <;> rcases Int.lt_trichotomy v b with hb | hb | hb <;> rcases Int.lt_trichotomy v c with hc | hc | hc <;> (repeat' split) <;> omega

/-- a triangle around a point -/
theorem tri_wind (ax ay bx by_ cx cy u v : Int) : TriLaw ay by_ cy (areaI ax ay bx by_ u v) (areaI bx by_ cx cy u v) (areaI cx cy ax ay u v) v :=
  tri_law (tri_sum ax ay bx by_ cx cy u v) area_flat

/-- a box around a point -/
def boxK (x0 y0 x1 y1 u v : Int) : Int := if (min x0 x1 ≤ u ∧ u < max x0 x1) ∧ (min y0 y1 ≤ v ∧ v < max y0 y1) then (if decide (x0 < x1) = decide (y0 < y1) then 1 else -1) else 0
theorem side_turn (x y0 y1 u v : Int) : turnS ⟨x, y0, false, 0, 0, x, y1⟩ u v = (if y0 ≤ v ∧ v < y1 ∧ u < x then 1 else 0) - (if y1 ≤ v ∧ v < y0 ∧ u < x then 1 else 0) := by
  rw [turnS_area]
  have h : areaI x y0 x y1 u v = (y1 - y0) * (x - u) := by unfold areaI; grind
  rw [h]
  unfold stepUp
  obtain ⟨m1, m2, m3, m4, m5⟩ := mulsg (y1 - y0) (x - u)
  generalize (y1 - y0) * (x - u) = m at *
  rcases (by omega : 0 < y1 - y0 ∨ y1 - y0 < 0 ∨ y1 = y0) with h1 | h1 | h1 <;> rcases (by omega : 0 < x - u ∨ x - u < 0 ∨ x - u = 0) with h2 | h2 | h2 <;> (repeat' split) <;> omega
theorem flat_turn (x0 x1 y u v : Int) : turnS ⟨x0, y, false, 0, 0, x1, y⟩ u v = 0 := by
  simp only [turnS]
  rw [if_pos (by omega)]
theorem box_wind (x0 y0 x1 y1 u v : Int) : turnS ⟨x0, y0, false, 0, 0, x1, y0⟩ u v + turnS ⟨x1, y0, false, 0, 0, x1, y1⟩ u v + turnS ⟨x1, y1, false, 0, 0, x0, y1⟩ u v + turnS ⟨x0, y1, false, 0, 0, x0, y0⟩ u v = boxK x0 y0 x1 y1 u v := by
  rw [flat_turn, flat_turn, side_turn, side_turn]
  unfold boxK
  have e : (decide (x0 < x1) = decide (y0 < y1)) ↔ (x0 < x1 ↔ y0 < y1) := by
    constructor
    · intro h; rw [← decide_eq_true_iff (p := x0 < x1), h]; simp
    · intro h; simp [h]
  simp only [e]
  rcases (by omega : x0 < x1 ∨ x1 < x0 ∨ x0 = x1) with h1 | h1 | h1 <;> rcases (by omega : y0 < y1 ∨ y1 < y0 ∨ y0 = y1) with h2 | h2 | h2 <;> (repeat' split) <;> omega
open Go.RowKit

def sgn (p : Int) : Int := if p < 0 then -1 else if 0 < p then 1 else 0

theorem rootSgn_calls (p : Int) (w : World) : Calls Try.prog 125 #[.int .i64 p] w fun e w' => e = .returned (.int .i64 (sgn p)) ∧ w = w' := by
  rcases (by omega : p < 0 ∨ p = 0 ∨ 0 < p) with h | h | h
  · go_enter Try.func125, Try.ntmps125
    go_wp2
    go_ret
    exact ⟨ret_int (by unfold sgn; rw [if_pos h]), rfl⟩
  · subst h
    go_enter Try.func125, Try.ntmps125
    go_wp2
    go_ret
    exact ⟨ret_int (by unfold sgn; rfl), rfl⟩
  · go_enter Try.func125, Try.ntmps125
    go_wp2
    go_ret
    exact ⟨ret_int (by unfold sgn; rw [if_neg (by omega), if_pos h]), rfl⟩
theorem rootMay0_calls (w : World) : Calls Try.prog 120 #[.int .i64 0, .int .i64 0] w fun e w' => e = .returned (.bool true) ∧ w = w' := by
  go_enter Try.func120, Try.ntmps120
  go_wp2
  go_ret
  exact ⟨rfl, rfl⟩
theorem rootSign0_calls (p : Int) (h1 : -4611686018427387904 ≤ p) (h2 : p ≤ 4611686018427387904) (w : World) : Calls Try.prog 121 #[.int .i64 p, .int .i64 0, .int .i64 0] w fun e w' => e = .returned (.tuple #[.int .i64 (sgn p), .bool true]) ∧ w = w' := by
  rcases (by omega : p = 0 ∨ p ≠ 0) with h | h
  · subst h
    go_enter Try.func121, Try.ntmps121
    go_wp2_with (first | (go_at_call 120; (with_reducible refine (rootMay0_calls _).mono ?_); rintro e _ ⟨rfl, rfl⟩) | (go_at_call 125; (with_reducible refine (rootSgn_calls _ _).mono ?_); rintro e _ ⟨rfl, rfl⟩; try simp only [show sgn 0 = 0 from rfl]))
    go_ret2
    exact ⟨rfl, rfl⟩
  · have hs : sgn p ≠ 0 := by unfold sgn; (repeat' split) <;> omega
    have hb : -1 ≤ sgn p ∧ sgn p ≤ 1 := by unfold sgn; (repeat' split) <;> omega
    obtain ⟨hb1, hb2⟩ := hb
    generalize hg : sgn p = s at hs hb1 hb2 ⊢
    have Hg := Lib.hid hg; clear hg
    go_enter Try.func121, Try.ntmps121
    go_wp2_with (first | (go_at_call 120; (with_reducible refine (rootMay0_calls _).mono ?_); rintro e _ ⟨rfl, rfl⟩) | (go_at_call 125; (with_reducible refine (rootSgn_calls _ _).mono ?_); rintro e _ ⟨rfl, rfl⟩; first | rw [show sgn 0 = 0 from rfl] | rw [Hg.out]))
    go_ret2
    exact ⟨rfl, rfl⟩
theorem bowSign0_calls (p : Int) (h1 : -4611686018427387904 ≤ p) (h2 : p ≤ 4611686018427387904) (w : World) : Calls Try.prog 124 #[.int .i64 p, .int .i64 0, .int .i64 0] w fun e w' => e = .returned (.int .i64 (sgn p)) ∧ w = w' := by
  go_enter Try.func124, Try.ntmps124
  go_wp2_with (first | (go_at_call 121; (with_reducible refine (rootSign0_calls _ (by omega) (by omega) _).mono ?_); rintro e _ ⟨rfl, rfl⟩))
  go_ret
  exact ⟨rfl, rfl⟩

/-- are numbers coordinates? -/
theorem near_calls (w : World) (v : Value) (l : List Int) (hv : NumsAt w v l) : Calls Try.prog 114 #[v] w fun e w' => e = .returned (.bool (l.all near1)) ∧ Below w.heap.size w w' := by
  obtain ⟨a, cap, rfl, hlc, hcm, hel⟩ := hv.parts
  clear hv
  unfold maxLen at hcm
  have Hel := Lib.hid hel; clear hel
  have hL := Holds.start w
  go_enter Try.func114, Try.ntmps114
  go_wp2_with (first | ((clear hL; with_reducible intro _ _ hL)) | (with_reducible refine wpC_alloc rfl _ rfl _ _ inferInstance hL ?_) | (with_reducible first | refine wpB_agg rfl _ _ _ rfl rfl hL ?_ | refine wpB_one rfl _ _ (.int _ _) rfl rfl rfl hL ?_ | refine wpB_one rfl _ _ (.slice _ _ _) rfl rfl rfl hL ?_ | refine wpB_one rfl _ _ (.bool _) rfl rfl rfl hL ?_ | refine wpB_one rfl _ _ (.pointer _) rfl rfl rfl hL ?_ | refine wpB_one rfl _ _ (.func _ _ _) rfl rfl rfl hL ?_) | (with_reducible first | refine wpH_max rfl _ _ _ _ rfl _ _ rfl rfl ?_ | refine wpH_min rfl _ _ _ _ rfl _ _ rfl rfl ?_) | ((with_reducible refine wpA_load rfl _ _ rfl _ rfl ?_); first | refine loadA hL ?_ | refine loadR hL ?_ | refine loadC hL ?_ | refine loadD ?_ | refine loadE hL ?_ | refine loadF ?_) | ((with_reducible refine wpA_index rfl _ _ _ rfl _ rfl _ rfl ?_); first | (refine indexA ?_; try rw [Int.toNat_natCast]) | refine indexC ?_) | ((with_reducible refine wpA_store rfl _ _ _ rfl _ rfl (.agg _) rfl ?_); refine storeR hL ?_; clear hL; intro _ hL) | ((with_reducible first | refine wpA_store rfl _ _ _ rfl _ rfl (.int _ _) rfl ?_ | refine wpA_store rfl _ _ _ rfl _ rfl (.slice _ _ _) rfl ?_ | refine wpA_store rfl _ _ _ rfl _ rfl (.bool _) rfl ?_ | refine wpA_store rfl _ _ _ rfl _ rfl (.pointer _) rfl ?_ | refine wpA_store rfl _ _ _ rfl _ rfl (.func _ _ _) rfl ?_); (first | refine storeA hL ?_ | refine storeO hL ?_); (clear hL; intro _ hL)) | ((with_reducible refine wpA_lit rfl _ _ _ rfl ?_); first | refine litA1 hL ?_ | refine litA2 hL ?_ | refine litA3 hL ?_ | refine litA4 hL ?_ | refine litA6 hL ?_) | ((with_reducible refine wpA_append rfl _ _ _ rfl (.slice _ _ _) rfl ?_); intro vq hvq; simp [go_sem] at hvq; subst hvq; refine appendA hL ?_; clear hL; intro _ _ _ hL; try dsimp only at hL) | ((with_reducible refine wpA_make rfl _ _ _ rfl _ rfl rfl ?_); refine makeA hL ?_))
  go_loopw [7] (fun s7 wr => ∃ k : Nat, k ≤ l.length ∧ s7 = .int .i64 k ∧ (l.take k).all near1 = true ∧ Holds w wr [] [])
    (fun s7 wr => l.length - (intOf s7).toNat)
  case atStart => exact ⟨0, by omega, rfl, by simp, hL⟩
  case round =>
    clear hL
    obtain ⟨k, hk, rfl, hall, hL⟩ := hrel
    by_cases hkt : k < l.length
    · obtain ⟨b, o, rfl, hc⟩ := Hel.out k hkt
      have hstep : (l.take (k + 1)).all near1 = ((l.take k).all near1 && near1 (l.getD k 0)) := by
        rw [List.take_succ_eq_append_getElem hkt, List.all_append]; simp [hkt]
      have hin : near1 (l.getD k 0) = false → l.all near1 = false := by
        intro h
        rw [List.all_eq_false]
        refine ⟨l[k], List.getElem_mem hkt, ?_⟩
        rw [show l[k] = l.getD k 0 by simp [hkt], h]; simp
      generalize l.getD k 0 = z at *
      have Hstep := Lib.hid hstep; have Hin := Lib.hid hin; have Hall := Lib.hid hall
      clear hstep hin hall
      have hkb : (k : Int) < (l.length : Int) := by omega
      rcases (by omega : z < -8191 ∨ 8191 < z ∨ (-8191 ≤ z ∧ z ≤ 8191)) with hz | hz | ⟨hz, hz2⟩
      · go_wp2_with (first | ((clear hL; with_reducible intro _ _ hL)) | (with_reducible refine wpC_alloc rfl _ rfl _ _ inferInstance hL ?_) | (with_reducible first | refine wpB_agg rfl _ _ _ rfl rfl hL ?_ | refine wpB_one rfl _ _ (.int _ _) rfl rfl rfl hL ?_ | refine wpB_one rfl _ _ (.slice _ _ _) rfl rfl rfl hL ?_ | refine wpB_one rfl _ _ (.bool _) rfl rfl rfl hL ?_ | refine wpB_one rfl _ _ (.pointer _) rfl rfl rfl hL ?_ | refine wpB_one rfl _ _ (.func _ _ _) rfl rfl rfl hL ?_) | (with_reducible first | refine wpH_max rfl _ _ _ _ rfl _ _ rfl rfl ?_ | refine wpH_min rfl _ _ _ _ rfl _ _ rfl rfl ?_) | ((with_reducible refine wpA_load rfl _ _ rfl _ rfl ?_); first | refine loadA hL ?_ | refine loadR hL ?_ | refine loadC hL ?_ | refine loadD ?_ | refine loadE hL ?_ | refine loadF ?_) | ((with_reducible refine wpA_index rfl _ _ _ rfl _ rfl _ rfl ?_); first | (refine indexA ?_; try rw [Int.toNat_natCast]) | refine indexC ?_) | ((with_reducible refine wpA_store rfl _ _ _ rfl _ rfl (.agg _) rfl ?_); refine storeR hL ?_; clear hL; intro _ hL) | ((with_reducible first | refine wpA_store rfl _ _ _ rfl _ rfl (.int _ _) rfl ?_ | refine wpA_store rfl _ _ _ rfl _ rfl (.slice _ _ _) rfl ?_ | refine wpA_store rfl _ _ _ rfl _ rfl (.bool _) rfl ?_ | refine wpA_store rfl _ _ _ rfl _ rfl (.pointer _) rfl ?_ | refine wpA_store rfl _ _ _ rfl _ rfl (.func _ _ _) rfl ?_); (first | refine storeA hL ?_ | refine storeO hL ?_); (clear hL; intro _ hL)) | ((with_reducible refine wpA_lit rfl _ _ _ rfl ?_); first | refine litA1 hL ?_ | refine litA2 hL ?_ | refine litA3 hL ?_ | refine litA4 hL ?_ | refine litA6 hL ?_) | ((with_reducible refine wpA_append rfl _ _ _ rfl (.slice _ _ _) rfl ?_); intro vq hvq; simp [go_sem] at hvq; subst hvq; refine appendA hL ?_; clear hL; intro _ _ _ hL; try dsimp only at hL) | ((with_reducible refine wpA_make rfl _ _ _ rfl _ rfl rfl ?_); refine makeA hL ?_))
        go_ret
        exact ⟨ret_bool (Hin.out (by simp [near1]; omega)).symm, hL.below⟩
      · go_wp2_with (first | ((clear hL; with_reducible intro _ _ hL)) | (with_reducible refine wpC_alloc rfl _ rfl _ _ inferInstance hL ?_) | (with_reducible first | refine wpB_agg rfl _ _ _ rfl rfl hL ?_ | refine wpB_one rfl _ _ (.int _ _) rfl rfl rfl hL ?_ | refine wpB_one rfl _ _ (.slice _ _ _) rfl rfl rfl hL ?_ | refine wpB_one rfl _ _ (.bool _) rfl rfl rfl hL ?_ | refine wpB_one rfl _ _ (.pointer _) rfl rfl rfl hL ?_ | refine wpB_one rfl _ _ (.func _ _ _) rfl rfl rfl hL ?_) | (with_reducible first | refine wpH_max rfl _ _ _ _ rfl _ _ rfl rfl ?_ | refine wpH_min rfl _ _ _ _ rfl _ _ rfl rfl ?_) | ((with_reducible refine wpA_load rfl _ _ rfl _ rfl ?_); first | refine loadA hL ?_ | refine loadR hL ?_ | refine loadC hL ?_ | refine loadD ?_ | refine loadE hL ?_ | refine loadF ?_) | ((with_reducible refine wpA_index rfl _ _ _ rfl _ rfl _ rfl ?_); first | (refine indexA ?_; try rw [Int.toNat_natCast]) | refine indexC ?_) | ((with_reducible refine wpA_store rfl _ _ _ rfl _ rfl (.agg _) rfl ?_); refine storeR hL ?_; clear hL; intro _ hL) | ((with_reducible first | refine wpA_store rfl _ _ _ rfl _ rfl (.int _ _) rfl ?_ | refine wpA_store rfl _ _ _ rfl _ rfl (.slice _ _ _) rfl ?_ | refine wpA_store rfl _ _ _ rfl _ rfl (.bool _) rfl ?_ | refine wpA_store rfl _ _ _ rfl _ rfl (.pointer _) rfl ?_ | refine wpA_store rfl _ _ _ rfl _ rfl (.func _ _ _) rfl ?_); (first | refine storeA hL ?_ | refine storeO hL ?_); (clear hL; intro _ hL)) | ((with_reducible refine wpA_lit rfl _ _ _ rfl ?_); first | refine litA1 hL ?_ | refine litA2 hL ?_ | refine litA3 hL ?_ | refine litA4 hL ?_ | refine litA6 hL ?_) | ((with_reducible refine wpA_append rfl _ _ _ rfl (.slice _ _ _) rfl ?_); intro vq hvq; simp [go_sem] at hvq; subst hvq; refine appendA hL ?_; clear hL; intro _ _ _ hL; try dsimp only at hL) | ((with_reducible refine wpA_make rfl _ _ _ rfl _ rfl rfl ?_); refine makeA hL ?_))
        go_ret
        exact ⟨ret_bool (Hin.out (by simp [near1]; omega)).symm, hL.below⟩
      · go_wp2_with (first | ((clear hL; with_reducible intro _ _ hL)) | (with_reducible refine wpC_alloc rfl _ rfl _ _ inferInstance hL ?_) | (with_reducible first | refine wpB_agg rfl _ _ _ rfl rfl hL ?_ | refine wpB_one rfl _ _ (.int _ _) rfl rfl rfl hL ?_ | refine wpB_one rfl _ _ (.slice _ _ _) rfl rfl rfl hL ?_ | refine wpB_one rfl _ _ (.bool _) rfl rfl rfl hL ?_ | refine wpB_one rfl _ _ (.pointer _) rfl rfl rfl hL ?_ | refine wpB_one rfl _ _ (.func _ _ _) rfl rfl rfl hL ?_) | (with_reducible first | refine wpH_max rfl _ _ _ _ rfl _ _ rfl rfl ?_ | refine wpH_min rfl _ _ _ _ rfl _ _ rfl rfl ?_) | ((with_reducible refine wpA_load rfl _ _ rfl _ rfl ?_); first | refine loadA hL ?_ | refine loadR hL ?_ | refine loadC hL ?_ | refine loadD ?_ | refine loadE hL ?_ | refine loadF ?_) | ((with_reducible refine wpA_index rfl _ _ _ rfl _ rfl _ rfl ?_); first | (refine indexA ?_; try rw [Int.toNat_natCast]) | refine indexC ?_) | ((with_reducible refine wpA_store rfl _ _ _ rfl _ rfl (.agg _) rfl ?_); refine storeR hL ?_; clear hL; intro _ hL) | ((with_reducible first | refine wpA_store rfl _ _ _ rfl _ rfl (.int _ _) rfl ?_ | refine wpA_store rfl _ _ _ rfl _ rfl (.slice _ _ _) rfl ?_ | refine wpA_store rfl _ _ _ rfl _ rfl (.bool _) rfl ?_ | refine wpA_store rfl _ _ _ rfl _ rfl (.pointer _) rfl ?_ | refine wpA_store rfl _ _ _ rfl _ rfl (.func _ _ _) rfl ?_); (first | refine storeA hL ?_ | refine storeO hL ?_); (clear hL; intro _ hL)) | ((with_reducible refine wpA_lit rfl _ _ _ rfl ?_); first | refine litA1 hL ?_ | refine litA2 hL ?_ | refine litA3 hL ?_ | refine litA4 hL ?_ | refine litA6 hL ?_) | ((with_reducible refine wpA_append rfl _ _ _ rfl (.slice _ _ _) rfl ?_); intro vq hvq; simp [go_sem] at hvq; subst hvq; refine appendA hL ?_; clear hL; intro _ _ _ hL; try dsimp only at hL) | ((with_reducible refine wpA_make rfl _ _ _ rfl _ rfl rfl ?_); refine makeA hL ?_))
        go_roundw
        case rel => exact ⟨k + 1, by omega, by go_num, by rw [Hstep.out, Hall.out]; simp [near1]; omega, hL⟩
        case measure => simp [intOf]; omega
    · have e : k = l.length := by omega
      subst e
      rw [List.take_length] at hall
      have Hall := Lib.hid hall; clear hall
      go_wp2_with (first | ((clear hL; with_reducible intro _ _ hL)) | (with_reducible refine wpC_alloc rfl _ rfl _ _ inferInstance hL ?_) | (with_reducible first | refine wpB_agg rfl _ _ _ rfl rfl hL ?_ | refine wpB_one rfl _ _ (.int _ _) rfl rfl rfl hL ?_ | refine wpB_one rfl _ _ (.slice _ _ _) rfl rfl rfl hL ?_ | refine wpB_one rfl _ _ (.bool _) rfl rfl rfl hL ?_ | refine wpB_one rfl _ _ (.pointer _) rfl rfl rfl hL ?_ | refine wpB_one rfl _ _ (.func _ _ _) rfl rfl rfl hL ?_) | (with_reducible first | refine wpH_max rfl _ _ _ _ rfl _ _ rfl rfl ?_ | refine wpH_min rfl _ _ _ _ rfl _ _ rfl rfl ?_) | ((with_reducible refine wpA_load rfl _ _ rfl _ rfl ?_); first | refine loadA hL ?_ | refine loadR hL ?_ | refine loadC hL ?_ | refine loadD ?_ | refine loadE hL ?_ | refine loadF ?_) | ((with_reducible refine wpA_index rfl _ _ _ rfl _ rfl _ rfl ?_); first | (refine indexA ?_; try rw [Int.toNat_natCast]) | refine indexC ?_) | ((with_reducible refine wpA_store rfl _ _ _ rfl _ rfl (.agg _) rfl ?_); refine storeR hL ?_; clear hL; intro _ hL) | ((with_reducible first | refine wpA_store rfl _ _ _ rfl _ rfl (.int _ _) rfl ?_ | refine wpA_store rfl _ _ _ rfl _ rfl (.slice _ _ _) rfl ?_ | refine wpA_store rfl _ _ _ rfl _ rfl (.bool _) rfl ?_ | refine wpA_store rfl _ _ _ rfl _ rfl (.pointer _) rfl ?_ | refine wpA_store rfl _ _ _ rfl _ rfl (.func _ _ _) rfl ?_); (first | refine storeA hL ?_ | refine storeO hL ?_); (clear hL; intro _ hL)) | ((with_reducible refine wpA_lit rfl _ _ _ rfl ?_); first | refine litA1 hL ?_ | refine litA2 hL ?_ | refine litA3 hL ?_ | refine litA4 hL ?_ | refine litA6 hL ?_) | ((with_reducible refine wpA_append rfl _ _ _ rfl (.slice _ _ _) rfl ?_); intro vq hvq; simp [go_sem] at hvq; subst hvq; refine appendA hL ?_; clear hL; intro _ _ _ hL; try dsimp only at hL) | ((with_reducible refine wpA_make rfl _ _ _ rfl _ rfl rfl ?_); refine makeA hL ?_))
      go_ret
      exact ⟨ret_bool Hall.out.symm, hL.below⟩
open Go.RowKit

/-- an array of n structs of k cells -/
class ArrS (P : Program) (T : TypeId) (n : outParam Nat) (e : outParam TypeId) (k : outParam Nat) : Prop where
  out : P.underlying T = some (.array n e)
  agg : ∀ w, (isAgg e).run P w = .ok true w
  size : (P.info? e).map (·.size) = some k
theorem indexS {P : Program} {w : World} {K : Value → Prop} {T e : TypeId} {n k : Nat} {i : Int} {cs vs : Array Value} [hT : ArrS P T n e k] (h : K (.agg vs)) (h0 : 0 ≤ i := by omega) (h1 : i < (n : Int) := by omega) (hv : cs.extract (i.toNat * k) (i.toNat * k + k) = vs := by rfl) : IndexAt P T (.agg cs) i w K := by
  refine ⟨.agg vs, ?_, h⟩
  have hs := hT.size
  cases hq : P.info? e with
  | none => simp [hq] at hs
  | some i' =>
    have hs' : i'.size = k := by simpa [hq] using hs
    subst hv
    simp [Instr.index, asIntOf, run_underlying hT.out, Sem.run_bind, h0, h1, part, hT.agg, sizeOf, typeInfo, hq, hs']
instance : ArrS Try.prog 128 2 127 5 := ⟨Try.underlying128, fun w => by kernel_rfl, by kernel_rfl⟩

theorem Holds.numsLit {w0 w : World} {M : List Res} {Φ : List (World → Prop)} {b : Nat} {cs : Array Value} {T : TypeId} (l : List Int) (hL : Holds w0 w M Φ) (k : At M (blk b cs T)) (hcs : cs = (l.map fun n => Value.int .i64 n).toArray) (hm : l.length ≤ maxLen := by (unfold maxLen; simp only [List.length_cons, List.length_nil]; omega)) : NumsAt w (.slice (some ⟨b, 0, none⟩) l.length l.length) l := by
  refine ⟨some ⟨b, 0, none⟩, l.length, by simp, by simp, hm, fun i hi => ⟨b, 0, rfl, fun j v hj => ?_⟩⟩
  simp only [List.length_map] at hi
  rcases j with _ | j
  · rw [Nat.zero_add, Nat.mul_one, Nat.add_zero, hL.cell k, hcs]
    simp only [List.getElem_map, List.getElem?_cons_zero, Option.some.injEq] at hj
    simp [hi, ← hj]
  · simp at hj

theorem mul_bd {a b A B : Int} (h1 : -A ≤ a) (h2 : a ≤ A) (h3 : -B ≤ b) (h4 : b ≤ B) : -(A * B) ≤ a * b ∧ a * b ≤ A * B := by
  have k1 := Int.mul_nonneg (show 0 ≤ A - a by omega) (show 0 ≤ B + b by omega)
  have k2 := Int.mul_nonneg (show 0 ≤ A + a by omega) (show 0 ≤ B - b by omega)
  have k3 := Int.mul_nonneg (show 0 ≤ A - a by omega) (show 0 ≤ B - b by omega)
  have k4 := Int.mul_nonneg (show 0 ≤ A + a by omega) (show 0 ≤ B + b by omega)
  have e1 : (A - a) * (B + b) + (A + a) * (B - b) = 2 * (A * B) - 2 * (a * b) := by grind
  have e2 : (A - a) * (B - b) + (A + a) * (B + b) = 2 * (A * B) + 2 * (a * b) := by grind
  omega

set_option maxRecDepth 100000 in
set_option maxHeartbeats 1000000 in
theorem bowMay_calls (e : Edg) (w : World) : Calls Try.prog 113 #[edgeV e] w fun r w' => r = .returned (.bool (mayE e)) ∧ Below w.heap.size w w' := by
  obtain ⟨x0, y0, bt, cx, cy, x1, y1⟩ := e
  unfold edgeV
  dsimp only
  have hL := Holds.start w
  have HM := Lib.hid (show mayE ⟨x0, y0, bt, cx, cy, x1, y1⟩ = ([x0, y0, cx, cy, x1, y1].all near1 && (bt || (decide (cx = 0) && decide (cy = 0)))) by simp [mayE, Bool.and_assoc])
  cases hn : [x0, y0, cx, cy, x1, y1].all near1 with
  | false =>
    have Hn := Lib.hid hn; clear hn
    have n1 : True := trivial; have n2 : True := trivial
    go_enter Try.func113, Try.ntmps113
    go_wp2_with (first | (go_at_call 114; (refine (near_calls _ _ [x0, y0, cx, cy, x1, y1] (hL.numsLit [x0, y0, cx, cy, x1, y1] atO (by rfl))).mono ?_); rintro e _ ⟨rfl, hb⟩; rw [Hn.out]; replace hL := hL.call hb; clear hb) | (first | (clear hL n1; with_reducible intro b1 w1 hL) | (clear hL n2; with_reducible intro b2 w2 hL) | (clear hL; with_reducible intro _ _ hL)) | (with_reducible refine wpC_alloc rfl _ rfl _ _ inferInstance hL ?_) | (with_reducible first | refine wpB_agg rfl _ _ _ rfl rfl hL ?_ | refine wpB_one rfl _ _ (.int _ _) rfl rfl rfl hL ?_ | refine wpB_one rfl _ _ (.slice _ _ _) rfl rfl rfl hL ?_ | refine wpB_one rfl _ _ (.bool _) rfl rfl rfl hL ?_ | refine wpB_one rfl _ _ (.pointer _) rfl rfl rfl hL ?_ | refine wpB_one rfl _ _ (.func _ _ _) rfl rfl rfl hL ?_) | (with_reducible first | refine wpH_max rfl _ _ _ _ rfl _ _ rfl rfl ?_ | refine wpH_min rfl _ _ _ _ rfl _ _ rfl rfl ?_) | ((with_reducible refine wpA_load rfl _ _ rfl _ rfl ?_); first | refine loadA hL ?_ | refine loadR hL ?_ | refine loadC hL ?_ | refine loadD ?_ | refine loadE hL ?_ | refine loadF ?_) | ((with_reducible refine wpA_index rfl _ _ _ rfl _ rfl _ rfl ?_); first | (refine indexA ?_; try rw [Int.toNat_natCast]) | refine indexC ?_) | ((with_reducible refine wpA_store rfl _ _ _ rfl _ rfl (.agg _) rfl ?_); refine storeR hL ?_; clear hL; intro _ hL) | ((with_reducible first | refine wpA_store rfl _ _ _ rfl _ rfl (.int _ _) rfl ?_ | refine wpA_store rfl _ _ _ rfl _ rfl (.slice _ _ _) rfl ?_ | refine wpA_store rfl _ _ _ rfl _ rfl (.bool _) rfl ?_ | refine wpA_store rfl _ _ _ rfl _ rfl (.pointer _) rfl ?_ | refine wpA_store rfl _ _ _ rfl _ rfl (.func _ _ _) rfl ?_); (first | refine storeA hL ?_ | refine storeO hL ?_); (clear hL; intro _ hL)) | ((with_reducible refine wpA_lit rfl _ _ _ rfl ?_); first | refine litA1 hL ?_ | refine litA2 hL ?_ | refine litA3 hL ?_ | refine litA4 hL ?_ | refine litA6 hL ?_) | ((with_reducible refine wpA_append rfl _ _ _ rfl (.slice _ _ _) rfl ?_); intro vq hvq; simp [go_sem] at hvq; subst hvq; refine appendA hL ?_; clear hL; intro _ _ _ hL; try dsimp only at hL) | ((with_reducible refine wpA_make rfl _ _ _ rfl _ rfl rfl ?_); refine makeA hL ?_))
    go_ret
    exact ⟨ret_bool (by rw [HM.out, Hn.out]; rfl), hL.below⟩
  | true =>
    have Hn := Lib.hid hn; clear hn
    cases bt with
    | true =>
      have n1 : True := trivial; have n2 : True := trivial
      go_enter Try.func113, Try.ntmps113
      go_wp2_with (first | (go_at_call 114; (refine (near_calls _ _ [x0, y0, cx, cy, x1, y1] (hL.numsLit [x0, y0, cx, cy, x1, y1] atO (by rfl))).mono ?_); rintro e _ ⟨rfl, hb⟩; rw [Hn.out]; replace hL := hL.call hb; clear hb) | (first | (clear hL n1; with_reducible intro b1 w1 hL) | (clear hL n2; with_reducible intro b2 w2 hL) | (clear hL; with_reducible intro _ _ hL)) | (with_reducible refine wpC_alloc rfl _ rfl _ _ inferInstance hL ?_) | (with_reducible first | refine wpB_agg rfl _ _ _ rfl rfl hL ?_ | refine wpB_one rfl _ _ (.int _ _) rfl rfl rfl hL ?_ | refine wpB_one rfl _ _ (.slice _ _ _) rfl rfl rfl hL ?_ | refine wpB_one rfl _ _ (.bool _) rfl rfl rfl hL ?_ | refine wpB_one rfl _ _ (.pointer _) rfl rfl rfl hL ?_ | refine wpB_one rfl _ _ (.func _ _ _) rfl rfl rfl hL ?_) | (with_reducible first | refine wpH_max rfl _ _ _ _ rfl _ _ rfl rfl ?_ | refine wpH_min rfl _ _ _ _ rfl _ _ rfl rfl ?_) | ((with_reducible refine wpA_load rfl _ _ rfl _ rfl ?_); first | refine loadA hL ?_ | refine loadR hL ?_ | refine loadC hL ?_ | refine loadD ?_ | refine loadE hL ?_ | refine loadF ?_) | ((with_reducible refine wpA_index rfl _ _ _ rfl _ rfl _ rfl ?_); first | (refine indexA ?_; try rw [Int.toNat_natCast]) | refine indexC ?_) | ((with_reducible refine wpA_store rfl _ _ _ rfl _ rfl (.agg _) rfl ?_); refine storeR hL ?_; clear hL; intro _ hL) | ((with_reducible first | refine wpA_store rfl _ _ _ rfl _ rfl (.int _ _) rfl ?_ | refine wpA_store rfl _ _ _ rfl _ rfl (.slice _ _ _) rfl ?_ | refine wpA_store rfl _ _ _ rfl _ rfl (.bool _) rfl ?_ | refine wpA_store rfl _ _ _ rfl _ rfl (.pointer _) rfl ?_ | refine wpA_store rfl _ _ _ rfl _ rfl (.func _ _ _) rfl ?_); (first | refine storeA hL ?_ | refine storeO hL ?_); (clear hL; intro _ hL)) | ((with_reducible refine wpA_lit rfl _ _ _ rfl ?_); first | refine litA1 hL ?_ | refine litA2 hL ?_ | refine litA3 hL ?_ | refine litA4 hL ?_ | refine litA6 hL ?_) | ((with_reducible refine wpA_append rfl _ _ _ rfl (.slice _ _ _) rfl ?_); intro vq hvq; simp [go_sem] at hvq; subst hvq; refine appendA hL ?_; clear hL; intro _ _ _ hL; try dsimp only at hL) | ((with_reducible refine wpA_make rfl _ _ _ rfl _ rfl rfl ?_); refine makeA hL ?_))
      go_ret
      exact ⟨ret_bool (by rw [HM.out, Hn.out]; rfl), hL.below⟩
    | false =>
      rcases (by omega : cx ≠ 0 ∨ (cx = 0 ∧ cy ≠ 0) ∨ (cx = 0 ∧ cy = 0)) with h | ⟨h, h2⟩ | ⟨h, h2⟩
      · have HR := Lib.hid (show (true && (false || (decide (cx = 0) && decide (cy = 0)))) = false by simp [h])
        have n1 : True := trivial; have n2 : True := trivial
        go_enter Try.func113, Try.ntmps113
        go_wp2_with (first | (go_at_call 114; (refine (near_calls _ _ [x0, y0, cx, cy, x1, y1] (hL.numsLit [x0, y0, cx, cy, x1, y1] atO (by rfl))).mono ?_); rintro e _ ⟨rfl, hb⟩; rw [Hn.out]; replace hL := hL.call hb; clear hb) | (first | (clear hL n1; with_reducible intro b1 w1 hL) | (clear hL n2; with_reducible intro b2 w2 hL) | (clear hL; with_reducible intro _ _ hL)) | (with_reducible refine wpC_alloc rfl _ rfl _ _ inferInstance hL ?_) | (with_reducible first | refine wpB_agg rfl _ _ _ rfl rfl hL ?_ | refine wpB_one rfl _ _ (.int _ _) rfl rfl rfl hL ?_ | refine wpB_one rfl _ _ (.slice _ _ _) rfl rfl rfl hL ?_ | refine wpB_one rfl _ _ (.bool _) rfl rfl rfl hL ?_ | refine wpB_one rfl _ _ (.pointer _) rfl rfl rfl hL ?_ | refine wpB_one rfl _ _ (.func _ _ _) rfl rfl rfl hL ?_) | (with_reducible first | refine wpH_max rfl _ _ _ _ rfl _ _ rfl rfl ?_ | refine wpH_min rfl _ _ _ _ rfl _ _ rfl rfl ?_) | ((with_reducible refine wpA_load rfl _ _ rfl _ rfl ?_); first | refine loadA hL ?_ | refine loadR hL ?_ | refine loadC hL ?_ | refine loadD ?_ | refine loadE hL ?_ | refine loadF ?_) | ((with_reducible refine wpA_index rfl _ _ _ rfl _ rfl _ rfl ?_); first | (refine indexA ?_; try rw [Int.toNat_natCast]) | refine indexC ?_) | ((with_reducible refine wpA_store rfl _ _ _ rfl _ rfl (.agg _) rfl ?_); refine storeR hL ?_; clear hL; intro _ hL) | ((with_reducible first | refine wpA_store rfl _ _ _ rfl _ rfl (.int _ _) rfl ?_ | refine wpA_store rfl _ _ _ rfl _ rfl (.slice _ _ _) rfl ?_ | refine wpA_store rfl _ _ _ rfl _ rfl (.bool _) rfl ?_ | refine wpA_store rfl _ _ _ rfl _ rfl (.pointer _) rfl ?_ | refine wpA_store rfl _ _ _ rfl _ rfl (.func _ _ _) rfl ?_); (first | refine storeA hL ?_ | refine storeO hL ?_); (clear hL; intro _ hL)) | ((with_reducible refine wpA_lit rfl _ _ _ rfl ?_); first | refine litA1 hL ?_ | refine litA2 hL ?_ | refine litA3 hL ?_ | refine litA4 hL ?_ | refine litA6 hL ?_) | ((with_reducible refine wpA_append rfl _ _ _ rfl (.slice _ _ _) rfl ?_); intro vq hvq; simp [go_sem] at hvq; subst hvq; refine appendA hL ?_; clear hL; intro _ _ _ hL; try dsimp only at hL) | ((with_reducible refine wpA_make rfl _ _ _ rfl _ rfl rfl ?_); refine makeA hL ?_))
        go_ret
        exact ⟨ret_bool (by rw [HM.out, Hn.out, HR.out]), hL.below⟩
      · subst h
        have d1 : (cy == 0) = false := by simp [h2]
        have HR := Lib.hid (show (true && (false || (decide ((0 : Int) = 0) && decide (cy = 0)))) = false by simp [h2])
        have n1 : True := trivial; have n2 : True := trivial
        go_enter Try.func113, Try.ntmps113
        go_wp2_with (first | (go_at_call 114; (refine (near_calls _ _ [x0, y0, 0, cy, x1, y1] (hL.numsLit [x0, y0, 0, cy, x1, y1] atO (by rfl))).mono ?_); rintro e _ ⟨rfl, hb⟩; rw [Hn.out]; replace hL := hL.call hb; clear hb) | (first | (clear hL n1; with_reducible intro b1 w1 hL) | (clear hL n2; with_reducible intro b2 w2 hL) | (clear hL; with_reducible intro _ _ hL)) | (with_reducible refine wpC_alloc rfl _ rfl _ _ inferInstance hL ?_) | (with_reducible first | refine wpB_agg rfl _ _ _ rfl rfl hL ?_ | refine wpB_one rfl _ _ (.int _ _) rfl rfl rfl hL ?_ | refine wpB_one rfl _ _ (.slice _ _ _) rfl rfl rfl hL ?_ | refine wpB_one rfl _ _ (.bool _) rfl rfl rfl hL ?_ | refine wpB_one rfl _ _ (.pointer _) rfl rfl rfl hL ?_ | refine wpB_one rfl _ _ (.func _ _ _) rfl rfl rfl hL ?_) | (with_reducible first | refine wpH_max rfl _ _ _ _ rfl _ _ rfl rfl ?_ | refine wpH_min rfl _ _ _ _ rfl _ _ rfl rfl ?_) | ((with_reducible refine wpA_load rfl _ _ rfl _ rfl ?_); first | refine loadA hL ?_ | refine loadR hL ?_ | refine loadC hL ?_ | refine loadD ?_ | refine loadE hL ?_ | refine loadF ?_) | ((with_reducible refine wpA_index rfl _ _ _ rfl _ rfl _ rfl ?_); first | (refine indexA ?_; try rw [Int.toNat_natCast]) | refine indexC ?_) | ((with_reducible refine wpA_store rfl _ _ _ rfl _ rfl (.agg _) rfl ?_); refine storeR hL ?_; clear hL; intro _ hL) | ((with_reducible first | refine wpA_store rfl _ _ _ rfl _ rfl (.int _ _) rfl ?_ | refine wpA_store rfl _ _ _ rfl _ rfl (.slice _ _ _) rfl ?_ | refine wpA_store rfl _ _ _ rfl _ rfl (.bool _) rfl ?_ | refine wpA_store rfl _ _ _ rfl _ rfl (.pointer _) rfl ?_ | refine wpA_store rfl _ _ _ rfl _ rfl (.func _ _ _) rfl ?_); (first | refine storeA hL ?_ | refine storeO hL ?_); (clear hL; intro _ hL)) | ((with_reducible refine wpA_lit rfl _ _ _ rfl ?_); first | refine litA1 hL ?_ | refine litA2 hL ?_ | refine litA3 hL ?_ | refine litA4 hL ?_ | refine litA6 hL ?_) | ((with_reducible refine wpA_append rfl _ _ _ rfl (.slice _ _ _) rfl ?_); intro vq hvq; simp [go_sem] at hvq; subst hvq; refine appendA hL ?_; clear hL; intro _ _ _ hL; try dsimp only at hL) | ((with_reducible refine wpA_make rfl _ _ _ rfl _ rfl rfl ?_); refine makeA hL ?_))
        go_ret
        exact ⟨ret_bool (by rw [HM.out, Hn.out, HR.out]), hL.below⟩
      · subst h; subst h2
        have n1 : True := trivial; have n2 : True := trivial
        go_enter Try.func113, Try.ntmps113
        go_wp2_with (first | (go_at_call 114; (refine (near_calls _ _ [x0, y0, 0, 0, x1, y1] (hL.numsLit [x0, y0, 0, 0, x1, y1] atO (by rfl))).mono ?_); rintro e _ ⟨rfl, hb⟩; rw [Hn.out]; replace hL := hL.call hb; clear hb) | (first | (clear hL n1; with_reducible intro b1 w1 hL) | (clear hL n2; with_reducible intro b2 w2 hL) | (clear hL; with_reducible intro _ _ hL)) | (with_reducible refine wpC_alloc rfl _ rfl _ _ inferInstance hL ?_) | (with_reducible first | refine wpB_agg rfl _ _ _ rfl rfl hL ?_ | refine wpB_one rfl _ _ (.int _ _) rfl rfl rfl hL ?_ | refine wpB_one rfl _ _ (.slice _ _ _) rfl rfl rfl hL ?_ | refine wpB_one rfl _ _ (.bool _) rfl rfl rfl hL ?_ | refine wpB_one rfl _ _ (.pointer _) rfl rfl rfl hL ?_ | refine wpB_one rfl _ _ (.func _ _ _) rfl rfl rfl hL ?_) | (with_reducible first | refine wpH_max rfl _ _ _ _ rfl _ _ rfl rfl ?_ | refine wpH_min rfl _ _ _ _ rfl _ _ rfl rfl ?_) | ((with_reducible refine wpA_load rfl _ _ rfl _ rfl ?_); first | refine loadA hL ?_ | refine loadR hL ?_ | refine loadC hL ?_ | refine loadD ?_ | refine loadE hL ?_ | refine loadF ?_) | ((with_reducible refine wpA_index rfl _ _ _ rfl _ rfl _ rfl ?_); first | (refine indexA ?_; try rw [Int.toNat_natCast]) | refine indexC ?_) | ((with_reducible refine wpA_store rfl _ _ _ rfl _ rfl (.agg _) rfl ?_); refine storeR hL ?_; clear hL; intro _ hL) | ((with_reducible first | refine wpA_store rfl _ _ _ rfl _ rfl (.int _ _) rfl ?_ | refine wpA_store rfl _ _ _ rfl _ rfl (.slice _ _ _) rfl ?_ | refine wpA_store rfl _ _ _ rfl _ rfl (.bool _) rfl ?_ | refine wpA_store rfl _ _ _ rfl _ rfl (.pointer _) rfl ?_ | refine wpA_store rfl _ _ _ rfl _ rfl (.func _ _ _) rfl ?_); (first | refine storeA hL ?_ | refine storeO hL ?_); (clear hL; intro _ hL)) | ((with_reducible refine wpA_lit rfl _ _ _ rfl ?_); first | refine litA1 hL ?_ | refine litA2 hL ?_ | refine litA3 hL ?_ | refine litA4 hL ?_ | refine litA6 hL ?_) | ((with_reducible refine wpA_append rfl _ _ _ rfl (.slice _ _ _) rfl ?_); intro vq hvq; simp [go_sem] at hvq; subst hvq; refine appendA hL ?_; clear hL; intro _ _ _ hL; try dsimp only at hL) | ((with_reducible refine wpA_make rfl _ _ _ rfl _ rfl rfl ?_); refine makeA hL ?_))
        go_ret
        exact ⟨ret_bool (by rw [HM.out, Hn.out]; rfl), hL.below⟩

/-- where a straight edge crosses a line: the turn, the numerator, the denominator -/
def spT (e : Edg) (y : Int) : Int := if y < min e.y0 e.y1 ∨ max e.y0 e.y1 ≤ y then 0 else if e.y1 - e.y0 < 0 then -1 else 1
def spP (e : Edg) (y : Int) : Int := if y < min e.y0 e.y1 ∨ max e.y0 e.y1 ≤ y then 0 else if e.y1 - e.y0 < 0 then -(e.x0 * (e.y1 - e.y0) + (e.x1 - e.x0) * (y - e.y0)) else e.x0 * (e.y1 - e.y0) + (e.x1 - e.x0) * (y - e.y0)
def spM (e : Edg) (y : Int) : Int := if y < min e.y0 e.y1 ∨ max e.y0 e.y1 ≤ y then 0 else if e.y1 - e.y0 < 0 then -(e.y1 - e.y0) else e.y1 - e.y0
structure Small (e : Edg) (y : Int) : Prop where
  a0 : -8191 ≤ e.x0
  a1 : e.x0 ≤ 8191
  b0 : -8191 ≤ e.y0
  b1 : e.y0 ≤ 8191
  c0 : -8191 ≤ e.x1
  c1 : e.x1 ≤ 8191
  d0 : -8191 ≤ e.y1
  d1 : e.y1 ≤ 8191
  f0 : -8191 ≤ y
  f1 : y ≤ 8191

set_option maxRecDepth 100000 in
set_option maxHeartbeats 1000000 in
theorem straight_calls (e : Edg) (y : Int) (hs : Small e y) (w : World) : Calls Try.prog 119 #[edgeV e, .int .i64 y] w fun r w' => r = .returned (.agg #[.int .i64 (spT e y), .int .i64 (spP e y), .int .i64 0, .int .i64 0, .int .i64 (spM e y)]) ∧ Below w.heap.size w w' := by
  obtain ⟨x0, y0, bt, cx, cy, x1, y1⟩ := e
  obtain ⟨a0, a1, b0, b1, c0, c1, d0, d1, f0, f1⟩ := hs
  unfold edgeV spT spP spM
  dsimp only at *
  have hL := Holds.start w
  obtain ⟨p1, p2⟩ := mul_bd (a := x0) (b := y1 - y0) (A := 8191) (B := 16382) (by omega) (by omega) (by omega) (by omega)
  obtain ⟨p3, p4⟩ := mul_bd (a := x1 - x0) (b := y - y0) (A := 16382) (B := 16382) (by omega) (by omega) (by omega) (by omega)
  rcases (by omega : y < min y0 y1 ∨ (¬ y < min y0 y1 ∧ max y0 y1 ≤ y) ∨ (¬ y < min y0 y1 ∧ ¬ max y0 y1 ≤ y)) with h | ⟨h, h2⟩ | ⟨h, h2⟩
  · rw [if_pos (.inl h), if_pos (.inl h), if_pos (.inl h)]
    have n1 : True := trivial; have n2 : True := trivial
    go_enter Try.func119, Try.ntmps119
    go_wp2_with (first | (first | (clear hL n1; with_reducible intro b1 w1 hL) | (clear hL n2; with_reducible intro b2 w2 hL) | (clear hL; with_reducible intro _ _ hL)) | (with_reducible refine wpC_alloc rfl _ rfl _ _ inferInstance hL ?_) | (with_reducible first | refine wpB_agg rfl _ _ _ rfl rfl hL ?_ | refine wpB_one rfl _ _ (.int _ _) rfl rfl rfl hL ?_ | refine wpB_one rfl _ _ (.slice _ _ _) rfl rfl rfl hL ?_ | refine wpB_one rfl _ _ (.bool _) rfl rfl rfl hL ?_ | refine wpB_one rfl _ _ (.pointer _) rfl rfl rfl hL ?_ | refine wpB_one rfl _ _ (.func _ _ _) rfl rfl rfl hL ?_) | (with_reducible first | refine wpH_max rfl _ _ _ _ rfl _ _ rfl rfl ?_ | refine wpH_min rfl _ _ _ _ rfl _ _ rfl rfl ?_) | ((with_reducible refine wpA_load rfl _ _ rfl _ rfl ?_); first | refine loadA hL ?_ | refine loadR hL ?_ | refine loadC hL ?_ | refine loadD ?_ | refine loadE hL ?_ | refine loadF ?_) | ((with_reducible refine wpA_index rfl _ _ _ rfl _ rfl _ rfl ?_); first | (refine indexA ?_; try rw [Int.toNat_natCast]) | refine indexC ?_) | ((with_reducible refine wpA_store rfl _ _ _ rfl _ rfl (.agg _) rfl ?_); refine storeR hL ?_; clear hL; intro _ hL) | ((with_reducible first | refine wpA_store rfl _ _ _ rfl _ rfl (.int _ _) rfl ?_ | refine wpA_store rfl _ _ _ rfl _ rfl (.slice _ _ _) rfl ?_ | refine wpA_store rfl _ _ _ rfl _ rfl (.bool _) rfl ?_ | refine wpA_store rfl _ _ _ rfl _ rfl (.pointer _) rfl ?_ | refine wpA_store rfl _ _ _ rfl _ rfl (.func _ _ _) rfl ?_); (first | refine storeA hL ?_ | refine storeO hL ?_); (clear hL; intro _ hL)) | ((with_reducible refine wpA_lit rfl _ _ _ rfl ?_); first | refine litA1 hL ?_ | refine litA2 hL ?_ | refine litA3 hL ?_ | refine litA4 hL ?_ | refine litA6 hL ?_) | ((with_reducible refine wpA_append rfl _ _ _ rfl (.slice _ _ _) rfl ?_); intro vq hvq; simp [go_sem] at hvq; subst hvq; refine appendA hL ?_; clear hL; intro _ _ _ hL; try dsimp only at hL) | ((with_reducible refine wpA_make rfl _ _ _ rfl _ rfl rfl ?_); refine makeA hL ?_))
    exact bodyPost_ret (results_row inferInstance rfl _ hL b2 rfl _ _ .here rfl) rfl ⟨rfl, hL.below⟩
  · rw [if_pos (.inr h2), if_pos (.inr h2), if_pos (.inr h2)]
    have n1 : True := trivial; have n2 : True := trivial
    go_enter Try.func119, Try.ntmps119
    go_wp2_with (first | (first | (clear hL n1; with_reducible intro b1 w1 hL) | (clear hL n2; with_reducible intro b2 w2 hL) | (clear hL; with_reducible intro _ _ hL)) | (with_reducible refine wpC_alloc rfl _ rfl _ _ inferInstance hL ?_) | (with_reducible first | refine wpB_agg rfl _ _ _ rfl rfl hL ?_ | refine wpB_one rfl _ _ (.int _ _) rfl rfl rfl hL ?_ | refine wpB_one rfl _ _ (.slice _ _ _) rfl rfl rfl hL ?_ | refine wpB_one rfl _ _ (.bool _) rfl rfl rfl hL ?_ | refine wpB_one rfl _ _ (.pointer _) rfl rfl rfl hL ?_ | refine wpB_one rfl _ _ (.func _ _ _) rfl rfl rfl hL ?_) | (with_reducible first | refine wpH_max rfl _ _ _ _ rfl _ _ rfl rfl ?_ | refine wpH_min rfl _ _ _ _ rfl _ _ rfl rfl ?_) | ((with_reducible refine wpA_load rfl _ _ rfl _ rfl ?_); first | refine loadA hL ?_ | refine loadR hL ?_ | refine loadC hL ?_ | refine loadD ?_ | refine loadE hL ?_ | refine loadF ?_) | ((with_reducible refine wpA_index rfl _ _ _ rfl _ rfl _ rfl ?_); first | (refine indexA ?_; try rw [Int.toNat_natCast]) | refine indexC ?_) | ((with_reducible refine wpA_store rfl _ _ _ rfl _ rfl (.agg _) rfl ?_); refine storeR hL ?_; clear hL; intro _ hL) | ((with_reducible first | refine wpA_store rfl _ _ _ rfl _ rfl (.int _ _) rfl ?_ | refine wpA_store rfl _ _ _ rfl _ rfl (.slice _ _ _) rfl ?_ | refine wpA_store rfl _ _ _ rfl _ rfl (.bool _) rfl ?_ | refine wpA_store rfl _ _ _ rfl _ rfl (.pointer _) rfl ?_ | refine wpA_store rfl _ _ _ rfl _ rfl (.func _ _ _) rfl ?_); (first | refine storeA hL ?_ | refine storeO hL ?_); (clear hL; intro _ hL)) | ((with_reducible refine wpA_lit rfl _ _ _ rfl ?_); first | refine litA1 hL ?_ | refine litA2 hL ?_ | refine litA3 hL ?_ | refine litA4 hL ?_ | refine litA6 hL ?_) | ((with_reducible refine wpA_append rfl _ _ _ rfl (.slice _ _ _) rfl ?_); intro vq hvq; simp [go_sem] at hvq; subst hvq; refine appendA hL ?_; clear hL; intro _ _ _ hL; try dsimp only at hL) | ((with_reducible refine wpA_make rfl _ _ _ rfl _ rfl rfl ?_); refine makeA hL ?_))
    exact bodyPost_ret (results_row inferInstance rfl _ hL b2 rfl _ _ .here rfl) rfl ⟨rfl, hL.below⟩
  · have hno : ¬ (y < min y0 y1 ∨ max y0 y1 ≤ y) := by omega
    simp only [if_neg hno]
    clear hno
    rcases (by omega : y1 - y0 < 0 ∨ ¬ y1 - y0 < 0) with h3 | h3
    · simp only [if_pos h3]
      have n1 : True := trivial; have n2 : True := trivial; have n3 : True := trivial
      go_enter Try.func119, Try.ntmps119
      go_wp2_with (first | (first | (clear hL n1; with_reducible intro b1 w1 hL) | (clear hL n2; with_reducible intro b2 w2 hL) | (clear hL n3; with_reducible intro b3 w3 hL) | (clear hL; with_reducible intro _ _ hL)) | (with_reducible refine wpC_alloc rfl _ rfl _ _ inferInstance hL ?_) | (with_reducible first | refine wpB_agg rfl _ _ _ rfl rfl hL ?_ | refine wpB_one rfl _ _ (.int _ _) rfl rfl rfl hL ?_ | refine wpB_one rfl _ _ (.slice _ _ _) rfl rfl rfl hL ?_ | refine wpB_one rfl _ _ (.bool _) rfl rfl rfl hL ?_ | refine wpB_one rfl _ _ (.pointer _) rfl rfl rfl hL ?_ | refine wpB_one rfl _ _ (.func _ _ _) rfl rfl rfl hL ?_) | (with_reducible first | refine wpH_max rfl _ _ _ _ rfl _ _ rfl rfl ?_ | refine wpH_min rfl _ _ _ _ rfl _ _ rfl rfl ?_) | ((with_reducible refine wpA_load rfl _ _ rfl _ rfl ?_); first | refine loadA hL ?_ | refine loadR hL ?_ | refine loadC hL ?_ | refine loadD ?_ | refine loadE hL ?_ | refine loadF ?_) | ((with_reducible refine wpA_index rfl _ _ _ rfl _ rfl _ rfl ?_); first | (refine indexA ?_; try rw [Int.toNat_natCast]) | refine indexC ?_) | ((with_reducible refine wpA_store rfl _ _ _ rfl _ rfl (.agg _) rfl ?_); refine storeR hL ?_; clear hL; intro _ hL) | ((with_reducible first | refine wpA_store rfl _ _ _ rfl _ rfl (.int _ _) rfl ?_ | refine wpA_store rfl _ _ _ rfl _ rfl (.slice _ _ _) rfl ?_ | refine wpA_store rfl _ _ _ rfl _ rfl (.bool _) rfl ?_ | refine wpA_store rfl _ _ _ rfl _ rfl (.pointer _) rfl ?_ | refine wpA_store rfl _ _ _ rfl _ rfl (.func _ _ _) rfl ?_); (first | refine storeA hL ?_ | refine storeO hL ?_); (clear hL; intro _ hL)) | ((with_reducible refine wpA_lit rfl _ _ _ rfl ?_); first | refine litA1 hL ?_ | refine litA2 hL ?_ | refine litA3 hL ?_ | refine litA4 hL ?_ | refine litA6 hL ?_) | ((with_reducible refine wpA_append rfl _ _ _ rfl (.slice _ _ _) rfl ?_); intro vq hvq; simp [go_sem] at hvq; subst hvq; refine appendA hL ?_; clear hL; intro _ _ _ hL; try dsimp only at hL) | ((with_reducible refine wpA_make rfl _ _ _ rfl _ rfl rfl ?_); refine makeA hL ?_))
      exact bodyPost_ret (results_row inferInstance rfl _ hL b2 rfl _ _ (.there .here) rfl) rfl ⟨rfl, hL.below⟩
    · simp only [if_neg h3]
      have n1 : True := trivial; have n2 : True := trivial; have n3 : True := trivial
      go_enter Try.func119, Try.ntmps119
      go_wp2_with (first | (first | (clear hL n1; with_reducible intro b1 w1 hL) | (clear hL n2; with_reducible intro b2 w2 hL) | (clear hL n3; with_reducible intro b3 w3 hL) | (clear hL; with_reducible intro _ _ hL)) | (with_reducible refine wpC_alloc rfl _ rfl _ _ inferInstance hL ?_) | (with_reducible first | refine wpB_agg rfl _ _ _ rfl rfl hL ?_ | refine wpB_one rfl _ _ (.int _ _) rfl rfl rfl hL ?_ | refine wpB_one rfl _ _ (.slice _ _ _) rfl rfl rfl hL ?_ | refine wpB_one rfl _ _ (.bool _) rfl rfl rfl hL ?_ | refine wpB_one rfl _ _ (.pointer _) rfl rfl rfl hL ?_ | refine wpB_one rfl _ _ (.func _ _ _) rfl rfl rfl hL ?_) | (with_reducible first | refine wpH_max rfl _ _ _ _ rfl _ _ rfl rfl ?_ | refine wpH_min rfl _ _ _ _ rfl _ _ rfl rfl ?_) | ((with_reducible refine wpA_load rfl _ _ rfl _ rfl ?_); first | refine loadA hL ?_ | refine loadR hL ?_ | refine loadC hL ?_ | refine loadD ?_ | refine loadE hL ?_ | refine loadF ?_) | ((with_reducible refine wpA_index rfl _ _ _ rfl _ rfl _ rfl ?_); first | (refine indexA ?_; try rw [Int.toNat_natCast]) | refine indexC ?_) | ((with_reducible refine wpA_store rfl _ _ _ rfl _ rfl (.agg _) rfl ?_); refine storeR hL ?_; clear hL; intro _ hL) | ((with_reducible first | refine wpA_store rfl _ _ _ rfl _ rfl (.int _ _) rfl ?_ | refine wpA_store rfl _ _ _ rfl _ rfl (.slice _ _ _) rfl ?_ | refine wpA_store rfl _ _ _ rfl _ rfl (.bool _) rfl ?_ | refine wpA_store rfl _ _ _ rfl _ rfl (.pointer _) rfl ?_ | refine wpA_store rfl _ _ _ rfl _ rfl (.func _ _ _) rfl ?_); (first | refine storeA hL ?_ | refine storeO hL ?_); (clear hL; intro _ hL)) | ((with_reducible refine wpA_lit rfl _ _ _ rfl ?_); first | refine litA1 hL ?_ | refine litA2 hL ?_ | refine litA3 hL ?_ | refine litA4 hL ?_ | refine litA6 hL ?_) | ((with_reducible refine wpA_append rfl _ _ _ rfl (.slice _ _ _) rfl ?_); intro vq hvq; simp [go_sem] at hvq; subst hvq; refine appendA hL ?_; clear hL; intro _ _ _ hL; try dsimp only at hL) | ((with_reducible refine wpA_make rfl _ _ _ rfl _ rfl rfl ?_); refine makeA hL ?_))
      exact bodyPost_ret (results_row inferInstance rfl _ hL b2 rfl _ _ (.there .here) rfl) rfl ⟨rfl, hL.below⟩
set_option maxRecDepth 100000 in
set_option maxHeartbeats 1000000 in
theorem spots_calls (e : Edg) (hbt : e.bent = false) (y : Int) (hs : Small e y) (w : World) : Calls Try.prog 115 #[edgeV e, .int .i64 y] w fun r w' => r = .returned (.agg #[.int .i64 (spT e y), .int .i64 (spP e y), .int .i64 0, .int .i64 0, .int .i64 (spM e y), .int .i64 0, .int .i64 0, .int .i64 0, .int .i64 0, .int .i64 0]) ∧ Below w.heap.size w w' := by
  have hL := Holds.start w
  have HS := Lib.hid (fun w => straight_calls e y hs w)
  obtain ⟨x0, y0, bt, cx, cy, x1, y1⟩ := e
  dsimp only at hbt
  subst hbt
  generalize spT ⟨x0, y0, false, cx, cy, x1, y1⟩ y = t at *
  generalize spP ⟨x0, y0, false, cx, cy, x1, y1⟩ y = p at *
  generalize spM ⟨x0, y0, false, cx, cy, x1, y1⟩ y = m at *
  unfold edgeV at *
  dsimp only at *
  clear hs
  have n1 : True := trivial; have n2 : True := trivial
  go_enter Try.func115, Try.ntmps115
  go_wp2_with (first | (go_at_call 119; (with_reducible refine (HS.out _).mono ?_); rintro e _ ⟨rfl, hb⟩; replace hL := hL.call hb; clear hb) | (first | (clear hL n1; with_reducible intro b1 w1 hL) | (clear hL n2; with_reducible intro b2 w2 hL) | (clear hL; with_reducible intro _ _ hL)) | (with_reducible refine wpC_alloc rfl _ rfl _ _ inferInstance hL ?_) | (with_reducible first | refine wpB_agg rfl _ _ _ rfl rfl hL ?_ | refine wpB_one rfl _ _ (.int _ _) rfl rfl rfl hL ?_ | refine wpB_one rfl _ _ (.slice _ _ _) rfl rfl rfl hL ?_ | refine wpB_one rfl _ _ (.bool _) rfl rfl rfl hL ?_ | refine wpB_one rfl _ _ (.pointer _) rfl rfl rfl hL ?_ | refine wpB_one rfl _ _ (.func _ _ _) rfl rfl rfl hL ?_) | (with_reducible first | refine wpH_max rfl _ _ _ _ rfl _ _ rfl rfl ?_ | refine wpH_min rfl _ _ _ _ rfl _ _ rfl rfl ?_) | ((with_reducible refine wpA_load rfl _ _ rfl _ rfl ?_); first | refine loadA hL ?_ | refine loadR hL ?_ | refine loadC hL ?_ | refine loadD ?_ | refine loadE hL ?_ | refine loadF ?_) | ((with_reducible refine wpA_index rfl _ _ _ rfl _ rfl _ rfl ?_); first | (refine indexA ?_; try rw [Int.toNat_natCast]) | refine indexC ?_) | ((with_reducible refine wpA_store rfl _ _ _ rfl _ rfl (.agg _) rfl ?_); refine storeR hL ?_; clear hL; intro _ hL) | ((with_reducible first | refine wpA_store rfl _ _ _ rfl _ rfl (.int _ _) rfl ?_ | refine wpA_store rfl _ _ _ rfl _ rfl (.slice _ _ _) rfl ?_ | refine wpA_store rfl _ _ _ rfl _ rfl (.bool _) rfl ?_ | refine wpA_store rfl _ _ _ rfl _ rfl (.pointer _) rfl ?_ | refine wpA_store rfl _ _ _ rfl _ rfl (.func _ _ _) rfl ?_); (first | refine storeA hL ?_ | refine storeO hL ?_); (clear hL; intro _ hL)) | ((with_reducible refine wpA_lit rfl _ _ _ rfl ?_); first | refine litA1 hL ?_ | refine litA2 hL ?_ | refine litA3 hL ?_ | refine litA4 hL ?_ | refine litA6 hL ?_) | ((with_reducible refine wpA_append rfl _ _ _ rfl (.slice _ _ _) rfl ?_); intro vq hvq; simp [go_sem] at hvq; subst hvq; refine appendA hL ?_; clear hL; intro _ _ _ hL; try dsimp only at hL) | ((with_reducible refine wpA_make rfl _ _ _ rfl _ rfl rfl ?_); refine makeA hL ?_))
  exact bodyPost_ret (results_row inferInstance rfl _ hL b2 rfl _ _ .here rfl) rfl ⟨rfl, hL.below⟩
end Go.Proofs.Ytjgnbmgdnfldeaa
