/- Package bow: how often any edge goes round a point. -/
import Derived.Test.YtneddfiohekhiaaBentA
import Derived.Test.YtneddfiohekhiaaBentB
import Derived.Test.YtneddfiohekhiaaBentC
import Derived.Test.YtneddfiohekhiaaRefS
import Derived.Test.YtneddfiohekhiaaTurns
-- lit6
namespace Go.Proofs.Ytneddfiohekhiaa
open Go.RowKit

theorem bent_calls (e : Edg) (y : Int) (hbt : e.bent = true) (hs : Small6 e y) (w : World) : Calls Try.prog 88 #[edgeV e, .int .i64 y] w fun r w' => r = .returned (.agg #[.int .i64 (spt1 e y).turn, .int .i64 (spt1 e y).p, .int .i64 (spt1 e y).q, .int .i64 (spt1 e y).d, .int .i64 (spt1 e y).m, .int .i64 (spt2 e y).turn, .int .i64 (spt2 e y).p, .int .i64 (spt2 e y).q, .int .i64 (spt2 e y).d, .int .i64 (spt2 e y).m]) ∧ Below w.heap.size w w' := by
  by_cases hz : bA e = 0 ∨ bB e * bB e - bA e * bC e y < 0 ∨ (bB e * bB e - bA e * bC e y = 0 ∧ bA e < 0)
  · exact bentZ_calls e y hbt hs hz w
  · have hd : 0 ≤ bB e * bB e - bA e * bC e y := by omega
    rcases (by omega : (bA e < 0 ∧ bB e * bB e - bA e * bC e y ≠ 0) ∨ (0 < bA e ∧ bB e * bB e - bA e * bC e y = 0) ∨ (0 < bA e ∧ bB e * bB e - bA e * bC e y ≠ 0)) with ⟨h1, h2⟩ | ⟨h1, h2⟩ | ⟨h1, h2⟩
    · exact bentA_calls e y hbt hs hd h1 (by simpa using h2) w
    · exact bentB_calls e y hbt hs hd h1 (by simpa using h2) w
    · exact bentC_calls e y hbt hs hd h1 (by simpa using h2) w

theorem noSpt_fit {x : Int} (h0 : -8191 ≤ x) (h1 : x ≤ 8191) : FitAt noSpt x := ⟨h0, h1, by decide, by decide, by decide, by decide, by decide, by decide, by decide, by decide⟩
theorem even_fit {b c ax bx x0 x : Int} (hb : EvOk b c ax bx x0) (h0 : -8191 ≤ x) (h1 : x ≤ 8191) : FitAt (evenS b c ax bx x0) x := by
  obtain ⟨b0, b1, c0, c1, a0, a1, e0, e1, x0', x1'⟩ := hb
  obtain ⟨k1, k2⟩ := mul_bd (a := 4 * b) (b := b) (A := 65528) (B := 16382) (by omega) (by omega) (by omega) (by omega)
  obtain ⟨k3, k4⟩ := mul_bd (a := 4 * b * b) (b := x0) (A := 1073479696) (B := 8191) (by omega) (by omega) (by omega) (by omega)
  obtain ⟨k5, k6⟩ := mul_bd (a := 4 * b) (b := c) (A := 65528) (B := 16382) (by omega) (by omega) (by omega) (by omega)
  obtain ⟨k7, k8⟩ := mul_bd (a := 4 * b * c) (b := bx) (A := 1073479696) (B := 16382) (by omega) (by omega) (by omega) (by omega)
  obtain ⟨k9, k10⟩ := mul_bd (a := ax) (b := c) (A := 32764) (B := 16382) (by omega) (by omega) (by omega) (by omega)
  obtain ⟨k11, k12⟩ := mul_bd (a := ax * c) (b := c) (A := 536739848) (B := 16382) (by omega) (by omega) (by omega) (by omega)
  unfold evenS evP
  split
  · exact ⟨h0, h1, by dsimp only; omega, by dsimp only; omega, by dsimp only; omega, by dsimp only; omega, by dsimp only; omega, by dsimp only; omega, by dsimp only; omega, by dsimp only; omega⟩
  · split
    · exact ⟨h0, h1, by dsimp only; omega, by dsimp only; omega, by dsimp only; omega, by dsimp only; omega, by dsimp only; omega, by dsimp only; omega, by dsimp only; omega, by dsimp only; omega⟩
    · exact noSpt_fit h0 h1
theorem one_fit {s x0 a b d ax bx x : Int} (hs : s = 1 ∨ s = -1) (hb : BOk x0 a b d ax bx) (hbb : b * b + d ≤ 1073479696) (h0 : -8191 ≤ x) (h1 : x ≤ 8191) : FitAt (oneS s x0 a b d ax bx) x := by
  obtain ⟨b0, b1, a0, a1, ax0, ax1, bx0, bx1, f0, f1, d0, d1⟩ := hb
  obtain ⟨j1, j2⟩ := mul_bd (a := b) (b := b) (A := 16382) (B := 16382) (by omega) (by omega) (by omega) (by omega)
  obtain ⟨m1, m2⟩ := mul_bd (a := x0) (b := a) (A := 8191) (B := 32764) (by omega) (by omega) (by omega) (by omega)
  obtain ⟨m3, m4⟩ := mul_bd (a := x0 * a) (b := a) (A := 268369924) (B := 32764) (by omega) (by omega) (by omega) (by omega)
  obtain ⟨m5, m6⟩ := mul_bd (a := 2 * a) (b := b) (A := 65528) (B := 16382) (by omega) (by omega) (by omega) (by omega)
  obtain ⟨m7, m8⟩ := mul_bd (a := 2 * a * b) (b := bx) (A := 1073479696) (B := 16382) (by omega) (by omega) (by omega) (by omega)
  obtain ⟨m9, m10⟩ := mul_bd (a := ax) (b := b * b + d) (A := 32764) (B := 1073479696) (by omega) (by omega) (by omega) (by omega)
  obtain ⟨m11, m12⟩ := mul_bd (a := 2 * a) (b := bx) (A := 65528) (B := 16382) (by omega) (by omega) (by omega) (by omega)
  obtain ⟨m13, m14⟩ := mul_bd (a := 2 * b) (b := ax) (A := 32764) (B := 32764) (by omega) (by omega) (by omega) (by omega)
  obtain ⟨m15, m16⟩ := mul_bd (a := a) (b := a) (A := 32764) (B := 32764) (by omega) (by omega) (by omega) (by omega)
  unfold oneS oneP oneQ
  split
  · exact noSpt_fit h0 h1
  · rcases hs with rfl | rfl
    · rw [Int.one_mul]
      exact ⟨h0, h1, by dsimp only; omega, by dsimp only; omega, by dsimp only; omega, by dsimp only; omega, by dsimp only; omega, by dsimp only; omega, by dsimp only; omega, by dsimp only; omega⟩
    · rw [Int.neg_one_mul]
      exact ⟨h0, h1, by dsimp only; omega, by dsimp only; omega, by dsimp only; omega, by dsimp only; omega, by dsimp only; omega, by dsimp only; omega, by dsimp only; omega, by dsimp only; omega⟩
theorem spt_fit {e : Edg} {y x : Int} (hs : Small6 e y) (h0 : -8191 ≤ x) (h1 : x ≤ 8191) : FitAt (spt1 e y) x ∧ FitAt (spt2 e y) x := by
  obtain ⟨a0, a1, b0, b1, c0, c1, d0, d1, e0, e1, f0, f1, g0, g1⟩ := hs
  unfold spt1 spt2
  cases e.bent with
  | false =>
    obtain ⟨_, ⟨p1, p2⟩, ⟨m1, m2⟩⟩ := sp_bounds (e := e) (y := y) ⟨a0, a1, b0, b1, e0, e1, f0, f1, g0, g1⟩
    simp only [Bool.false_eq_true, if_false]
    exact ⟨⟨h0, h1, by dsimp only; omega, by dsimp only; omega, by dsimp only; omega, by dsimp only; omega, by dsimp only; omega, by dsimp only; omega, by dsimp only; omega, by dsimp only; omega⟩, noSpt_fit h0 h1⟩
  | true =>
    have ha : -32764 ≤ bA e ∧ bA e ≤ 32764 := by unfold bA; omega
    have hb : -16382 ≤ bB e ∧ bB e ≤ 16382 := by unfold bB; omega
    have hc : -16382 ≤ bC e y ∧ bC e y ≤ 16382 := by unfold bC; omega
    have hax : -32764 ≤ bAX e ∧ bAX e ≤ 32764 := by unfold bAX; omega
    have hbx : -16382 ≤ bBX e ∧ bBX e ≤ 16382 := by unfold bBX; omega
    obtain ⟨k1, k2⟩ := mul_bd (a := bB e) (b := bB e) (A := 16382) (B := 16382) (by omega) (by omega) (by omega) (by omega)
    obtain ⟨k3, k4⟩ := mul_bd (a := bA e) (b := bC e y) (A := 32764) (B := 16382) (by omega) (by omega) (by omega) (by omega)
    simp only [if_true]
    unfold bent1 bent2
    by_cases hz : bA e = 0
    · rw [if_pos hz, if_pos hz]
      exact ⟨even_fit ⟨hb.1, hb.2, hc.1, hc.2, hax.1, hax.2, hbx.1, hbx.2, a0, a1⟩ h0 h1, noSpt_fit h0 h1⟩
    · rw [if_neg hz, if_neg hz]
      by_cases hd : bB e * bB e - bA e * bC e y < 0 ∨ (bB e * bB e - bA e * bC e y = 0 ∧ bA e < 0)
      · rw [if_pos hd, if_pos hd]
        exact ⟨noSpt_fit h0 h1, noSpt_fit h0 h1⟩
      · rw [if_neg hd, if_neg hd]
        have hB : BOk e.x0 (bA e) (bB e) (bB e * bB e - bA e * bC e y) (bAX e) (bBX e) := ⟨hb.1, hb.2, ha.1, ha.2, hax.1, hax.2, hbx.1, hbx.2, a0, a1, by omega, by omega⟩
        exact ⟨one_fit (.inl rfl) hB (by omega) h0 h1, one_fit (.inr rfl) hB (by omega) h0 h1⟩
theorem spt_turn (e : Edg) (y : Int) : (-1 ≤ (spt1 e y).turn ∧ (spt1 e y).turn ≤ 1) ∧ (-1 ≤ (spt2 e y).turn ∧ (spt2 e y).turn ≤ 1) := by
  unfold spt1 spt2 bent1 bent2 evenS oneS spT
  constructor <;> (repeat' split) <;> first | (dsimp only [noSpt]; omega) | (dsimp only; (repeat' split) <;> omega)

set_option maxRecDepth 100000 in
set_option maxHeartbeats 1000000 in
theorem spotsG_calls (e : Edg) (y : Int) (hs : Small6 e y) (w : World) : Calls Try.prog 79 #[edgeV e, .int .i64 y] w fun r w' => r = .returned (.agg #[.int .i64 (spt1 e y).turn, .int .i64 (spt1 e y).p, .int .i64 (spt1 e y).q, .int .i64 (spt1 e y).d, .int .i64 (spt1 e y).m, .int .i64 (spt2 e y).turn, .int .i64 (spt2 e y).p, .int .i64 (spt2 e y).q, .int .i64 (spt2 e y).d, .int .i64 (spt2 e y).m]) ∧ Below w.heap.size w w' := by
  cases hb : e.bent with
  | false =>
    refine (spots_calls e hb y ⟨hs.a0, hs.a1, hs.b0, hs.b1, hs.e0, hs.e1, hs.f0, hs.f1, hs.g0, hs.g1⟩ w).mono ?_
    rintro r w' ⟨rfl, hB⟩
    have e1 : spt1 e y = ⟨spT e y, spP e y, 0, 0, spM e y⟩ := by unfold spt1; rw [hb]; rfl
    have e2 : spt2 e y = noSpt := by unfold spt2; rw [hb]; rfl
    rw [e1, e2]
    exact ⟨rfl, hB⟩
  | true =>
    have hL := Holds.start w
    have HB := Lib.hid (fun w => bent_calls e y hb hs w)
    obtain ⟨x0, y0, bt, cx, cy, x1, y1⟩ := e
    dsimp only at hb
    subst hb
    generalize spt1 ⟨x0, y0, true, cx, cy, x1, y1⟩ y = t1 at *
    generalize spt2 ⟨x0, y0, true, cx, cy, x1, y1⟩ y = t2 at *
    clear hs
    unfold edgeV at *
    dsimp only at *
    have n1 : True := trivial; have n2 : True := trivial
    go_enter Try.func79, Try.ntmps79
    go_wp2_with (first | (go_at_call 88; (with_reducible refine (HB.out _).mono ?_); rintro e _ ⟨rfl, hb⟩; replace hL := hL.call hb; clear hb) | (first | (clear hL n1; with_reducible intro b1 w1 hL) | (clear hL n2; with_reducible intro b2 w2 hL) | (clear hL; with_reducible intro _ _ hL)) | (with_reducible refine wpC_alloc rfl _ rfl _ _ inferInstance hL ?_) | (with_reducible first | refine wpB_agg rfl _ _ _ rfl rfl hL ?_ | refine wpB_one rfl _ _ (.int _ _) rfl rfl rfl hL ?_ | refine wpB_one rfl _ _ (.slice _ _ _) rfl rfl rfl hL ?_ | refine wpB_one rfl _ _ (.bool _) rfl rfl rfl hL ?_ | refine wpB_one rfl _ _ (.pointer _) rfl rfl rfl hL ?_ | refine wpB_one rfl _ _ (.func _ _ _) rfl rfl rfl hL ?_) | (with_reducible first | refine wpH_max rfl _ _ _ _ rfl _ _ rfl rfl ?_ | refine wpH_min rfl _ _ _ _ rfl _ _ rfl rfl ?_) | ((with_reducible refine wpA_load rfl _ _ rfl _ rfl ?_); first | refine loadA hL ?_ | refine loadR hL ?_ | refine loadC hL ?_ | refine loadD ?_ | refine loadE hL ?_ | refine loadF ?_) | ((with_reducible refine wpA_index rfl _ _ _ rfl _ rfl _ rfl ?_); first | (refine indexA ?_; try rw [Int.toNat_natCast]) | refine indexC ?_) | ((with_reducible refine wpA_store rfl _ _ _ rfl _ rfl (.agg _) rfl ?_); refine storeR hL ?_; clear hL; intro _ hL) | ((with_reducible first | refine wpA_store rfl _ _ _ rfl _ rfl (.int _ _) rfl ?_ | refine wpA_store rfl _ _ _ rfl _ rfl (.slice _ _ _) rfl ?_ | refine wpA_store rfl _ _ _ rfl _ rfl (.bool _) rfl ?_ | refine wpA_store rfl _ _ _ rfl _ rfl (.pointer _) rfl ?_ | refine wpA_store rfl _ _ _ rfl _ rfl (.func _ _ _) rfl ?_); (first | refine storeA hL ?_ | refine storeO hL ?_); (clear hL; intro _ hL)) | ((with_reducible refine wpA_lit rfl _ _ _ rfl ?_); first | refine litA1 hL ?_ | refine litA2 hL ?_ | refine litA3 hL ?_ | refine litA4 hL ?_ | refine litA6 hL ?_) | ((with_reducible refine wpA_append rfl _ _ _ rfl (.slice _ _ _) rfl ?_); intro vq hvq; simp [go_sem] at hvq; subst hvq; refine appendA hL ?_; clear hL; intro _ _ _ hL; try dsimp only at hL) | ((with_reducible refine wpA_make rfl _ _ _ rfl _ rfl rfl ?_); refine makeA hL ?_))
    exact bodyPost_ret (results_row inferInstance rfl _ hL b2 rfl _ _ .here rfl) rfl ⟨rfl, hL.below⟩
end Go.Proofs.Ytneddfiohekhiaa
