/- Package wind: In, any edges. -/
import Derived.Test.YtfnolaoohmecbaaBentA
import Derived.Test.YtfnolaoohmecbaaBentB
import Derived.Test.YtfnolaoohmecbaaBentC
import Derived.Test.YtfnolaoohmecbaaSgnM
import Derived.Test.YtfnolaoohmecbaaWndM
namespace Go.Proofs.Ytfnolaoohmecbaa
open Go.RowKit

theorem noSpt_fit {x : Int} (h0 : -8191 ≤ x) (h1 : x ≤ 8191) : FitAt noSpt x := ⟨h0, h1, by decide, by decide, by decide, by decide, by decide, by decide, by decide, by decide⟩
theorem even_fit {b c ax bx x0 x : Int} (hb : EvOk b c ax bx x0) (h0 : -8191 ≤ x) (h1 : x ≤ 8191) : FitAt (evenS b c ax bx x0) x := by
  obtain ⟨b0, b1, c0, c1, a0, a1, e0, e1, x0', x1'⟩ := hb
  obtain ⟨k1, k2⟩ := mul_bd (a := 4 * b) (b := b) (A := 65528) (B := 16382) (by omega) (by omega) (by omega) (by omega)
  obtain ⟨k3, k4⟩ := mul_bd (a := 4 * b * b) (b := x0) (A := 1073479696) (B := 8191) (by omega) (by omega) (by omega) (by omega)
  obtain ⟨k5, k6⟩ := mul_bd (a := 4 * b) (b := c) (A := 65528) (B := 16382) (by omega) (by omega) (by omega) (by omega)
  obtain ⟨k7, k8⟩ := mul_bd (a := 4 * b * c) (b := bx) (A := 1073479696) (B := 16382) (by omega) (by omega) (by omega) (by omega)
  obtain ⟨k9, k10⟩ := mul_bd (a := ax) (b := c) (A := 32764) (B := 16382) (by omega) (by omega) (by omega) (by omega)
  obtain ⟨k11, k12⟩ := mul_bd (a := ax * c) (b := c) (A := 536739848) (B := 16382) (by omega) (by omega) (by omega) (by omega)
  unfold evenS evP
  split
  · exact ⟨h0, h1, by dsimp only; omega, by dsimp only; omega, by dsimp only; omega, by dsimp only; omega, by dsimp only; omega, by dsimp only; omega, by dsimp only; omega, by dsimp only; omega⟩
  · split
    · exact ⟨h0, h1, by dsimp only; omega, by dsimp only; omega, by dsimp only; omega, by dsimp only; omega, by dsimp only; omega, by dsimp only; omega, by dsimp only; omega, by dsimp only; omega⟩
    · exact noSpt_fit h0 h1
theorem one_fit {s x0 a b d ax bx x : Int} (hs : s = 1 ∨ s = -1) (hb : BOk x0 a b d ax bx) (hbb : b * b + d ≤ 1073479696) (h0 : -8191 ≤ x) (h1 : x ≤ 8191) : FitAt (oneS s x0 a b d ax bx) x := by
  obtain ⟨b0, b1, a0, a1, ax0, ax1, bx0, bx1, f0, f1, d0, d1⟩ := hb
  obtain ⟨j1, j2⟩ := mul_bd (a := b) (b := b) (A := 16382) (B := 16382) (by omega) (by omega) (by omega) (by omega)
  obtain ⟨m1, m2⟩ := mul_bd (a := x0) (b := a) (A := 8191) (B := 32764) (by omega) (by omega) (by omega) (by omega)
  obtain ⟨m3, m4⟩ := mul_bd (a := x0 * a) (b := a) (A := 268369924) (B := 32764) (by omega) (by omega) (by omega) (by omega)
  obtain ⟨m5, m6⟩ := mul_bd (a := 2 * a) (b := b) (A := 65528) (B := 16382) (by omega) (by omega) (by omega) (by omega)
  obtain ⟨m7, m8⟩ := mul_bd (a := 2 * a * b) (b := bx) (A := 1073479696) (B := 16382) (by omega) (by omega) (by omega) (by omega)
  obtain ⟨m9, m10⟩ := mul_bd (a := ax) (b := b * b + d) (A := 32764) (B := 1073479696) (by omega) (by omega) (by omega) (by omega)
  obtain ⟨m11, m12⟩ := mul_bd (a := 2 * a) (b := bx) (A := 65528) (B := 16382) (by omega) (by omega) (by omega) (by omega)
  obtain ⟨m13, m14⟩ := mul_bd (a := 2 * b) (b := ax) (A := 32764) (B := 32764) (by omega) (by omega) (by omega) (by omega)
  obtain ⟨m15, m16⟩ := mul_bd (a := a) (b := a) (A := 32764) (B := 32764) (by omega) (by omega) (by omega) (by omega)
  unfold oneS oneP oneQ
  split
  · exact noSpt_fit h0 h1
  · rcases hs with rfl | rfl
    · rw [Int.one_mul]
      exact ⟨h0, h1, by dsimp only; omega, by dsimp only; omega, by dsimp only; omega, by dsimp only; omega, by dsimp only; omega, by dsimp only; omega, by dsimp only; omega, by dsimp only; omega⟩
    · rw [Int.neg_one_mul]
      exact ⟨h0, h1, by dsimp only; omega, by dsimp only; omega, by dsimp only; omega, by dsimp only; omega, by dsimp only; omega, by dsimp only; omega, by dsimp only; omega, by dsimp only; omega⟩
theorem spt_fit {e : Edg} {y x : Int} (hs : Small6 e y) (h0 : -8191 ≤ x) (h1 : x ≤ 8191) : FitAt (spt1 e y) x ∧ FitAt (spt2 e y) x := by
  obtain ⟨a0, a1, b0, b1, c0, c1, d0, d1, e0, e1, f0, f1, g0, g1⟩ := hs
  unfold spt1 spt2
  cases e.bent with
  | false =>
    obtain ⟨_, ⟨p1, p2⟩, ⟨m1, m2⟩⟩ := sp_bounds (e := e) (y := y) ⟨a0, a1, b0, b1, e0, e1, f0, f1, g0, g1⟩
    simp only [Bool.false_eq_true, if_false]
    exact ⟨⟨h0, h1, by dsimp only; omega, by dsimp only; omega, by dsimp only; omega, by dsimp only; omega, by dsimp only; omega, by dsimp only; omega, by dsimp only; omega, by dsimp only; omega⟩, noSpt_fit h0 h1⟩
  | true =>
    have ha : -32764 ≤ bA e ∧ bA e ≤ 32764 := by unfold bA; omega
    have hb : -16382 ≤ bB e ∧ bB e ≤ 16382 := by unfold bB; omega
    have hc : -16382 ≤ bC e y ∧ bC e y ≤ 16382 := by unfold bC; omega
    have hax : -32764 ≤ bAX e ∧ bAX e ≤ 32764 := by unfold bAX; omega
    have hbx : -16382 ≤ bBX e ∧ bBX e ≤ 16382 := by unfold bBX; omega
    obtain ⟨k1, k2⟩ := mul_bd (a := bB e) (b := bB e) (A := 16382) (B := 16382) (by omega) (by omega) (by omega) (by omega)
    obtain ⟨k3, k4⟩ := mul_bd (a := bA e) (b := bC e y) (A := 32764) (B := 16382) (by omega) (by omega) (by omega) (by omega)
    simp only [if_true]
    unfold bent1 bent2
    by_cases hz : bA e = 0
    · rw [if_pos hz, if_pos hz]
      exact ⟨even_fit ⟨hb.1, hb.2, hc.1, hc.2, hax.1, hax.2, hbx.1, hbx.2, a0, a1⟩ h0 h1, noSpt_fit h0 h1⟩
    · rw [if_neg hz, if_neg hz]
      by_cases hd : bB e * bB e - bA e * bC e y < 0 ∨ (bB e * bB e - bA e * bC e y = 0 ∧ bA e < 0)
      · rw [if_pos hd, if_pos hd]
        exact ⟨noSpt_fit h0 h1, noSpt_fit h0 h1⟩
      · rw [if_neg hd, if_neg hd]
        have hB : BOk e.x0 (bA e) (bB e) (bB e * bB e - bA e * bC e y) (bAX e) (bBX e) := ⟨hb.1, hb.2, ha.1, ha.2, hax.1, hax.2, hbx.1, hbx.2, a0, a1, by omega, by omega⟩
        exact ⟨one_fit (.inl rfl) hB (by omega) h0 h1, one_fit (.inr rfl) hB (by omega) h0 h1⟩
theorem spt_turn (e : Edg) (y : Int) : (-1 ≤ (spt1 e y).turn ∧ (spt1 e y).turn ≤ 1) ∧ (-1 ≤ (spt2 e y).turn ∧ (spt2 e y).turn ≤ 1) := by
  unfold spt1 spt2 bent1 bent2 evenS oneS spT
  constructor <;> (repeat' split) <;> first | (dsimp only [noSpt]; omega) | (dsimp only; (repeat' split) <;> omega)

open Go.RowKit

/-- a crossing's turn, if it lies above -/
def hitT (s : Spt) (x : Int) : Int := if s.turn ≠ 0 ∧ 0 < sgR (s.p - x * s.m) s.q s.d then s.turn else 0
def turnG (e : Edg) (x y : Int) : Int := if mayE e && (near1 x && near1 y) then hitT (spt1 e y) x + hitT (spt2 e y) x else 0
theorem FitAt.fit {s : Spt} {x : Int} (h : FitAt s x) : Fit (s.p - x * s.m) s.q s.d := by
  obtain ⟨x0, x1, p0, p1, q0, q1, d0, d1, m0, m1⟩ := h
  obtain ⟨k1, k2⟩ := mul_bd (a := x) (b := s.m) (A := 8191) (B := 2147483648) (by omega) (by omega) (by omega) (by omega)
  exact ⟨by omega, by omega, q0, q1, d0, d1⟩
theorem hitT_bd (s : Spt) (x : Int) (h : -1 ≤ s.turn ∧ s.turn ≤ 1) : -1 ≤ hitT s x ∧ hitT s x ≤ 1 := by unfold hitT; split <;> omega

open Go.RowKit

def windG (l : List Edg) (x y : Int) : Int := (l.map fun e => turnG e x y).sum
theorem turnG_bd (e : Edg) (x y : Int) : -2 ≤ turnG e x y ∧ turnG e x y ≤ 2 := by
  have h := spt_turn e y
  have h1 := hitT_bd _ x h.1
  have h2 := hitT_bd _ x h.2
  unfold turnG; split <;> omega
theorem windG_step {l : List Edg} {k : Nat} (h : k < l.length) (x y : Int) : windG (l.take (k + 1)) x y = windG (l.take k) x y + turnG (l.getD k default) x y := by
  unfold windG
  rw [List.take_succ_eq_append_getElem h, List.map_append, List.sum_append]
  simp [h]
theorem windG_bd (x y : Int) : ∀ l : List Edg, -(2 * (l.length : Int)) ≤ windG l x y ∧ windG l x y ≤ 2 * l.length
  | [] => by simp [windG]
  | e :: l => by
    have h1 := windG_bd x y l
    have h2 := turnG_bd e x y
    have h3 : windG (e :: l) x y = turnG e x y + windG l x y := by simp [windG]
    rw [h3, List.length_cons]
    omega

open Go.RowKit

theorem bne_decX (a : Int) : (a != 0) = decide (a ≠ 0) := by by_cases h : a = 0 <;> simp [h]
theorem and_bitX (n : Int) : bits .and .i64 n 1 = n % 2 := by
  have h1 : (BitVec.ofInt 64 1).toNat = 2 ^ 1 - 1 := by decide
  have key : (BitVec.ofInt 64 n &&& BitVec.ofInt 64 1).toNat = (n % ((2 ^ 64 : Nat) : Int)).toNat % 2 ^ 1 := by
    rw [BitVec.toNat_and, BitVec.toNat_ofInt, h1, Nat.and_two_pow_sub_one_eq_mod]
  show IntKind.i64.wrap ((BitVec.ofInt 64 n &&& BitVec.ofInt 64 1).toNat : Nat) = n % 2
  rw [key, IntKind.wrap_i64]
  omega
end Go.Proofs.Ytfnolaoohmecbaa
