/- What the functions on regions return, said pixel by pixel. -/
import Derived.Test.YtjgnbmgdnfldeaaMade
import Derived.Test.YtjgnbmgdnfldeaaReg6
import Derived.Test.YtjgnbmgdnfldeaaKnown
namespace Go.Proofs.Ytjgnbmgdnfldeaa
open Go.RowKit

structure Sides (W H : Nat) : Prop where
  w0 : 1 ≤ W
  w1 : W ≤ 64
  h0 : 1 ≤ H
  h1 : H ≤ 64

/-- a fact that stands in the list -/
def FactAt (Φ : List (World → Prop)) (φ : World → Prop) : Prop := φ ∈ Φ
theorem FactAt.here {Φ : List (World → Prop)} {φ : World → Prop} : FactAt (φ :: Φ) φ := List.mem_cons_self
theorem FactAt.there {Φ : List (World → Prop)} {φ ψ : World → Prop} (h : FactAt Φ φ) : FactAt (ψ :: Φ) φ := List.mem_cons_of_mem _ h
def RegF (v : Value) (R : Reg) (w : World) : Prop := RegAt w v R
theorem Holds.reg {w0 w : World} {M : List Res} {Φ : List (World → Prop)} {v : Value} {R : Reg} (hL : Holds w0 w M Φ) (h : FactAt Φ (RegF v R)) : RegAt w v R := hL.fact h

def regV (W H : Nat) (sa : Option Addr) (sn sc : Nat) : Value := .agg #[.int .i64 W, .int .i64 H, .slice sa sn sc]
/-- a region of pixels is returned, and no error -/
def PixOut (W H : Nat) (q : Nat → Nat → Bool) (w : World) (e : Ending) (w' : World) : Prop :=
  ∃ sa sn sc, e = .returned (.tuple #[.agg #[.int .i64 W, .int .i64 H, .slice sa sn sc], .int .i64 0]) ∧ Below w.heap.size w w' ∧ Fresh w w' (RegF (.agg #[.int .i64 W, .int .i64 H, .slice sa sn sc]) (pixReg W H q))
theorem PixOut.of {W H : Nat} {q : Nat → Nat → Bool} {R : Reg} {err : Int} {w : World} {e : Ending} {w' : World} (h : RegOut R err w e w') (hR : R = pixReg W H q) (he : err = 0) : PixOut W H q w e w' := by
  subst hR; subst he
  obtain ⟨v, rfl, hb, hf⟩ := h
  obtain ⟨sa, sn, sc, rfl, _⟩ := RegAt.shape hf.now
  exact ⟨sa, sn, sc, rfl, hb, hf⟩

/-- is a place's pixel in? -/
def atPix (W H : Nat) (p : Nat → Nat → Bool) (i j : Int) : Bool := decide (0 ≤ i) && (decide (i < W) && (decide (0 ≤ j) && (decide (j < H) && p j.toNat i.toNat)))
def shQ (W H : Nat) (p : Nat → Nat → Bool) (dx dy : Int) (j i : Nat) : Bool := atPix W H p ((i : Int) - dx) ((j : Int) - dy)
def bandQ (p : Nat → Nat → Bool) (f t : Int) (j i : Nat) : Bool := decide (f ≤ (j : Int)) && (decide ((j : Int) < t) && p j i)
section
variable {W H : Nat} (hs : Sides W H)
theorem pixMade_calls (w : World) (v : Value) (ns : List Int) (hn : NumsAt w v ns) (hW : W ≤ 12) (hH : H ≤ 12) :
    Calls Try.prog 14 #[v, .int .i64 W, .int .i64 H] w fun e w' => ∃ q sa sn sc, e = .returned (.agg #[.int .i64 W, .int .i64 H, .slice sa sn sc]) ∧ Below w.heap.size w w' ∧ Fresh w w' (RegF (.agg #[.int .i64 W, .int .i64 H, .slice sa sn sc]) (pixReg W H q)) := by
  refine (lawMade_calls w v ns hn W H hW hH).mono ?_
  rintro e w' ⟨q, v, rfl, hb, hf⟩
  obtain ⟨sa, sn, sc, rfl, _⟩ := RegAt.shape hf.now
  exact ⟨q, sa, sn, sc, rfl, hb, hf⟩
include hs
theorem pixRect_calls (w : World) (x0 y0 x1 y1 : Int) : Calls Try.prog 27 #[.int .i64 W, .int .i64 H, .int .i64 x0, .int .i64 y0, .int .i64 x1, .int .i64 y1] w
    (PixOut W H (fun j i => decide (y0 ≤ (j : Int)) && (decide ((j : Int) < y1) && (decide (x0 ≤ (i : Int)) && decide ((i : Int) < x1)))) w) :=
  (regRect_calls w W H x0 y0 x1 y1).mono fun _ _ h => .of h (rect_pix hs.w0 hs.w1 hs.h0 hs.h1 _ _ _ _) (madeErr_pix hs.w0 hs.w1 hs.h0 hs.h1)
theorem pixAll_calls (w : World) : Calls Try.prog 30 #[.int .i64 W, .int .i64 H] w (PixOut W H (fun _ _ => true) w) :=
  (regAll_calls w W H).mono fun _ _ h => .of h (all_pix hs.w0 hs.w1 hs.h0 hs.h1) (madeErr_pix hs.w0 hs.w1 hs.h0 hs.h1)
theorem pixNone_calls (w : World) : Calls Try.prog 31 #[.int .i64 W, .int .i64 H] w (PixOut W H (fun _ _ => false) w) :=
  (regNone_calls w W H).mono fun _ _ h => .of h (none_pix hs.w0 hs.w1 hs.h0 hs.h1) (madeErr_pix hs.w0 hs.w1 hs.h0 hs.h1)
theorem pixNot_calls (w : World) (v : Value) (p : Nat → Nat → Bool) (h : RegAt w v (pixReg W H p)) : Calls Try.prog 20 #[v] w (PixOut W H (fun j i => !p j i) w) :=
  (regNot_calls w v _ h).mono fun _ _ h => .of h (not_pix hs.w0 hs.w1 hs.h0 hs.h1 p).1 (not_pix hs.w0 hs.w1 hs.h0 hs.h1 p).2
theorem pixJoin_calls (w : World) (v u : Value) (p q : Nat → Nat → Bool) (h : RegAt w v (pixReg W H p)) (k : RegAt w u (pixReg W H q)) : Calls Try.prog 16 #[v, u] w (PixOut W H (fun j i => p j i || q j i) w) :=
  (regJoin_calls w v u _ _ h k).mono fun _ _ h => .of h (both_pix hs.w0 hs.w1 hs.h0 hs.h1 _ p q).1 (both_pix hs.w0 hs.w1 hs.h0 hs.h1 (fun x y => x || y) p q).2
theorem pixMeet_calls (w : World) (v u : Value) (p q : Nat → Nat → Bool) (h : RegAt w v (pixReg W H p)) (k : RegAt w u (pixReg W H q)) : Calls Try.prog 17 #[v, u] w (PixOut W H (fun j i => p j i && q j i) w) :=
  (regMeet_calls w v u _ _ h k).mono fun _ _ h => .of h (both_pix hs.w0 hs.w1 hs.h0 hs.h1 _ p q).1 (both_pix hs.w0 hs.w1 hs.h0 hs.h1 (fun x y => x && y) p q).2
theorem pixLess_calls (w : World) (v u : Value) (p q : Nat → Nat → Bool) (h : RegAt w v (pixReg W H p)) (k : RegAt w u (pixReg W H q)) : Calls Try.prog 18 #[v, u] w (PixOut W H (fun j i => p j i && !q j i) w) :=
  (regLess_calls w v u _ _ h k).mono fun _ _ h => .of h (both_pix hs.w0 hs.w1 hs.h0 hs.h1 _ p q).1 (both_pix hs.w0 hs.w1 hs.h0 hs.h1 (fun x y => x && !y) p q).2
theorem pixOther_calls (w : World) (v u : Value) (p q : Nat → Nat → Bool) (h : RegAt w v (pixReg W H p)) (k : RegAt w u (pixReg W H q)) : Calls Try.prog 19 #[v, u] w (PixOut W H (fun j i => p j i != q j i) w) :=
  (regOther_calls w v u _ _ h k).mono fun _ _ h => .of h (both_pix hs.w0 hs.w1 hs.h0 hs.h1 _ p q).1 (both_pix hs.w0 hs.w1 hs.h0 hs.h1 (fun x y => x != y) p q).2
theorem band_pix0 (p : Nat → Nat → Bool) (f t : Int) : oneReg (pixReg W H p) (bandRow (pixReg W H p).rows f t) = pixReg W H (fun j i => decide (f ≤ (j : Int)) && (decide ((j : Int) < t) && p j i)) ∧ oneErr (pixReg W H p) = 0 := by
  refine one_pix hs.w0 hs.w1 hs.h0 hs.h1 p fun j hj i hi => ?_
  unfold bandRow
  by_cases h : (j : Int) < f ∨ t ≤ (j : Int)
  · rw [if_pos h, inRuns_nil]
    rcases h with h | h
    · have : ¬ f ≤ (j : Int) := by omega
      simp [this]
    · have : ¬ (j : Int) < t := by omega
      simp [this]
  · rw [if_neg h, pix_in hs.w1 _ hj]
    have h1 : f ≤ (j : Int) := by omega
    have h2 : (j : Int) < t := by omega
    simp [hi, h1, h2]
theorem pixBand_calls (w : World) (v : Value) (p : Nat → Nat → Bool) (h : RegAt w v (pixReg W H p)) (f t : Int) : Calls Try.prog 46 #[v, .int .i64 f, .int .i64 t] w (PixOut W H (bandQ p f t) w) :=
  (regBand_calls w v _ h f t).mono fun _ _ h => .of h (band_pix0 hs p f t).1 (band_pix0 hs p f t).2
theorem shift_pix (p : Nat → Nat → Bool) (dx dy : Int) : oneReg (pixReg W H p) (shiftRow (pixReg W H p).rows (pixReg W H p).W (pixReg W H p).H dx dy) = pixReg W H (fun j i => atPix W H p ((i : Int) - dx) ((j : Int) - dy)) ∧ oneErr (pixReg W H p) = 0 := by
  refine one_pix hs.w0 hs.w1 hs.h0 hs.h1 p fun j hj i hi => ?_
  have hw := hs.w1
  unfold shiftRow atPix
  show inRuns (if (dy ≤ -(H : Int) ∨ (H : Int) ≤ dy) ∨ ((j : Int) - dy < 0 ∨ (H : Int) ≤ (j : Int) - dy) then [] else runsTo (shiftP ((pixReg W H p).rows.getD ((j : Int) - dy).toNat []) dx (W : Int)) 64) i = _
  by_cases h : 0 ≤ (j : Int) - dy ∧ (j : Int) - dy < H
  · obtain ⟨h1, h2⟩ := h
    have hn : ¬ ((dy ≤ -(H : Int) ∨ (H : Int) ≤ dy) ∨ ((j : Int) - dy < 0 ∨ (H : Int) ≤ (j : Int) - dy)) := by omega
    rw [if_neg hn, inRuns_runsTo _ (Nat.le_refl _)]
    simp only [shiftP]
    rw [pix_in hs.w1 _ (by omega), cutI_side (side_nat hs.w0 hs.w1)]
    have e1 : decide (i < 64) = true := by simp; omega
    have e2 : decide ((i : Int) < W) = true := by simp; omega
    have e3 : decide (0 ≤ (j : Int) - dy) = true := by simp; omega
    have e4 : decide ((j : Int) - dy < H) = true := by simp; omega
    rw [e1, e2, e3, e4]
    simp only [Bool.true_and]
    by_cases hx : 0 ≤ (i : Int) - dx
    · have : (((i : Int) - dx).toNat < W) ↔ (i : Int) - dx < W := by omega
      simp [hx, this]
    · have : decide (0 ≤ (i : Int) - dx) = false := by simp; omega
      rw [this]; rfl
  · have hn : (dy ≤ -(H : Int) ∨ (H : Int) ≤ dy) ∨ ((j : Int) - dy < 0 ∨ (H : Int) ≤ (j : Int) - dy) := by omega
    rw [if_pos hn, inRuns_nil]
    by_cases h1 : 0 ≤ (j : Int) - dy
    · have : decide ((j : Int) - dy < H) = false := by simp; omega
      rw [this]; simp
    · have : decide (0 ≤ (j : Int) - dy) = false := by simp; omega
      rw [this]; simp
theorem pixShift_calls (w : World) (v : Value) (p : Nat → Nat → Bool) (h : RegAt w v (pixReg W H p)) (dx dy : Int) : Calls Try.prog 44 #[v, .int .i64 dx, .int .i64 dy] w (PixOut W H (shQ W H p dx dy) w) :=
  (regShift_calls w v _ h dx dy).mono fun _ _ h => .of h (shift_pix hs p dx dy).1 (shift_pix hs p dx dy).2
theorem has_pix (p : Nat → Nat → Bool) (i j : Int) : hasReg (pixReg W H p) i j = atPix W H p i j := by
  have hw := hs.w1
  unfold hasReg atPix
  rw [pix_may hs.w0 hs.w1 hs.h0 hs.h1]
  show (true && (decide (0 ≤ j) && (decide (j < (H : Int)) && hasP ((pixReg W H p).rows.getD j.toNat []) i))) = _
  cases h1 : decide (0 ≤ j) with
  | false => simp
  | true =>
    cases h2 : decide (j < (H : Int)) with
    | false => simp
    | true =>
      simp at h1 h2
      unfold hasP
      rw [pix_in hs.w1 _ (by omega)]
      by_cases hx : 0 ≤ i
      · have e1 : (i.toNat < W) ↔ i < W := by omega
        have e2 : decide (i < W) = (decide (i < 64) && decide (i < W)) := by
          rw [Bool.eq_iff_iff]; simp; omega
        rw [e2]
        simp [hx, e1, Bool.and_assoc]
      · have : decide (0 ≤ i) = false := by simp; omega
        rw [this]; rfl
theorem pixHas_calls (w : World) (v : Value) (p : Nat → Nat → Bool) (h : RegAt w v (pixReg W H p)) (i j : Int) : Calls Try.prog 40 #[v, .int .i64 i, .int .i64 j] w fun e w' => e = .returned (.bool (atPix W H p i j)) ∧ Below w.heap.size w w' :=
  (regHas_calls w v _ h i j).mono fun _ _ h => by rw [has_pix hs] at h; exact h
theorem pixMay_calls (w : World) (v : Value) (p : Nat → Nat → Bool) (h : RegAt w v (pixReg W H p)) : Calls Try.prog 38 #[v] w fun e w' => e = .returned (.bool true) ∧ Below w.heap.size w w' :=
  (regMay_calls w v _ h).mono fun _ _ h => by rw [pix_may hs.w0 hs.w1 hs.h0 hs.h1] at h; exact h
theorem pixCount_calls (w : World) (v : Value) (p : Nat → Nat → Bool) (h : RegAt w v (pixReg W H p)) : Calls Try.prog 36 #[v] w fun e w' => e = .returned (.int .i64 (pixCount W p H)) ∧ Below w.heap.size w w' :=
  (regCount_calls w v _ h).mono fun _ _ h => by rw [count_pix hs.w0 hs.w1 hs.h0 hs.h1] at h; exact h
omit hs in
theorem pixSame_calls (w : World) (v u : Value) (p q : Nat → Nat → Bool) (h : RegAt w v (pixReg W H p)) (k : RegAt w u (pixReg W H q)) (e : ∀ j, j < H → ∀ i, i < W → p j i = q j i) : Calls Try.prog 35 #[v, u] w fun e w' => e = .returned (.bool true) ∧ Below w.heap.size w w' :=
  (regSame_calls w v u _ _ h k).mono fun _ _ h => by rw [same_pix e] at h; exact h
end

theorem mul_le100 {x y : Int} (h1 : 0 ≤ x) (h2 : x ≤ 100) (h3 : 0 ≤ y) (h4 : y ≤ 100) : 0 ≤ x * y ∧ x * y ≤ 10000 :=
  ⟨Int.mul_nonneg h1 h3, by have := Int.mul_le_mul h2 h4 h3 (by omega : (0 : Int) ≤ 100); omega⟩
theorem Holds.cells3 {w0 w : World} {M : List Res} {Φ : List (World → Prop)} {b : Nat} {x y z : Value} {T : TypeId} (hL : Holds w0 w M Φ) (k : At M (blk b #[x, y, z] T)) {R : Prop} (r : R) : w.cell? ⟨b, 0, none⟩ = some x ∧ w.cell? ⟨b, 1, none⟩ = some y ∧ w.cell? ⟨b, 2, none⟩ = some z ∧ R :=
  ⟨(hL.cell k).trans rfl, (hL.cell k).trans rfl, (hL.cell k).trans rfl, r⟩
theorem Holds.cells3e {w0 w : World} {M : List Res} {Φ : List (World → Prop)} {b : Nat} {x y z : Value} {T : TypeId} (hL : Holds w0 w M Φ) (k : At M (blk b #[x, y, z] T)) : w.cell? ⟨b, 0, none⟩ = some x ∧ w.cell? ⟨b, 1, none⟩ = some y ∧ w.cell? ⟨b, 2, none⟩ = some z :=
  ⟨(hL.cell k).trans rfl, (hL.cell k).trans rfl, (hL.cell k).trans rfl⟩
/-- a side by a number -/
theorem lawSideN (v : Int) : ∃ W : Nat, 1 + v % 12 = (W : Int) ∧ 1 ≤ W ∧ W ≤ 12 := by
  have p1 := Int.emod_nonneg v (show (12 : Int) ≠ 0 by omega)
  have p2 := Int.emod_lt_of_pos v (show (0 : Int) < 12 by omega)
  exact ⟨(1 + v % 12).toNat, by omega, by omega, by omega⟩
end Go.Proofs.Ytjgnbmgdnfldeaa
