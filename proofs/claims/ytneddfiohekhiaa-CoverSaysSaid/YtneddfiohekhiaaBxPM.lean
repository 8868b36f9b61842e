/- Package path: Box: the box of a path. -/
import Derived.Test.YtneddfiohekhiaaArmM
import Derived.Test.YtneddfiohekhiaaSegM
import Derived.Test.YtneddfiohekhiaaWndM
namespace Go.Proofs.Ytneddfiohekhiaa
open Go.RowKit

section
variable {P : Program} {ops : Array Oper} {Q : Exit → Act → World → Prop} {md : Region.Mode} {S : World → Prop} {m : Nat}

/-- whatever order is drawn: behind each operation below number m the world meets S -/
def wpAnyN (P : Program) (md : Region.Mode) (ops : Array Oper) (Q : Exit → Act → World → Prop) (S : World → Prop) (m : Nat) : Nat → Array Bool → Act → World → Prop
  | 0, l, a, w => Region.ready md ops l = [] ∧ Q .normal a w
  | n + 1, l, a, w => (Region.ready md ops l = [] → Q .normal a w) ∧ ∀ i ∈ Region.ready md ops l, wpOp P ops Q i (fun a' w' => (i < m → S w') ∧ wpAnyN P md ops Q S m n (l.setIfInBounds i true) a' w') a w

theorem wpAnyN.any {n : Nat} {l : Array Bool} {a : Act} {w : World} (h : wpAnyN P md ops Q S m n l a w) : wpAny P md ops Q n l a w := by
  induction n generalizing l a w with
  | zero => exact h
  | succ n ih => exact ⟨h.1, fun i hi => wpOp_mono (fun _ _ k => ih k.2) (h.2 i hi)⟩

end

section
variable {P : Program} {ops : Array Oper} {Q : Exit → Act → World → Prop} {md : Region.Mode} {V : Nat → World → Prop}
section
variable {P : Program} {ops : Array Oper} {Q : Exit → Act → World → Prop} {md : Region.Mode} {S : World → Prop}
end
/-- no late operation that waits for number k has been -/
def pinned (md : Region.Mode) (ops : Array Oper) (m : Nat) (l : Array Bool) (k : Nat) : Prop := ∀ s, m ≤ s → l.getD s false = true → waits md ops s k = false
/-- whatever order is drawn: what is read stands till what waits for the reading has been -/
def wpAnyV (P : Program) (md : Region.Mode) (ops : Array Oper) (Q : Exit → Act → World → Prop) (V : Nat → World → Prop) (m : Nat) : Nat → Array Bool → Act → World → Prop
  | 0, l, a, w => Region.ready md ops l = [] ∧ Q .normal a w
  | n + 1, l, a, w => (Region.ready md ops l = [] → Q .normal a w) ∧ ∀ i ∈ Region.ready md ops l, wpOp P ops Q i (fun a' w' => (∀ k, pinned md ops m (l.setIfInBounds i true) k → V k w') ∧ wpAnyV P md ops Q V m n (l.setIfInBounds i true) a' w') a w
theorem wpAnyV.any {m n : Nat} {l : Array Bool} {a : Act} {w : World} (h : wpAnyV P md ops Q V m n l a w) : wpAny P md ops Q n l a w := by
  induction n generalizing l a w with
  | zero => exact h
  | succ n ih => exact ⟨h.1, fun i hi => wpOp_mono (fun _ _ k => ih k.2) (h.2 i hi)⟩
/-- four that read -/
def four (i0 i1 i2 i3 : Nat) (C0 C1 C2 C3 : World → Prop) (k : Nat) (w : World) : Prop := (k = i0 → C0 w) ∧ (k = i1 → C1 w) ∧ (k = i2 → C2 w) ∧ (k = i3 → C3 w)
end

open Go.RowKit

structure Bx where
  x0 : Int
  y0 : Int
  x1 : Int
  y1 : Int
structure Ne4 (b0 b1 b2 b3 : Nat) : Prop where
  h01 : ¬ b0 = b1
  h02 : ¬ b0 = b2
  h03 : ¬ b0 = b3
  h12 : ¬ b1 = b2
  h13 : ¬ b1 = b3
  h23 : ¬ b2 = b3
/-! what lies in it -/
end Go.Proofs.Ytneddfiohekhiaa
