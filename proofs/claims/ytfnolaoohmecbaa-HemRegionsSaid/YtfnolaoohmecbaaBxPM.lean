/- Package path: Box: the box of a path. -/
import Derived.Test.YtfnolaoohmecbaaArmM
import Derived.Test.YtfnolaoohmecbaaSegM
import Derived.Test.YtfnolaoohmecbaaWndM
namespace Go.Proofs.Ytfnolaoohmecbaa
open Go.RowKit

section
variable {P : Program} {ops : Array Oper} {Q : Exit → Act → World → Prop} {md : Region.Mode} {S : World → Prop} {m : Nat}

/-- whatever order is drawn: behind each operation below number m the world meets S -/
def wpAnyN (P : Program) (md : Region.Mode) (ops : Array Oper) (Q : Exit → Act → World → Prop) (S : World → Prop) (m : Nat) : Nat → Array Bool → Act → World → Prop
  | 0, l, a, w => Region.ready md ops l = [] ∧ Q .normal a w
  | n + 1, l, a, w => (Region.ready md ops l = [] → Q .normal a w) ∧ ∀ i ∈ Region.ready md ops l, wpOp P ops Q i (fun a' w' => (i < m → S w') ∧ wpAnyN P md ops Q S m n (l.setIfInBounds i true) a' w') a w

theorem wpAnyN.any {n : Nat} {l : Array Bool} {a : Act} {w : World} (h : wpAnyN P md ops Q S m n l a w) : wpAny P md ops Q n l a w := by
  induction n generalizing l a w with
  | zero => exact h
  | succ n ih => exact ⟨h.1, fun i hi => wpOp_mono (fun _ _ k => ih k.2) (h.2 i hi)⟩

end

section
variable {P : Program} {ops : Array Oper} {Q : Exit → Act → World → Prop} {md : Region.Mode} {V : Nat → World → Prop}
section
variable {P : Program} {ops : Array Oper} {Q : Exit → Act → World → Prop} {md : Region.Mode} {S : World → Prop}
theorem wpH_two {i j : Nat} {n : Nat} {l : Array Bool} {a : Act} {w : World} (hr : Region.ready md ops l = [i, j])
    (h1 : wpOp P ops Q i (fun a' w' => S w' ∧ wpAnyH P md ops Q S n (l.setIfInBounds i true) a' w') a w)
    (h2 : wpOp P ops Q j (fun a' w' => S w' ∧ wpAnyH P md ops Q S n (l.setIfInBounds j true) a' w') a w) : wpAnyH P md ops Q S (n + 1) l a w :=
  wpAnyH_all hr (by simp) fun k hk => by
    simp only [List.mem_cons, List.not_mem_nil, or_false] at hk
    rcases hk with rfl | rfl
    · exact h1
    · exact h2
end
/-- no late operation that waits for number k has been -/
def pinned (md : Region.Mode) (ops : Array Oper) (m : Nat) (l : Array Bool) (k : Nat) : Prop := ∀ s, m ≤ s → l.getD s false = true → waits md ops s k = false
/-- whatever order is drawn: what is read stands till what waits for the reading has been -/
def wpAnyV (P : Program) (md : Region.Mode) (ops : Array Oper) (Q : Exit → Act → World → Prop) (V : Nat → World → Prop) (m : Nat) : Nat → Array Bool → Act → World → Prop
  | 0, l, a, w => Region.ready md ops l = [] ∧ Q .normal a w
  | n + 1, l, a, w => (Region.ready md ops l = [] → Q .normal a w) ∧ ∀ i ∈ Region.ready md ops l, wpOp P ops Q i (fun a' w' => (∀ k, pinned md ops m (l.setIfInBounds i true) k → V k w') ∧ wpAnyV P md ops Q V m n (l.setIfInBounds i true) a' w') a w
theorem wpAnyV.any {m n : Nat} {l : Array Bool} {a : Act} {w : World} (h : wpAnyV P md ops Q V m n l a w) : wpAny P md ops Q n l a w := by
  induction n generalizing l a w with
  | zero => exact h
  | succ n ih => exact ⟨h.1, fun i hi => wpOp_mono (fun _ _ k => ih k.2) (h.2 i hi)⟩
/-- four that read -/
def four (i0 i1 i2 i3 : Nat) (C0 C1 C2 C3 : World → Prop) (k : Nat) (w : World) : Prop := (k = i0 → C0 w) ∧ (k = i1 → C1 w) ∧ (k = i2 → C2 w) ∧ (k = i3 → C3 w)
end

theorem wpH_laterN {P : Program} {ops : Array Oper} {Q : Exit → Act → World → Prop} {id : Nat} {a : Act} {w : World} (hm : P.follows .mixedOrders = true) (h : Below w.heap.size w w.drew → wpAnyH P .any ops Q (fun w' => Below w.heap.size w w') ops.size (Array.replicate ops.size false) a w.drew) : (Code.region id ops true).wp P Q a w :=
  wpH_begin hm (fun w' => Below w.heap.size w w') (h (Below.refl _ _).drew)
theorem run_minV {o : Oper} {a : Act} {w : World} {P : Program} (x y : Operand) (t t' : TypeId) (ho : o.op = .call { callee := .builtin .min, args := #[x, y], argTypes := #[t, t'] }) {m n : Int} (hx : a.eval x = .int .i64 m) (hy : a.eval y = .int .i64 n) : (execOp a.eval o).run P w = .ok (.value (.int .i64 (min m n))) w := by
  simp [execOp, ho, hx, hy, resolve, invoke, builtin, Builtin.min_, Builtin.min2]
  by_cases hmn : m ≤ n
  · simp [Int.min_def, hmn]; omega
  · simp [Int.min_def, hmn]
theorem run_maxV {o : Oper} {a : Act} {w : World} {P : Program} (x y : Operand) (t t' : TypeId) (ho : o.op = .call { callee := .builtin .max, args := #[x, y], argTypes := #[t, t'] }) {m n : Int} (hx : a.eval x = .int .i64 m) (hy : a.eval y = .int .i64 n) : (execOp a.eval o).run P w = .ok (.value (.int .i64 (max m n))) w := by
  simp [execOp, ho, hx, hy, resolve, invoke, builtin, Builtin.max_, Builtin.max2]
  by_cases hmn : m ≤ n
  · simp [Int.max_def, hmn]; omega
  · simp [Int.max_def, hmn]; omega
open Go.RowKit

structure Bx where
  x0 : Int
  y0 : Int
  x1 : Int
  y1 : Int
structure Ne4 (b0 b1 b2 b3 : Nat) : Prop where
  h01 : ¬ b0 = b1
  h02 : ¬ b0 = b2
  h03 : ¬ b0 = b3
  h12 : ¬ b1 = b2
  h13 : ¬ b1 = b3
  h23 : ¬ b2 = b3
/-- at the caller's -/
theorem Holds.wider {w0 w : World} {M : List Res} {Φ : List (World → Prop)} {b0 b1 b2 b3 : Nat} {q q' : Bx} {T : TypeId} (hL : Holds w0 w (blk b3 #[.int .i64 q.y1] T :: blk b2 #[.int .i64 q.x1] T :: blk b1 #[.int .i64 q.y0] T :: blk b0 #[.int .i64 q.x0] T :: M) Φ) :
    Holds w0 ((((w.setCell ⟨b0, 0, none⟩ (.int .i64 q'.x0)).setCell ⟨b1, 0, none⟩ (.int .i64 q'.y0)).setCell ⟨b2, 0, none⟩ (.int .i64 q'.x1)).setCell ⟨b3, 0, none⟩ (.int .i64 q'.y1)) (blk b3 #[.int .i64 q'.y1] T :: blk b2 #[.int .i64 q'.x1] T :: blk b1 #[.int .i64 q'.y0] T :: blk b0 #[.int .i64 q'.x0] T :: M) Φ :=
  (((hL.setCell (v := .int .i64 q'.x0) (.there (.there (.there .here)))).setCell (v := .int .i64 q'.y0) (.there (.there .here))).setCell (v := .int .i64 q'.x1) (.there .here)).setCell (v := .int .i64 q'.y1) .here
/-! what lies in it -/
end Go.Proofs.Ytfnolaoohmecbaa
