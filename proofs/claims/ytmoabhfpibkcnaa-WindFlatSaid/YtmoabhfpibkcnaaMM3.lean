/- The least and the greatest of three numbers, in a walk. -/
import Derived.Test.YtmoabhfpibkcnaaHoldM
namespace Go.Proofs.Ytmoabhfpibkcnaa
open Go.RowKit
section
variable {P : Program} {w : World} {ops : Array Oper} {rest : List Oper} {o : Oper} {a : Act} {Q : Exit → Act → World → Prop}
theorem wpH_max3 (hgd : Region.wanted o (yielded ops a.tmps) = true) (x y z : Operand) (t t' t'' : TypeId) (ho : o.op = .call { callee := .builtin .max, args := #[x, y, z], argTypes := #[t, t', t''] })
    (m n k : Int) (hx : a.eval x = .int .i64 m) (hy : a.eval y = .int .i64 n) (hz : a.eval z = .int .i64 k) (q : Int) (hq : max (max m n) k = q)
    (h : wpList P ops Q rest (a.put o.dst (.int .i64 q)) w) : wpList P ops Q (o :: rest) a w := by
  refine wpList_run hgd _ _ ?_ h
  subst hq
  have e : ∀ m n : Int, (Builtin.max2 (.int .i64 m) (.int .i64 n)).run P w = .ok (.int .i64 (max m n)) w := by
    intro m n
    unfold Builtin.max2
    rw [show max m n = if m < n then n else m by split <;> omega]
    rfl
  simp [execOp, ho, hx, hy, hz, resolve, invoke, builtin, Builtin.max_]
  rw [e, Result.andThen_ok, e, Result.andThen_ok, show max (max m n) k = max m (max n k) by omega]
theorem wpH_min3 (hgd : Region.wanted o (yielded ops a.tmps) = true) (x y z : Operand) (t t' t'' : TypeId) (ho : o.op = .call { callee := .builtin .min, args := #[x, y, z], argTypes := #[t, t', t''] })
    (m n k : Int) (hx : a.eval x = .int .i64 m) (hy : a.eval y = .int .i64 n) (hz : a.eval z = .int .i64 k) (q : Int) (hq : min (min m n) k = q)
    (h : wpList P ops Q rest (a.put o.dst (.int .i64 q)) w) : wpList P ops Q (o :: rest) a w := by
  refine wpList_run hgd _ _ ?_ h
  subst hq
  have e : ∀ m n : Int, (Builtin.min2 (.int .i64 m) (.int .i64 n)).run P w = .ok (.int .i64 (min m n)) w := by
    intro m n
    unfold Builtin.min2
    rw [show min m n = if n < m then n else m by split <;> omega]
    rfl
  simp [execOp, ho, hx, hy, hz, resolve, invoke, builtin, Builtin.min_]
  rw [e, Result.andThen_ok, e, Result.andThen_ok, show min (min m n) k = min m (min n k) by omega]
end
end Go.Proofs.Ytmoabhfpibkcnaa
