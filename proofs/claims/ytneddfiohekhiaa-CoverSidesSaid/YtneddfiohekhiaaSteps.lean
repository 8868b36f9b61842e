/- Short steps in a drawn region. -/
import Derived.Test.YtneddfiohekhiaaDraw0
namespace Go.Proofs.Ytneddfiohekhiaa
open Go.RowKit

section
variable {P : Program} {ops : Array Oper} {Q : Exit → Act → World → Prop} {md : Region.Mode} {S : World → Prop} {m : Nat}
/-- an address or a number: one step -/
theorem stM {i : Nat} (v : Value) {oi : Oper} {n : Nat} {l : Array Bool} {a : Act} {w : World} (h6 : S w) (hy : (∀ w, S w → (execOp a.eval oi).run P w = .ok (.value v) w)) (h9 : wpAnyM P md ops Q S m n (l.setIfInBounds i true) (a.put oi.dst v) w)
    (hi : ops[i]? = some oi := by (simp only [List.getElem?_toArray, List.getElem?_cons_zero, List.getElem?_cons_succ]; rfl))
    (h1 : Region.noSelect ops = true := by kernel_rfl) (h2 : Region.free md ops l i = true := by kernel_rfl) (h3 : (Region.ready md ops l).contains i = true := by kernel_rfl) (h4 : waits md ops m i = true := by kernel_rfl)
    (h5 : ∀ c a w, Q (.panic c) (a.put oi.dst v) w → Q (.panic c) a w := by exact fun _ _ _ h => h) (h7 : Region.wanted oi (yielded ops a.tmps) = true := by rfl) : wpAnyM P md ops Q S m (n + 1) l a w :=
  wpM_take hi h1 h2 h3 h4 h5 h6 h7 hy h9
theorem stH {i : Nat} (v : Value) {oi : Oper} {n : Nat} {l : Array Bool} {a : Act} {w : World} (h6 : S w) (hy : (∀ w, S w → (execOp a.eval oi).run P w = .ok (.value v) w)) (h9 : wpAnyH P md ops Q S n (l.setIfInBounds i true) (a.put oi.dst v) w)
    (hi : ops[i]? = some oi := by (simp only [List.getElem?_toArray, List.getElem?_cons_zero, List.getElem?_cons_succ]; rfl))
    (h1 : Region.noSelect ops = true := by kernel_rfl) (h2 : Region.free md ops l i = true := by kernel_rfl) (h3 : (Region.ready md ops l).contains i = true := by kernel_rfl)
    (h5 : ∀ c a w, Q (.panic c) (a.put oi.dst v) w → Q (.panic c) a w := by exact fun _ _ _ h => h) (h7 : Region.wanted oi (yielded ops a.tmps) = true := by rfl) : wpAnyH P md ops Q S (n + 1) l a w :=
  wpAnyH_take hi h1 h2 h3 h5 (.inl ⟨h7, hy⟩) h6 h9
theorem skH {i : Nat} {oi : Oper} {n : Nat} {l : Array Bool} {a : Act} {w : World} (h6 : S w) (h9 : wpAnyH P md ops Q S n (l.setIfInBounds i true) (a.put oi.dst undef) w)
    (hi : ops[i]? = some oi := by (simp only [List.getElem?_toArray, List.getElem?_cons_zero, List.getElem?_cons_succ]; rfl))
    (h1 : Region.noSelect ops = true := by kernel_rfl) (h2 : Region.free md ops l i = true := by kernel_rfl) (h3 : (Region.ready md ops l).contains i = true := by kernel_rfl)
    (h5 : ∀ c a w, Q (.panic c) (a.put oi.dst undef) w → Q (.panic c) a w := by exact fun _ _ _ h => h) (h7 : Region.wanted oi (yielded ops a.tmps) = false := by rfl) : wpAnyH P md ops Q S (n + 1) l a w :=
  wpAnyH_take hi h1 h2 h3 h5 (.inr ⟨h7, rfl⟩) h6 h9
/-- the one that may come now, where the last does not wait for it by itself -/
theorem stO {i : Nat} (v : Value) {oi : Oper} {n : Nat} {l : Array Bool} {a : Act} {w : World} (h6 : S w) (hy : ∀ w, (execOp a.eval oi).run P w = .ok (.value v) w) (h9 : wpAnyM P md ops Q S m n (l.setIfInBounds i true) (a.put oi.dst v) w)
    (hi : ops[i]? = some oi := by (simp only [List.getElem?_toArray, List.getElem?_cons_zero, List.getElem?_cons_succ]; rfl)) (hr : Region.ready md ops l = [i] := by kernel_rfl) (h7 : Region.wanted oi (yielded ops a.tmps) = true := by rfl) : wpAnyM P md ops Q S m (n + 1) l a w :=
  wpM_one hr (wpOp_of hi (st_run h7 v w (hy w) ⟨fun _ => h6, h9⟩))
end
end Go.Proofs.Ytneddfiohekhiaa
