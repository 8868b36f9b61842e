/- A region that draws its order and ends in one store: what reads comes first, and the store comes last. -/
import Derived.Test.YtneddfiohekhiaaNums
import Derived.OrdersHeld
namespace Go.Proofs.Ytneddfiohekhiaa
open Go.RowKit

section
variable {P : Program} {ops : Array Oper} {Q : Exit → Act → World → Prop} {md : Region.Mode} {S : World → Prop} {m : Nat}

/-- whatever order is drawn: behind each operation but number m the world meets S -/
def wpAnyM (P : Program) (md : Region.Mode) (ops : Array Oper) (Q : Exit → Act → World → Prop) (S : World → Prop) (m : Nat) : Nat → Array Bool → Act → World → Prop
  | 0, l, a, w => Region.ready md ops l = [] ∧ Q .normal a w
  | n + 1, l, a, w => (Region.ready md ops l = [] → Q .normal a w) ∧ ∀ i ∈ Region.ready md ops l, wpOp P ops Q i (fun a' w' => (i ≠ m → S w') ∧ wpAnyM P md ops Q S m n (l.setIfInBounds i true) a' w') a w

theorem wpAnyM.any {n : Nat} {l : Array Bool} {a : Act} {w : World} (h : wpAnyM P md ops Q S m n l a w) : wpAny P md ops Q n l a w := by
  induction n generalizing l a w with
  | zero => exact h
  | succ n ih => exact ⟨h.1, fun i hi => wpOp_mono (fun _ _ k => ih k.2) (h.2 i hi)⟩

/-- number m waits for number i -/
def waits (md : Region.Mode) (ops : Array Oper) (m i : Nat) : Bool := ((ops[m]?).map fun o => o.after.any fun e => Region.binds md e && e.on == i).getD false
theorem waits_not {l : Array Bool} {i : Nat} (hw : waits md ops m i = true) (hi : i ∈ Region.ready md ops l) : m ∉ Region.ready md ops l := by
  intro hm
  obtain ⟨_, o, ho, hall⟩ := mem_ready.1 hm
  have h0 := (mem_ready.1 hi).1
  simp only [waits, ho, Option.map_some, Option.getD_some, Array.any_eq_true] at hw
  obtain ⟨k, hk, he⟩ := hw
  simp only [Bool.and_eq_true, beq_iff_eq] at he
  have h1 := hall o.after[k] (Array.getElem_mem hk) he.1
  rw [he.2] at h1
  rw [Array.getD_eq_getD_getElem?] at h0 h1
  cases hl : l[i]? with
  | none => rw [hl] at h0; simp at h0
  | some b => rw [hl] at h0 h1; simp at h0 h1; rw [h0] at h1; cases h1

theorem take_M {i : Nat} {oi : Oper} {v : Value} (hi : ops[i]? = some oi) (hs : Region.noSelect ops = true) (hQ : ∀ c a w, Q (.panic c) (a.put oi.dst v) w → Q (.panic c) a w) (hw : waits md ops m i = true) {n : Nat} :
    ∀ {l : Array Bool} {a : Act} {w : World}, (∀ j oj, ops[j]? = some oj → j ≠ i → l.getD j true = false → (∀ e ∈ oj.after, Region.binds md e = true → e.on ≠ i) → oi.apart ops oj = true) →
      i ∈ Region.ready md ops l → YieldsIf P ops S oi v a → S w → wpAnyM P md ops Q S m n (l.setIfInBounds i true) (a.put oi.dst v) w → wpAnyM P md ops Q S m (n + 1) l a w := by
  have himm : ∀ {l : Array Bool}, i ∈ Region.ready md ops l → i ≠ m := fun hr e => waits_not hw hr (e ▸ hr)
  induction n with
  | zero =>
    intro l a w _ hr hy hS H
    refine ⟨fun e => absurd (e ▸ hr) (by simp), fun j hj => ?_⟩
    rcases Decidable.em (j = i) with rfl | hne
    · exact hy.wpOp hi hS ⟨fun _ => hS, H⟩
    · exact absurd (H.1 ▸ ready_mono hj hne) (by simp)
  | succ n ih =>
    intro l a w hfree hr hy hS H
    refine ⟨fun e => absurd (e ▸ hr) (by simp), fun j hj => ?_⟩
    rcases Decidable.em (j = i) with rfl | hne
    · exact hy.wpOp hi hS ⟨fun _ => hS, H⟩
    have hjm : j ≠ m := fun e => waits_not hw hr (e ▸ hj)
    obtain ⟨hun, oj, hoj, hall⟩ := mem_ready.1 hj
    have hoff : ∀ e ∈ oj.after, Region.binds md e = true → e.on ≠ i := fun e he hb heq => by
      have h1 := hall e he hb
      have h0 := (mem_ready.1 hr).1
      rw [heq, Array.getD_eq_getD_getElem?] at h1
      rw [Array.getD_eq_getD_getElem?] at h0
      cases hl : l[i]? with
      | none => rw [hl] at h0; simp at h0
      | some b => rw [hl] at h0 h1; simp at h0 h1; rw [h0] at h1; cases h1
    have step := wpOp_putIf hoj (hfree j oj hoj hne hun hoff) (fun cs b => Region.noSelect_spec hs i oi cs b hi) (fun cs b => Region.noSelect_spec hs j oj cs b hoj) hQ hy (H.2 j (ready_mono hj hne))
    refine wpOp_mono (fun a' w' h3 => ⟨fun _ => h3.2.1 hjm, ih (fun k ok hk hki hku hno => ?_) (ready_mono hr (Ne.symm hne)) h3.1 (h3.2.1 hjm) ?_⟩) step
    · refine hfree k ok hk hki ?_ hno
      rcases Decidable.em (j = k) with rfl | hjk
      · exact hun
      · rwa [getD_set_ne true hjk] at hku
    · rw [Array.setIfInBounds_comm _ _ hne]
      exact h3.2.2

/-- a load, an address or a number comes first -/
theorem wpM_take {i : Nat} {oi : Oper} {v : Value} {n : Nat} {l : Array Bool} {a : Act} {w : World} (hi : ops[i]? = some oi) (hs : Region.noSelect ops = true) (hf : Region.free md ops l i = true) (hr : (Region.ready md ops l).contains i = true) (hw : waits md ops m i = true)
    (hQ : ∀ c a w, Q (.panic c) (a.put oi.dst v) w → Q (.panic c) a w) (hS : S w) (hgd : Region.wanted oi (yielded ops a.tmps) = true) (hy : ∀ w, S w → (execOp a.eval oi).run P w = .ok (.value v) w)
    (h : wpAnyM P md ops Q S m n (l.setIfInBounds i true) (a.put oi.dst v) w) : wpAnyM P md ops Q S m (n + 1) l a w :=
  take_M hi hs hQ hw (Region.free_spec hi hf) (by simpa using hr) (.inl ⟨hgd, hy⟩) hS h
theorem wpM_take1 {i : Nat} {oi : Oper} {n : Nat} {l : Array Bool} {a : Act} {w : World} (hi : ops[i]? = some oi)
    (h : ∃ v, Region.noSelect ops = true ∧ Region.free md ops l i = true ∧ (Region.ready md ops l).contains i = true ∧ waits md ops m i = true ∧ (∀ c a w, Q (.panic c) (a.put oi.dst v) w → Q (.panic c) a w) ∧ S w ∧ Region.wanted oi (yielded ops a.tmps) = true ∧ (∀ w, S w → (execOp a.eval oi).run P w = .ok (.value v) w) ∧ wpAnyM P md ops Q S m n (l.setIfInBounds i true) (a.put oi.dst v) w) : wpAnyM P md ops Q S m (n + 1) l a w := by
  obtain ⟨v, h1, h2, h3, h4, h5, h6, h7, h8, h9⟩ := h
  exact wpM_take hi h1 h2 h3 h4 h5 h6 h7 h8 h9
/-- the one that may come now -/
theorem wpM_one {i : Nat} {n : Nat} {l : Array Bool} {a : Act} {w : World} (hr : Region.ready md ops l = [i]) (h : wpOp P ops Q i (fun a' w' => (i ≠ m → S w') ∧ wpAnyM P md ops Q S m n (l.setIfInBounds i true) a' w') a w) : wpAnyM P md ops Q S m (n + 1) l a w :=
  ⟨fun e => (by rw [hr] at e; cases e), fun j hj => (by rw [hr] at hj; simp at hj; subst hj; exact h)⟩
theorem wpM_done {n : Nat} {l : Array Bool} {a : Act} {w : World} (hr : Region.ready md ops l = []) (h : Q .normal a w) : wpAnyM P md ops Q S m n l a w := by
  cases n with
  | zero => exact ⟨hr, h⟩
  | succ n => exact ⟨fun _ => h, fun i hi => by rw [hr] at hi; cases hi⟩
theorem wpM_begin {id : Nat} {a : Act} {w : World} (hm : P.follows .mixedOrders = true) (S : World → Prop) (m : Nat) (h : wpAnyM P .any ops Q S m ops.size (Array.replicate ops.size false) a w.drew) : (Code.region id ops true).wp P Q a w :=
  wp_region_any hm h.any
/-- one operation, written out -/
def wpStep (P : Program) (ops : Array Oper) (Q : Exit → Act → World → Prop) (o : Oper) (K : Act → World → Prop) (a : Act) (w : World) : Prop := if Region.wanted o (yielded ops a.tmps) then o.wp P a w K Q ∨ (o.asks P a w ∧ LetsOut Q) else K (a.put o.dst undef) w
theorem wpOp_of {i : Nat} {o : Oper} {K : Act → World → Prop} {a : Act} {w : World} (hi : ops[i]? = some o) (h : wpStep P ops Q o K a w) : wpOp P ops Q i K a w := by
  unfold wpOp
  simp only [hi]
  exact h
/-- an operation runs -/
theorem st_run {o : Oper} {K : Act → World → Prop} {a : Act} {w : World} (hgd : Region.wanted o (yielded ops a.tmps) = true) (v : Value) (w' : World) (hr : (execOp a.eval o).run P w = .ok (.value v) w') (h : K (a.put o.dst v) w') : wpStep P ops Q o K a w := by
  unfold wpStep
  simp only [hgd, if_true]
  left
  unfold Oper.wp
  rw [hr]
  exact h
theorem st_runU {o : Oper} {K : Act → World → Prop} {a : Act} {w : World} (hgd : Region.wanted o (yielded ops a.tmps) = true) (w' : World) (hr : (execOp a.eval o).run P w = .ok .skip w') (h : K (a.put o.dst undef) w') : wpStep P ops Q o K a w := by
  unfold wpStep
  simp only [hgd, if_true]
  left
  unfold Oper.wp
  rw [hr]
  exact h
/-- a call of a Go function -/
theorem st_call {o : Oper} {K : Act → World → Prop} {a : Act} {w : World} (hgd : Region.wanted o (yielded ops a.tmps) = true) (f : Nat) (args : Array Value) (hr : (execOp a.eval o).run P w = .ok (.enter f args) w) {R : Ending → World → Prop} (hc : Calls P f args w R)
    (h : ∀ e w', R e w' → ∃ v, e = .returned v ∧ K (a.put o.dst v) w') : wpStep P ops Q o K a w := by
  unfold wpStep
  simp only [hgd, if_true]
  left
  unfold Oper.wp
  rw [hr]
  refine Calls.mono hc fun e w' he => ?_
  obtain ⟨v, rfl, hk⟩ := h e w' he
  exact hk
theorem st_append {o : Oper} {K : Act → World → Prop} {a : Act} {w : World} (hgd : Region.wanted o (yielded ops a.tmps) = true) (s x : Operand) (t : TypeId) (ho : o.op = .call { callee := .builtin .append, args := #[s, x], argTypes := #[t, t] }) (v u : Value) (hs : a.eval s = v) (hx : a.eval x = u)
    (h : AppendAt P t o.type v u w fun v' w' => K (a.put o.dst v') w') : wpStep P ops Q o K a w := by
  obtain ⟨v', w', hr, h⟩ := h
  refine st_run hgd v' w' ?_ h
  unfold execOp
  simp [ho, hs, hx, resolve, invoke, builtin, hr]
theorem st_lit {o : Oper} {K : Act → World → Prop} {a : Act} {w : World} (hgd : Region.wanted o (yielded ops a.tmps) = true) (t : TypeId) (len : Nat) (parts : Array (Nat × Operand)) (ho : o.op = .buildSlice t len parts)
    (h : LitAt P t len (parts.map fun (i, x) => (i, a.eval x)) w fun v' w' => K (a.put o.dst v') w') : wpStep P ops Q o K a w := by
  obtain ⟨v', w', hr, h⟩ := h
  refine st_run hgd v' w' ?_ h
  unfold execOp
  simp only [ho, Sem.run_bind, hr]
  rfl
theorem st_store {o : Oper} {K : Act → World → Prop} {a : Act} {w : World} (hgd : Region.wanted o (yielded ops a.tmps) = true) (T : TypeId) (x y : Operand) (ho : o.op = .store T x y) (p : Addr) (hx : a.eval x = .pointer (some p)) (v : Value) (hy : a.eval y = v)
    (h : StoreAt P T p v w fun w' => K (a.put o.dst undef) w') : wpStep P ops Q o K a w := by
  obtain ⟨w', hr, h⟩ := h
  refine st_runU hgd w' ?_ h
  unfold execOp
  simp [ho, hx, hy, Instr.storeAt, Instr.sureAddr, hr]
theorem run_loadOp {o : Oper} {a : Act} {w : World} (T : TypeId) (x : Operand) (ho : o.op = .load T x) (p : Addr) (hx : a.eval x = .pointer (some p)) (v : Value) (hr : LoadAt P T p w fun u => u = v) : (execOp a.eval o).run P w = .ok (.value v) w := by
  obtain ⟨u, hr, rfl⟩ := hr
  unfold execOp
  simp [ho, hx, Instr.loadAt, Instr.sureAddr, hr]
theorem load_cell {T : TypeId} {p : Addr} {v : Value} {w : World} [hT : ScalarT P T] (hc : w.cell? p = some v) : LoadAt P T p w fun u => u = v := loadAt_cell hT v hc rfl
theorem load_range {T : TypeId} {b n : Nat} {cs : Array Value} {w : World} [hT : RowT P T n] (hn : n = cs.size) (hc : w.rangeAt b 0 cs.toList) : LoadAt P T ⟨b, 0, none⟩ w fun u => u = .agg cs := loadAt_cells hT cs.toList hc (by simpa using hn) (by simp)
/-- the same where nothing is stored -/
theorem wpH_take1 {i : Nat} {oi : Oper} {n : Nat} {l : Array Bool} {a : Act} {w : World} (hi : ops[i]? = some oi)
    (h : ∃ v, Region.noSelect ops = true ∧ Region.free md ops l i = true ∧ (Region.ready md ops l).contains i = true ∧ (∀ c a w, Q (.panic c) (a.put oi.dst v) w → Q (.panic c) a w) ∧ S w ∧ Region.wanted oi (yielded ops a.tmps) = true ∧ (∀ w, S w → (execOp a.eval oi).run P w = .ok (.value v) w) ∧ wpAnyH P md ops Q S n (l.setIfInBounds i true) (a.put oi.dst v) w) : wpAnyH P md ops Q S (n + 1) l a w := by
  obtain ⟨v, h1, h2, h3, h5, h6, h7, h8, h9⟩ := h
  exact wpAnyH_take hi h1 h2 h3 h5 (.inl ⟨h7, h8⟩) h6 h9
theorem wpH_skip1 {i : Nat} {oi : Oper} {n : Nat} {l : Array Bool} {a : Act} {w : World} (hi : ops[i]? = some oi)
    (h : Region.noSelect ops = true ∧ Region.free md ops l i = true ∧ (Region.ready md ops l).contains i = true ∧ (∀ c a w, Q (.panic c) (a.put oi.dst undef) w → Q (.panic c) a w) ∧ S w ∧ Region.wanted oi (yielded ops a.tmps) = false ∧ wpAnyH P md ops Q S n (l.setIfInBounds i true) (a.put oi.dst undef) w) : wpAnyH P md ops Q S (n + 1) l a w := by
  obtain ⟨h1, h2, h3, h5, h6, h7, h9⟩ := h
  exact wpAnyH_take hi h1 h2 h3 h5 (.inr ⟨h7, rfl⟩) h6 h9
theorem wpH_one {i : Nat} {n : Nat} {l : Array Bool} {a : Act} {w : World} (hr : Region.ready md ops l = [i]) (h : wpOp P ops Q i (fun a' w' => S w' ∧ wpAnyH P md ops Q S n (l.setIfInBounds i true) a' w') a w) : wpAnyH P md ops Q S (n + 1) l a w :=
  wpAnyH_all hr (by simp) fun j hj => (by simp at hj; subst hj; exact h)
theorem wpH_begin {id : Nat} {a : Act} {w : World} (hm : P.follows .mixedOrders = true) (S : World → Prop) (h : wpAnyH P .any ops Q S ops.size (Array.replicate ops.size false) a w.drew) : (Code.region id ops true).wp P Q a w :=
  wp_region_held hm h
end
end Go.Proofs.Ytneddfiohekhiaa
