/- Package path: Box: the box of a path. -/
import Derived.Test.YtfnolaoohmecbaaArmM
import Derived.Test.YtfnolaoohmecbaaSegM
import Derived.Test.YtfnolaoohmecbaaWndM
namespace Go.Proofs.Ytfnolaoohmecbaa
open Go.RowKit

section
variable {P : Program} {ops : Array Oper} {Q : Exit → Act → World → Prop} {md : Region.Mode} {S : World → Prop} {m : Nat}

/-- whatever order is drawn: behind each operation below number m the world meets S -/
def wpAnyN (P : Program) (md : Region.Mode) (ops : Array Oper) (Q : Exit → Act → World → Prop) (S : World → Prop) (m : Nat) : Nat → Array Bool → Act → World → Prop
  | 0, l, a, w => Region.ready md ops l = [] ∧ Q .normal a w
  | n + 1, l, a, w => (Region.ready md ops l = [] → Q .normal a w) ∧ ∀ i ∈ Region.ready md ops l, wpOp P ops Q i (fun a' w' => (i < m → S w') ∧ wpAnyN P md ops Q S m n (l.setIfInBounds i true) a' w') a w

theorem wpAnyN.any {n : Nat} {l : Array Bool} {a : Act} {w : World} (h : wpAnyN P md ops Q S m n l a w) : wpAny P md ops Q n l a w := by
  induction n generalizing l a w with
  | zero => exact h
  | succ n ih => exact ⟨h.1, fun i hi => wpOp_mono (fun _ _ k => ih k.2) (h.2 i hi)⟩

/-- the one that may come now -/
theorem wpN_one {i : Nat} {n : Nat} {l : Array Bool} {a : Act} {w : World} (hr : Region.ready md ops l = [i]) (h : wpOp P ops Q i (fun a' w' => (i < m → S w') ∧ wpAnyN P md ops Q S m n (l.setIfInBounds i true) a' w') a w) : wpAnyN P md ops Q S m (n + 1) l a w :=
  ⟨fun e => (by rw [hr] at e; cases e), fun j hj => (by rw [hr] at hj; simp at hj; subst hj; exact h)⟩
theorem wpN_two {i j : Nat} {n : Nat} {l : Array Bool} {a : Act} {w : World} (hr : Region.ready md ops l = [i, j]) (h : wpOp P ops Q i (fun a' w' => (i < m → S w') ∧ wpAnyN P md ops Q S m n (l.setIfInBounds i true) a' w') a w) (k : wpOp P ops Q j (fun a' w' => (j < m → S w') ∧ wpAnyN P md ops Q S m n (l.setIfInBounds j true) a' w') a w) : wpAnyN P md ops Q S m (n + 1) l a w :=
  ⟨fun e => (by rw [hr] at e; cases e), fun b hb => (by rw [hr] at hb; simp at hb; rcases hb with rfl | rfl; (· exact h); (· exact k))⟩
theorem wpN_done {n : Nat} {l : Array Bool} {a : Act} {w : World} (hr : Region.ready md ops l = []) (h : Q .normal a w) : wpAnyN P md ops Q S m n l a w := by
  cases n with
  | zero => exact ⟨hr, h⟩
  | succ n => exact ⟨fun _ => h, fun i hi => by rw [hr] at hi; cases hi⟩
theorem wpN_begin0 {id : Nat} {a : Act} {w : World} (hm : P.follows .mixedOrders = true) (h : wpAnyN P .any ops Q (fun _ => True) 0 ops.size (Array.replicate ops.size false) a w.drew) : (Code.region id ops true).wp P Q a w :=
  wp_region_any hm h.any
end

section
variable {P : Program} {ops : Array Oper} {Q : Exit → Act → World → Prop} {md : Region.Mode} {V : Nat → World → Prop}
section
variable {P : Program} {ops : Array Oper} {Q : Exit → Act → World → Prop} {md : Region.Mode} {S : World → Prop}
theorem wpH_two {i j : Nat} {n : Nat} {l : Array Bool} {a : Act} {w : World} (hr : Region.ready md ops l = [i, j])
    (h1 : wpOp P ops Q i (fun a' w' => S w' ∧ wpAnyH P md ops Q S n (l.setIfInBounds i true) a' w') a w)
    (h2 : wpOp P ops Q j (fun a' w' => S w' ∧ wpAnyH P md ops Q S n (l.setIfInBounds j true) a' w') a w) : wpAnyH P md ops Q S (n + 1) l a w :=
  wpAnyH_all hr (by simp) fun k hk => by
    simp only [List.mem_cons, List.not_mem_nil, or_false] at hk
    rcases hk with rfl | rfl
    · exact h1
    · exact h2
end
/-- no late operation that waits for number k has been -/
def pinned (md : Region.Mode) (ops : Array Oper) (m : Nat) (l : Array Bool) (k : Nat) : Prop := ∀ s, m ≤ s → l.getD s false = true → waits md ops s k = false
theorem not_pinned {m k s : Nat} {l : Array Bool} (hs : m ≤ s) (hd : l.getD s false = true) (hw : waits md ops s k = true) : ¬ pinned md ops m l k := fun h => by
  have := h s hs hd
  rw [hw] at this
  cases this
/-- whatever order is drawn: what is read stands till what waits for the reading has been -/
def wpAnyV (P : Program) (md : Region.Mode) (ops : Array Oper) (Q : Exit → Act → World → Prop) (V : Nat → World → Prop) (m : Nat) : Nat → Array Bool → Act → World → Prop
  | 0, l, a, w => Region.ready md ops l = [] ∧ Q .normal a w
  | n + 1, l, a, w => (Region.ready md ops l = [] → Q .normal a w) ∧ ∀ i ∈ Region.ready md ops l, wpOp P ops Q i (fun a' w' => (∀ k, pinned md ops m (l.setIfInBounds i true) k → V k w') ∧ wpAnyV P md ops Q V m n (l.setIfInBounds i true) a' w') a w
theorem wpAnyV.any {m n : Nat} {l : Array Bool} {a : Act} {w : World} (h : wpAnyV P md ops Q V m n l a w) : wpAny P md ops Q n l a w := by
  induction n generalizing l a w with
  | zero => exact h
  | succ n ih => exact ⟨h.1, fun i hi => wpOp_mono (fun _ _ k => ih k.2) (h.2 i hi)⟩
theorem getD_setF {l : Array Bool} {i s : Nat} (h : l.getD s false = true) : (l.setIfInBounds i true).getD s false = true := by
  rw [Array.getD_eq_getD_getElem?] at h ⊢
  rw [Array.getElem?_setIfInBounds]
  split
  · rename_i e
    subst e
    have : i < l.size := by
      rcases Nat.lt_or_ge i l.size with g | g
      · exact g
      · rw [Array.getElem?_eq_none g] at h; simp at h
    rw [if_pos this]; rfl
  · exact h
theorem getD_unsetF {l : Array Bool} {i s : Nat} (hne : s ≠ i) (h : (l.setIfInBounds i true).getD s false = true) : l.getD s false = true := by
  rw [Array.getD_eq_getD_getElem?] at h ⊢
  rwa [Array.getElem?_setIfInBounds, if_neg (fun e => hne e.symm)] at h
theorem pinned_less {m i k : Nat} {l : Array Bool} (h : pinned md ops m (l.setIfInBounds i true) k) : pinned md ops m l k := fun s hs hd => h s hs (getD_setF hd)
theorem pinned_set {m i k : Nat} {l : Array Bool} (hi : i < m) (h : pinned md ops m l k) : pinned md ops m (l.setIfInBounds i true) k := fun s hs hd => h s hs (getD_unsetF (by omega) hd)
theorem take_V {m i : Nat} {oi : Oper} {v : Value} (him : i < m) (hi : ops[i]? = some oi) (hs : Region.noSelect ops = true) (hQ : ∀ c a w, Q (.panic c) (a.put oi.dst v) w → Q (.panic c) a w) {n : Nat} :
    ∀ {l : Array Bool} {a : Act} {w : World}, (∀ j oj, ops[j]? = some oj → j ≠ i → l.getD j true = false → (∀ e ∈ oj.after, Region.binds md e = true → e.on ≠ i) → oi.apart ops oj = true) →
      i ∈ Region.ready md ops l → YieldsIf P ops (V i) oi v a → pinned md ops m l i → (∀ k, pinned md ops m l k → V k w) → wpAnyV P md ops Q V m n (l.setIfInBounds i true) (a.put oi.dst v) w → wpAnyV P md ops Q V m (n + 1) l a w := by
  induction n with
  | zero =>
    intro l a w _ hr hy hp hV H
    refine ⟨fun e => absurd (e ▸ hr) (by simp), fun j hj => ?_⟩
    rcases Decidable.em (j = i) with rfl | hne
    · exact hy.wpOp hi (hV _ hp) ⟨fun k hk => hV k (pinned_less hk), H⟩
    · exact absurd (H.1 ▸ ready_mono hj hne) (by simp)
  | succ n ih =>
    intro l a w hfree hr hy hp hV H
    refine ⟨fun e => absurd (e ▸ hr) (by simp), fun j hj => ?_⟩
    rcases Decidable.em (j = i) with rfl | hne
    · exact hy.wpOp hi (hV _ hp) ⟨fun k hk => hV k (pinned_less hk), H⟩
    obtain ⟨hun, oj, hoj, hall⟩ := mem_ready.1 hj
    have hoff : ∀ e ∈ oj.after, Region.binds md e = true → e.on ≠ i := fun e he hb heq => by
      have h1 := hall e he hb
      have h0 := (mem_ready.1 hr).1
      rw [heq, Array.getD_eq_getD_getElem?] at h1
      rw [Array.getD_eq_getD_getElem?] at h0
      cases hl : l[i]? with
      | none => rw [hl] at h0; simp at h0
      | some b => rw [hl] at h0 h1; simp at h0 h1; rw [h0] at h1; cases h1
    have hwj : waits md ops j i = false := by
      cases hw : waits md ops j i with
      | false => rfl
      | true => exact absurd hj (waits_not hw hr)
    have hpj : pinned md ops m (l.setIfInBounds j true) i := fun s hs hd => by
      rcases Decidable.em (s = j) with rfl | hsj
      · exact hwj
      · exact hp s hs (getD_unsetF hsj hd)
    have step := wpOp_putIf hoj (hfree j oj hoj hne hun hoff) (fun cs b => Region.noSelect_spec hs i oi cs b hi) (fun cs b => Region.noSelect_spec hs j oj cs b hoj) hQ hy (H.2 j (ready_mono hj hne))
    have hV' : ∀ w', (∀ k, pinned md ops m ((l.setIfInBounds i true).setIfInBounds j true) k → V k w') → ∀ k, pinned md ops m (l.setIfInBounds j true) k → V k w' := fun w' h k hk => h k (by rw [← Array.setIfInBounds_comm _ _ hne]; exact pinned_set him hk)
    refine wpOp_mono (fun a' w' h3 => ⟨hV' w' h3.2.1, ih (fun k ok hk hki hku hno => ?_) (ready_mono hr (Ne.symm hne)) h3.1 hpj (hV' w' h3.2.1) ?_⟩) step
    · refine hfree k ok hk hki ?_ hno
      rcases Decidable.em (j = k) with rfl | hjk
      · exact hun
      · rwa [getD_set_ne true hjk] at hku
    · rw [Array.setIfInBounds_comm _ _ hne]
      exact h3.2.2
theorem stV {m i : Nat} (v : Value) {oi : Oper} {n : Nat} {l : Array Bool} {a : Act} {w : World} (h6 : ∀ k, pinned md ops m l k → V k w) (hy : (∀ w, V i w → (execOp a.eval oi).run P w = .ok (.value v) w)) (h9 : wpAnyV P md ops Q V m n (l.setIfInBounds i true) (a.put oi.dst v) w) (hp : pinned md ops m l i)
    (him : i < m := by decide) (hi : ops[i]? = some oi := by (simp only [List.getElem?_toArray, List.getElem?_cons_zero, List.getElem?_cons_succ]; rfl))
    (h1 : Region.noSelect ops = true := by kernel_rfl) (h2 : Region.free md ops l i = true := by kernel_rfl) (h3 : (Region.ready md ops l).contains i = true := by kernel_rfl)
    (h5 : ∀ c a w, Q (.panic c) (a.put oi.dst v) w → Q (.panic c) a w := by exact fun _ _ _ h => h) (h7 : Region.wanted oi (yielded ops a.tmps) = true := by rfl) : wpAnyV P md ops Q V m (n + 1) l a w :=
  take_V him hi h1 h5 (Region.free_spec hi h2) (by simpa using h3) (.inl ⟨h7, hy⟩) hp h6 h9
theorem wpV_one {m i : Nat} {n : Nat} {l : Array Bool} {a : Act} {w : World} (hr : Region.ready md ops l = [i]) (h : wpOp P ops Q i (fun a' w' => (∀ k, pinned md ops m (l.setIfInBounds i true) k → V k w') ∧ wpAnyV P md ops Q V m n (l.setIfInBounds i true) a' w') a w) : wpAnyV P md ops Q V m (n + 1) l a w :=
  ⟨fun e => (by rw [hr] at e; cases e), fun j hj => (by rw [hr] at hj; simp at hj; subst hj; exact h)⟩
theorem wpV_done {m n : Nat} {l : Array Bool} {a : Act} {w : World} (hr : Region.ready md ops l = []) (h : Q .normal a w) : wpAnyV P md ops Q V m n l a w := by
  cases n with
  | zero => exact ⟨hr, h⟩
  | succ n => exact ⟨fun _ => h, fun i hi => by rw [hr] at hi; cases hi⟩
theorem wpV_begin {id : Nat} {a : Act} {w : World} (hm : P.follows .mixedOrders = true) (V : Nat → World → Prop) (m : Nat) (h : wpAnyV P .any ops Q V m ops.size (Array.replicate ops.size false) a w.drew) : (Code.region id ops true).wp P Q a w :=
  wp_region_any hm h.any
theorem pinned_none {m k n : Nat} : pinned md ops m (Array.replicate n false) k := fun s _ hd => by
  rw [Array.getD_eq_getD_getElem?, Array.getElem?_replicate] at hd
  split at hd <;> simp at hd
theorem pinned_put {m k i : Nat} {l : Array Bool} (h : pinned md ops m l k) (hi : i < m := by decide) : pinned md ops m (l.setIfInBounds i true) k := pinned_set hi h
/-- four that read -/
def four (i0 i1 i2 i3 : Nat) (C0 C1 C2 C3 : World → Prop) (k : Nat) (w : World) : Prop := (k = i0 → C0 w) ∧ (k = i1 → C1 w) ∧ (k = i2 → C2 w) ∧ (k = i3 → C3 w)
end

theorem wpH_laterN {P : Program} {ops : Array Oper} {Q : Exit → Act → World → Prop} {id : Nat} {a : Act} {w : World} (hm : P.follows .mixedOrders = true) (h : Below w.heap.size w w.drew → wpAnyH P .any ops Q (fun w' => Below w.heap.size w w') ops.size (Array.replicate ops.size false) a w.drew) : (Code.region id ops true).wp P Q a w :=
  wpH_begin hm (fun w' => Below w.heap.size w w') (h (Below.refl _ _).drew)
theorem laterN_more {wb w1 w2 : World} (h : Below wb.heap.size wb w1) (k : Below w1.heap.size w1 w2) : Below wb.heap.size wb w2 := h.trans (k.mono h.size)
theorem exContW {G : Prop} {H P : World → Prop} (h1 : (∀ w, H w → P w) → G) (h2 : ∀ w, H w → P w) : G := h1 h2
theorem laterN_cell {w w' : World} {p : Addr} {v : Value} (h : Below w.heap.size w w') (hc : w.cell? p = some v) : w'.cell? p = some v := (Holds.start w).call h |>.old hc
/-- four numbers in blocks, and one more -/
theorem results_int4 {P : Program} {fn : Func} {p0 p1 p2 p3 t : Tmp} {T : TypeId} [hT : ScalarT P T] (h : fn.results = #[.cell p0 T, .cell p1 T, .cell p2 T, .cell p3 T, .tmp t]) {w : World} (tmps : Array Value) {a0 a1 a2 a3 : Addr} {v0 v1 v2 v3 : Value}
    (h0 : tmps.getD p0 undef = .pointer (some a0)) (h1 : tmps.getD p1 undef = .pointer (some a1)) (h2 : tmps.getD p2 undef = .pointer (some a2)) (h3 : tmps.getD p3 undef = .pointer (some a3))
    (c0 : w.cell? a0 = some v0) (c1 : w.cell? a1 = some v1) (c2 : w.cell? a2 = some v2) (c3 : w.cell? a3 = some v3) :
    (results fn tmps).run P w = .ok (.tuple #[v0, v1, v2, v3, tmps.getD t undef]) w := by
  have k0 : tmps[p0]?.getD undef = .pointer (some a0) := by simpa using h0
  have k1 : tmps[p1]?.getD undef = .pointer (some a1) := by simpa using h1
  have k2 : tmps[p2]?.getD undef = .pointer (some a2) := by simpa using h2
  have k3 : tmps[p3]?.getD undef = .pointer (some a3) := by simpa using h3
  obtain ⟨_, l0, rfl⟩ := load_cell (P := P) (T := T) c0
  obtain ⟨_, l1, rfl⟩ := load_cell (P := P) (T := T) c1
  obtain ⟨_, l2, rfl⟩ := load_cell (P := P) (T := T) c2
  obtain ⟨_, l3, rfl⟩ := load_cell (P := P) (T := T) c3
  simp [results, h, k0, k1, k2, k3, asAddr, Sem.run_bind, l0, l1, l2, l3]
theorem run_minV {o : Oper} {a : Act} {w : World} {P : Program} (x y : Operand) (t t' : TypeId) (ho : o.op = .call { callee := .builtin .min, args := #[x, y], argTypes := #[t, t'] }) {m n : Int} (hx : a.eval x = .int .i64 m) (hy : a.eval y = .int .i64 n) : (execOp a.eval o).run P w = .ok (.value (.int .i64 (min m n))) w := by
  simp [execOp, ho, hx, hy, resolve, invoke, builtin, Builtin.min_, Builtin.min2]
  by_cases hmn : m ≤ n
  · simp [Int.min_def, hmn]; omega
  · simp [Int.min_def, hmn]
theorem run_maxV {o : Oper} {a : Act} {w : World} {P : Program} (x y : Operand) (t t' : TypeId) (ho : o.op = .call { callee := .builtin .max, args := #[x, y], argTypes := #[t, t'] }) {m n : Int} (hx : a.eval x = .int .i64 m) (hy : a.eval y = .int .i64 n) : (execOp a.eval o).run P w = .ok (.value (.int .i64 (max m n))) w := by
  simp [execOp, ho, hx, hy, resolve, invoke, builtin, Builtin.max_, Builtin.max2]
  by_cases hmn : m ≤ n
  · simp [Int.max_def, hmn]; omega
  · simp [Int.max_def, hmn]; omega
/-- two rows in blocks, and one more -/
theorem results_rows2 {P : Program} {fn : Func} {p0 p1 t : Tmp} {T : TypeId} {n : Nat} (hT : RowT P T n) (h : fn.results = #[.cell p0 T, .cell p1 T, .tmp t]) {w0 w : World} {M : List Res} {Φ : List (World → Prop)} (tmps : Array Value)
    (hL : Holds w0 w M Φ) (b0 b1 : Nat) (h0 : tmps.getD p0 undef = .pointer (some ⟨b0, 0, none⟩)) (h1 : tmps.getD p1 undef = .pointer (some ⟨b1, 0, none⟩)) (c0 c1 : Array Value) (T0 T1 : TypeId) (a0 : At M (blk b0 c0 T0)) (a1 : At M (blk b1 c1 T1)) (n0 : n = c0.size) (n1 : n = c1.size) :
    (results fn tmps).run P w = .ok (.tuple #[.agg c0, .agg c1, tmps.getD t undef]) w := by
  have k0 : tmps[p0]?.getD undef = .pointer (some ⟨b0, 0, none⟩) := by simpa using h0
  have k1 : tmps[p1]?.getD undef = .pointer (some ⟨b1, 0, none⟩) := by simpa using h1
  obtain ⟨_, l0, rfl⟩ := load_range (P := P) (T := T) (b := b0) (cs := c0) (w := w) n0 (fun j v hj => by rw [Nat.zero_add, hL.cell a0]; simpa using hj)
  obtain ⟨_, l1, rfl⟩ := load_range (P := P) (T := T) (b := b1) (cs := c1) (w := w) n1 (fun j v hj => by rw [Nat.zero_add, hL.cell a1]; simpa using hj)
  simp [results, h, k0, k1, asAddr, Sem.run_bind, l0, l1]
open Go.RowKit

structure Bx where
  x0 : Int
  y0 : Int
  x1 : Int
  y1 : Int
def wid (q : Bx) (x y : Int) : Bx := ⟨min q.x0 x, min q.y0 y, max q.x1 x, max q.y1 y⟩
def boxStep (q : Bx) (s : Sg) : Bx := if s.kind = 4 then q else if s.kind = 3 then wid (wid q s.cx s.cy) s.x s.y else wid q s.x s.y
def boxAt (l : List Sg) (k : Nat) : Bx := (l.take k).foldl boxStep ⟨(l.getD 0 default).x, (l.getD 0 default).y, (l.getD 0 default).x, (l.getD 0 default).y⟩
def boxOf (l : List Sg) : Bx := boxAt l l.length
theorem boxAt_step {l : List Sg} {k : Nat} (h : k < l.length) : boxAt l (k + 1) = boxStep (boxAt l k) (l.getD k default) := by
  unfold boxAt
  rw [List.take_succ_eq_append_getElem h, List.foldl_append]
  simp [h]
theorem heap_set {w : World} {k b o : Nat} {v : Value} {x : Obj} (h : w.heap[k]? = some x) (hne : ¬ k = b) : (w.setCell ⟨b, o, none⟩ v).heap[k]? = some x := (Below.heap_setCell _ _ _ _ hne).trans h
theorem cell_keep {w : World} {b b' : Nat} {v x : Value} (h : w.cell? ⟨b, 0, none⟩ = some x) (hne : ¬ b = b') : (w.setCell ⟨b', 0, none⟩ v).cell? ⟨b, 0, none⟩ = some x := by
  rw [World.cell?_setCell_other _ _ _ _ (by simp; try (first | exact fun e => hne e.symm | exact fun e => hne e))]; exact h
structure Ne4 (b0 b1 b2 b3 : Nat) : Prop where
  h01 : ¬ b0 = b1
  h02 : ¬ b0 = b2
  h03 : ¬ b0 = b3
  h12 : ¬ b1 = b2
  h13 : ¬ b1 = b3
  h23 : ¬ b2 = b3
theorem Holds.rowAt {w0 w : World} {M : List Res} {Φ : List (World → Prop)} {b : Nat} {cs : Array Value} {T : TypeId} (hL : Holds w0 w M Φ) (h : At M (blk b cs T)) : w.heap[b]? = some (.cells cs T (0, 0)) := hL.at h
/-- at the caller's -/
theorem Holds.wider {w0 w : World} {M : List Res} {Φ : List (World → Prop)} {b0 b1 b2 b3 : Nat} {q q' : Bx} {T : TypeId} (hL : Holds w0 w (blk b3 #[.int .i64 q.y1] T :: blk b2 #[.int .i64 q.x1] T :: blk b1 #[.int .i64 q.y0] T :: blk b0 #[.int .i64 q.x0] T :: M) Φ) :
    Holds w0 ((((w.setCell ⟨b0, 0, none⟩ (.int .i64 q'.x0)).setCell ⟨b1, 0, none⟩ (.int .i64 q'.y0)).setCell ⟨b2, 0, none⟩ (.int .i64 q'.x1)).setCell ⟨b3, 0, none⟩ (.int .i64 q'.y1)) (blk b3 #[.int .i64 q'.y1] T :: blk b2 #[.int .i64 q'.x1] T :: blk b1 #[.int .i64 q'.y0] T :: blk b0 #[.int .i64 q'.x0] T :: M) Φ :=
  (((hL.setCell (v := .int .i64 q'.x0) (.there (.there (.there .here)))).setCell (v := .int .i64 q'.y0) (.there (.there .here))).setCell (v := .int .i64 q'.x1) (.there .here)).setCell (v := .int .i64 q'.y1) .here
/-- the same, one block made since -/
theorem Holds.wider1 {w0 w : World} {M : List Res} {Φ : List (World → Prop)} {r : Res} {b0 b1 b2 b3 : Nat} {q q' : Bx} {T : TypeId} (hL : Holds w0 w (r :: blk b3 #[.int .i64 q.y1] T :: blk b2 #[.int .i64 q.x1] T :: blk b1 #[.int .i64 q.y0] T :: blk b0 #[.int .i64 q.x0] T :: M) Φ) :
    Holds w0 ((((w.setCell ⟨b0, 0, none⟩ (.int .i64 q'.x0)).setCell ⟨b1, 0, none⟩ (.int .i64 q'.y0)).setCell ⟨b2, 0, none⟩ (.int .i64 q'.x1)).setCell ⟨b3, 0, none⟩ (.int .i64 q'.y1)) (r :: blk b3 #[.int .i64 q'.y1] T :: blk b2 #[.int .i64 q'.x1] T :: blk b1 #[.int .i64 q'.y0] T :: blk b0 #[.int .i64 q'.x0] T :: M) Φ :=
  (((hL.setCell (v := .int .i64 q'.x0) (.there (.there (.there (.there .here))))).setCell (v := .int .i64 q'.y0) (.there (.there (.there .here)))).setCell (v := .int .i64 q'.x1) (.there (.there .here))).setCell (v := .int .i64 q'.y1) (.there .here)
theorem Holds.ne4 {w0 w : World} {M : List Res} {Φ : List (World → Prop)} {b0 b1 b2 b3 : Nat} {c0 c1 c2 c3 : Array Value} {T : TypeId} (hL : Holds w0 w (blk b3 c3 T :: blk b2 c2 T :: blk b1 c1 T :: blk b0 c0 T :: M) Φ) : Ne4 b0 b1 b2 b3 := by
  have h := hL.apart
  rw [List.pairwise_cons, List.pairwise_cons, List.pairwise_cons] at h
  obtain ⟨h3, h2, h1, _⟩ := h
  have f3 := fun s hs => h3 s hs b3 rfl
  have f2 := fun s hs => h2 s hs b2 rfl
  have f1 := fun s hs => h1 s hs b1 rfl
  have k : ∀ (b b' : Nat), some b ≠ some b' → ¬ b = b' := fun b b' h e => h (congrArg some e)
  exact ⟨k _ _ (f1 (blk b0 c0 T) (by simp)), k _ _ (f2 (blk b0 c0 T) (by simp)), k _ _ (f3 (blk b0 c0 T) (by simp)), k _ _ (f2 (blk b1 c1 T) (by simp)), k _ _ (f3 (blk b1 c1 T) (by simp)), k _ _ (f3 (blk b2 c2 T) (by simp))⟩

def boxRet (l : List Sg) : Value := if l.length = 0 then .tuple #[.int .i64 0, .int .i64 0, .int .i64 0, .int .i64 0, .bool false] else .tuple #[.int .i64 (boxOf l).x0, .int .i64 (boxOf l).y0, .int .i64 (boxOf l).x1, .int .i64 (boxOf l).y1, .bool true]
theorem tup4 {w : World} {p : Array Value} {w' : World} {u v : Value} {P : Program} {fn : Func} (h : (results fn p).run P w = .ok u w') (e : u = v) : (results fn p).run P w = .ok v w' := by rw [h, e]
/-! what lies in it -/
def InBx (q : Bx) (x y : Int) : Prop := (q.x0 ≤ x ∧ x ≤ q.x1) ∧ q.y0 ≤ y ∧ y ≤ q.y1
theorem wid_in (q : Bx) (x y : Int) : InBx (wid q x y) x y := by unfold InBx wid; dsimp only; omega
theorem wid_more {q : Bx} {u v : Int} (h : InBx q u v) (x y : Int) : InBx (wid q x y) u v := by unfold InBx wid at *; dsimp only; omega
theorem boxStep_more {q : Bx} {u v : Int} (h : InBx q u v) (s : Sg) : InBx (boxStep q s) u v := by
  unfold boxStep
  split
  · exact h
  · split
    · exact wid_more (wid_more h _ _) _ _
    · exact wid_more h _ _
theorem boxFold_more {u v : Int} : ∀ (l : List Sg) (q : Bx), InBx q u v → InBx (l.foldl boxStep q) u v
  | [], _, h => h
  | s :: l, _, h => boxFold_more l _ (boxStep_more h s)
theorem boxFold_in : ∀ (l : List Sg) (q : Bx), ∀ s ∈ l, (s.kind ≠ 4 → InBx (l.foldl boxStep q) s.x s.y) ∧ (s.kind = 3 → InBx (l.foldl boxStep q) s.cx s.cy)
  | [], _, s, hs => by cases hs
  | a :: l, q, s, hs => by
    rcases List.mem_cons.1 hs with rfl | hs
    · refine ⟨fun h => boxFold_more l _ ?_, fun h => boxFold_more l _ ?_⟩
      · unfold boxStep
        rw [if_neg h]
        split
        · exact wid_in _ _ _
        · exact wid_in _ _ _
      · unfold boxStep
        rw [if_neg (by omega), if_pos h]
        exact wid_more (wid_in _ _ _) _ _
    · exact boxFold_in l _ s hs
theorem boxOf_in {l : List Sg} {s : Sg} (hs : s ∈ l) : (s.kind ≠ 4 → InBx (boxOf l) s.x s.y) ∧ (s.kind = 3 → InBx (boxOf l) s.cx s.cy) := by
  unfold boxOf boxAt
  rw [List.take_length]
  exact boxFold_in l _ s hs
end Go.Proofs.Ytfnolaoohmecbaa
