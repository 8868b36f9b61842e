/- Package path: Box: the box of a path. -/
import Derived.Test.YtmoabhfpibkcnaaArmM
import Derived.Test.YtmoabhfpibkcnaaSegM
import Derived.Test.YtmoabhfpibkcnaaWndM
namespace Go.Proofs.Ytmoabhfpibkcnaa
open Go.RowKit

section
variable {P : Program} {ops : Array Oper} {Q : Exit → Act → World → Prop} {md : Region.Mode} {S : World → Prop} {m : Nat}

/-- whatever order is drawn: behind each operation below number m the world meets S -/
def wpAnyN (P : Program) (md : Region.Mode) (ops : Array Oper) (Q : Exit → Act → World → Prop) (S : World → Prop) (m : Nat) : Nat → Array Bool → Act → World → Prop
  | 0, l, a, w => Region.ready md ops l = [] ∧ Q .normal a w
  | n + 1, l, a, w => (Region.ready md ops l = [] → Q .normal a w) ∧ ∀ i ∈ Region.ready md ops l, wpOp P ops Q i (fun a' w' => (i < m → S w') ∧ wpAnyN P md ops Q S m n (l.setIfInBounds i true) a' w') a w

theorem wpAnyN.any {n : Nat} {l : Array Bool} {a : Act} {w : World} (h : wpAnyN P md ops Q S m n l a w) : wpAny P md ops Q n l a w := by
  induction n generalizing l a w with
  | zero => exact h
  | succ n ih => exact ⟨h.1, fun i hi => wpOp_mono (fun _ _ k => ih k.2) (h.2 i hi)⟩

/-- the one that may come now -/
theorem wpN_one {i : Nat} {n : Nat} {l : Array Bool} {a : Act} {w : World} (hr : Region.ready md ops l = [i]) (h : wpOp P ops Q i (fun a' w' => (i < m → S w') ∧ wpAnyN P md ops Q S m n (l.setIfInBounds i true) a' w') a w) : wpAnyN P md ops Q S m (n + 1) l a w :=
  ⟨fun e => (by rw [hr] at e; cases e), fun j hj => (by rw [hr] at hj; simp at hj; subst hj; exact h)⟩
theorem wpN_two {i j : Nat} {n : Nat} {l : Array Bool} {a : Act} {w : World} (hr : Region.ready md ops l = [i, j]) (h : wpOp P ops Q i (fun a' w' => (i < m → S w') ∧ wpAnyN P md ops Q S m n (l.setIfInBounds i true) a' w') a w) (k : wpOp P ops Q j (fun a' w' => (j < m → S w') ∧ wpAnyN P md ops Q S m n (l.setIfInBounds j true) a' w') a w) : wpAnyN P md ops Q S m (n + 1) l a w :=
  ⟨fun e => (by rw [hr] at e; cases e), fun b hb => (by rw [hr] at hb; simp at hb; rcases hb with rfl | rfl; (· exact h); (· exact k))⟩
theorem wpN_done {n : Nat} {l : Array Bool} {a : Act} {w : World} (hr : Region.ready md ops l = []) (h : Q .normal a w) : wpAnyN P md ops Q S m n l a w := by
  cases n with
  | zero => exact ⟨hr, h⟩
  | succ n => exact ⟨fun _ => h, fun i hi => by rw [hr] at hi; cases hi⟩
theorem wpN_begin0 {id : Nat} {a : Act} {w : World} (hm : P.follows .mixedOrders = true) (h : wpAnyN P .any ops Q (fun _ => True) 0 ops.size (Array.replicate ops.size false) a w.drew) : (Code.region id ops true).wp P Q a w :=
  wp_region_any hm h.any
end

section
variable {P : Program} {ops : Array Oper} {Q : Exit → Act → World → Prop} {md : Region.Mode} {V : Nat → World → Prop}
section
variable {P : Program} {ops : Array Oper} {Q : Exit → Act → World → Prop} {md : Region.Mode} {S : World → Prop}
theorem wpH_two {i j : Nat} {n : Nat} {l : Array Bool} {a : Act} {w : World} (hr : Region.ready md ops l = [i, j])
    (h1 : wpOp P ops Q i (fun a' w' => S w' ∧ wpAnyH P md ops Q S n (l.setIfInBounds i true) a' w') a w)
    (h2 : wpOp P ops Q j (fun a' w' => S w' ∧ wpAnyH P md ops Q S n (l.setIfInBounds j true) a' w') a w) : wpAnyH P md ops Q S (n + 1) l a w :=
  wpAnyH_all hr (by simp) fun k hk => by
    simp only [List.mem_cons, List.not_mem_nil, or_false] at hk
    rcases hk with rfl | rfl
    · exact h1
    · exact h2
end
/-- no late operation that waits for number k has been -/
def pinned (md : Region.Mode) (ops : Array Oper) (m : Nat) (l : Array Bool) (k : Nat) : Prop := ∀ s, m ≤ s → l.getD s false = true → waits md ops s k = false
theorem not_pinned {m k s : Nat} {l : Array Bool} (hs : m ≤ s) (hd : l.getD s false = true) (hw : waits md ops s k = true) : ¬ pinned md ops m l k := fun h => by
  have := h s hs hd
  rw [hw] at this
  cases this
/-- whatever order is drawn: what is read stands till what waits for the reading has been -/
def wpAnyV (P : Program) (md : Region.Mode) (ops : Array Oper) (Q : Exit → Act → World → Prop) (V : Nat → World → Prop) (m : Nat) : Nat → Array Bool → Act → World → Prop
  | 0, l, a, w => Region.ready md ops l = [] ∧ Q .normal a w
  | n + 1, l, a, w => (Region.ready md ops l = [] → Q .normal a w) ∧ ∀ i ∈ Region.ready md ops l, wpOp P ops Q i (fun a' w' => (∀ k, pinned md ops m (l.setIfInBounds i true) k → V k w') ∧ wpAnyV P md ops Q V m n (l.setIfInBounds i true) a' w') a w
theorem wpAnyV.any {m n : Nat} {l : Array Bool} {a : Act} {w : World} (h : wpAnyV P md ops Q V m n l a w) : wpAny P md ops Q n l a w := by
  induction n generalizing l a w with
  | zero => exact h
  | succ n ih => exact ⟨h.1, fun i hi => wpOp_mono (fun _ _ k => ih k.2) (h.2 i hi)⟩
theorem getD_setF {l : Array Bool} {i s : Nat} (h : l.getD s false = true) : (l.setIfInBounds i true).getD s false = true := by
  rw [Array.getD_eq_getD_getElem?] at h ⊢
  rw [Array.getElem?_setIfInBounds]
  split
  · rename_i e
    subst e
    have : i < l.size := by
      rcases Nat.lt_or_ge i l.size with g | g
      · exact g
      · rw [Array.getElem?_eq_none g] at h; simp at h
    rw [if_pos this]; rfl
  · exact h
theorem getD_unsetF {l : Array Bool} {i s : Nat} (hne : s ≠ i) (h : (l.setIfInBounds i true).getD s false = true) : l.getD s false = true := by
  rw [Array.getD_eq_getD_getElem?] at h ⊢
  rwa [Array.getElem?_setIfInBounds, if_neg (fun e => hne e.symm)] at h
theorem pinned_less {m i k : Nat} {l : Array Bool} (h : pinned md ops m (l.setIfInBounds i true) k) : pinned md ops m l k := fun s hs hd => h s hs (getD_setF hd)
theorem pinned_set {m i k : Nat} {l : Array Bool} (hi : i < m) (h : pinned md ops m l k) : pinned md ops m (l.setIfInBounds i true) k := fun s hs hd => h s hs (getD_unsetF (by omega) hd)
theorem take_V {m i : Nat} {oi : Oper} {v : Value} (him : i < m) (hi : ops[i]? = some oi) (hs : Region.noSelect ops = true) (hQ : ∀ c a w, Q (.panic c) (a.put oi.dst v) w → Q (.panic c) a w) {n : Nat} :
    ∀ {l : Array Bool} {a : Act} {w : World}, (∀ j oj, ops[j]? = some oj → j ≠ i → l.getD j true = false → (∀ e ∈ oj.after, Region.binds md e = true → e.on ≠ i) → oi.apart ops oj = true) →
      i ∈ Region.ready md ops l → YieldsIf P ops (V i) oi v a → pinned md ops m l i → (∀ k, pinned md ops m l k → V k w) → wpAnyV P md ops Q V m n (l.setIfInBounds i true) (a.put oi.dst v) w → wpAnyV P md ops Q V m (n + 1) l a w := by
  induction n with
  | zero =>
    intro l a w _ hr hy hp hV H
    refine ⟨fun e => absurd (e ▸ hr) (by simp), fun j hj => ?_⟩
    rcases Decidable.em (j = i) with rfl | hne
    · exact hy.wpOp hi (hV _ hp) ⟨fun k hk => hV k (pinned_less hk), H⟩
    · exact absurd (H.1 ▸ ready_mono hj hne) (by simp)
  | succ n ih =>
    intro l a w hfree hr hy hp hV H
    refine ⟨fun e => absurd (e ▸ hr) (by simp), fun j hj => ?_⟩
    rcases Decidable.em (j = i) with rfl | hne
    · exact hy.wpOp hi (hV _ hp) ⟨fun k hk => hV k (pinned_less hk), H⟩
    obtain ⟨hun, oj, hoj, hall⟩ := mem_ready.1 hj
    have hoff : ∀ e ∈ oj.after, Region.binds md e = true → e.on ≠ i := fun e he hb heq => by
      have h1 := hall e he hb
      have h0 := (mem_ready.1 hr).1
      rw [heq, Array.getD_eq_getD_getElem?] at h1
      rw [Array.getD_eq_getD_getElem?] at h0
      cases hl : l[i]? with
      | none => rw [hl] at h0; simp at h0
      | some b => rw [hl] at h0 h1; simp at h0 h1; rw [h0] at h1; cases h1
    have hwj : waits md ops j i = false := by
      cases hw : waits md ops j i with
      | false => rfl
      | true => exact absurd hj (waits_not hw hr)
    have hpj : pinned md ops m (l.setIfInBounds j true) i := fun s hs hd => by
      rcases Decidable.em (s = j) with rfl | hsj
      · exact hwj
      · exact hp s hs (getD_unsetF hsj hd)
    have step := wpOp_putIf hoj (hfree j oj hoj hne hun hoff) (fun cs b => Region.noSelect_spec hs i oi cs b hi) (fun cs b => Region.noSelect_spec hs j oj cs b hoj) hQ hy (H.2 j (ready_mono hj hne))
    have hV' : ∀ w', (∀ k, pinned md ops m ((l.setIfInBounds i true).setIfInBounds j true) k → V k w') → ∀ k, pinned md ops m (l.setIfInBounds j true) k → V k w' := fun w' h k hk => h k (by rw [← Array.setIfInBounds_comm _ _ hne]; exact pinned_set him hk)
    refine wpOp_mono (fun a' w' h3 => ⟨hV' w' h3.2.1, ih (fun k ok hk hki hku hno => ?_) (ready_mono hr (Ne.symm hne)) h3.1 hpj (hV' w' h3.2.1) ?_⟩) step
    · refine hfree k ok hk hki ?_ hno
      rcases Decidable.em (j = k) with rfl | hjk
      · exact hun
      · rwa [getD_set_ne true hjk] at hku
    · rw [Array.setIfInBounds_comm _ _ hne]
      exact h3.2.2
theorem stV {m i : Nat} (v : Value) {oi : Oper} {n : Nat} {l : Array Bool} {a : Act} {w : World} (h6 : ∀ k, pinned md ops m l k → V k w) (hy : (∀ w, V i w → (execOp a.eval oi).run P w = .ok (.value v) w)) (h9 : wpAnyV P md ops Q V m n (l.setIfInBounds i true) (a.put oi.dst v) w) (hp : pinned md ops m l i)
    (him : i < m := by decide) (hi : ops[i]? = some oi := by (simp only [List.getElem?_toArray, List.getElem?_cons_zero, List.getElem?_cons_succ]; rfl))
    (h1 : Region.noSelect ops = true := by kernel_rfl) (h2 : Region.free md ops l i = true := by kernel_rfl) (h3 : (Region.ready md ops l).contains i = true := by kernel_rfl)
    (h5 : ∀ c a w, Q (.panic c) (a.put oi.dst v) w → Q (.panic c) a w := by exact fun _ _ _ h => h) (h7 : Region.wanted oi (yielded ops a.tmps) = true := by rfl) : wpAnyV P md ops Q V m (n + 1) l a w :=
  take_V him hi h1 h5 (Region.free_spec hi h2) (by simpa using h3) (.inl ⟨h7, hy⟩) hp h6 h9
theorem wpV_one {m i : Nat} {n : Nat} {l : Array Bool} {a : Act} {w : World} (hr : Region.ready md ops l = [i]) (h : wpOp P ops Q i (fun a' w' => (∀ k, pinned md ops m (l.setIfInBounds i true) k → V k w') ∧ wpAnyV P md ops Q V m n (l.setIfInBounds i true) a' w') a w) : wpAnyV P md ops Q V m (n + 1) l a w :=
  ⟨fun e => (by rw [hr] at e; cases e), fun j hj => (by rw [hr] at hj; simp at hj; subst hj; exact h)⟩
theorem wpV_done {m n : Nat} {l : Array Bool} {a : Act} {w : World} (hr : Region.ready md ops l = []) (h : Q .normal a w) : wpAnyV P md ops Q V m n l a w := by
  cases n with
  | zero => exact ⟨hr, h⟩
  | succ n => exact ⟨fun _ => h, fun i hi => by rw [hr] at hi; cases hi⟩
theorem wpV_begin {id : Nat} {a : Act} {w : World} (hm : P.follows .mixedOrders = true) (V : Nat → World → Prop) (m : Nat) (h : wpAnyV P .any ops Q V m ops.size (Array.replicate ops.size false) a w.drew) : (Code.region id ops true).wp P Q a w :=
  wp_region_any hm h.any
theorem pinned_none {m k n : Nat} : pinned md ops m (Array.replicate n false) k := fun s _ hd => by
  rw [Array.getD_eq_getD_getElem?, Array.getElem?_replicate] at hd
  split at hd <;> simp at hd
theorem pinned_put {m k i : Nat} {l : Array Bool} (h : pinned md ops m l k) (hi : i < m := by decide) : pinned md ops m (l.setIfInBounds i true) k := pinned_set hi h
/-- four that read -/
def four (i0 i1 i2 i3 : Nat) (C0 C1 C2 C3 : World → Prop) (k : Nat) (w : World) : Prop := (k = i0 → C0 w) ∧ (k = i1 → C1 w) ∧ (k = i2 → C2 w) ∧ (k = i3 → C3 w)
end

theorem wpH_laterN {P : Program} {ops : Array Oper} {Q : Exit → Act → World → Prop} {id : Nat} {a : Act} {w : World} (hm : P.follows .mixedOrders = true) (h : Below w.heap.size w w.drew → wpAnyH P .any ops Q (fun w' => Below w.heap.size w w') ops.size (Array.replicate ops.size false) a w.drew) : (Code.region id ops true).wp P Q a w :=
  wpH_begin hm (fun w' => Below w.heap.size w w') (h (Below.refl _ _).drew)
theorem laterN_more {wb w1 w2 : World} (h : Below wb.heap.size wb w1) (k : Below w1.heap.size w1 w2) : Below wb.heap.size wb w2 := h.trans (k.mono h.size)
theorem exContW {G : Prop} {H P : World → Prop} (h1 : (∀ w, H w → P w) → G) (h2 : ∀ w, H w → P w) : G := h1 h2
theorem laterN_cell {w w' : World} {p : Addr} {v : Value} (h : Below w.heap.size w w') (hc : w.cell? p = some v) : w'.cell? p = some v := (Holds.start w).call h |>.old hc
/-- four numbers in blocks, and one more -/
theorem results_int4 {P : Program} {fn : Func} {p0 p1 p2 p3 t : Tmp} {T : TypeId} [hT : ScalarT P T] (h : fn.results = #[.cell p0 T, .cell p1 T, .cell p2 T, .cell p3 T, .tmp t]) {w : World} (tmps : Array Value) {a0 a1 a2 a3 : Addr} {v0 v1 v2 v3 : Value}
    (h0 : tmps.getD p0 undef = .pointer (some a0)) (h1 : tmps.getD p1 undef = .pointer (some a1)) (h2 : tmps.getD p2 undef = .pointer (some a2)) (h3 : tmps.getD p3 undef = .pointer (some a3))
    (c0 : w.cell? a0 = some v0) (c1 : w.cell? a1 = some v1) (c2 : w.cell? a2 = some v2) (c3 : w.cell? a3 = some v3) :
    (results fn tmps).run P w = .ok (.tuple #[v0, v1, v2, v3, tmps.getD t undef]) w := by
  have k0 : tmps[p0]?.getD undef = .pointer (some a0) := by simpa using h0
  have k1 : tmps[p1]?.getD undef = .pointer (some a1) := by simpa using h1
  have k2 : tmps[p2]?.getD undef = .pointer (some a2) := by simpa using h2
  have k3 : tmps[p3]?.getD undef = .pointer (some a3) := by simpa using h3
  obtain ⟨_, l0, rfl⟩ := load_cell (P := P) (T := T) c0
  obtain ⟨_, l1, rfl⟩ := load_cell (P := P) (T := T) c1
  obtain ⟨_, l2, rfl⟩ := load_cell (P := P) (T := T) c2
  obtain ⟨_, l3, rfl⟩ := load_cell (P := P) (T := T) c3
  simp [results, h, k0, k1, k2, k3, asAddr, Sem.run_bind, l0, l1, l2, l3]
theorem run_minV {o : Oper} {a : Act} {w : World} {P : Program} (x y : Operand) (t t' : TypeId) (ho : o.op = .call { callee := .builtin .min, args := #[x, y], argTypes := #[t, t'] }) {m n : Int} (hx : a.eval x = .int .i64 m) (hy : a.eval y = .int .i64 n) : (execOp a.eval o).run P w = .ok (.value (.int .i64 (min m n))) w := by
  simp [execOp, ho, hx, hy, resolve, invoke, builtin, Builtin.min_, Builtin.min2]
  by_cases hmn : m ≤ n
  · simp [Int.min_def, hmn]; omega
  · simp [Int.min_def, hmn]
theorem run_maxV {o : Oper} {a : Act} {w : World} {P : Program} (x y : Operand) (t t' : TypeId) (ho : o.op = .call { callee := .builtin .max, args := #[x, y], argTypes := #[t, t'] }) {m n : Int} (hx : a.eval x = .int .i64 m) (hy : a.eval y = .int .i64 n) : (execOp a.eval o).run P w = .ok (.value (.int .i64 (max m n))) w := by
  simp [execOp, ho, hx, hy, resolve, invoke, builtin, Builtin.max_, Builtin.max2]
  by_cases hmn : m ≤ n
  · simp [Int.max_def, hmn]; omega
  · simp [Int.max_def, hmn]; omega
/-- two rows in blocks, and one more -/
theorem results_rows2 {P : Program} {fn : Func} {p0 p1 t : Tmp} {T : TypeId} {n : Nat} (hT : RowT P T n) (h : fn.results = #[.cell p0 T, .cell p1 T, .tmp t]) {w0 w : World} {M : List Res} {Φ : List (World → Prop)} (tmps : Array Value)
    (hL : Holds w0 w M Φ) (b0 b1 : Nat) (h0 : tmps.getD p0 undef = .pointer (some ⟨b0, 0, none⟩)) (h1 : tmps.getD p1 undef = .pointer (some ⟨b1, 0, none⟩)) (c0 c1 : Array Value) (T0 T1 : TypeId) (a0 : At M (blk b0 c0 T0)) (a1 : At M (blk b1 c1 T1)) (n0 : n = c0.size) (n1 : n = c1.size) :
    (results fn tmps).run P w = .ok (.tuple #[.agg c0, .agg c1, tmps.getD t undef]) w := by
  have k0 : tmps[p0]?.getD undef = .pointer (some ⟨b0, 0, none⟩) := by simpa using h0
  have k1 : tmps[p1]?.getD undef = .pointer (some ⟨b1, 0, none⟩) := by simpa using h1
  obtain ⟨_, l0, rfl⟩ := load_range (P := P) (T := T) (b := b0) (cs := c0) (w := w) n0 (fun j v hj => by rw [Nat.zero_add, hL.cell a0]; simpa using hj)
  obtain ⟨_, l1, rfl⟩ := load_range (P := P) (T := T) (b := b1) (cs := c1) (w := w) n1 (fun j v hj => by rw [Nat.zero_add, hL.cell a1]; simpa using hj)
  simp [results, h, k0, k1, asAddr, Sem.run_bind, l0, l1]
open Go.RowKit

structure Bx where
  x0 : Int
  y0 : Int
  x1 : Int
  y1 : Int
def wid (q : Bx) (x y : Int) : Bx := ⟨min q.x0 x, min q.y0 y, max q.x1 x, max q.y1 y⟩
def boxStep (q : Bx) (s : Sg) : Bx := if s.kind = 4 then q else if s.kind = 3 then wid (wid q s.cx s.cy) s.x s.y else wid q s.x s.y
def boxAt (l : List Sg) (k : Nat) : Bx := (l.take k).foldl boxStep ⟨(l.getD 0 default).x, (l.getD 0 default).y, (l.getD 0 default).x, (l.getD 0 default).y⟩
def boxOf (l : List Sg) : Bx := boxAt l l.length
theorem boxAt_step {l : List Sg} {k : Nat} (h : k < l.length) : boxAt l (k + 1) = boxStep (boxAt l k) (l.getD k default) := by
  unfold boxAt
  rw [List.take_succ_eq_append_getElem h, List.foldl_append]
  simp [h]
theorem heap_set {w : World} {k b o : Nat} {v : Value} {x : Obj} (h : w.heap[k]? = some x) (hne : ¬ k = b) : (w.setCell ⟨b, o, none⟩ v).heap[k]? = some x := (Below.heap_setCell _ _ _ _ hne).trans h
theorem cell_keep {w : World} {b b' : Nat} {v x : Value} (h : w.cell? ⟨b, 0, none⟩ = some x) (hne : ¬ b = b') : (w.setCell ⟨b', 0, none⟩ v).cell? ⟨b, 0, none⟩ = some x := by
  rw [World.cell?_setCell_other _ _ _ _ (by simp; try (first | exact fun e => hne e.symm | exact fun e => hne e))]; exact h
structure Ne4 (b0 b1 b2 b3 : Nat) : Prop where
  h01 : ¬ b0 = b1
  h02 : ¬ b0 = b2
  h03 : ¬ b0 = b3
  h12 : ¬ b1 = b2
  h13 : ¬ b1 = b3
  h23 : ¬ b2 = b3
set_option maxRecDepth 100000 in
set_option maxHeartbeats 2000000 in
theorem wider_calls (w : World) (b0 b1 b2 b3 : Nat) (q : Bx) (T0 T1 T2 T3 : TypeId) (h0 : w.heap[b0]? = some (.cells #[.int .i64 q.x0] T0 (0, 0))) (h1 : w.heap[b1]? = some (.cells #[.int .i64 q.y0] T1 (0, 0))) (h2 : w.heap[b2]? = some (.cells #[.int .i64 q.x1] T2 (0, 0))) (h3 : w.heap[b3]? = some (.cells #[.int .i64 q.y1] T3 (0, 0))) (hne : Ne4 b0 b1 b2 b3) (x y : Int) :
    Calls Try.prog 37 #[.int .i64 x, .int .i64 y, .pointer (some ⟨b0, 0, none⟩), .pointer (some ⟨b1, 0, none⟩), .pointer (some ⟨b2, 0, none⟩), .pointer (some ⟨b3, 0, none⟩)] w fun e w' => e = .returned (.tuple #[]) ∧ ∃ w1, Below w.heap.size w w1 ∧ w' = (((w1.setCell ⟨b0, 0, none⟩ (.int .i64 (wid q x y).x0)).setCell ⟨b1, 0, none⟩ (.int .i64 (wid q x y).y0)).setCell ⟨b2, 0, none⟩ (.int .i64 (wid q x y).x1)).setCell ⟨b3, 0, none⟩ (.int .i64 (wid q x y).y1) := by
  obtain ⟨X0, Y0, X1, Y1⟩ := q
  dsimp only [wid] at *
  have C0 := Lib.hid (show w.drew.cell? ⟨b0, 0, none⟩ = some (.int .i64 X0) from (cell_of_row w.drew b0 0 _ T0 (0, 0) h0).trans rfl)
  have C1 := Lib.hid (show w.drew.cell? ⟨b1, 0, none⟩ = some (.int .i64 Y0) from (cell_of_row w.drew b1 0 _ T1 (0, 0) h1).trans rfl)
  have C2 := Lib.hid (show w.drew.cell? ⟨b2, 0, none⟩ = some (.int .i64 X1) from (cell_of_row w.drew b2 0 _ T2 (0, 0) h2).trans rfl)
  have C3 := Lib.hid (show w.drew.cell? ⟨b3, 0, none⟩ = some (.int .i64 Y1) from (cell_of_row w.drew b3 0 _ T3 (0, 0) h3).trans rfl)
  have H0 := Lib.hid (show w.drew.heap[b0]? = _ from h0); have H1 := Lib.hid (show w.drew.heap[b1]? = _ from h1); have H2 := Lib.hid (show w.drew.heap[b2]? = _ from h2); have H3 := Lib.hid (show w.drew.heap[b3]? = _ from h3)
  clear h0 h1 h2 h3
  have HN := Lib.hid hne; clear hne
  go_enter Try.func37, Try.ntmps37
  have hV : ∀ k, (four 0 3 6 9 (fun w => w.cell? ⟨b0, 0, none⟩ = some (.int .i64 X0)) (fun w => w.cell? ⟨b1, 0, none⟩ = some (.int .i64 Y0)) (fun w => w.cell? ⟨b2, 0, none⟩ = some (.int .i64 X1)) (fun w => w.cell? ⟨b3, 0, none⟩ = some (.int .i64 Y1))) k w.drew := fun k => ⟨fun _ => C0.out, fun _ => C1.out, fun _ => C2.out, fun _ => C3.out⟩
  refine wpV_begin (by kernel_rfl) (four 0 3 6 9 (fun w => w.cell? ⟨b0, 0, none⟩ = some (.int .i64 X0)) (fun w => w.cell? ⟨b1, 0, none⟩ = some (.int .i64 Y0)) (fun w => w.cell? ⟨b2, 0, none⟩ = some (.int .i64 X1)) (fun w => w.cell? ⟨b3, 0, none⟩ = some (.int .i64 Y1))) 12 ?_
  refine stV (i := 0) (.int .i64 X0) (fun k _ => hV k) (fun w' hw => run_loadOp _ _ rfl _ rfl _ (load_cell (hw.1 rfl))) ?_ (by first | exact pinned_none | (repeat (first | exact pinned_none | refine pinned_put ?_)))
  simp only [Act.put, List.setIfInBounds_toArray, List.set_cons_zero, List.set_cons_succ]
  refine stV (i := 1) (.int .i64 x) (fun k _ => hV k) ?_ ?_ (by repeat (first | exact pinned_none | refine pinned_put ?_)); (· exact fun w' _ => (by go_simp))
  simp only [Act.put, List.setIfInBounds_toArray, List.set_cons_zero, List.set_cons_succ]
  refine stV (i := 2) (.int .i64 (min X0 x)) (fun k _ => hV k) ?_ ?_ (by repeat (first | exact pinned_none | refine pinned_put ?_)); (· exact fun w' _ => (by first | exact run_minV _ _ _ _ rfl rfl rfl | exact run_maxV _ _ _ _ rfl rfl rfl))
  simp only [Act.put, List.setIfInBounds_toArray, List.set_cons_zero, List.set_cons_succ]
  refine stV (i := 3) (.int .i64 Y0) (fun k _ => hV k) (fun w' hw => run_loadOp _ _ rfl _ rfl _ (load_cell (hw.2.1 rfl))) ?_ (by first | exact pinned_none | (repeat (first | exact pinned_none | refine pinned_put ?_)))
  simp only [Act.put, List.setIfInBounds_toArray, List.set_cons_zero, List.set_cons_succ]
  refine stV (i := 4) (.int .i64 y) (fun k _ => hV k) ?_ ?_ (by repeat (first | exact pinned_none | refine pinned_put ?_)); (· exact fun w' _ => (by go_simp))
  simp only [Act.put, List.setIfInBounds_toArray, List.set_cons_zero, List.set_cons_succ]
  refine stV (i := 5) (.int .i64 (min Y0 y)) (fun k _ => hV k) ?_ ?_ (by repeat (first | exact pinned_none | refine pinned_put ?_)); (· exact fun w' _ => (by first | exact run_minV _ _ _ _ rfl rfl rfl | exact run_maxV _ _ _ _ rfl rfl rfl))
  simp only [Act.put, List.setIfInBounds_toArray, List.set_cons_zero, List.set_cons_succ]
  refine stV (i := 6) (.int .i64 X1) (fun k _ => hV k) (fun w' hw => run_loadOp _ _ rfl _ rfl _ (load_cell (hw.2.2.1 rfl))) ?_ (by first | exact pinned_none | (repeat (first | exact pinned_none | refine pinned_put ?_)))
  simp only [Act.put, List.setIfInBounds_toArray, List.set_cons_zero, List.set_cons_succ]
  refine stV (i := 7) (.int .i64 x) (fun k _ => hV k) ?_ ?_ (by repeat (first | exact pinned_none | refine pinned_put ?_)); (· exact fun w' _ => (by go_simp))
  simp only [Act.put, List.setIfInBounds_toArray, List.set_cons_zero, List.set_cons_succ]
  refine stV (i := 8) (.int .i64 (max X1 x)) (fun k _ => hV k) ?_ ?_ (by repeat (first | exact pinned_none | refine pinned_put ?_)); (· exact fun w' _ => (by first | exact run_minV _ _ _ _ rfl rfl rfl | exact run_maxV _ _ _ _ rfl rfl rfl))
  simp only [Act.put, List.setIfInBounds_toArray, List.set_cons_zero, List.set_cons_succ]
  refine stV (i := 9) (.int .i64 Y1) (fun k _ => hV k) (fun w' hw => run_loadOp _ _ rfl _ rfl _ (load_cell (hw.2.2.2 rfl))) ?_ (by first | exact pinned_none | (repeat (first | exact pinned_none | refine pinned_put ?_)))
  simp only [Act.put, List.setIfInBounds_toArray, List.set_cons_zero, List.set_cons_succ]
  refine stV (i := 10) (.int .i64 y) (fun k _ => hV k) ?_ ?_ (by repeat (first | exact pinned_none | refine pinned_put ?_)); (· exact fun w' _ => (by go_simp))
  simp only [Act.put, List.setIfInBounds_toArray, List.set_cons_zero, List.set_cons_succ]
  refine stV (i := 11) (.int .i64 (max Y1 y)) (fun k _ => hV k) ?_ ?_ (by repeat (first | exact pinned_none | refine pinned_put ?_)); (· exact fun w' _ => (by first | exact run_minV _ _ _ _ rfl rfl rfl | exact run_maxV _ _ _ _ rfl rfl rfl))
  simp only [Act.put, List.setIfInBounds_toArray, List.set_cons_zero, List.set_cons_succ]
  refine wpV_one (i := 12) (by kernel_rfl) (wpOp_of (by simp only [List.getElem?_toArray, List.getElem?_cons_zero, List.getElem?_cons_succ]; rfl) ?_)
  refine st_store rfl _ _ _ rfl ⟨b0, 0, none⟩ rfl (.int .i64 (min X0 x)) rfl (storeAt_old rfl rfl H0.out (by simp) ?_)
  refine ⟨fun k hk => ⟨fun e => absurd (e ▸ hk) (not_pinned (s := 12) (by decide) (by rfl) (by kernel_rfl)), fun _ => (cell_keep C1.out (fun e => HN.out.h01 e.symm)), fun _ => (cell_keep C2.out (fun e => HN.out.h02 e.symm)), fun _ => (cell_keep C3.out (fun e => HN.out.h03 e.symm))⟩, ?_⟩
  simp only [Act.put]
  refine wpV_one (i := 13) (by kernel_rfl) (wpOp_of (by simp only [List.getElem?_toArray, List.getElem?_cons_zero, List.getElem?_cons_succ]; rfl) ?_)
  refine st_store rfl _ _ _ rfl ⟨b1, 0, none⟩ rfl (.int .i64 (min Y0 y)) rfl (storeAt_old rfl rfl (heap_set H1.out (fun e => HN.out.h01 e.symm)) (by simp) ?_)
  refine ⟨fun k hk => ⟨fun e => absurd (e ▸ hk) (not_pinned (s := 12) (by decide) (by rfl) (by kernel_rfl)), fun e => absurd (e ▸ hk) (not_pinned (s := 13) (by decide) (by rfl) (by kernel_rfl)), fun _ => (cell_keep (cell_keep C2.out (fun e => HN.out.h02 e.symm)) (fun e => HN.out.h12 e.symm)), fun _ => (cell_keep (cell_keep C3.out (fun e => HN.out.h03 e.symm)) (fun e => HN.out.h13 e.symm))⟩, ?_⟩
  simp only [Act.put]
  refine wpV_one (i := 14) (by kernel_rfl) (wpOp_of (by simp only [List.getElem?_toArray, List.getElem?_cons_zero, List.getElem?_cons_succ]; rfl) ?_)
  refine st_store rfl _ _ _ rfl ⟨b2, 0, none⟩ rfl (.int .i64 (max X1 x)) rfl (storeAt_old rfl rfl (heap_set (heap_set H2.out (fun e => HN.out.h02 e.symm)) (fun e => HN.out.h12 e.symm)) (by simp) ?_)
  refine ⟨fun k hk => ⟨fun e => absurd (e ▸ hk) (not_pinned (s := 12) (by decide) (by rfl) (by kernel_rfl)), fun e => absurd (e ▸ hk) (not_pinned (s := 13) (by decide) (by rfl) (by kernel_rfl)), fun e => absurd (e ▸ hk) (not_pinned (s := 14) (by decide) (by rfl) (by kernel_rfl)), fun _ => (cell_keep (cell_keep (cell_keep C3.out (fun e => HN.out.h03 e.symm)) (fun e => HN.out.h13 e.symm)) (fun e => HN.out.h23 e.symm))⟩, ?_⟩
  simp only [Act.put]
  refine wpV_one (i := 15) (by kernel_rfl) (wpOp_of (by simp only [List.getElem?_toArray, List.getElem?_cons_zero, List.getElem?_cons_succ]; rfl) ?_)
  refine st_store rfl _ _ _ rfl ⟨b3, 0, none⟩ rfl (.int .i64 (max Y1 y)) rfl (storeAt_old rfl rfl (heap_set (heap_set (heap_set H3.out (fun e => HN.out.h03 e.symm)) (fun e => HN.out.h13 e.symm)) (fun e => HN.out.h23 e.symm)) (by simp) ?_)
  refine ⟨fun k hk => ⟨fun e => absurd (e ▸ hk) (not_pinned (s := 12) (by decide) (by rfl) (by kernel_rfl)), fun e => absurd (e ▸ hk) (not_pinned (s := 13) (by decide) (by rfl) (by kernel_rfl)), fun e => absurd (e ▸ hk) (not_pinned (s := 14) (by decide) (by rfl) (by kernel_rfl)), fun e => absurd (e ▸ hk) (not_pinned (s := 15) (by decide) (by rfl) (by kernel_rfl))⟩, ?_⟩
  simp only [Act.put]
  refine wpV_done (by kernel_rfl) ?_
  go_wp2
  exact bodyPost_end (results_none rfl _ _ _) rfl ⟨rfl, w.drew, (Below.refl _ _).drew, rfl⟩
theorem Holds.rowAt {w0 w : World} {M : List Res} {Φ : List (World → Prop)} {b : Nat} {cs : Array Value} {T : TypeId} (hL : Holds w0 w M Φ) (h : At M (blk b cs T)) : w.heap[b]? = some (.cells cs T (0, 0)) := hL.at h
/-- at the caller's -/
theorem Holds.wider {w0 w : World} {M : List Res} {Φ : List (World → Prop)} {b0 b1 b2 b3 : Nat} {q q' : Bx} {T : TypeId} (hL : Holds w0 w (blk b3 #[.int .i64 q.y1] T :: blk b2 #[.int .i64 q.x1] T :: blk b1 #[.int .i64 q.y0] T :: blk b0 #[.int .i64 q.x0] T :: M) Φ) :
    Holds w0 ((((w.setCell ⟨b0, 0, none⟩ (.int .i64 q'.x0)).setCell ⟨b1, 0, none⟩ (.int .i64 q'.y0)).setCell ⟨b2, 0, none⟩ (.int .i64 q'.x1)).setCell ⟨b3, 0, none⟩ (.int .i64 q'.y1)) (blk b3 #[.int .i64 q'.y1] T :: blk b2 #[.int .i64 q'.x1] T :: blk b1 #[.int .i64 q'.y0] T :: blk b0 #[.int .i64 q'.x0] T :: M) Φ :=
  (((hL.setCell (v := .int .i64 q'.x0) (.there (.there (.there .here)))).setCell (v := .int .i64 q'.y0) (.there (.there .here))).setCell (v := .int .i64 q'.x1) (.there .here)).setCell (v := .int .i64 q'.y1) .here
/-- the same, one block made since -/
theorem Holds.wider1 {w0 w : World} {M : List Res} {Φ : List (World → Prop)} {r : Res} {b0 b1 b2 b3 : Nat} {q q' : Bx} {T : TypeId} (hL : Holds w0 w (r :: blk b3 #[.int .i64 q.y1] T :: blk b2 #[.int .i64 q.x1] T :: blk b1 #[.int .i64 q.y0] T :: blk b0 #[.int .i64 q.x0] T :: M) Φ) :
    Holds w0 ((((w.setCell ⟨b0, 0, none⟩ (.int .i64 q'.x0)).setCell ⟨b1, 0, none⟩ (.int .i64 q'.y0)).setCell ⟨b2, 0, none⟩ (.int .i64 q'.x1)).setCell ⟨b3, 0, none⟩ (.int .i64 q'.y1)) (r :: blk b3 #[.int .i64 q'.y1] T :: blk b2 #[.int .i64 q'.x1] T :: blk b1 #[.int .i64 q'.y0] T :: blk b0 #[.int .i64 q'.x0] T :: M) Φ :=
  (((hL.setCell (v := .int .i64 q'.x0) (.there (.there (.there (.there .here))))).setCell (v := .int .i64 q'.y0) (.there (.there (.there .here)))).setCell (v := .int .i64 q'.x1) (.there (.there .here))).setCell (v := .int .i64 q'.y1) (.there .here)
theorem Holds.ne4 {w0 w : World} {M : List Res} {Φ : List (World → Prop)} {b0 b1 b2 b3 : Nat} {c0 c1 c2 c3 : Array Value} {T : TypeId} (hL : Holds w0 w (blk b3 c3 T :: blk b2 c2 T :: blk b1 c1 T :: blk b0 c0 T :: M) Φ) : Ne4 b0 b1 b2 b3 := by
  have h := hL.apart
  rw [List.pairwise_cons, List.pairwise_cons, List.pairwise_cons] at h
  obtain ⟨h3, h2, h1, _⟩ := h
  have f3 := fun s hs => h3 s hs b3 rfl
  have f2 := fun s hs => h2 s hs b2 rfl
  have f1 := fun s hs => h1 s hs b1 rfl
  have k : ∀ (b b' : Nat), some b ≠ some b' → ¬ b = b' := fun b b' h e => h (congrArg some e)
  exact ⟨k _ _ (f1 (blk b0 c0 T) (by simp)), k _ _ (f2 (blk b0 c0 T) (by simp)), k _ _ (f3 (blk b0 c0 T) (by simp)), k _ _ (f2 (blk b1 c1 T) (by simp)), k _ _ (f3 (blk b1 c1 T) (by simp)), k _ _ (f3 (blk b2 c2 T) (by simp))⟩

def boxRet (l : List Sg) : Value := if l.length = 0 then .tuple #[.int .i64 0, .int .i64 0, .int .i64 0, .int .i64 0, .bool false] else .tuple #[.int .i64 (boxOf l).x0, .int .i64 (boxOf l).y0, .int .i64 (boxOf l).x1, .int .i64 (boxOf l).y1, .bool true]
theorem tup4 {w : World} {p : Array Value} {w' : World} {u v : Value} {P : Program} {fn : Func} (h : (results fn p).run P w = .ok u w') (e : u = v) : (results fn p).run P w = .ok v w' := by rw [h, e]
set_option maxRecDepth 100000 in
set_option maxHeartbeats 8000000 in
theorem pathBox_calls (w : World) (v : Value) (l : List Sg) (hv : SegsAt w v l) (hm : pathMay l = true) : Calls Try.prog 24 #[v] w fun e w' => e = .returned (boxRet l) ∧ Below w.heap.size w w' := by
  have Hv := Lib.hid hv
  obtain ⟨a, cap, rfl, hlc, hcm, hel⟩ := hv.parts
  clear hv
  unfold maxLen at hcm
  have Hel := Lib.hid hel; clear hel
  have HM := Lib.hid hm; clear hm
  have hL := Holds.start w
  by_cases h0 : l.length = 0
  · have HR := Lib.hid (show boxRet l = .tuple #[.int .i64 0, .int .i64 0, .int .i64 0, .int .i64 0, .bool false] by unfold boxRet; rw [if_pos h0])
    generalize boxRet l = R at *
    have dl : ((l.length : Int) == 0) = true := by simp [h0]
    have n1 : True := trivial; have n2 : True := trivial; have n3 : True := trivial; have n4 : True := trivial
    go_enter Try.func24, Try.ntmps24
    go_wp2_with (first | (first | (clear hL n1; with_reducible intro b1 w1 hL) | (clear hL n2; with_reducible intro b2 w2 hL) | (clear hL n3; with_reducible intro b3 w3 hL) | (clear hL n4; with_reducible intro b4 w4 hL) | (clear hL; with_reducible intro _ _ hL)) | (with_reducible refine wpC_alloc rfl _ rfl _ _ inferInstance hL ?_) | (with_reducible first | refine wpB_agg rfl _ _ _ rfl rfl hL ?_ | refine wpB_one rfl _ _ (.int _ _) rfl rfl rfl hL ?_ | refine wpB_one rfl _ _ (.slice _ _ _) rfl rfl rfl hL ?_ | refine wpB_one rfl _ _ (.bool _) rfl rfl rfl hL ?_ | refine wpB_one rfl _ _ (.pointer _) rfl rfl rfl hL ?_ | refine wpB_one rfl _ _ (.func _ _ _) rfl rfl rfl hL ?_) | (with_reducible first | refine wpH_max rfl _ _ _ _ rfl _ _ rfl rfl ?_ | refine wpH_min rfl _ _ _ _ rfl _ _ rfl rfl ?_) | ((with_reducible refine wpA_load rfl _ _ rfl _ rfl ?_); first | refine loadA hL ?_ | refine loadR hL ?_ | refine loadC hL ?_ | refine loadD ?_ | refine loadE hL ?_ | refine loadF ?_) | ((with_reducible refine wpA_index rfl _ _ _ rfl _ rfl _ rfl ?_); first | (refine indexA ?_; try rw [Int.toNat_natCast]) | refine indexC ?_) | ((with_reducible refine wpA_store rfl _ _ _ rfl _ rfl (.agg _) rfl ?_); refine storeR hL ?_; clear hL; intro _ hL) | ((with_reducible first | refine wpA_store rfl _ _ _ rfl _ rfl (.int _ _) rfl ?_ | refine wpA_store rfl _ _ _ rfl _ rfl (.slice _ _ _) rfl ?_ | refine wpA_store rfl _ _ _ rfl _ rfl (.bool _) rfl ?_ | refine wpA_store rfl _ _ _ rfl _ rfl (.pointer _) rfl ?_ | refine wpA_store rfl _ _ _ rfl _ rfl (.func _ _ _) rfl ?_); (first | refine storeA hL ?_ | refine storeO hL ?_); (clear hL; intro _ hL)) | ((with_reducible refine wpA_lit rfl _ _ _ rfl ?_); first | refine litA1 hL ?_ | refine litA2 hL ?_ | refine litA3 hL ?_ | refine litA4 hL ?_ | refine litA6 hL ?_) | ((with_reducible refine wpA_append rfl _ _ _ rfl (.slice _ _ _) rfl ?_); intro vq hvq; simp [go_sem] at hvq; subst hvq; refine appendA hL ?_; clear hL; intro _ _ _ hL; try dsimp only at hL) | ((with_reducible refine wpA_make rfl _ _ _ rfl _ rfl rfl ?_); refine makeA hL ?_))
    refine bodyPost_ret (results_int4 (T := 3) (a0 := ⟨b1, 0, none⟩) (a1 := ⟨b2, 0, none⟩) (a2 := ⟨b3, 0, none⟩) (a3 := ⟨b4, 0, none⟩) rfl _ rfl rfl rfl rfl ((hL.cell (.there (.there (.there .here)))).trans rfl) ((hL.cell (.there (.there .here))).trans rfl) ((hL.cell (.there .here)).trans rfl) ((hL.cell .here).trans rfl)) rfl ⟨?_, hL.below⟩
    rw [HR.out]; rfl
  · have HR := Lib.hid (show boxRet l = .tuple #[.int .i64 (boxOf l).x0, .int .i64 (boxOf l).y0, .int .i64 (boxOf l).x1, .int .i64 (boxOf l).y1, .bool true] by unfold boxRet; rw [if_neg h0])
    have dl : ((l.length : Int) == 0) = false := by rw [beq_eq_false_iff_ne]; omega
    have hl0 : (0 : Int) < (l.length : Int) := by omega
    obtain ⟨b, o, rfl, hc0⟩ := Hel.out 0 (by omega)
    have HB0 := Lib.hid (show boxAt l 0 = ⟨(l.getD 0 default).x, (l.getD 0 default).y, (l.getD 0 default).x, (l.getD 0 default).y⟩ from rfl)
    have HBN := Lib.hid (show boxOf l = boxAt l l.length from rfl)
    have HBS := Lib.hid (fun k h => boxAt_step (l := l) (k := k) h)
    generalize boxOf l = BO at *
    generalize boxRet l = R at *
    obtain ⟨s0, hs0⟩ : ∃ s, l.getD 0 default = s := ⟨_, rfl⟩
    rw [hs0] at HB0 hc0
    clear hs0
    obtain ⟨fk, fx, fy, fcx, fcy⟩ := s0
    unfold segC at hc0
    dsimp only at HB0 hc0
    rw [Nat.zero_mul, Nat.add_zero] at hc0
    have X := Lib.hid (show w.cell? ⟨b, o + 1, none⟩ = some (.int .i64 fx) from hc0 1 _ rfl)
    have Y := Lib.hid (show w.cell? ⟨b, o + 2, none⟩ = some (.int .i64 fy) from hc0 2 _ rfl)
    clear hc0
    have n1 : True := trivial; have n2 : True := trivial; have n3 : True := trivial; have n4 : True := trivial
    go_enter Try.func24, Try.ntmps24
    go_wp2_with (first | (go_at_call 36; (with_reducible refine (pathMay_calls _ _ l (Hv.out.hold hL)).mono ?_); rintro e _ ⟨rfl, hb⟩; rw [HM.out]; replace hL := hL.call hb; clear hb) | (first | (clear hL n1; with_reducible intro b1 w1 hL) | (clear hL n2; with_reducible intro b2 w2 hL) | (clear hL n3; with_reducible intro b3 w3 hL) | (clear hL n4; with_reducible intro b4 w4 hL) | (clear hL; with_reducible intro _ _ hL)) | (with_reducible refine wpC_alloc rfl _ rfl _ _ inferInstance hL ?_) | (with_reducible first | refine wpB_agg rfl _ _ _ rfl rfl hL ?_ | refine wpB_one rfl _ _ (.int _ _) rfl rfl rfl hL ?_ | refine wpB_one rfl _ _ (.slice _ _ _) rfl rfl rfl hL ?_ | refine wpB_one rfl _ _ (.bool _) rfl rfl rfl hL ?_ | refine wpB_one rfl _ _ (.pointer _) rfl rfl rfl hL ?_ | refine wpB_one rfl _ _ (.func _ _ _) rfl rfl rfl hL ?_) | (with_reducible first | refine wpH_max rfl _ _ _ _ rfl _ _ rfl rfl ?_ | refine wpH_min rfl _ _ _ _ rfl _ _ rfl rfl ?_) | ((with_reducible refine wpA_load rfl _ _ rfl _ rfl ?_); first | refine loadA hL ?_ | refine loadR hL ?_ | refine loadC hL ?_ | refine loadD ?_ | refine loadE hL ?_ | refine loadF ?_) | ((with_reducible refine wpA_index rfl _ _ _ rfl _ rfl _ rfl ?_); first | (refine indexA ?_; try rw [Int.toNat_natCast]) | refine indexC ?_) | ((with_reducible refine wpA_store rfl _ _ _ rfl _ rfl (.agg _) rfl ?_); refine storeR hL ?_; clear hL; intro _ hL) | ((with_reducible first | refine wpA_store rfl _ _ _ rfl _ rfl (.int _ _) rfl ?_ | refine wpA_store rfl _ _ _ rfl _ rfl (.slice _ _ _) rfl ?_ | refine wpA_store rfl _ _ _ rfl _ rfl (.bool _) rfl ?_ | refine wpA_store rfl _ _ _ rfl _ rfl (.pointer _) rfl ?_ | refine wpA_store rfl _ _ _ rfl _ rfl (.func _ _ _) rfl ?_); (first | refine storeA hL ?_ | refine storeO hL ?_); (clear hL; intro _ hL)) | ((with_reducible refine wpA_lit rfl _ _ _ rfl ?_); first | refine litA1 hL ?_ | refine litA2 hL ?_ | refine litA3 hL ?_ | refine litA4 hL ?_ | refine litA6 hL ?_) | ((with_reducible refine wpA_append rfl _ _ _ rfl (.slice _ _ _) rfl ?_); intro vq hvq; simp [go_sem] at hvq; subst hvq; refine appendA hL ?_; clear hL; intro _ _ _ hL; try dsimp only at hL) | ((with_reducible refine wpA_make rfl _ _ _ rfl _ rfl rfl ?_); refine makeA hL ?_))
    have hne := Lib.hid hL.ne4
    replace hL := hL.drew
    have hS := (show (fun w' : World => w'.cell? ⟨b, o + 1, none⟩ = some (.int .i64 fx) ∧ w'.cell? ⟨b, o + 2, none⟩ = some (.int .i64 fy)) _ from ⟨hL.old X.out, hL.old Y.out⟩)
    refine wpH_begin (by kernel_rfl) (fun w' : World => w'.cell? ⟨b, o + 1, none⟩ = some (.int .i64 fx) ∧ w'.cell? ⟨b, o + 2, none⟩ = some (.int .i64 fy)) ?_
    refine stH (i := 0) (.slice (some ⟨b, o, none⟩) l.length cap) hS ?_ ?_; (· exact fun w' _ => (by go_simp)); simp only [Act.put, List.setIfInBounds_toArray, List.set_cons_zero, List.set_cons_succ]
    refine stH (i := 1) (.pointer (some ⟨b, o, none⟩)) hS ?_ ?_; (· exact fun w' _ => (by go_simp)); simp only [Act.put, List.setIfInBounds_toArray, List.set_cons_zero, List.set_cons_succ]
    refine stH (i := 2) (.pointer (some ⟨b, o + 1, none⟩)) hS ?_ ?_; (· exact fun w' _ => (by go_simp)); simp only [Act.put, List.setIfInBounds_toArray, List.set_cons_zero, List.set_cons_succ]
    refine stH (i := 3) (.int .i64 fx) hS ?_ ?_; (· exact fun w' hw => run_loadOp _ _ rfl _ rfl _ (load_cell hw.1)); simp only [Act.put, List.setIfInBounds_toArray, List.set_cons_zero, List.set_cons_succ]
    refine stH (i := 4) (.slice (some ⟨b, o, none⟩) l.length cap) hS ?_ ?_; (· exact fun w' _ => (by go_simp)); simp only [Act.put, List.setIfInBounds_toArray, List.set_cons_zero, List.set_cons_succ]
    refine stH (i := 5) (.pointer (some ⟨b, o, none⟩)) hS ?_ ?_; (· exact fun w' _ => (by go_simp)); simp only [Act.put, List.setIfInBounds_toArray, List.set_cons_zero, List.set_cons_succ]
    refine stH (i := 6) (.pointer (some ⟨b, o + 2, none⟩)) hS ?_ ?_; (· exact fun w' _ => (by go_simp)); simp only [Act.put, List.setIfInBounds_toArray, List.set_cons_zero, List.set_cons_succ]
    refine stH (i := 7) (.int .i64 fy) hS ?_ ?_; (· exact fun w' hw => run_loadOp _ _ rfl _ rfl _ (load_cell hw.2)); simp only [Act.put, List.setIfInBounds_toArray, List.set_cons_zero, List.set_cons_succ]
    refine stH (i := 8) (.slice (some ⟨b, o, none⟩) l.length cap) hS ?_ ?_; (· exact fun w' _ => (by go_simp)); simp only [Act.put, List.setIfInBounds_toArray, List.set_cons_zero, List.set_cons_succ]
    refine stH (i := 9) (.pointer (some ⟨b, o, none⟩)) hS ?_ ?_; (· exact fun w' _ => (by go_simp)); simp only [Act.put, List.setIfInBounds_toArray, List.set_cons_zero, List.set_cons_succ]
    refine stH (i := 10) (.pointer (some ⟨b, o + 1, none⟩)) hS ?_ ?_; (· exact fun w' _ => (by go_simp)); simp only [Act.put, List.setIfInBounds_toArray, List.set_cons_zero, List.set_cons_succ]
    refine stH (i := 11) (.int .i64 fx) hS ?_ ?_; (· exact fun w' hw => run_loadOp _ _ rfl _ rfl _ (load_cell hw.1)); simp only [Act.put, List.setIfInBounds_toArray, List.set_cons_zero, List.set_cons_succ]
    refine stH (i := 12) (.slice (some ⟨b, o, none⟩) l.length cap) hS ?_ ?_; (· exact fun w' _ => (by go_simp)); simp only [Act.put, List.setIfInBounds_toArray, List.set_cons_zero, List.set_cons_succ]
    refine stH (i := 13) (.pointer (some ⟨b, o, none⟩)) hS ?_ ?_; (· exact fun w' _ => (by go_simp)); simp only [Act.put, List.setIfInBounds_toArray, List.set_cons_zero, List.set_cons_succ]
    refine stH (i := 14) (.pointer (some ⟨b, o + 2, none⟩)) hS ?_ ?_; (· exact fun w' _ => (by go_simp)); simp only [Act.put, List.setIfInBounds_toArray, List.set_cons_zero, List.set_cons_succ]
    refine stH (i := 15) (.int .i64 fy) hS ?_ ?_; (· exact fun w' hw => run_loadOp _ _ rfl _ rfl _ (load_cell hw.2)); simp only [Act.put, List.setIfInBounds_toArray, List.set_cons_zero, List.set_cons_succ]
    refine wpH_one (i := 16) (by kernel_rfl) (wpOp_of (by simp only [List.getElem?_toArray, List.getElem?_cons_zero, List.getElem?_cons_succ]; rfl) ?_)
    refine st_store rfl _ _ _ rfl ⟨b1, 0, none⟩ rfl (.int .i64 fx) rfl (storeA hL ?_)
    clear hL hS; intro w1 hL
    have hS := (show (fun w' : World => w'.cell? ⟨b, o + 1, none⟩ = some (.int .i64 fx) ∧ w'.cell? ⟨b, o + 2, none⟩ = some (.int .i64 fy)) _ from ⟨hL.old X.out, hL.old Y.out⟩)
    refine ⟨hS, ?_⟩
    simp only [Act.put]
    refine wpH_one (i := 17) (by kernel_rfl) (wpOp_of (by simp only [List.getElem?_toArray, List.getElem?_cons_zero, List.getElem?_cons_succ]; rfl) ?_)
    refine st_store rfl _ _ _ rfl ⟨b2, 0, none⟩ rfl (.int .i64 fy) rfl (storeA hL ?_)
    clear hL hS; intro w2 hL
    have hS := (show (fun w' : World => w'.cell? ⟨b, o + 1, none⟩ = some (.int .i64 fx) ∧ w'.cell? ⟨b, o + 2, none⟩ = some (.int .i64 fy)) _ from ⟨hL.old X.out, hL.old Y.out⟩)
    refine ⟨hS, ?_⟩
    simp only [Act.put]
    refine wpH_one (i := 18) (by kernel_rfl) (wpOp_of (by simp only [List.getElem?_toArray, List.getElem?_cons_zero, List.getElem?_cons_succ]; rfl) ?_)
    refine st_store rfl _ _ _ rfl ⟨b3, 0, none⟩ rfl (.int .i64 fx) rfl (storeA hL ?_)
    clear hL hS; intro w3 hL
    have hS := (show (fun w' : World => w'.cell? ⟨b, o + 1, none⟩ = some (.int .i64 fx) ∧ w'.cell? ⟨b, o + 2, none⟩ = some (.int .i64 fy)) _ from ⟨hL.old X.out, hL.old Y.out⟩)
    refine ⟨hS, ?_⟩
    simp only [Act.put]
    refine wpH_one (i := 19) (by kernel_rfl) (wpOp_of (by simp only [List.getElem?_toArray, List.getElem?_cons_zero, List.getElem?_cons_succ]; rfl) ?_)
    refine st_store rfl _ _ _ rfl ⟨b4, 0, none⟩ rfl (.int .i64 fy) rfl (storeA hL ?_)
    clear hL hS; intro w4 hL
    have hS := (show (fun w' : World => w'.cell? ⟨b, o + 1, none⟩ = some (.int .i64 fx) ∧ w'.cell? ⟨b, o + 2, none⟩ = some (.int .i64 fy)) _ from ⟨hL.old X.out, hL.old Y.out⟩)
    refine ⟨hS, ?_⟩
    simp only [Act.put]
    refine wpAnyH_done (by kernel_rfl) ?_ _
    clear hS X Y
    generalize b1 = d0 at *
    generalize b2 = d1 at *
    generalize b3 = d2 at *
    generalize b4 = d3 at *
    go_wp2_with (first | (first | (clear hL n1; with_reducible intro b1 w1 hL) | (clear hL n2; with_reducible intro b2 w2 hL) | (clear hL n3; with_reducible intro b3 w3 hL) | (clear hL n4; with_reducible intro b4 w4 hL) | (clear hL; with_reducible intro _ _ hL)) | (with_reducible refine wpC_alloc rfl _ rfl _ _ inferInstance hL ?_) | (with_reducible first | refine wpB_agg rfl _ _ _ rfl rfl hL ?_ | refine wpB_one rfl _ _ (.int _ _) rfl rfl rfl hL ?_ | refine wpB_one rfl _ _ (.slice _ _ _) rfl rfl rfl hL ?_ | refine wpB_one rfl _ _ (.bool _) rfl rfl rfl hL ?_ | refine wpB_one rfl _ _ (.pointer _) rfl rfl rfl hL ?_ | refine wpB_one rfl _ _ (.func _ _ _) rfl rfl rfl hL ?_) | (with_reducible first | refine wpH_max rfl _ _ _ _ rfl _ _ rfl rfl ?_ | refine wpH_min rfl _ _ _ _ rfl _ _ rfl rfl ?_) | ((with_reducible refine wpA_load rfl _ _ rfl _ rfl ?_); first | refine loadA hL ?_ | refine loadR hL ?_ | refine loadC hL ?_ | refine loadD ?_ | refine loadE hL ?_ | refine loadF ?_) | ((with_reducible refine wpA_index rfl _ _ _ rfl _ rfl _ rfl ?_); first | (refine indexA ?_; try rw [Int.toNat_natCast]) | refine indexC ?_) | ((with_reducible refine wpA_store rfl _ _ _ rfl _ rfl (.agg _) rfl ?_); refine storeR hL ?_; clear hL; intro _ hL) | ((with_reducible first | refine wpA_store rfl _ _ _ rfl _ rfl (.int _ _) rfl ?_ | refine wpA_store rfl _ _ _ rfl _ rfl (.slice _ _ _) rfl ?_ | refine wpA_store rfl _ _ _ rfl _ rfl (.bool _) rfl ?_ | refine wpA_store rfl _ _ _ rfl _ rfl (.pointer _) rfl ?_ | refine wpA_store rfl _ _ _ rfl _ rfl (.func _ _ _) rfl ?_); (first | refine storeA hL ?_ | refine storeO hL ?_); (clear hL; intro _ hL)) | ((with_reducible refine wpA_lit rfl _ _ _ rfl ?_); first | refine litA1 hL ?_ | refine litA2 hL ?_ | refine litA3 hL ?_ | refine litA4 hL ?_ | refine litA6 hL ?_) | ((with_reducible refine wpA_append rfl _ _ _ rfl (.slice _ _ _) rfl ?_); intro vq hvq; simp [go_sem] at hvq; subst hvq; refine appendA hL ?_; clear hL; intro _ _ _ hL; try dsimp only at hL) | ((with_reducible refine wpA_make rfl _ _ _ rfl _ rfl rfl ?_); refine makeA hL ?_))
    go_loopw [37] (fun s37 wr => ∃ (k : Nat) (q : Bx), k ≤ l.length ∧ s37 = .int .i64 k ∧ Hid (boxAt l k = q) ∧ Holds w wr [blk d3 #[.int .i64 q.y1] 3, blk d2 #[.int .i64 q.x1] 3, blk d1 #[.int .i64 q.y0] 3, blk d0 #[.int .i64 q.x0] 3] [])
      (fun s37 wr => l.length - (intOf s37).toNat)
    case atStart => exact ⟨0, ⟨fx, fy, fx, fy⟩, by omega, rfl, Lib.hid HB0.out, hL⟩
    case round =>
      clear hL
      obtain ⟨k, q, hk, rfl, hq, hL⟩ := hrel
      by_cases hkt : k < l.length
      · obtain ⟨b', o', e', hc⟩ := Hel.out k hkt
        injection e' with e'
        injection e' with e1 e2 e3
        subst e1; subst e2
        have hst := HBS.out k hkt
        rw [hq.out] at hst
        generalize l.getD k default = s at *
        obtain ⟨sk, sx, sy, scx, scy⟩ := s
        unfold segC at hc
        unfold boxStep at hst
        dsimp only at hc hst
        have hkb : (k : Int) < (l.length : Int) := by omega
        rcases (by omega : sk = 3 ∨ sk = 4 ∨ (sk ≠ 3 ∧ sk ≠ 4)) with h3 | h4 | ⟨h3, h4⟩
        · subst h3
          rw [if_neg (by decide), if_pos rfl] at hst
          have Hst := Lib.hid hst; clear hst
          have n1 : True := trivial
          go_wp2_with (first | (go_at_call 37; (first | ((with_reducible refine (wider_calls _ d0 d1 d2 d3 q _ _ _ _ (hL.rowAt (.there (.there (.there (.there .here))))) (hL.rowAt (.there (.there (.there .here)))) (hL.rowAt (.there (.there .here))) (hL.rowAt (.there .here)) hne.out scx scy).mono ?_); rintro e _ ⟨rfl, w1, hb, rfl⟩; replace hL := (hL.call hb).wider1 (q' := wid q scx scy); clear hb) | ((with_reducible refine (wider_calls _ d0 d1 d2 d3 (wid q scx scy) _ _ _ _ (hL.rowAt (.there (.there (.there (.there .here))))) (hL.rowAt (.there (.there (.there .here)))) (hL.rowAt (.there (.there .here))) (hL.rowAt (.there .here)) hne.out sx sy).mono ?_); rintro e _ ⟨rfl, w1, hb, rfl⟩; replace hL := (hL.call hb).wider1 (q' := wid (wid q scx scy) sx sy); clear hb))) | (first | (clear hL n1; with_reducible intro b1 w1 hL) | (clear hL n2; with_reducible intro b2 w2 hL) | (clear hL n3; with_reducible intro b3 w3 hL) | (clear hL n4; with_reducible intro b4 w4 hL) | (clear hL; with_reducible intro _ _ hL)) | (with_reducible refine wpC_alloc rfl _ rfl _ _ inferInstance hL ?_) | (with_reducible first | refine wpB_agg rfl _ _ _ rfl rfl hL ?_ | refine wpB_one rfl _ _ (.int _ _) rfl rfl rfl hL ?_ | refine wpB_one rfl _ _ (.slice _ _ _) rfl rfl rfl hL ?_ | refine wpB_one rfl _ _ (.bool _) rfl rfl rfl hL ?_ | refine wpB_one rfl _ _ (.pointer _) rfl rfl rfl hL ?_ | refine wpB_one rfl _ _ (.func _ _ _) rfl rfl rfl hL ?_) | (with_reducible first | refine wpH_max rfl _ _ _ _ rfl _ _ rfl rfl ?_ | refine wpH_min rfl _ _ _ _ rfl _ _ rfl rfl ?_) | ((with_reducible refine wpA_load rfl _ _ rfl _ rfl ?_); first | refine loadA hL ?_ | refine loadR hL ?_ | refine loadC hL ?_ | refine loadD ?_ | refine loadE hL ?_ | refine loadF ?_) | ((with_reducible refine wpA_index rfl _ _ _ rfl _ rfl _ rfl ?_); first | (refine indexA ?_; try rw [Int.toNat_natCast]) | refine indexC ?_) | ((with_reducible refine wpA_store rfl _ _ _ rfl _ rfl (.agg _) rfl ?_); refine storeR hL ?_; clear hL; intro _ hL) | ((with_reducible first | refine wpA_store rfl _ _ _ rfl _ rfl (.int _ _) rfl ?_ | refine wpA_store rfl _ _ _ rfl _ rfl (.slice _ _ _) rfl ?_ | refine wpA_store rfl _ _ _ rfl _ rfl (.bool _) rfl ?_ | refine wpA_store rfl _ _ _ rfl _ rfl (.pointer _) rfl ?_ | refine wpA_store rfl _ _ _ rfl _ rfl (.func _ _ _) rfl ?_); (first | refine storeA hL ?_ | refine storeO hL ?_); (clear hL; intro _ hL)) | ((with_reducible refine wpA_lit rfl _ _ _ rfl ?_); first | refine litA1 hL ?_ | refine litA2 hL ?_ | refine litA3 hL ?_ | refine litA4 hL ?_ | refine litA6 hL ?_) | ((with_reducible refine wpA_append rfl _ _ _ rfl (.slice _ _ _) rfl ?_); intro vq hvq; simp [go_sem] at hvq; subst hvq; refine appendA hL ?_; clear hL; intro _ _ _ hL; try dsimp only at hL) | ((with_reducible refine wpA_make rfl _ _ _ rfl _ rfl rfl ?_); refine makeA hL ?_))
          go_roundw
          case rel => exact ⟨k + 1, wid (wid q scx scy) sx sy, by omega, by go_num, Lib.hid Hst.out, hL.drop .here⟩
          case measure => simp [intOf]; omega
        · subst h4
          rw [if_pos rfl] at hst
          have Hst := Lib.hid hst; clear hst
          have n1 : True := trivial
          go_wp2_with (first | (first | (clear hL n1; with_reducible intro b1 w1 hL) | (clear hL n2; with_reducible intro b2 w2 hL) | (clear hL n3; with_reducible intro b3 w3 hL) | (clear hL n4; with_reducible intro b4 w4 hL) | (clear hL; with_reducible intro _ _ hL)) | (with_reducible refine wpC_alloc rfl _ rfl _ _ inferInstance hL ?_) | (with_reducible first | refine wpB_agg rfl _ _ _ rfl rfl hL ?_ | refine wpB_one rfl _ _ (.int _ _) rfl rfl rfl hL ?_ | refine wpB_one rfl _ _ (.slice _ _ _) rfl rfl rfl hL ?_ | refine wpB_one rfl _ _ (.bool _) rfl rfl rfl hL ?_ | refine wpB_one rfl _ _ (.pointer _) rfl rfl rfl hL ?_ | refine wpB_one rfl _ _ (.func _ _ _) rfl rfl rfl hL ?_) | (with_reducible first | refine wpH_max rfl _ _ _ _ rfl _ _ rfl rfl ?_ | refine wpH_min rfl _ _ _ _ rfl _ _ rfl rfl ?_) | ((with_reducible refine wpA_load rfl _ _ rfl _ rfl ?_); first | refine loadA hL ?_ | refine loadR hL ?_ | refine loadC hL ?_ | refine loadD ?_ | refine loadE hL ?_ | refine loadF ?_) | ((with_reducible refine wpA_index rfl _ _ _ rfl _ rfl _ rfl ?_); first | (refine indexA ?_; try rw [Int.toNat_natCast]) | refine indexC ?_) | ((with_reducible refine wpA_store rfl _ _ _ rfl _ rfl (.agg _) rfl ?_); refine storeR hL ?_; clear hL; intro _ hL) | ((with_reducible first | refine wpA_store rfl _ _ _ rfl _ rfl (.int _ _) rfl ?_ | refine wpA_store rfl _ _ _ rfl _ rfl (.slice _ _ _) rfl ?_ | refine wpA_store rfl _ _ _ rfl _ rfl (.bool _) rfl ?_ | refine wpA_store rfl _ _ _ rfl _ rfl (.pointer _) rfl ?_ | refine wpA_store rfl _ _ _ rfl _ rfl (.func _ _ _) rfl ?_); (first | refine storeA hL ?_ | refine storeO hL ?_); (clear hL; intro _ hL)) | ((with_reducible refine wpA_lit rfl _ _ _ rfl ?_); first | refine litA1 hL ?_ | refine litA2 hL ?_ | refine litA3 hL ?_ | refine litA4 hL ?_ | refine litA6 hL ?_) | ((with_reducible refine wpA_append rfl _ _ _ rfl (.slice _ _ _) rfl ?_); intro vq hvq; simp [go_sem] at hvq; subst hvq; refine appendA hL ?_; clear hL; intro _ _ _ hL; try dsimp only at hL) | ((with_reducible refine wpA_make rfl _ _ _ rfl _ rfl rfl ?_); refine makeA hL ?_))
          go_roundw
          case rel => exact ⟨k + 1, q, by omega, by go_num, Lib.hid Hst.out, hL.drop .here⟩
          case measure => simp [intOf]; omega
        · rw [if_neg h4, if_neg h3] at hst
          have Hst := Lib.hid hst; clear hst
          have f1 : (sk == 3) = false := by simp [h3]
          have f2 : (sk != 4) = true := by simp [h4]
          have n1 : True := trivial
          go_wp2_with (first | (go_at_call 37; (with_reducible refine (wider_calls _ d0 d1 d2 d3 q _ _ _ _ (hL.rowAt (.there (.there (.there (.there .here))))) (hL.rowAt (.there (.there (.there .here)))) (hL.rowAt (.there (.there .here))) (hL.rowAt (.there .here)) hne.out sx sy).mono ?_); rintro e _ ⟨rfl, w1, hb, rfl⟩; replace hL := (hL.call hb).wider1 (q' := wid q sx sy); clear hb) | (first | (clear hL n1; with_reducible intro b1 w1 hL) | (clear hL n2; with_reducible intro b2 w2 hL) | (clear hL n3; with_reducible intro b3 w3 hL) | (clear hL n4; with_reducible intro b4 w4 hL) | (clear hL; with_reducible intro _ _ hL)) | (with_reducible refine wpC_alloc rfl _ rfl _ _ inferInstance hL ?_) | (with_reducible first | refine wpB_agg rfl _ _ _ rfl rfl hL ?_ | refine wpB_one rfl _ _ (.int _ _) rfl rfl rfl hL ?_ | refine wpB_one rfl _ _ (.slice _ _ _) rfl rfl rfl hL ?_ | refine wpB_one rfl _ _ (.bool _) rfl rfl rfl hL ?_ | refine wpB_one rfl _ _ (.pointer _) rfl rfl rfl hL ?_ | refine wpB_one rfl _ _ (.func _ _ _) rfl rfl rfl hL ?_) | (with_reducible first | refine wpH_max rfl _ _ _ _ rfl _ _ rfl rfl ?_ | refine wpH_min rfl _ _ _ _ rfl _ _ rfl rfl ?_) | ((with_reducible refine wpA_load rfl _ _ rfl _ rfl ?_); first | refine loadA hL ?_ | refine loadR hL ?_ | refine loadC hL ?_ | refine loadD ?_ | refine loadE hL ?_ | refine loadF ?_) | ((with_reducible refine wpA_index rfl _ _ _ rfl _ rfl _ rfl ?_); first | (refine indexA ?_; try rw [Int.toNat_natCast]) | refine indexC ?_) | ((with_reducible refine wpA_store rfl _ _ _ rfl _ rfl (.agg _) rfl ?_); refine storeR hL ?_; clear hL; intro _ hL) | ((with_reducible first | refine wpA_store rfl _ _ _ rfl _ rfl (.int _ _) rfl ?_ | refine wpA_store rfl _ _ _ rfl _ rfl (.slice _ _ _) rfl ?_ | refine wpA_store rfl _ _ _ rfl _ rfl (.bool _) rfl ?_ | refine wpA_store rfl _ _ _ rfl _ rfl (.pointer _) rfl ?_ | refine wpA_store rfl _ _ _ rfl _ rfl (.func _ _ _) rfl ?_); (first | refine storeA hL ?_ | refine storeO hL ?_); (clear hL; intro _ hL)) | ((with_reducible refine wpA_lit rfl _ _ _ rfl ?_); first | refine litA1 hL ?_ | refine litA2 hL ?_ | refine litA3 hL ?_ | refine litA4 hL ?_ | refine litA6 hL ?_) | ((with_reducible refine wpA_append rfl _ _ _ rfl (.slice _ _ _) rfl ?_); intro vq hvq; simp [go_sem] at hvq; subst hvq; refine appendA hL ?_; clear hL; intro _ _ _ hL; try dsimp only at hL) | ((with_reducible refine wpA_make rfl _ _ _ rfl _ rfl rfl ?_); refine makeA hL ?_))
          go_roundw
          case rel => exact ⟨k + 1, wid q sx sy, by omega, by go_num, Lib.hid Hst.out, hL.drop .here⟩
          case measure => simp [intOf]; omega
      · have e : k = l.length := by omega
        subst e
        have e2 := HBN.out
        rw [hq.out] at e2
        subst e2
        obtain ⟨X0, Y0, X1, Y1⟩ := BO
        dsimp only at *
        go_wp2_with (first | (first | (clear hL n1; with_reducible intro b1 w1 hL) | (clear hL n2; with_reducible intro b2 w2 hL) | (clear hL n3; with_reducible intro b3 w3 hL) | (clear hL n4; with_reducible intro b4 w4 hL) | (clear hL; with_reducible intro _ _ hL)) | (with_reducible refine wpC_alloc rfl _ rfl _ _ inferInstance hL ?_) | (with_reducible first | refine wpB_agg rfl _ _ _ rfl rfl hL ?_ | refine wpB_one rfl _ _ (.int _ _) rfl rfl rfl hL ?_ | refine wpB_one rfl _ _ (.slice _ _ _) rfl rfl rfl hL ?_ | refine wpB_one rfl _ _ (.bool _) rfl rfl rfl hL ?_ | refine wpB_one rfl _ _ (.pointer _) rfl rfl rfl hL ?_ | refine wpB_one rfl _ _ (.func _ _ _) rfl rfl rfl hL ?_) | (with_reducible first | refine wpH_max rfl _ _ _ _ rfl _ _ rfl rfl ?_ | refine wpH_min rfl _ _ _ _ rfl _ _ rfl rfl ?_) | ((with_reducible refine wpA_load rfl _ _ rfl _ rfl ?_); first | refine loadA hL ?_ | refine loadR hL ?_ | refine loadC hL ?_ | refine loadD ?_ | refine loadE hL ?_ | refine loadF ?_) | ((with_reducible refine wpA_index rfl _ _ _ rfl _ rfl _ rfl ?_); first | (refine indexA ?_; try rw [Int.toNat_natCast]) | refine indexC ?_) | ((with_reducible refine wpA_store rfl _ _ _ rfl _ rfl (.agg _) rfl ?_); refine storeR hL ?_; clear hL; intro _ hL) | ((with_reducible first | refine wpA_store rfl _ _ _ rfl _ rfl (.int _ _) rfl ?_ | refine wpA_store rfl _ _ _ rfl _ rfl (.slice _ _ _) rfl ?_ | refine wpA_store rfl _ _ _ rfl _ rfl (.bool _) rfl ?_ | refine wpA_store rfl _ _ _ rfl _ rfl (.pointer _) rfl ?_ | refine wpA_store rfl _ _ _ rfl _ rfl (.func _ _ _) rfl ?_); (first | refine storeA hL ?_ | refine storeO hL ?_); (clear hL; intro _ hL)) | ((with_reducible refine wpA_lit rfl _ _ _ rfl ?_); first | refine litA1 hL ?_ | refine litA2 hL ?_ | refine litA3 hL ?_ | refine litA4 hL ?_ | refine litA6 hL ?_) | ((with_reducible refine wpA_append rfl _ _ _ rfl (.slice _ _ _) rfl ?_); intro vq hvq; simp [go_sem] at hvq; subst hvq; refine appendA hL ?_; clear hL; intro _ _ _ hL; try dsimp only at hL) | ((with_reducible refine wpA_make rfl _ _ _ rfl _ rfl rfl ?_); refine makeA hL ?_))
        replace hL := hL.drew
        have hS := (show (fun w' : World => w'.cell? ⟨d0, 0, none⟩ = some (.int .i64 X0) ∧ w'.cell? ⟨d1, 0, none⟩ = some (.int .i64 Y0) ∧ w'.cell? ⟨d2, 0, none⟩ = some (.int .i64 X1) ∧ w'.cell? ⟨d3, 0, none⟩ = some (.int .i64 Y1)) _ from ⟨(hL.cell (o := 0) (.there (.there (.there .here)))).trans rfl, (hL.cell (o := 0) (.there (.there .here))).trans rfl, (hL.cell (o := 0) (.there .here)).trans rfl, (hL.cell (o := 0) .here).trans rfl⟩)
        refine wpH_begin (by kernel_rfl) (fun w' : World => w'.cell? ⟨d0, 0, none⟩ = some (.int .i64 X0) ∧ w'.cell? ⟨d1, 0, none⟩ = some (.int .i64 Y0) ∧ w'.cell? ⟨d2, 0, none⟩ = some (.int .i64 X1) ∧ w'.cell? ⟨d3, 0, none⟩ = some (.int .i64 Y1)) ?_
        refine stH (i := 0) (.int .i64 X0) hS ?_ ?_; (· exact fun w' hw => run_loadOp _ _ rfl _ rfl _ (load_cell hw.1)); simp only [Act.put, List.setIfInBounds_toArray, List.set_cons_zero, List.set_cons_succ]
        refine stH (i := 1) (.int .i64 Y0) hS ?_ ?_; (· exact fun w' hw => run_loadOp _ _ rfl _ rfl _ (load_cell hw.2.1)); simp only [Act.put, List.setIfInBounds_toArray, List.set_cons_zero, List.set_cons_succ]
        refine stH (i := 2) (.int .i64 X1) hS ?_ ?_; (· exact fun w' hw => run_loadOp _ _ rfl _ rfl _ (load_cell hw.2.2.1)); simp only [Act.put, List.setIfInBounds_toArray, List.set_cons_zero, List.set_cons_succ]
        refine stH (i := 3) (.int .i64 Y1) hS ?_ ?_; (· exact fun w' hw => run_loadOp _ _ rfl _ rfl _ (load_cell hw.2.2.2)); simp only [Act.put, List.setIfInBounds_toArray, List.set_cons_zero, List.set_cons_succ]
        refine wpH_one (i := 4) (by kernel_rfl) (wpOp_of (by simp only [List.getElem?_toArray, List.getElem?_cons_zero, List.getElem?_cons_succ]; rfl) ?_)
        refine st_store rfl _ _ _ rfl ⟨d0, 0, none⟩ rfl (.int .i64 X0) rfl (storeA hL ?_)
        clear hL hS; intro w1 hL
        have hS := (show (fun w' : World => w'.cell? ⟨d0, 0, none⟩ = some (.int .i64 X0) ∧ w'.cell? ⟨d1, 0, none⟩ = some (.int .i64 Y0) ∧ w'.cell? ⟨d2, 0, none⟩ = some (.int .i64 X1) ∧ w'.cell? ⟨d3, 0, none⟩ = some (.int .i64 Y1)) _ from ⟨(hL.cell (o := 0) (.there (.there (.there .here)))).trans rfl, (hL.cell (o := 0) (.there (.there .here))).trans rfl, (hL.cell (o := 0) (.there .here)).trans rfl, (hL.cell (o := 0) .here).trans rfl⟩)
        refine ⟨hS, ?_⟩
        simp only [Act.put]
        refine wpH_one (i := 5) (by kernel_rfl) (wpOp_of (by simp only [List.getElem?_toArray, List.getElem?_cons_zero, List.getElem?_cons_succ]; rfl) ?_)
        refine st_store rfl _ _ _ rfl ⟨d1, 0, none⟩ rfl (.int .i64 Y0) rfl (storeA hL ?_)
        clear hL hS; intro w2 hL
        have hS := (show (fun w' : World => w'.cell? ⟨d0, 0, none⟩ = some (.int .i64 X0) ∧ w'.cell? ⟨d1, 0, none⟩ = some (.int .i64 Y0) ∧ w'.cell? ⟨d2, 0, none⟩ = some (.int .i64 X1) ∧ w'.cell? ⟨d3, 0, none⟩ = some (.int .i64 Y1)) _ from ⟨(hL.cell (o := 0) (.there (.there (.there .here)))).trans rfl, (hL.cell (o := 0) (.there (.there .here))).trans rfl, (hL.cell (o := 0) (.there .here)).trans rfl, (hL.cell (o := 0) .here).trans rfl⟩)
        refine ⟨hS, ?_⟩
        simp only [Act.put]
        refine wpH_one (i := 6) (by kernel_rfl) (wpOp_of (by simp only [List.getElem?_toArray, List.getElem?_cons_zero, List.getElem?_cons_succ]; rfl) ?_)
        refine st_store rfl _ _ _ rfl ⟨d2, 0, none⟩ rfl (.int .i64 X1) rfl (storeA hL ?_)
        clear hL hS; intro w3 hL
        have hS := (show (fun w' : World => w'.cell? ⟨d0, 0, none⟩ = some (.int .i64 X0) ∧ w'.cell? ⟨d1, 0, none⟩ = some (.int .i64 Y0) ∧ w'.cell? ⟨d2, 0, none⟩ = some (.int .i64 X1) ∧ w'.cell? ⟨d3, 0, none⟩ = some (.int .i64 Y1)) _ from ⟨(hL.cell (o := 0) (.there (.there (.there .here)))).trans rfl, (hL.cell (o := 0) (.there (.there .here))).trans rfl, (hL.cell (o := 0) (.there .here)).trans rfl, (hL.cell (o := 0) .here).trans rfl⟩)
        refine ⟨hS, ?_⟩
        simp only [Act.put]
        refine wpH_one (i := 7) (by kernel_rfl) (wpOp_of (by simp only [List.getElem?_toArray, List.getElem?_cons_zero, List.getElem?_cons_succ]; rfl) ?_)
        refine st_store rfl _ _ _ rfl ⟨d3, 0, none⟩ rfl (.int .i64 Y1) rfl (storeA hL ?_)
        clear hL hS; intro w4 hL
        have hS := (show (fun w' : World => w'.cell? ⟨d0, 0, none⟩ = some (.int .i64 X0) ∧ w'.cell? ⟨d1, 0, none⟩ = some (.int .i64 Y0) ∧ w'.cell? ⟨d2, 0, none⟩ = some (.int .i64 X1) ∧ w'.cell? ⟨d3, 0, none⟩ = some (.int .i64 Y1)) _ from ⟨(hL.cell (o := 0) (.there (.there (.there .here)))).trans rfl, (hL.cell (o := 0) (.there (.there .here))).trans rfl, (hL.cell (o := 0) (.there .here)).trans rfl, (hL.cell (o := 0) .here).trans rfl⟩)
        refine ⟨hS, ?_⟩
        simp only [Act.put]
        refine stH (i := 8) (.bool true) hS ?_ ?_; (· exact fun w' _ => (by go_simp)); simp only [Act.put, List.setIfInBounds_toArray, List.set_cons_zero, List.set_cons_succ]
        refine wpAnyH_done (by kernel_rfl) ?_ _
        clear hS
        go_wp2
        refine bodyPost_ret (results_int4 (T := 3) (a0 := ⟨d0, 0, none⟩) (a1 := ⟨d1, 0, none⟩) (a2 := ⟨d2, 0, none⟩) (a3 := ⟨d3, 0, none⟩) rfl _ rfl rfl rfl rfl ((hL.cell (.there (.there (.there .here)))).trans rfl) ((hL.cell (.there (.there .here))).trans rfl) ((hL.cell (.there .here)).trans rfl) ((hL.cell .here).trans rfl)) rfl ⟨?_, hL.below⟩
        rw [HR.out]; rfl
/-! what lies in it -/
def InBx (q : Bx) (x y : Int) : Prop := (q.x0 ≤ x ∧ x ≤ q.x1) ∧ q.y0 ≤ y ∧ y ≤ q.y1
theorem wid_in (q : Bx) (x y : Int) : InBx (wid q x y) x y := by unfold InBx wid; dsimp only; omega
theorem wid_more {q : Bx} {u v : Int} (h : InBx q u v) (x y : Int) : InBx (wid q x y) u v := by unfold InBx wid at *; dsimp only; omega
theorem boxStep_more {q : Bx} {u v : Int} (h : InBx q u v) (s : Sg) : InBx (boxStep q s) u v := by
  unfold boxStep
  split
  · exact h
  · split
    · exact wid_more (wid_more h _ _) _ _
    · exact wid_more h _ _
theorem boxFold_more {u v : Int} : ∀ (l : List Sg) (q : Bx), InBx q u v → InBx (l.foldl boxStep q) u v
  | [], _, h => h
  | s :: l, _, h => boxFold_more l _ (boxStep_more h s)
theorem boxFold_in : ∀ (l : List Sg) (q : Bx), ∀ s ∈ l, (s.kind ≠ 4 → InBx (l.foldl boxStep q) s.x s.y) ∧ (s.kind = 3 → InBx (l.foldl boxStep q) s.cx s.cy)
  | [], _, s, hs => by cases hs
  | a :: l, q, s, hs => by
    rcases List.mem_cons.1 hs with rfl | hs
    · refine ⟨fun h => boxFold_more l _ ?_, fun h => boxFold_more l _ ?_⟩
      · unfold boxStep
        rw [if_neg h]
        split
        · exact wid_in _ _ _
        · exact wid_in _ _ _
      · unfold boxStep
        rw [if_neg (by omega), if_pos h]
        exact wid_more (wid_in _ _ _) _ _
    · exact boxFold_in l _ s hs
theorem boxOf_in {l : List Sg} {s : Sg} (hs : s ∈ l) : (s.kind ≠ 4 → InBx (boxOf l) s.x s.y) ∧ (s.kind = 3 → InBx (boxOf l) s.cx s.cy) := by
  unfold boxOf boxAt
  rw [List.take_length]
  exact boxFold_in l _ s hs
end Go.Proofs.Ytmoabhfpibkcnaa
