/- Classes by which a walk finds what a type's zero value, size and shape are; arrays of sixty-four places, and of numbers, as functions. -/
import Derived.Test.YtneddfiohekhiaaHold
import Derived.KernelRfl
namespace Go.Proofs.Ytneddfiohekhiaa
open Go.RowKit

class ZeroT (P : Program) (T : TypeId) (z : outParam Value) (cs : outParam (Array Value)) : Prop where
  out : ∀ w, (zeroValue T).run P w = .ok z w
  cells : z.cells = cs
class ScalarT (P : Program) (T : TypeId) : Prop where
  agg : ∀ w, (isAgg T).run P w = .ok false w
  size : (P.info? T).map (·.size) = some 1
class RowT (P : Program) (T : TypeId) (n : outParam Nat) : Prop where
  agg : ∀ w, (isAgg T).run P w = .ok true w
  size : (P.info? T).map (·.size) = some n
class ElemT (P : Program) (T : TypeId) (n b : outParam Nat) (z : outParam Value) : Prop where
  info : (P.info? T).map (fun i => (i.zero, i.size, i.bytes)) = some (some z, n, b)
class SliceT (P : Program) (T : TypeId) (e : outParam TypeId) : Prop where
  out : P.underlying T = some (.slice e)

/-- an array of n scalars -/
class ArrT (P : Program) (T : TypeId) (n : outParam Nat) (e : outParam TypeId) : Prop where
  out : P.underlying T = some (.array n e)
  agg : ∀ w, (isAgg e).run P w = .ok false w
  size : (P.info? e).map (·.size) = some 1
theorem ArrT.index {P : Program} {T : TypeId} {n : Nat} {e : TypeId} (h : ArrT P T n e) (cs : Array Value) (k : IntKind) (i : Int) (v : Value) (h0 : 0 ≤ i) (h1 : i < (n : Int)) (hv : cs[i.toNat]? = some v) (w : World) :
    (Instr.index T (.agg cs) (.int k i)).run P w = .ok v w := by
  have hs := h.size
  cases hq : P.info? e with
  | none => simp [hq] at hs
  | some i' =>
    have hs' : i'.size = 1 := by simpa [hq] using hs
    simp [Instr.index, asIntOf, run_underlying h.out, Sem.run_bind, h0, h1, part, h.agg, sizeOf, typeInfo, hq, hs', hv]

/-- sixty-four places as cells -/
def arrB (p : Nat → Bool) : Array Value := ((List.range 64).map (fun i => Value.bool (p i))).toArray
theorem arrB_size (p : Nat → Bool) : (arrB p).size = 64 := by simp [arrB]
theorem arrB_get (p : Nat → Bool) {i : Nat} (h : i < 64) : (arrB p)[i]? = some (.bool (p i)) := by
  simp [arrB, h]
theorem arrB_set (p : Nat → Bool) (b : Bool) {i : Nat} (h : i < 64) : (arrB p).setIfInBounds i (.bool b) = arrB (fun j => if j = i then b else p j) := by
  apply Array.ext_getElem?
  intro j
  rw [Array.getElem?_setIfInBounds]
  by_cases hj : i = j
  · subst hj; rw [if_pos rfl, if_pos (by rw [arrB_size]; exact h), arrB_get _ h]; simp
  · rw [if_neg hj]
    by_cases h64 : j < 64
    · rw [arrB_get _ h64, arrB_get _ h64, if_neg (fun e => hj e.symm)]
    · rw [Array.getElem?_eq_none (by rw [arrB_size]; omega), Array.getElem?_eq_none (by rw [arrB_size]; omega)]
theorem arrB_congr {p q : Nat → Bool} (h : ∀ i, i < 64 → p i = q i) : arrB p = arrB q := by
  apply Array.ext_getElem?
  intro j
  by_cases h64 : j < 64
  · rw [arrB_get _ h64, arrB_get _ h64, h j h64]
  · rw [Array.getElem?_eq_none (by rw [arrB_size]; omega), Array.getElem?_eq_none (by rw [arrB_size]; omega)]
theorem arrB_one (p : Nat → Bool) : (arrB p).all (·.oneCell') = true := by
  rw [Array.all_eq_true_iff_forall_mem]
  intro v hv
  simp [arrB] at hv
  obtain ⟨i, _, rfl⟩ := hv
  rfl
theorem arrB_zero : arrB (fun _ => false) = Array.replicate 64 (.bool false) := by rfl

/-- n numbers as cells -/
def arrI (n : Nat) (p : Nat → Int) : Array Value := ((List.range n).map (fun i => Value.int .i64 (p i))).toArray
theorem arrI_size (n : Nat) (p : Nat → Int) : (arrI n p).size = n := by simp [arrI]
theorem arrI_get {n : Nat} (p : Nat → Int) {i : Nat} (h : i < n) : (arrI n p)[i]? = some (.int .i64 (p i)) := by
  simp [arrI, h]
theorem arrI_set {n : Nat} (p : Nat → Int) (b : Int) {i : Nat} (h : i < n) : (arrI n p).setIfInBounds i (.int .i64 b) = arrI n (fun j => if j = i then b else p j) := by
  apply Array.ext_getElem?
  intro j
  rw [Array.getElem?_setIfInBounds]
  by_cases hj : i = j
  · subst hj; rw [if_pos rfl, if_pos (by rw [arrI_size]; exact h), arrI_get _ h]; simp
  · rw [if_neg hj]
    by_cases h64 : j < n
    · rw [arrI_get _ h64, arrI_get _ h64, if_neg (fun e => hj e.symm)]
    · rw [Array.getElem?_eq_none (by rw [arrI_size]; omega), Array.getElem?_eq_none (by rw [arrI_size]; omega)]
theorem arrI_one (n : Nat) (p : Nat → Int) : (arrI n p).all (·.oneCell') = true := by
  rw [Array.all_eq_true_iff_forall_mem]
  intro v hv
  simp [arrI] at hv
  obtain ⟨i, _, rfl⟩ := hv
  rfl
theorem arrI_zero : arrI 65 (fun _ => 0) = Array.replicate 65 (.int .i64 0) := by rfl
attribute [irreducible] arrB arrI

/-- the elements of a slice, each of k cells -/
def SliceAt (w : World) (k : Nat) (v : Value) (els : List (List Value)) : Prop :=
  ∃ a cap, v = .slice a els.length cap ∧ els.length ≤ cap ∧ cap ≤ maxLen ∧ ∀ i (h : i < els.length), ∃ b o, a = some ⟨b, o, none⟩ ∧ w.rangeAt b (o + i * k) els[i]

theorem rangeAt_below {w w' : World} {b o : Nat} {cs : List Value} (h : w.rangeAt b o cs) (k : Below w.heap.size w w') : w'.rangeAt b o cs :=
  fun j v hj => (k.cell (block_lt_of_cell (h j v hj))).trans (h j v hj)
theorem SliceAt.below {w w' : World} {k : Nat} {v : Value} {els : List (List Value)} (h : SliceAt w k v els) (hb : Below w.heap.size w w') : SliceAt w' k v els := by
  obtain ⟨a, cap, h1, h2, h3, h4⟩ := h
  refine ⟨a, cap, h1, h2, h3, fun i hi => ?_⟩
  obtain ⟨b, o, e, hr⟩ := h4 i hi
  exact ⟨b, o, e, rangeAt_below hr hb⟩
theorem Holds.olds {w0 w : World} {M : List Res} {Φ : List (World → Prop)} {b o : Nat} {cs : List Value} (h : Holds w0 w M Φ) (k : w0.rangeAt b o cs) : w.rangeAt b o cs :=
  rangeAt_below k h.below

/-! the operations, with what the types are found by their class: first what the operation is, then how it is met -/
def LoadAt (P : Program) (T : TypeId) (p : Addr) (w : World) (K : Value → Prop) : Prop := ∃ v, (loadVar T p).run P w = .ok v w ∧ K v
def StoreAt (P : Program) (T : TypeId) (p : Addr) (v : Value) (w : World) (K : World → Prop) : Prop := ∃ w', (storeVar T p v).run P w = .ok () w' ∧ K w'
def AppendAt (P : Program) (t ty : TypeId) (v x : Value) (w : World) (K : Value → World → Prop) : Prop := ∃ v' w', (Builtin.append_ #[t, t] ty #[v, x]).run P w = .ok v' w' ∧ K v' w'
def LitAt (P : Program) (t : TypeId) (len : Nat) (vs : Array (Nat × Value)) (w : World) (K : Value → World → Prop) : Prop := ∃ v' w', (Instr.buildSlice t len vs).run P w = .ok v' w' ∧ K v' w'
def MakeAt (P : Program) (t : TypeId) (L : Int) (w : World) (K : Value → World → Prop) : Prop := ∃ v' w', (Instr.makeSlice t (.int .i64 L) (.int .i64 L)).run P w = .ok v' w' ∧ K v' w'
def IndexAt (P : Program) (t : TypeId) (x : Value) (i : Int) (w : World) (K : Value → Prop) : Prop := ∃ v, (Instr.index t x (.int .i64 i)).run P w = .ok v w ∧ K v

section
variable {P : Program} {w : World} {ops : Array Oper} {rest : List Oper} {o : Oper} {a : Act} {Q : Exit → Act → World → Prop}

theorem wpA_load (hgd : Region.wanted o (yielded ops a.tmps) = true) (T : TypeId) (x : Operand) (ho : o.op = .load T x) (p : Addr) (hx : a.eval x = .pointer (some p))
    (h : LoadAt P T p w fun v => wpList P ops Q rest (a.put o.dst v) w) : wpList P ops Q (o :: rest) a w := by
  obtain ⟨v, hr, h⟩ := h
  refine wpList_run hgd v w ?_ h
  unfold execOp
  simp [ho, hx, Instr.loadAt, Instr.sureAddr, hr]
theorem wpA_store (hgd : Region.wanted o (yielded ops a.tmps) = true) (T : TypeId) (x y : Operand) (ho : o.op = .store T x y) (p : Addr) (hx : a.eval x = .pointer (some p)) (v : Value) (hy : a.eval y = v)
    (h : StoreAt P T p v w fun w' => wpList P ops Q rest (a.put o.dst undef) w') : wpList P ops Q (o :: rest) a w := by
  obtain ⟨w', hr, h⟩ := h
  refine wpList_runU hgd w' ?_ h
  unfold execOp
  simp [ho, hx, hy, Instr.storeAt, Instr.sureAddr, hr]
theorem wpA_append (hgd : Region.wanted o (yielded ops a.tmps) = true) (s x : Operand) (t : TypeId) (ho : o.op = .call { callee := .builtin .append, args := #[s, x], argTypes := #[t, t] }) (u : Value) (hx : a.eval x = u)
    (h : ∀ v, a.eval s = v → AppendAt P t o.type v u w fun v' w' => wpList P ops Q rest (a.put o.dst v') w') : wpList P ops Q (o :: rest) a w := by
  obtain ⟨v', w', hr, h⟩ := h _ rfl
  refine wpList_run hgd v' w' ?_ h
  unfold execOp
  simp [ho, hx, resolve, invoke, builtin, hr]
theorem wpA_lit (hgd : Region.wanted o (yielded ops a.tmps) = true) (t : TypeId) (len : Nat) (parts : Array (Nat × Operand)) (ho : o.op = .buildSlice t len parts)
    (h : LitAt P t len (parts.map fun (i, x) => (i, a.eval x)) w fun v' w' => wpList P ops Q rest (a.put o.dst v') w') : wpList P ops Q (o :: rest) a w := by
  obtain ⟨v', w', hr, h⟩ := h
  refine wpList_run hgd v' w' ?_ h
  unfold execOp
  simp only [ho, Sem.run_bind, hr]
  rfl
theorem wpA_make (hgd : Region.wanted o (yielded ops a.tmps) = true) (l c : Operand) (t : TypeId) (ho : o.op = .makeSlice t l c) (L : Int) (hl : a.eval l = .int .i64 L) (hc : a.eval c = .int .i64 L)
    (h : MakeAt P t L w fun v' w' => wpList P ops Q rest (a.put o.dst v') w') : wpList P ops Q (o :: rest) a w := by
  obtain ⟨v', w', hr, h⟩ := h
  refine wpList_run hgd v' w' ?_ h
  unfold execOp
  simp only [ho, hl, hc, Sem.run_bind, hr]
  rfl
theorem wpA_index (hgd : Region.wanted o (yielded ops a.tmps) = true) (T : TypeId) (x y : Operand) (ho : o.op = .index T x y) (cs : Array Value) (hx : a.eval x = .agg cs) (i : Int) (hy : a.eval y = .int .i64 i)
    (h : IndexAt P T (.agg cs) i w fun v => wpList P ops Q rest (a.put o.dst v) w) : wpList P ops Q (o :: rest) a w := by
  obtain ⟨v, hr, h⟩ := h
  refine wpList_run hgd v w ?_ h
  unfold execOp
  simp only [ho, hx, hy, Sem.run_bind, hr]
  rfl
end

section
variable {P : Program} {w0 w : World} {M M' : List Res} {Φ : List (World → Prop)} {ops : Array Oper} {rest : List Oper} {o : Oper} {a : Act} {Q : Exit → Act → World → Prop} {K : Value → Prop} {KW : World → Prop} {K2 : Value → World → Prop}

theorem wpC_alloc (hgd : Region.wanted o (yielded ops a.tmps) = true) (T : TypeId) (ho : o.op = .alloc T) (z : Value) (cs : Array Value) (hz : ZeroT P T z cs)
    (hL : Holds w0 w M Φ) (h : ∀ b w', Holds w0 w' (blk b cs T :: M) Φ → wpList P ops Q rest (a.put o.dst (.pointer (some ⟨b, 0, none⟩))) w') : wpList P ops Q (o :: rest) a w :=
  wpH_alloc hgd T z _ ho hz.out hz.cells hL h

theorem wpB_agg (hgd : Region.wanted o (yielded ops a.tmps) = true) (T : TypeId) (x : Operand) (cs : Array Value) (ho : o.op = .box T x) (hx : a.eval x = .agg cs)
    (hL : Holds w0 w M Φ) (h : ∀ b w', Holds w0 w' (blk b cs T :: M) Φ → wpList P ops Q rest (a.put o.dst (.pointer (some ⟨b, 0, none⟩))) w') : wpList P ops Q (o :: rest) a w :=
  wpH_box hgd T x _ _ ho hx rfl hL h
theorem wpB_one (hgd : Region.wanted o (yielded ops a.tmps) = true) (T : TypeId) (x : Operand) (v : Value) (ho : o.op = .box T x) (hx : a.eval x = v) (hv : v.cells = #[v])
    (hL : Holds w0 w M Φ) (h : ∀ b w', Holds w0 w' (blk b #[v] T :: M) Φ → wpList P ops Q rest (a.put o.dst (.pointer (some ⟨b, 0, none⟩))) w') : wpList P ops Q (o :: rest) a w :=
  wpH_box hgd T x _ _ ho hx hv hL h
/-- a cell of a block of the call's own -/
theorem loadAt_blk {T : TypeId} {b off : Nat} (hT : ScalarT P T) (hL : Holds w0 w M Φ) (cs : Array Value) (T' : TypeId) (hat : At M (blk b cs T')) (v : Value) (hv : cs[off]? = some v) (h : K v) : LoadAt P T ⟨b, off, none⟩ w K := by
  refine ⟨v, ?_, h⟩
  have hc : w.cell? ⟨b, off, none⟩ = some v := (hL.cell hat).trans hv
  simp [Sem.run_bind, loadVar, hT.agg, hc]
theorem loadAt_cell {T : TypeId} {p : Addr} (hT : ScalarT P T) (v : Value) (hc : w.cell? p = some v) (h : K v) : LoadAt P T p w K := by
  refine ⟨v, ?_, h⟩
  simp [Sem.run_bind, loadVar, hT.agg, hc]
theorem loadAt_cells {T : TypeId} {b off n : Nat} (hT : RowT P T n) (cs : List Value) (hc : w.rangeAt b off cs) (hn : n = cs.length) (h : K (.agg cs.toArray)) : LoadAt P T ⟨b, off, none⟩ w K := by
  refine ⟨_, ?_, h⟩
  have hl : (loadCells ⟨b, off, none⟩ cs.length).run P w = .ok cs.toArray w :=
    run_loadCells_list (P := P) w ⟨b, off, none⟩ cs (fun j v hv => by rw [Addr.add_mid]; exact hc j v hv)
  have hi := hT.size
  cases hq : P.info? T with
  | none => simp [hq] at hi
  | some i =>
    have hs : i.size = cs.length := by simpa [hq, hn] using hi
    simp [Sem.run_bind, loadVar, hT.agg, sizeOf, typeInfo, hq, hs, hl]
theorem loadAt_row {T : TypeId} {b n : Nat} (hT : RowT P T n) (hL : Holds w0 w M Φ) (cs : Array Value) (T' : TypeId) (hat : At M (blk b cs T')) (hn : n = cs.size) (h : K (.agg cs)) : LoadAt P T ⟨b, 0, none⟩ w K :=
  loadAt_cells hT cs.toList (fun j v hv => by rw [Nat.zero_add, hL.cell hat]; simpa using hv) (by simpa using hn) (by simpa using h)
/-- a struct that lies in a block of the call's own -/
theorem loadAt_part {T : TypeId} {b off n : Nat} (hT : RowT P T n) (hL : Holds w0 w M Φ) (cs : Array Value) (T' : TypeId) (hat : At M (blk b cs T')) (vs : List Value) (hv : (cs.toList.drop off).take n = vs) (hn : n = vs.length) (h : K (.agg vs.toArray)) : LoadAt P T ⟨b, off, none⟩ w K :=
  loadAt_cells hT vs (fun j v hj => by
    rw [hL.cell hat]
    subst hv
    rw [List.getElem?_take] at hj
    split at hj
    · simpa using hj
    · cases hj) hn h

theorem storeAt_cell {T : TypeId} {b off : Nat} {v : Value} (h1 : v.cells = #[v]) (hv1 : v.oneCell' = true) (hT : ScalarT P T)
    (hL : Holds w0 w M Φ) (cs : Array Value) (T' : TypeId) (cs' : Array Value) (hu : Upd M (blk b cs T') (blk b cs' T') M') (hoff : off < cs.size) (hcs : cs.setIfInBounds off v = cs')
    (h : ∀ w', Holds w0 w' M' Φ → KW w') : StoreAt P T ⟨b, off, none⟩ v w KW := by
  subst hcs
  refine ⟨w.setCell ⟨b, off, none⟩ v, ?_, h _ (hL.setCell hu)⟩
  have hat := hu.at
  have hc : w.cell? ⟨b, off, none⟩ = some cs[off] := (hL.cell hat).trans (by simp [hoff])
  have hf : w.frozen? ⟨b, off, none⟩ = false := hL.soft hat
  have hi := hT.size
  cases hq : P.info? T with
  | none => simp [hq] at hi
  | some i =>
    have hs : i.size = 1 := by simpa [hq] using hi
    simp [Sem.run_bind, storeVar, sizeOf, typeInfo, hq, hs, h1, storeCells, run_store, hv1, hc, hf, Addr.add]
theorem storeAt_row {T : TypeId} {b n : Nat} {cs' : Array Value} (hT : RowT P T n) (hv1 : cs'.all (·.oneCell') = true)
    (hL : Holds w0 w M Φ) (cs : Array Value) (T' : TypeId) (hu : Upd M (blk b cs T') (blk b cs' T') M') (hsz : cs.size = cs'.size) (hn : n = cs'.size)
    (h : ∀ w', Holds w0 w' M' Φ → KW w') : StoreAt P T ⟨b, 0, none⟩ (.agg cs') w KW :=
  ⟨w.setRow b cs', run_storeVar_row w b T' T cs cs' (hL.at hu.at) (hn ▸ hT.size) hsz hv1, h _ (hL.setRow hu)⟩
/-- a struct is stored into a block of the call's own -/
theorem storeAt_part {T : TypeId} {b off n : Nat} {vs : Array Value} (hT : RowT P T n) (hv1 : vs.all (·.oneCell') = true)
    (hL : Holds w0 w M Φ) (cs : Array Value) (T' : TypeId) (cs' : Array Value) (hu : Upd M (blk b cs T') (blk b cs' T') M') (hoff : off + n ≤ cs.size) (hn : n = vs.size)
    (hcs : (cs.toList.take off ++ vs.toList ++ cs.toList.drop (off + n)).toArray = cs')
    (h : ∀ w', Holds w0 w' M' Φ → KW w') : StoreAt P T ⟨b, off, none⟩ (.agg vs) w KW := by
  have hb : w.heap[b]? = some (.cells cs T' (0, 0)) := hL.at hu.at
  refine ⟨w.setRow b cs', ?_, h _ (hL.setRow hu)⟩
  have hr := run_storeCells_at (P := P) b off T' vs.toList 0 cs w hb (by simp; omega) (fun v hv => Array.all_eq_true_iff_forall_mem.1 hv1 v (by simpa using hv))
  have hi := hT.size
  cases hq : P.info? T with
  | none => simp [hq] at hi
  | some i =>
    have hs : i.size = vs.size := by simpa [hq, hn] using hi
    subst hcs
    simp only [Nat.add_zero] at hr
    simp [Sem.run_bind, storeVar, sizeOf, typeInfo, hq, hs, Value.cells, hr]
    congr 1
    subst hn
    simp

theorem appendAt {t ty e size bytes : Nat} {z v : Value} {b m c : Nat} (ht : SliceT P t e) (hi : ElemT P e size bytes z)
    (hL : Holds w0 w M Φ) (news : Array Value) (T' : TypeId) (hrem : Rem M (blk b news T') M') (n : Nat) (xs : List Value) (f : Res → List Res) (hu : ∀ r', Upd M' (own w0.heap.size e size v n xs) r' (f r'))
    (hz : z.cells.size = size) (hp : 0 < size) (hl : news.size = m * size) (h1 : news.all (·.oneCell') = true) (hm : 0 < m) (h63 : n + m ≤ maxLen) (hbytes : (n + m) * bytes ≤ 140737488355328)
    (h : ∀ g cap w', Holds w0 w' (f (own w0.heap.size e size (.slice (some ⟨g, 0, none⟩) (n + m) cap) (n + m) (xs ++ news.toList))) Φ → K2 (.slice (some ⟨g, 0, none⟩) (n + m) cap) w') : AppendAt P t ty v (.slice (some ⟨b, 0, none⟩) m c) w K2 := by
  obtain ⟨i, hi1, hi2, hi3, hi4⟩ := info_parts hi.info
  have hL1 := hL.drop hrem
  obtain ⟨g, cap, w', hr, hown, hgr, hat, hlt⟩ := run_append_lies (P := P) w t ty w0.heap.size e i z size bytes ht.out hi1 hi2 hi3 hi4 hz hp v n xs (hL1.at (hu (own w0.heap.size e size v n xs)).at) ⟨b, 0, none⟩ m c news.toList (by simpa using hl) (fun j u hju => by
    have hadd : (⟨b, 0, none⟩ : Addr).add j = ⟨b, j, none⟩ := by unfold Addr.add; split <;> simp_all
    rw [hadd, hL.cell hrem.at]
    simpa using hju) (fun u hu => Array.all_eq_true_iff_forall_mem.1 h1 u (by simpa using hu)) hm h63 hbytes hL.size _ rfl
  refine ⟨_, w', hr, h g cap w' (hL1.upd (hu _) hgr hown (fun b' hb' => ?_))⟩
  cases hb'
  rcases hat with h | h
  · exact .inl h
  · exact .inr (Nat.le_of_eq h.symm)

theorem litAt {t len e size bytes : Nat} {z : Value} {vp : Array (Nat × Value)} (ht : SliceT P t e) (hi : ElemT P e size bytes z)
    (vs : List Value) (hvs : vp = (numbered 0 vs).toArray) (hlen : len = vs.length) (hv : vs.all (fun v => decide (v.cells.size = size)) = true) (hsm : vs.length * size ≤ 16777216) (cs : Array Value) (hcs : litCells vs = cs)
    (hL : Holds w0 w M Φ) (h : ∀ b w', Holds w0 w' (blk b cs e :: M) Φ → K2 (.slice (some ⟨b, 0, none⟩) len len) w') : LitAt P t len vp w K2 := by
  subst hcs; subst hlen; subst hvs
  obtain ⟨i, hi1, hi2, hi3, hi4⟩ := info_parts hi.info
  exact ⟨_, _, run_buildLit t e i z ht.out hi1 hi2 vs (fun v hv' => by rw [hi3]; simpa using List.all_eq_true.1 hv v hv') (by rw [hi3]; exact hsm) w, h _ _ (hL.alloc _ _)⟩
theorem litAt1 {t e size bytes : Nat} {z : Value} {vp : Array (Nat × Value)} (v0 : Value) (hvs : vp = #[(0, v0)]) (ht : SliceT P t e) (hi : ElemT P e size bytes z)
    (hv : [v0].all (fun v => decide (v.cells.size = size)) = true) (hsm : 1 * size ≤ 16777216) (cs : Array Value) (hcs : litCells [v0] = cs)
    (hL : Holds w0 w M Φ) (h : ∀ b w', Holds w0 w' (blk b cs e :: M) Φ → K2 (.slice (some ⟨b, 0, none⟩) 1 1) w') : LitAt P t 1 vp w K2 :=
  litAt ht hi [v0] hvs rfl hv hsm cs hcs hL h
theorem litAt2 {t e size bytes : Nat} {z : Value} {vp : Array (Nat × Value)} (v0 v1 : Value) (hvs : vp = #[(0, v0), (1, v1)]) (ht : SliceT P t e) (hi : ElemT P e size bytes z)
    (hv : [v0, v1].all (fun v => decide (v.cells.size = size)) = true) (hsm : 2 * size ≤ 16777216) (cs : Array Value) (hcs : litCells [v0, v1] = cs)
    (hL : Holds w0 w M Φ) (h : ∀ b w', Holds w0 w' (blk b cs e :: M) Φ → K2 (.slice (some ⟨b, 0, none⟩) 2 2) w') : LitAt P t 2 vp w K2 :=
  litAt ht hi [v0, v1] hvs rfl hv hsm cs hcs hL h
theorem litAt3 {t e size bytes : Nat} {z : Value} {vp : Array (Nat × Value)} (v0 v1 v2 : Value) (hvs : vp = #[(0, v0), (1, v1), (2, v2)]) (ht : SliceT P t e) (hi : ElemT P e size bytes z)
    (hv : [v0, v1, v2].all (fun v => decide (v.cells.size = size)) = true) (hsm : 3 * size ≤ 16777216) (cs : Array Value) (hcs : litCells [v0, v1, v2] = cs)
    (hL : Holds w0 w M Φ) (h : ∀ b w', Holds w0 w' (blk b cs e :: M) Φ → K2 (.slice (some ⟨b, 0, none⟩) 3 3) w') : LitAt P t 3 vp w K2 :=
  litAt ht hi [v0, v1, v2] hvs rfl hv hsm cs hcs hL h
theorem litAt4 {t e size bytes : Nat} {z : Value} {vp : Array (Nat × Value)} (v0 v1 v2 v3 : Value) (hvs : vp = #[(0, v0), (1, v1), (2, v2), (3, v3)]) (ht : SliceT P t e) (hi : ElemT P e size bytes z)
    (hv : [v0, v1, v2, v3].all (fun v => decide (v.cells.size = size)) = true) (hsm : 4 * size ≤ 16777216) (cs : Array Value) (hcs : litCells [v0, v1, v2, v3] = cs)
    (hL : Holds w0 w M Φ) (h : ∀ b w', Holds w0 w' (blk b cs e :: M) Φ → K2 (.slice (some ⟨b, 0, none⟩) 4 4) w') : LitAt P t 4 vp w K2 :=
  litAt ht hi [v0, v1, v2, v3] hvs rfl hv hsm cs hcs hL h
theorem litAt5 {t e size bytes : Nat} {z : Value} {vp : Array (Nat × Value)} (v0 v1 v2 v3 v4 : Value) (hvs : vp = #[(0, v0), (1, v1), (2, v2), (3, v3), (4, v4)]) (ht : SliceT P t e) (hi : ElemT P e size bytes z)
    (hv : [v0, v1, v2, v3, v4].all (fun v => decide (v.cells.size = size)) = true) (hsm : 5 * size ≤ 16777216) (cs : Array Value) (hcs : litCells [v0, v1, v2, v3, v4] = cs)
    (hL : Holds w0 w M Φ) (h : ∀ b w', Holds w0 w' (blk b cs e :: M) Φ → K2 (.slice (some ⟨b, 0, none⟩) 5 5) w') : LitAt P t 5 vp w K2 :=
  litAt ht hi [v0, v1, v2, v3, v4] hvs rfl hv hsm cs hcs hL h

theorem makeAt {t e bytes : Nat} {z : Value} {L : Int} (ht : SliceT P t e) (hi : ElemT P e 1 bytes z) (hz : z.cells = #[z]) (n : Nat) (hL0 : L = (n : Int)) (hb : bytes * n ≤ 281474976710656) (hm : n ≤ maxLen)
    (hL : Holds w0 w M Φ) (h : ∀ b w', Holds w0 w' (blk b (List.replicate n z).toArray e :: M) Φ → K2 (.slice (some ⟨b, 0, none⟩) n n) w') : MakeAt P t L w K2 := by
  obtain ⟨i, hi1, hi2, hi3, hi4⟩ := info_parts hi.info
  subst hL0
  have hb' : (i.bytes : Int) * (n : Int) ≤ 281474976710656 := by
    have h : ((bytes * n : Nat) : Int) ≤ 281474976710656 := by omega
    rw [hi4]
    rwa [Int.natCast_mul] at h
  have hrun := run_make (P := P) w t e i z ht.out hi1 hi2 .i64 .i64 (n : Int) (n : Int) (by omega) (Int.le_refl _) hb' (by unfold maxLen at hm; omega)
  simp only [Int.toNat_natCast, hi3, Nat.mul_one, hz, madeCells_one] at hrun
  exact ⟨_, _, hrun, h _ _ (hL.alloc _ _)⟩

theorem indexAt_B {T e : TypeId} {i : Int} {p : Nat → Bool} (hT : ArrT P T 64 e) (h0 : 0 ≤ i) (h1 : i < 64) (h : K (.bool (p i.toNat))) : IndexAt P T (.agg (arrB p)) i w K :=
  ⟨_, hT.index (arrB p) .i64 i (.bool (p i.toNat)) h0 (by omega) (by rw [arrB_get _ (by omega)]) w, h⟩
theorem indexAt {T e : TypeId} {n : Nat} {i : Int} {cs : Array Value} (hT : ArrT P T n e) (v : Value) (h0 : 0 ≤ i) (h1 : i < (n : Int)) (hv : cs[i.toNat]? = some v) (h : K v) : IndexAt P T (.agg cs) i w K :=
  ⟨_, hT.index cs .i64 i v h0 h1 hv w, h⟩
end

/-- a result that lies in a block of the call's own -/
theorem results_row {P : Program} {fn : Func} {p : Tmp} {T : TypeId} {n : Nat} (hT : RowT P T n) (h : fn.results = #[.cell p T]) {w0 w : World} {M : List Res} {Φ : List (World → Prop)} (tmps : Array Value)
    (hL : Holds w0 w M Φ) (b : Nat) (hp : tmps.getD p undef = .pointer (some ⟨b, 0, none⟩)) (cs : Array Value) (T' : TypeId) (hat : At M (blk b cs T')) (hn : n = cs.size) :
    (results fn tmps).run P w = .ok (.agg cs) w := by
  have hp' : tmps[p]?.getD undef = .pointer (some ⟨b, 0, none⟩) := by simpa using hp
  have hl : (loadCells ⟨b, 0, none⟩ cs.toList.length).run P w = .ok cs.toList.toArray w :=
    run_loadCells_list (P := P) w ⟨b, 0, none⟩ cs.toList (fun j v hv => by rw [Addr.add_mid, Nat.zero_add, hL.cell hat]; simpa using hv)
  have hi := hT.size
  cases hq : P.info? T with
  | none => simp [hq] at hi
  | some i =>
    have hs : i.size = cs.size := by simpa [hq, hn] using hi
    have ha := hT.agg
    simp only [Array.length_toList, Array.toArray_toList] at hl
    simp [results, h, hp', asAddr, loadVar, Sem.run_bind, ha, sizeOf, typeInfo, hq, hs, hl]
/-- two results, the first one in a block of the call's own -/
theorem results_row2 {P : Program} {fn : Func} {p t : Tmp} {T : TypeId} {n : Nat} (hT : RowT P T n) (h : fn.results = #[.cell p T, .tmp t]) {w0 w : World} {M : List Res} {Φ : List (World → Prop)} (tmps : Array Value)
    (hL : Holds w0 w M Φ) (b : Nat) (hp : tmps.getD p undef = .pointer (some ⟨b, 0, none⟩)) (cs : Array Value) (T' : TypeId) (hat : At M (blk b cs T')) (hn : n = cs.size) :
    (results fn tmps).run P w = .ok (.tuple #[.agg cs, tmps.getD t undef]) w := by
  have hp' : tmps[p]?.getD undef = .pointer (some ⟨b, 0, none⟩) := by simpa using hp
  have hl : (loadCells ⟨b, 0, none⟩ cs.toList.length).run P w = .ok cs.toList.toArray w :=
    run_loadCells_list (P := P) w ⟨b, 0, none⟩ cs.toList (fun j v hv => by rw [Addr.add_mid, Nat.zero_add, hL.cell hat]; simpa using hv)
  have hi := hT.size
  cases hq : P.info? T with
  | none => simp [hq] at hi
  | some i =>
    have hs : i.size = cs.size := by simpa [hq, hn] using hi
    have ha := hT.agg
    simp only [Array.length_toList, Array.toArray_toList] at hl
    simp [results, h, hp', asAddr, loadVar, Sem.run_bind, ha, sizeOf, typeInfo, hq, hs, hl]
end Go.Proofs.Ytneddfiohekhiaa
