/- Lists of clips that are copied, turned and grow. -/
import Derived.Test.YtmnoeoecjfhhbaaGreatLCp
namespace Go.Proofs.YtmnoeoecjfhhbaaGreat
open Go.RowKit

/-- the cells of a list of clips, clip by clip -/
def CEls (w : World) (l : List Clp) (els : List (List Value)) : Prop := els.length = l.length ∧ ∀ k (h : k < els.length), ∃ pa pc, els[k] = clpC (.slice pa (l.getD k default).path.length pc) (l.getD k default) ∧ SegsAt w (.slice pa (l.getD k default).path.length pc) (l.getD k default).path
theorem CEls.below {w w' : World} {l : List Clp} {els : List (List Value)} (h : CEls w l els) (hb : Below w.heap.size w w') : CEls w' l els :=
  ⟨h.1, fun k hk => by obtain ⟨pa, pc, e, hp⟩ := h.2 k hk; exact ⟨pa, pc, e, SliceAt.below hp hb⟩⟩
theorem CEls.len {w : World} {l : List Clp} {els : List (List Value)} (h : CEls w l els) : ∀ e ∈ els, e.length = 2 := by
  intro e he
  obtain ⟨k, hk, rfl⟩ := List.getElem_of_mem he
  obtain ⟨pa, pc, e, _⟩ := h.2 k hk
  rw [e]
  rfl
theorem clpC_one {a : Option Addr} {n c : Nat} {i : Clp} : ∀ u ∈ clpC (.slice a n c) i, u.oneCell' = true := by
  intro u hu
  have : (clpC (.slice a n c) i).all (·.oneCell') = true := by rfl
  exact List.all_eq_true.1 this u hu
theorem CEls.ones {w : World} {l : List Clp} {els : List (List Value)} (h : CEls w l els) : ∀ x ∈ els, ∀ u ∈ x, u.oneCell' = true := by
  intro x hx u hu
  obtain ⟨k, hk, rfl⟩ := List.getElem_of_mem hx
  obtain ⟨pa, pc, e, _⟩ := h.2 k hk
  rw [e] at hu
  exact clpC_one u hu
theorem CEls.clips {w : World} {v : Value} {l : List Clp} {els : List (List Value)} (h : CEls w l els) (hv : SliceAt w 2 v els) : ClpsAt w v l := by
  obtain ⟨a, cap, e, h1, h2, h3⟩ := hv
  rw [h.1] at e h1
  refine ⟨a, cap, e, h1, h2, fun k hk => ?_⟩
  have hk2 : k < els.length := by rw [h.1]; exact hk
  obtain ⟨b, o, e, hr⟩ := h3 k hk2
  obtain ⟨pa, pc, e2, hp⟩ := h.2 k hk2
  rw [e2] at hr
  exact ⟨b, o, e, _, hr, hp⟩
theorem clips_els {w : World} {v : Value} {l : List Clp} (h : ClpsAt w v l) : ∃ els, CEls w l els ∧ SliceAt w 2 v els := by
  have h' := h
  obtain ⟨a, cap, rfl, h1, h2, _⟩ := h
  have hc : ∀ k, ∃ el : List Value, k < l.length → (∃ pa pc, el = clpC (.slice pa (l.getD k default).path.length pc) (l.getD k default) ∧ SegsAt w (.slice pa (l.getD k default).path.length pc) (l.getD k default).path) ∧ ∃ b o, a = some ⟨b, o, none⟩ ∧ w.rangeAt b (o + k * 2) el := by
    intro k
    by_cases hk : k < l.length
    · obtain ⟨b, o, pa, pc, e, hr, hs, _, _⟩ := ClpsAt.get h' hk
      exact ⟨_, fun _ => ⟨⟨pa, pc, rfl, hs⟩, b, o, e, hr⟩⟩
    · exact ⟨[], fun h => absurd h hk⟩
  obtain ⟨f, hf⟩ := Classical.axiomOfChoice hc
  refine ⟨(List.range l.length).map f, ⟨by simp, fun k hk => ?_⟩, a, cap, by simp, by simpa using h1, h2, fun k hk => ?_⟩
  · have hk2 : k < l.length := by simpa using hk
    simpa using (hf k hk2).1
  · have hk2 : k < l.length := by simpa using hk
    simpa using (hf k hk2).2
/-- one clip put in another's place -/
theorem CEls.put {w : World} {l : List Clp} {els : List (List Value)} (h : CEls w l els) {q : Nat} {pa : Option Addr} {pc : Nat} {c : Clp} (hp : SegsAt w (.slice pa c.path.length pc) c.path) : CEls w (l.set q c) (els.set q (clpC (.slice pa c.path.length pc) c)) := by
  have hl := h.1
  refine ⟨by simp [hl], fun k hk => ?_⟩
  have hk2 : k < els.length := by simpa using hk
  by_cases e : q = k
  · subst e
    have e2 : (l.set q c).getD q default = c := by
      have : q < l.length := by omega
      simp [List.getD, this]
    rw [e2]
    exact ⟨pa, pc, by simp, hp⟩
  · have e2 : (l.set q c).getD k default = l.getD k default := by simp [List.getD, List.getElem?_set_ne e]
    rw [e2, List.getElem_set_ne e]
    exact h.2 k hk2
/-- one clip more -/
theorem CEls.snoc {w : World} {l : List Clp} {els : List (List Value)} (h : CEls w l els) {pa : Option Addr} {pc : Nat} {c : Clp} (hp : SegsAt w (.slice pa c.path.length pc) c.path) : CEls w (l ++ [c]) (els ++ [clpC (.slice pa c.path.length pc) c]) := by
  have hl := h.1
  refine ⟨by simp [hl], fun k hk => ?_⟩
  by_cases hk2 : k < els.length
  · rw [List.getElem_append_left hk2]
    have e2 : (l ++ [c]).getD k default = l.getD k default := by
      have hk3 : k < l.length := by omega
      simp [List.getD, List.getElem?_append_left hk3]
    rw [e2]
    exact h.2 k hk2
  · have e1 : k = els.length := by simp at hk; omega
    subst e1
    have e2 : (l ++ [c]).getD els.length default = c := by rw [hl]; simp [List.getD]
    rw [e2]
    exact ⟨pa, pc, by simp, hp⟩
/-- the cells of a list of pairs with one pair put -/
theorem flat_put {els : List (List Value)} (hl : ∀ e ∈ els, e.length = 2) {q : Nat} (hq : q < els.length) (a b : Value) : ((els.flatten.set (q * 2) a).set (q * 2 + 1) b) = (els.set q [a, b]).flatten := by
  induction els generalizing q with
  | nil => simp at hq
  | cons x t ih =>
    have hx := hl x List.mem_cons_self
    obtain ⟨x0, x1, rfl⟩ : ∃ x0 x1, x = [x0, x1] := by
      match x, hx with
      | [x0, x1], _ => exact ⟨x0, x1, rfl⟩
    cases q with
    | zero => simp
    | succ q =>
      have := ih (fun e he => hl e (List.mem_cons_of_mem _ he)) (q := q) (by simpa using hq)
      rw [show (q + 1) * 2 = q * 2 + 2 by omega, show q * 2 + 2 + 1 = (q * 2 + 1) + 2 by omega]
      simp only [List.flatten_cons, List.set_cons_succ, List.cons_append, List.nil_append]
      rw [this]
section
variable {P : Program} {w0 w : World} {M M' : List Res} {Φ : List (World → Prop)} {KW : World → Prop}
/-- a struct of two cells is stored into a slice of the call's own -/
theorem storeO2 {T : TypeId} {g off : Nat} {a b : Value} [hT : RowT P T 2] (hL : Holds w0 w M Φ) {B : Nat} {e : TypeId} {k n cap : Nat} {xs : List Value} (h : ∀ w', Holds w0 w' M' Φ → KW w')
    (ha : a.oneCell' = true := by rfl) (hb : b.oneCell' = true := by rfl)
    (hu : Upd M (own B e k (.slice (some ⟨g, 0, none⟩) n cap) n xs) (own B e k (.slice (some ⟨g, 0, none⟩) n cap) n ((xs.set off a).set (off + 1) b)) M' := by (repeat (first | with_reducible exact Upd.here | with_reducible apply Upd.there))) (hoff : off + 1 < xs.length := by omega) : StoreAt P T ⟨g, off, none⟩ (.agg #[a, b]) w KW := by
  obtain ⟨p, q, rfl, rfl⟩ := hu
  have u1 : Upd (p ++ own B e k (.slice (some ⟨g, 0, none⟩) n cap) n xs :: q) (own B e k (.slice (some ⟨g, 0, none⟩) n cap) n xs) (own B e k (.slice (some ⟨g, 0, none⟩) n cap) n (xs.set off a)) (p ++ own B e k (.slice (some ⟨g, 0, none⟩) n cap) n (xs.set off a) :: q) := ⟨p, q, rfl, rfl⟩
  obtain ⟨H1, c1, f1⟩ := hL.setOwn u1 (by omega)
  have u2 : Upd (p ++ own B e k (.slice (some ⟨g, 0, none⟩) n cap) n (xs.set off a) :: q) (own B e k (.slice (some ⟨g, 0, none⟩) n cap) n (xs.set off a)) (own B e k (.slice (some ⟨g, 0, none⟩) n cap) n ((xs.set off a).set (off + 1) b)) (p ++ own B e k (.slice (some ⟨g, 0, none⟩) n cap) n ((xs.set off a).set (off + 1) b) :: q) := ⟨p, q, rfl, rfl⟩
  obtain ⟨H2, c2, f2⟩ := H1.setOwn u2 (by simpa using hoff)
  refine ⟨(w.setCell ⟨g, off, none⟩ a).setCell ⟨g, off + 1, none⟩ b, ?_, h _ H2⟩
  have hi := hT.size
  cases hq : P.info? T with
  | none => simp [hq] at hi
  | some i =>
    have hs : i.size = 2 := by simpa [hq] using hi
    simp [Sem.run_bind, storeVar, sizeOf, typeInfo, hq, hs, Value.cells, storeCells, run_store, ha, hb, c1, f1, c2, f2, Addr.add]
/-- a list of clips that is old, appended to one that is nil -/
theorem appendClips {K2 : Value → World → Prop} {t ty e bytes : Nat} {z u : Value} [ht : SliceT P t e] [hi : ElemT P e 2 bytes z] (hL : Holds w0 w M Φ) {l : List Clp} {els : List (List Value)} (hE : CEls w0 l els) (hv : SliceAt w0 2 u els)
    (hbytes : els.length * bytes ≤ 140737488355328) (h63 : els.length ≤ maxLen)
    (h : ∀ v' w', Holds w0 w' (own w0.heap.size e 2 v' els.length els.flatten :: M) Φ → K2 v' w') (hz : z.cells.size = 2 := by rfl) : AppendAt P t ty (.slice none 0 0) u w K2 :=
  appendOld (hv.below hL.below) hE.len hE.ones (M := own w0.heap.size e 2 (.slice none 0 0) 0 [] :: M) hL.newOwn (n := 0) (xs := []) (f := fun r' => r' :: M) (fun _ => Upd.here) hz (by decide) (by omega) (by rw [Nat.zero_add]; exact hbytes)
    (fun v' w' h' => by rw [Nat.zero_add, List.nil_append] at h'; exact h v' w' h')
/-- clips that lie in a slice of the call's own -/
theorem own_clips {B n : Nat} {e : TypeId} {v : Value} {l : List Clp} {els : List (List Value)} (hL : Holds w0 w M Φ) (k : At M (own B e 2 v n els.flatten)) (hE : CEls w0 l els) (hn : n = els.length) : ClpsAt w v l :=
  (hE.below hL.below).clips (own_sliceAt (hL.at k) hn rfl hE.len)
end
/-- a list turned round: so far -/
theorem turn_step {l m : List Clp} {t k : Nat} (hm : m.length = l.length) (hk : k < l.length) (h : ∀ j, j < k → m.getD ((j + t) % l.length) default = l.getD j default) : ∀ j, j < k + 1 → (m.set ((k + t) % l.length) (l.getD k default)).getD ((j + t) % l.length) default = l.getD j default := by
  intro j hj
  have hn : 0 < l.length := by omega
  have hq := Nat.mod_lt (k + t) hn
  by_cases e : j = k
  · subst e
    have : (j + t) % l.length < m.length := by rw [hm]; exact hq
    simp [List.getD, this]
  · have hne : (k + t) % l.length ≠ (j + t) % l.length := by
      intro e2
      have h1 := Nat.div_add_mod (k + t) l.length
      have h2 := Nat.div_add_mod (j + t) l.length
      rw [e2] at h1
      have h3 : l.length * ((k + t) / l.length) = l.length * ((j + t) / l.length) + (k - j) := by omega
      rcases Nat.lt_or_ge ((j + t) / l.length) ((k + t) / l.length) with h4 | h4
      · have := Nat.mul_le_mul_left l.length h4
        rw [Nat.mul_succ] at this
        omega
      · have := Nat.mul_le_mul_left l.length h4
        omega
    have e3 : (m.set ((k + t) % l.length) (l.getD k default)).getD ((j + t) % l.length) default = m.getD ((j + t) % l.length) default := by simp [List.getD, List.getElem?_set_ne hne]
    rw [e3]
    exact h j (by omega)
end Go.Proofs.YtmnoeoecjfhhbaaGreat
