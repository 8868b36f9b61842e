/- Lists of marks that are copied and grow. -/
import Derived.Test.YtmnoeoecjfhhbaaGreatLAt
namespace Go.Proofs.YtmnoeoecjfhhbaaGreat
open Go.RowKit

/-- the cells of a list of marks, mark by mark -/
def Els (w : World) (l : List Itm) (els : List (List Value)) : Prop := els.length = l.length ∧ ∀ k (h : k < els.length), ∃ vp vc, els[k] = itmC vp vc (l.getD k default) ∧ ItmPt w vp vc (l.getD k default)
theorem Els.below {w w' : World} {l : List Itm} {els : List (List Value)} (h : Els w l els) (hb : Below w.heap.size w w') : Els w' l els :=
  ⟨h.1, fun k hk => by obtain ⟨vp, vc, e, hp⟩ := h.2 k hk; exact ⟨vp, vc, e, hp.below hb⟩⟩
theorem Els.snoc {w : World} {l : List Itm} {els : List (List Value)} (h : Els w l els) {vp vc : Value} {i : Itm} (hi : ItmPt w vp vc i) : Els w (l ++ [i]) (els ++ [itmC vp vc i]) := by
  have hl := h.1
  refine ⟨by simp [hl], fun k hk => ?_⟩
  by_cases hk2 : k < els.length
  · obtain ⟨up, uc, e, hp⟩ := h.2 k hk2
    rw [List.getElem_append_left hk2]
    have e2 : (l ++ [i]).getD k default = l.getD k default := by
      have hk3 : k < l.length := by omega
      simp [List.getD, List.getElem?_append_left hk3]
    rw [e2]
    exact ⟨up, uc, e, hp⟩
  · have e1 : k = els.length := by simp at hk; omega
    subst e1
    have e2 : (l ++ [i]).getD els.length default = i := by rw [hl]; simp [List.getD]
    rw [e2]
    exact ⟨vp, vc, by simp, hi⟩
theorem Els.len {w : World} {l : List Itm} {els : List (List Value)} (h : Els w l els) : ∀ e ∈ els, e.length = 21 := by
  intro e he
  obtain ⟨k, hk, rfl⟩ := List.getElem_of_mem he
  obtain ⟨vp, vc, e, _⟩ := h.2 k hk
  rw [e]
  rfl
theorem itmC_one {a b : Option Addr} {n c m d : Nat} {i : Itm} : ∀ u ∈ itmC (.slice a n c) (.slice b m d) i, u.oneCell' = true := by
  intro u hu
  have : (itmC (.slice a n c) (.slice b m d) i).all (·.oneCell') = true := by rfl
  exact List.all_eq_true.1 this u hu
theorem Els.ones {w : World} {l : List Itm} {els : List (List Value)} (h : Els w l els) : ∀ u ∈ els.flatten, u.oneCell' = true := by
  intro u hu
  obtain ⟨e, he, hu⟩ := List.mem_flatten.1 hu
  obtain ⟨k, hk, rfl⟩ := List.getElem_of_mem he
  obtain ⟨vp, vc, e, hp⟩ := h.2 k hk
  rw [e] at hu
  obtain ⟨a, n, rfl, _⟩ := SegsAt.parts hp.1
  obtain ⟨b, d, rfl, _⟩ := hp.2.1
  exact itmC_one u hu
theorem Els.items {w : World} {v : Value} {l : List Itm} {els : List (List Value)} (h : Els w l els) (hv : SliceAt w 21 v els) : ItmsAt w v l := by
  obtain ⟨a, cap, e, h1, h2, h3⟩ := hv
  rw [h.1] at e h1
  refine ⟨a, cap, e, h1, h2, fun k hk => ?_⟩
  have hk2 : k < els.length := by rw [h.1]; exact hk
  obtain ⟨b, o, e, hr⟩ := h3 k hk2
  obtain ⟨vp, vc, e2, hp⟩ := h.2 k hk2
  rw [e2] at hr
  exact ⟨b, o, e, vp, vc, hr, hp.1, hp.2.1, hp.2.2⟩
theorem items_els {w : World} {a : Option Addr} {n cap : Nat} {l : List Itm} (h : ItmsAt w (.slice a n cap) l) : ∃ els, Els w l els ∧ SliceAt w 21 (.slice a n cap) els := by
  obtain ⟨a', cap', e, h1, h2, h3⟩ := h
  injection e with ea en ec
  subst ea
  subst ec
  subst en
  have hc : ∀ k, ∃ el : List Value, k < l.length → (∃ vp vc, el = itmC vp vc (l.getD k default) ∧ ItmPt w vp vc (l.getD k default)) ∧ ∃ b o, a = some ⟨b, o, none⟩ ∧ w.rangeAt b (o + k * 21) el := by
    intro k
    by_cases hk : k < l.length
    · obtain ⟨b, o, e, vp, vc, hr, hp1, hp2, hp3⟩ := h3 k hk
      exact ⟨_, fun _ => ⟨⟨vp, vc, rfl, hp1, hp2, hp3⟩, b, o, e, hr⟩⟩
    · exact ⟨[], fun h => absurd h hk⟩
  obtain ⟨f, hf⟩ := Classical.axiomOfChoice hc
  refine ⟨(List.range l.length).map f, ⟨by simp, fun k hk => ?_⟩, a, cap, by simp, by simpa using h1, h2, fun k hk => ?_⟩
  · have hk2 : k < l.length := by simpa using hk
    simpa using (hf k hk2).1
  · have hk2 : k < l.length := by simpa using hk
    simpa using (hf k hk2).2
section
variable {P : Program} {w0 w : World} {M : List Res} {Φ : List (World → Prop)} {K2 : Value → World → Prop}
/-- a list of marks that is old, appended to one that is nil -/
theorem appendCopy {t ty e bytes : Nat} {z u : Value} [ht : SliceT P t e] [hi : ElemT P e 21 bytes z] (hL : Holds w0 w M Φ) {l : List Itm} {els : List (List Value)} (hE : Els w0 l els) (hv : SliceAt w0 21 u els)
    (hbytes : els.length * bytes ≤ 140737488355328) (h63 : els.length ≤ maxLen)
    (h : ∀ v' w', Holds w0 w' (own w0.heap.size e 21 v' els.length els.flatten :: M) Φ → K2 v' w') (hz : z.cells.size = 21 := by rfl) : AppendAt P t ty (.slice none 0 0) u w K2 :=
  appendOld (hv.below hL.below) hE.len (fun x hx y hy => hE.ones y (List.mem_flatten.2 ⟨x, hx, hy⟩)) (M := own w0.heap.size e 21 (.slice none 0 0) 0 [] :: M) hL.newOwn (n := 0) (xs := []) (f := fun r' => r' :: M) (fun _ => Upd.here) hz (by decide) (by omega) (by rw [Nat.zero_add]; exact hbytes)
    (fun v' w' h' => by rw [Nat.zero_add, List.nil_append] at h'; exact h v' w' h')
/-- one thing of a call's own, alone -/
theorem Holds.pick {r : Res} (h : Holds w0 w M Φ) (k : At M r) : Holds w0 w [r] [] :=
  ⟨h.below, fun s hs => by rw [List.mem_singleton.1 hs]; exact h.ok r k, fun s hs b hb => by rw [List.mem_singleton.1 hs] at hb; exact h.low r k b hb, List.pairwise_singleton _ _, fun φ hφ => by cases hφ⟩
end
section
variable {P : Program} {ops : Array Oper} {Q : Exit → Act → World → Prop} {md : Region.Mode} {V : Nat → World → Prop} {m : Nat}
theorem wpV_three {i j k : Nat} {n : Nat} {l : Array Bool} {a : Act} {w : World} (hr : Region.ready md ops l = [i, j, k]) (h : wpOp P ops Q i (fun a' w' => (∀ k, pinned md ops m (l.setIfInBounds i true) k → V k w') ∧ wpAnyV P md ops Q V m n (l.setIfInBounds i true) a' w') a w)
    (h2 : wpOp P ops Q j (fun a' w' => (∀ k, pinned md ops m (l.setIfInBounds j true) k → V k w') ∧ wpAnyV P md ops Q V m n (l.setIfInBounds j true) a' w') a w)
    (h3 : wpOp P ops Q k (fun a' w' => (∀ k', pinned md ops m (l.setIfInBounds k true) k' → V k' w') ∧ wpAnyV P md ops Q V m n (l.setIfInBounds k true) a' w') a w) : wpAnyV P md ops Q V m (n + 1) l a w :=
  ⟨fun e => (by rw [hr] at e; cases e), fun b hb => (by rw [hr] at hb; simp at hb; rcases hb with rfl | rfl | rfl; (· exact h); (· exact h2); (· exact h3))⟩
end
/-- one continuation for a region that ends in several ways -/
theorem exContH {w w1 : World} {M : List Res} {Φ : List (World → Prop)} (_ : Holds w w1 M Φ) (cs : Array Value) (T : TypeId) {G : Prop} {P : Nat → World → Prop} (h1 : (∀ b w8, Holds w w8 (blk b cs T :: M) Φ → P b w8) → G) (h2 : ∀ b w8, Holds w w8 (blk b cs T :: M) Φ → P b w8) : G := h1 h2
theorem exContI {w w1 : World} {M : List Res} {Φ : List (World → Prop)} (_ : Holds w w1 M Φ) (cs : Option Addr → Nat → Nat → Array Value) (T : TypeId) (F : Option Addr → Nat → Nat → World → Prop) {G : Prop} {P : Value → Nat → Nat → Nat → Option Addr → Nat → Nat → Nat → World → Prop}
    (h1 : (∀ v58 b60 g61 c61 xa xn xc b w8, Holds w w8 (blk b (cs xa xn xc) T :: M) (F xa xn xc :: Φ) → P v58 b60 g61 c61 xa xn xc b w8) → G) (h2 : ∀ v58 b60 g61 c61 xa xn xc b w8, Holds w w8 (blk b (cs xa xn xc) T :: M) (F xa xn xc :: Φ) → P v58 b60 g61 c61 xa xn xc b w8) : G := h1 h2
/-- the list that has grown by one -/
theorem items_snoc {w0 w : World} {M : List Res} {Φ : List (World → Prop)} {B g n cap : Nat} {T : TypeId} {l : List Itm} {els : List (List Value)} {vp vc : Value} {i : Itm} {xs : List Value} (hL : Holds w0 w M Φ) (k : At M (own B T 21 (.slice (some ⟨g, 0, none⟩) n cap) n xs))
    (hE : Els w0 l els) (hi : ItmPt w0 vp vc i) (hn : n = els.length + 1) (hx : xs = els.flatten ++ itmC vp vc i) : ItmsAt w (.slice (some ⟨g, 0, none⟩) n cap) (l ++ [i]) := by
  have hE2 := (hE.snoc hi).below hL.below
  exact hE2.items (own_sliceAt (hL.at k) (by simp [hn]) (by simp [hx]) hE2.len)
end Go.Proofs.YtmnoeoecjfhhbaaGreat
