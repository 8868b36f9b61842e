/- Lists of marks that are copied and grow. -/
import Derived.Test.YtmnoeoecjfhhbaaGreatLLi
namespace Go.Proofs.YtmnoeoecjfhhbaaGreat
open Go.RowKit

/-- the cells of a list of marks, mark by mark -/
def Els (w : World) (l : List Itm) (els : List (List Value)) : Prop := els.length = l.length ∧ ∀ k (h : k < els.length), ∃ vp vc, els[k] = itmC vp vc (l.getD k default) ∧ ItmPt w vp vc (l.getD k default)
theorem Els.below {w w' : World} {l : List Itm} {els : List (List Value)} (h : Els w l els) (hb : Below w.heap.size w w') : Els w' l els :=
  ⟨h.1, fun k hk => by obtain ⟨vp, vc, e, hp⟩ := h.2 k hk; exact ⟨vp, vc, e, hp.below hb⟩⟩
theorem Els.snoc {w : World} {l : List Itm} {els : List (List Value)} (h : Els w l els) {vp vc : Value} {i : Itm} (hi : ItmPt w vp vc i) : Els w (l ++ [i]) (els ++ [itmC vp vc i]) := by
  have hl := h.1
  refine ⟨by simp [hl], fun k hk => ?_⟩
  by_cases hk2 : k < els.length
  · obtain ⟨up, uc, e, hp⟩ := h.2 k hk2
    rw [List.getElem_append_left hk2]
    have e2 : (l ++ [i]).getD k default = l.getD k default := by
      have hk3 : k < l.length := by omega
      simp [List.getD, List.getElem?_append_left hk3]
    rw [e2]
    exact ⟨up, uc, e, hp⟩
  · have e1 : k = els.length := by simp at hk; omega
    subst e1
    have e2 : (l ++ [i]).getD els.length default = i := by rw [hl]; simp [List.getD]
    rw [e2]
    exact ⟨vp, vc, by simp, hi⟩
theorem Els.len {w : World} {l : List Itm} {els : List (List Value)} (h : Els w l els) : ∀ e ∈ els, e.length = 21 := by
  intro e he
  obtain ⟨k, hk, rfl⟩ := List.getElem_of_mem he
  obtain ⟨vp, vc, e, _⟩ := h.2 k hk
  rw [e]
  rfl
theorem itmC_one {a b : Option Addr} {n c m d : Nat} {i : Itm} : ∀ u ∈ itmC (.slice a n c) (.slice b m d) i, u.oneCell' = true := by
  intro u hu
  have : (itmC (.slice a n c) (.slice b m d) i).all (·.oneCell') = true := by rfl
  exact List.all_eq_true.1 this u hu
theorem Els.ones {w : World} {l : List Itm} {els : List (List Value)} (h : Els w l els) : ∀ u ∈ els.flatten, u.oneCell' = true := by
  intro u hu
  obtain ⟨e, he, hu⟩ := List.mem_flatten.1 hu
  obtain ⟨k, hk, rfl⟩ := List.getElem_of_mem he
  obtain ⟨vp, vc, e, hp⟩ := h.2 k hk
  rw [e] at hu
  obtain ⟨a, n, rfl, _⟩ := SegsAt.parts hp.1
  obtain ⟨b, d, rfl, _⟩ := hp.2.1
  exact itmC_one u hu
theorem Els.items {w : World} {v : Value} {l : List Itm} {els : List (List Value)} (h : Els w l els) (hv : SliceAt w 21 v els) : ItmsAt w v l := by
  obtain ⟨a, cap, e, h1, h2, h3⟩ := hv
  rw [h.1] at e h1
  refine ⟨a, cap, e, h1, h2, fun k hk => ?_⟩
  have hk2 : k < els.length := by rw [h.1]; exact hk
  obtain ⟨b, o, e, hr⟩ := h3 k hk2
  obtain ⟨vp, vc, e2, hp⟩ := h.2 k hk2
  rw [e2] at hr
  exact ⟨b, o, e, vp, vc, hr, hp.1, hp.2.1, hp.2.2⟩
section
variable {P : Program} {w0 w : World} {M : List Res} {Φ : List (World → Prop)} {K2 : Value → World → Prop}
end
section
variable {P : Program} {ops : Array Oper} {Q : Exit → Act → World → Prop} {md : Region.Mode} {V : Nat → World → Prop} {m : Nat}
end
end Go.Proofs.YtmnoeoecjfhhbaaGreat
