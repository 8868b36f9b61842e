/- Lists of clips that are copied, turned and grow. -/
import Derived.Test.YtmnoeoecjfhhbaaGreatLCp
namespace Go.Proofs.YtmnoeoecjfhhbaaGreat
open Go.RowKit

/-- the cells of a list of clips, clip by clip -/
def CEls (w : World) (l : List Clp) (els : List (List Value)) : Prop := els.length = l.length ∧ ∀ k (h : k < els.length), ∃ pa pc, els[k] = clpC (.slice pa (l.getD k default).path.length pc) (l.getD k default) ∧ SegsAt w (.slice pa (l.getD k default).path.length pc) (l.getD k default).path
theorem CEls.below {w w' : World} {l : List Clp} {els : List (List Value)} (h : CEls w l els) (hb : Below w.heap.size w w') : CEls w' l els :=
  ⟨h.1, fun k hk => by obtain ⟨pa, pc, e, hp⟩ := h.2 k hk; exact ⟨pa, pc, e, SliceAt.below hp hb⟩⟩
theorem CEls.len {w : World} {l : List Clp} {els : List (List Value)} (h : CEls w l els) : ∀ e ∈ els, e.length = 2 := by
  intro e he
  obtain ⟨k, hk, rfl⟩ := List.getElem_of_mem he
  obtain ⟨pa, pc, e, _⟩ := h.2 k hk
  rw [e]
  rfl
theorem clpC_one {a : Option Addr} {n c : Nat} {i : Clp} : ∀ u ∈ clpC (.slice a n c) i, u.oneCell' = true := by
  intro u hu
  have : (clpC (.slice a n c) i).all (·.oneCell') = true := by rfl
  exact List.all_eq_true.1 this u hu
theorem CEls.ones {w : World} {l : List Clp} {els : List (List Value)} (h : CEls w l els) : ∀ x ∈ els, ∀ u ∈ x, u.oneCell' = true := by
  intro x hx u hu
  obtain ⟨k, hk, rfl⟩ := List.getElem_of_mem hx
  obtain ⟨pa, pc, e, _⟩ := h.2 k hk
  rw [e] at hu
  exact clpC_one u hu
theorem CEls.clips {w : World} {v : Value} {l : List Clp} {els : List (List Value)} (h : CEls w l els) (hv : SliceAt w 2 v els) : ClpsAt w v l := by
  obtain ⟨a, cap, e, h1, h2, h3⟩ := hv
  rw [h.1] at e h1
  refine ⟨a, cap, e, h1, h2, fun k hk => ?_⟩
  have hk2 : k < els.length := by rw [h.1]; exact hk
  obtain ⟨b, o, e, hr⟩ := h3 k hk2
  obtain ⟨pa, pc, e2, hp⟩ := h.2 k hk2
  rw [e2] at hr
  exact ⟨b, o, e, _, hr, hp⟩
/-- one clip put in another's place -/
theorem CEls.put {w : World} {l : List Clp} {els : List (List Value)} (h : CEls w l els) {q : Nat} {pa : Option Addr} {pc : Nat} {c : Clp} (hp : SegsAt w (.slice pa c.path.length pc) c.path) : CEls w (l.set q c) (els.set q (clpC (.slice pa c.path.length pc) c)) := by
  have hl := h.1
  refine ⟨by simp [hl], fun k hk => ?_⟩
  have hk2 : k < els.length := by simpa using hk
  by_cases e : q = k
  · subst e
    have e2 : (l.set q c).getD q default = c := by
      have : q < l.length := by omega
      simp [List.getD, this]
    rw [e2]
    exact ⟨pa, pc, by simp, hp⟩
  · have e2 : (l.set q c).getD k default = l.getD k default := by simp [List.getD, List.getElem?_set_ne e]
    rw [e2, List.getElem_set_ne e]
    exact h.2 k hk2
/-- one clip more -/
theorem CEls.snoc {w : World} {l : List Clp} {els : List (List Value)} (h : CEls w l els) {pa : Option Addr} {pc : Nat} {c : Clp} (hp : SegsAt w (.slice pa c.path.length pc) c.path) : CEls w (l ++ [c]) (els ++ [clpC (.slice pa c.path.length pc) c]) := by
  have hl := h.1
  refine ⟨by simp [hl], fun k hk => ?_⟩
  by_cases hk2 : k < els.length
  · rw [List.getElem_append_left hk2]
    have e2 : (l ++ [c]).getD k default = l.getD k default := by
      have hk3 : k < l.length := by omega
      simp [List.getD, List.getElem?_append_left hk3]
    rw [e2]
    exact h.2 k hk2
  · have e1 : k = els.length := by simp at hk; omega
    subst e1
    have e2 : (l ++ [c]).getD els.length default = c := by rw [hl]; simp [List.getD]
    rw [e2]
    exact ⟨pa, pc, by simp, hp⟩
section
variable {P : Program} {w0 w : World} {M M' : List Res} {Φ : List (World → Prop)} {KW : World → Prop}
end
end Go.Proofs.YtmnoeoecjfhhbaaGreat
