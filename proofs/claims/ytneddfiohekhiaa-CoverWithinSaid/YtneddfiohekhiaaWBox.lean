/- Plain laws: points beside a path's box. -/
import Derived.Test.YtneddfiohekhiaaBxPM
import Derived.Test.YtneddfiohekhiaaHulM
namespace Go.Proofs.Ytneddfiohekhiaa
open Go.RowKit

def smallB (q : Bx) : Prop := (smallI q.x0 ∧ smallI q.y0) ∧ smallI q.x1 ∧ smallI q.y1
theorem wid_small {q : Bx} {x y : Int} (h : smallB q) (hx : smallI x) (hy : smallI y) : smallB (wid q x y) := by
  unfold smallB wid smallI at *; dsimp only; omega
theorem boxFold_small : ∀ (l : List Sg) (q : Bx), (∀ s ∈ l, SmallS s) → smallB q → smallB (l.foldl boxStep q)
  | [], _, _, h => h
  | s :: l, q, hs, h => by
    obtain ⟨h1, h2, h3, h4⟩ := hs s List.mem_cons_self
    refine boxFold_small l _ (fun t ht => hs t (List.mem_cons_of_mem _ ht)) ?_
    unfold boxStep
    split
    · exact h
    · split
      · exact wid_small (wid_small h h3 h4) h1 h2
      · exact wid_small h h1 h2
theorem box_small {l : List Sg} (h : ∀ s ∈ l, SmallS s) (h0 : l.length ≠ 0) : smallB (boxOf l) := by
  unfold boxOf boxAt
  rw [List.take_length]
  have hm : l.getD 0 default ∈ l := by rw [show l.getD 0 default = l[0]'(by omega) by simp [show 0 < l.length by omega]]; exact List.getElem_mem _
  obtain ⟨h1, h2, _, _⟩ := h _ hm
  exact boxFold_small l _ h ⟨⟨h1, h2⟩, h1, h2⟩
def EdgeIn (q : Bx) (e : Edg) : Prop := InBx q e.x0 e.y0 ∧ InBx q e.x1 e.y1 ∧ (e.bent = true → InBx q e.cx e.cy)
theorem edges_in (l : List Sg) : ∀ e ∈ edgesS l, EdgeIn (boxOf l) e :=
  edges_all (EdgeIn (boxOf l)) (InBx (boxOf l)) l (fun a b c d h1 h2 => ⟨h1, h2, fun h => by cases h⟩) (fun s hs h4 => (boxOf_in hs).1 h4) (fun s hs _ h4 x y hxy => by
    refine ⟨hxy, (boxOf_in hs).1 h4, fun h => ?_⟩
    unfold segE at h
    have h3 : s.kind = 3 := by simpa using h
    exact (boxOf_in hs).2 h3)
/-- beside the box -/
theorem wind_box {l : List Sg} (hm : pathMay l = true) {x y : Int} (h : x < (boxOf l).x0 ∨ (boxOf l).x1 ≤ x ∨ y < (boxOf l).y0 ∨ (boxOf l).y1 ≤ y) : windG (edgesS l) x y = 0 := by
  have hi := edges_in l
  rcases h with h | h | h | h
  · refine wind_left (edges_may hm) fun e he => ?_
    obtain ⟨⟨h1, _⟩, ⟨h2, _⟩, h3⟩ := hi e he
    exact ⟨by omega, by omega, fun hb => by obtain ⟨k, _⟩ := h3 hb; omega⟩
  · refine wind_right fun e he => ?_
    obtain ⟨⟨h1, _⟩, ⟨h2, _⟩, h3⟩ := hi e he
    exact ⟨by omega, by omega, fun hb => by obtain ⟨k, _⟩ := h3 hb; omega⟩
  · refine wind_flat fun e he => .inl ?_
    obtain ⟨⟨_, h1⟩, ⟨_, h2⟩, h3⟩ := hi e he
    exact ⟨by omega, by omega, fun hb => by obtain ⟨_, k⟩ := h3 hb; omega⟩
  · refine wind_flat fun e he => .inr ?_
    obtain ⟨⟨_, h1⟩, ⟨_, h2⟩, h3⟩ := hi e he
    exact ⟨by omega, by omega, fun hb => by obtain ⟨_, k⟩ := h3 hb; omega⟩
end Go.Proofs.Ytneddfiohekhiaa
