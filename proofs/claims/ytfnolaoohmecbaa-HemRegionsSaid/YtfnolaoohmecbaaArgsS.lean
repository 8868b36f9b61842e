/- What slices of pieces that are handed in read as. -/
import Derived.Test.YtfnolaoohmecbaaArgM
import Derived.Test.YtfnolaoohmecbaaSegM
namespace Go.Proofs.Ytfnolaoohmecbaa
open Go.ChangeShapes Go.WideShapes Go.ChangeAt Go.RowKit Go.Deep

section
variable {H : Type} {enc : TypeId × Value → H} {W : World} {fuel : Nat} {v : Value} {x : DataW H × List MemPlace}
theorem five_of {cs : List Value} (h : cs.length = 5) : ∃ a b c d e, cs = [a, b, c, d, e] := by
  match cs, h with
  | [a, b, c, d, e], _ => exact ⟨a, b, c, d, e, rfl⟩
set_option maxRecDepth 100000 in
theorem seg_of_trod {cs : List Value} (hl : cs.length = 5) (h : DataW.trod enc Try.prog W 0 (fun _ => true) true fuel 51 cs = some x) : ∃ e : Sg, cs = segC e := by
  obtain ⟨c0, c1, c2, c3, c4, rfl⟩ := five_of hl
  obtain ⟨xs, n, _, _, _, hx, hall⟩ := DataW.trod_struct Try.underlying51 h
  have k1 : Try.prog.cellsOf 3 = 1 := by kernel_rfl
  match xs, hx with
  | [x0, x1, x2, x3, x4], _ =>
    have h0 : DataW.trod enc Try.prog W 0 (fun _ => true) true n 3 (([c0, c1, c2, c3, c4].drop 0).take (Try.prog.cellsOf 3)) = some x0 := hall 0 _ rfl
    have h1 : DataW.trod enc Try.prog W 0 (fun _ => true) true n 3 (([c0, c1, c2, c3, c4].drop 1).take (Try.prog.cellsOf 3)) = some x1 := hall 1 _ rfl
    have h2 : DataW.trod enc Try.prog W 0 (fun _ => true) true n 3 (([c0, c1, c2, c3, c4].drop 2).take (Try.prog.cellsOf 3)) = some x2 := hall 2 _ rfl
    have h3 : DataW.trod enc Try.prog W 0 (fun _ => true) true n 3 (([c0, c1, c2, c3, c4].drop 3).take (Try.prog.cellsOf 3)) = some x3 := hall 3 _ rfl
    have h4 : DataW.trod enc Try.prog W 0 (fun _ => true) true n 3 (([c0, c1, c2, c3, c4].drop 4).take (Try.prog.cellsOf 3)) = some x4 := hall 4 _ rfl
    rw [k1] at h0 h1 h2 h3 h4
    obtain ⟨z0, rfl⟩ := trod_int_cell Try.underlying3 (c := c0) h0
    obtain ⟨z1, rfl⟩ := trod_int_cell Try.underlying3 (c := c1) h1
    obtain ⟨z2, rfl⟩ := trod_int_cell Try.underlying3 (c := c2) h2
    obtain ⟨z3, rfl⟩ := trod_int_cell Try.underlying3 (c := c3) h3
    obtain ⟨z4, rfl⟩ := trod_int_cell Try.underlying3 (c := c4) h4
    exact ⟨⟨z0, z1, z2, z3, z4⟩, rfl⟩
set_option maxRecDepth 100000 in
theorem segs_of_trod (h : DataW.trod enc Try.prog W 0 (fun _ => true) true fuel 22 [v] = some x) : ∃ l, SegsAt W v l := by
  have k2 : Try.prog.cellsOf 51 = 5 := by kernel_rfl
  rcases open_slice Try.underlying22 h with ⟨hcs, _⟩ | ⟨a, len, cap, m, n, D, Pl, hcs, _, hl, hm, hmm, _, hel⟩
  · cases hcs
    exact ⟨[], none, 0, rfl, Nat.le_refl _, by unfold maxLen; omega, fun i hi => by simp at hi⟩
  · cases hcs
    simp only [if_true] at hmm
    rw [k2] at hel
    obtain ⟨r, hr⟩ := choose_lt (α := Sg) (n := len) (p := fun i r => ∃ cs', W.cells? 0 (a.add (i * 5)) 5 = some cs' ∧ cs' = segC r) (fun i hi => by
      obtain ⟨cs', h1, h2⟩ := hel i (by omega)
      obtain ⟨_, hlen, _⟩ := World.cells?_some h1
      obtain ⟨r, e⟩ := seg_of_trod hlen h2
      exact ⟨r, cs', h1, e⟩)
    refine ⟨(List.range len).map r, some a, cap, by simp, by simpa using hl, hm, fun i hi => ?_⟩
    simp only [List.length_map, List.length_range] at hi
    obtain ⟨cs', h1, h2⟩ := hr i hi
    obtain ⟨_, hlen, hc⟩ := World.cells?_some h1
    obtain ⟨b, off, spot⟩ := a
    subst h2
    obtain ⟨_, h3, rfl⟩ := hr 0 (by omega)
    have h00 : W.cell? (((⟨b, off, spot⟩ : Addr).add (0 * 5)).add 0) = some (.int .i64 (r 0).kind) := (World.cells?_some h3).2.2 0 (by omega)
    have hspot : spot = none := by simpa [Addr.add] using World.cell?_spot h00
    subst hspot
    refine ⟨b, off, rfl, fun j u hj => ?_⟩
    simp only [List.getElem_map, List.getElem_range] at hj
    have := (hc j (by have := (List.getElem?_eq_some_iff.1 hj).1; simpa [segC] using this)).trans hj
    rw [Addr.add_mid, Addr.add_mid] at this
    exact this
end
set_option maxRecDepth 100000 in
theorem segs_of {H : Type} {enc : TypeId × Value → H} {W : World} {base : Nat} {v : Value} {d : DataW H} {p : List MemPlace} (hk : Value.okWide Try.prog W .any base 22 v) (h : DataW.Trod enc Try.prog W 0 (fun _ => true) true 22 v d p) : ∃ l, SegsAt W v l := by
  obtain ⟨a, len, cap, rfl⟩ := okWide_slice Try.underlying22 hk
  obtain ⟨fuel, hf⟩ := h
  exact segs_of_trod (v := .slice a len cap) hf
end Go.Proofs.Ytfnolaoohmecbaa
