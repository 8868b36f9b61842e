/- What a region that is handed in reads as. -/
import Derived.Test.YtjgnbmgdnfldeaaArgs
import Derived.Test.YtjgnbmgdnfldeaaReg
import Derived.Deep.Slices
import Derived.ChangeArms
namespace Go.Proofs.Ytjgnbmgdnfldeaa
open Go.ChangeShapes Go.WideShapes Go.ChangeAt Go.RowKit Go.Deep

section
variable {H : Type} {enc : TypeId × Value → H} {W : World} {fuel : Nat} {v : Value} {x : DataW H × List MemPlace}
theorem two_of {cs : List Value} (h : cs.length = 2) : ∃ a b, cs = [a, b] := by
  match cs, h with
  | [a, b], _ => exact ⟨a, b, rfl⟩
set_option maxRecDepth 100000 in
theorem run_of_trod {cs : List Value} (hl : cs.length = 2) (h : DataW.trod enc Try.prog W 0 (fun _ => true) true fuel 35 cs = some x) : ∃ r : Int × Int, cs = runC r := by
  obtain ⟨c0, c1, rfl⟩ := two_of hl
  obtain ⟨xs, n, _, _, _, hx, hall⟩ := DataW.trod_struct Try.underlying35 h
  have k1 : Try.prog.cellsOf 3 = 1 := by kernel_rfl
  match xs, hx with
  | [x0, x1], _ =>
    have h0 : DataW.trod enc Try.prog W 0 (fun _ => true) true n 3 (([c0, c1].drop 0).take (Try.prog.cellsOf 3)) = some x0 := hall 0 _ rfl
    rw [k1] at h0
    have h1 : DataW.trod enc Try.prog W 0 (fun _ => true) true n 3 (([c0, c1].drop 1).take (Try.prog.cellsOf 3)) = some x1 := hall 1 _ rfl
    rw [k1] at h1
    obtain ⟨z0, rfl⟩ := trod_int_cell Try.underlying3 (c := c0) h0
    obtain ⟨z1, rfl⟩ := trod_int_cell Try.underlying3 (c := c1) h1
    exact ⟨(z0, z1), rfl⟩
set_option maxRecDepth 100000 in
theorem runs_of_trod (h : DataW.trod enc Try.prog W 0 (fun _ => true) true fuel 36 [v] = some x) : ∃ l, RunsAt W v l := by
  have k2 : Try.prog.cellsOf 35 = 2 := by kernel_rfl
  rcases open_slice Try.underlying36 h with ⟨hcs, _⟩ | ⟨a, len, cap, m, n, D, Pl, hcs, _, hl, hm, hmm, _, hel⟩
  · cases hcs
    exact ⟨[], none, 0, rfl, Nat.le_refl _, by unfold maxLen; omega, fun i hi => by simp at hi⟩
  · cases hcs
    simp only [if_true] at hmm
    rw [k2] at hel
    obtain ⟨r, hr⟩ := choose_lt (α := Int × Int) (n := len) (p := fun i r => ∃ cs', W.cells? 0 (a.add (i * 2)) 2 = some cs' ∧ cs' = runC r) (fun i hi => by
      obtain ⟨cs', h1, h2⟩ := hel i (by omega)
      obtain ⟨_, hlen, _⟩ := World.cells?_some h1
      obtain ⟨r, e⟩ := run_of_trod hlen h2
      exact ⟨r, cs', h1, e⟩)
    refine ⟨(List.range len).map r, some a, cap, by simp, by simpa using hl, hm, fun i hi => ?_⟩
    simp only [List.length_map, List.length_range] at hi
    obtain ⟨cs', h1, h2⟩ := hr i hi
    obtain ⟨_, hlen, hc⟩ := World.cells?_some h1
    obtain ⟨b, off, spot⟩ := a
    subst h2
    obtain ⟨_, h3, rfl⟩ := hr 0 (by omega)
    have h00 : W.cell? (((⟨b, off, spot⟩ : Addr).add (0 * 2)).add 0) = some (.int .i64 (r 0).1) := (World.cells?_some h3).2.2 0 (by omega)
    have hspot : spot = none := by simpa [Addr.add] using World.cell?_spot h00
    subst hspot
    refine ⟨b, off, rfl, fun j u hj => ?_⟩
    simp only [List.getElem_map, List.getElem_range] at hj
    have := (hc j (by have := (List.getElem?_eq_some_iff.1 hj).1; simpa [runC] using this)).trans hj
    rw [Addr.add_mid, Addr.add_mid] at this
    exact this
set_option maxRecDepth 100000 in
theorem rows_of_trod (h : DataW.trod enc Try.prog W 0 (fun _ => true) true fuel 24 [v] = some x) : ∃ l, RowsAt W v l := by
  have k1 : Try.prog.cellsOf 36 = 1 := by kernel_rfl
  rcases open_slice1 Try.underlying24 k1 h with ⟨hcs, _⟩ | ⟨a, len, cap, m, n, V, D, Pl, hcs, _, hl, hm, hmm, _, hel⟩
  · cases hcs
    exact ⟨[], [], rfl, ⟨none, 0, rfl, Nat.le_refl _, by unfold maxLen; omega, fun i hi => by simp at hi⟩, fun i v hi => by simp at hi⟩
  · cases hcs
    simp only [if_true] at hmm
    obtain ⟨r, hr⟩ := choose_lt (α := List (Int × Int)) (n := len) (p := fun i r => RunsAt W (V i) r) (fun i hi => by
      obtain ⟨h1, h2⟩ := hel i (by omega)
      exact runs_of_trod h2)
    refine ⟨(List.range len).map r, (List.range len).map V, by simp, ⟨some a, cap, by simp, by simpa using hl, hm, fun i hi => ?_⟩, fun i u hi => ?_⟩
    · simp only [List.length_map, List.length_range] at hi
      obtain ⟨h1, _⟩ := hel i (by omega)
      obtain ⟨b, off, spot⟩ := a
      have hspot : spot = none := by simpa [Addr.add] using World.cell?_spot (hel 0 (by omega)).1
      subst hspot
      refine ⟨b, off, rfl, fun j u hj => ?_⟩
      rcases j with _ | j
      · simp only [List.getElem_map, List.getElem_range, List.getElem?_cons_zero, Option.some.injEq] at hj
        rw [Addr.add_mid] at h1
        rw [← hj, Nat.mul_one]
        exact h1
      · simp at hj
    · have hlt : i < len := by have := (List.getElem?_eq_some_iff.1 hi).1; simpa using this
      have e : ((List.range len).map r).getD i [] = r i := by simp [hlt]
      have e2 : u = V i := by
        rw [List.getElem?_map, List.getElem?_range hlt] at hi
        simpa using hi.symm
      rw [e, e2]
      exact hr i hlt
end
set_option maxRecDepth 100000 in
theorem reg_of {H : Type} {enc : TypeId × Value → H} {W : World} {base : Nat} {v : Value} {d : DataW H} {p : List MemPlace} (hk : Value.okWide Try.prog W .any base 26 v) (h : DataW.Trod enc Try.prog W 0 (fun _ => true) true 26 v d p) :
    ∃ R, RegAt W v R := by
  obtain ⟨cs, rfl, hsz⟩ := okWide_struct Try.underlying26 hk
  rw [show Try.prog.cellsOf 26 = 3 by kernel_rfl] at hsz
  obtain ⟨fuel, hf⟩ := h
  match cs, hsz with
  | ⟨[c0, c1, c2]⟩, _ =>
    obtain ⟨xs, n, _, _, _, hx, hall⟩ := DataW.trod_struct Try.underlying26 hf
    have k1 : Try.prog.cellsOf 3 = 1 := by kernel_rfl
    have k2 : Try.prog.cellsOf 24 = 1 := by kernel_rfl
    match xs, hx with
    | [x0, x1, x2], _ =>
      have h0 : DataW.trod enc Try.prog W 0 (fun _ => true) true n 3 (([c0, c1, c2].drop 0).take (Try.prog.cellsOf 3)) = some x0 := hall 0 _ rfl
      rw [k1] at h0
      have h1 : DataW.trod enc Try.prog W 0 (fun _ => true) true n 3 (([c0, c1, c2].drop 1).take (Try.prog.cellsOf 3)) = some x1 := hall 1 _ rfl
      rw [k1] at h1
      have h2 : DataW.trod enc Try.prog W 0 (fun _ => true) true n 24 (([c0, c1, c2].drop 2).take (Try.prog.cellsOf 24)) = some x2 := hall 2 _ rfl
      rw [k2] at h2
      obtain ⟨z0, rfl⟩ := trod_int_cell Try.underlying3 (c := c0) h0
      obtain ⟨z1, rfl⟩ := trod_int_cell Try.underlying3 (c := c1) h1
      obtain ⟨l, hl⟩ := rows_of_trod (v := c2) h2
      exact ⟨⟨z0, z1, l⟩, c2, rfl, hl⟩
end Go.Proofs.Ytjgnbmgdnfldeaa
