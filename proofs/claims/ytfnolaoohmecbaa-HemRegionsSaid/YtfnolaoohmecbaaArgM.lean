/- What arrays of numbers and slices of edges that are handed in read as. -/
import Derived.Test.YtfnolaoohmecbaaArmM
import Derived.ChangeSlices
import Derived.Carry
import Derived.Deep.Slices
import Derived.OpenShut
import Derived.ChangeArms
namespace Go.Proofs.Ytfnolaoohmecbaa
open Go.ChangeShapes Go.WideShapes Go.ChangeAt Go.RowKit

section
variable {H : Type} {enc : TypeId × Value → H} {P : Program} {W : World} {base : Nat} {spare : Nat → Bool} {held : Bool}
theorem trodAll_five {t t' t'' t3 t4 : TypeId} {args : Array Value} {ds : List (DataW H)} {ps : List MemPlace} (h : DataW.TrodAll enc P W base spare held [t, t', t'', t3, t4] args.toList ds ps) :
    ∃ v v' v'' v3 v4 d d' d'' d3 d4 p p' p'' p3 p4, args = #[v, v', v'', v3, v4] ∧ ds = [d, d', d'', d3, d4] ∧ ps = p ++ p' ++ p'' ++ p3 ++ p4 ∧ DataW.Trod enc P W base spare held t v d p ∧ DataW.Trod enc P W base spare held t' v' d' p' ∧ DataW.Trod enc P W base spare held t'' v'' d'' p'' ∧ DataW.Trod enc P W base spare held t3 v3 d3 p3 ∧ DataW.Trod enc P W base spare held t4 v4 d4 p4 := by
  obtain ⟨v, vs, d, ds', p, q, hargs, rfl, rfl, hd, hrest⟩ := trodAll_cons h
  obtain ⟨v', vs', d', ds'', p', q', rfl, rfl, rfl, hd', hrest'⟩ := trodAll_cons hrest
  obtain ⟨v'', vs'', d'', ds''', p'', q'', rfl, rfl, rfl, hd'', hrest''⟩ := trodAll_cons hrest'
  obtain ⟨v3, vs3, d3, ds3, p3, q3, rfl, rfl, rfl, hd3, hrest3⟩ := trodAll_cons hrest''
  obtain ⟨v4, vs4, d4, ds4, p4, q4, rfl, rfl, rfl, hd4, hrest4⟩ := trodAll_cons hrest3
  obtain ⟨rfl, rfl, rfl⟩ := trodAll_nil hrest4
  exact ⟨v, v', v'', v3, v4, d, d', d'', d3, d4, p, p', p'', p3, p4, by cases args; simp_all, rfl, by simp, hd, hd', hd'', hd3, hd4⟩
theorem trodAll_six {t t' t'' t3 t4 t5 : TypeId} {args : Array Value} {ds : List (DataW H)} {ps : List MemPlace} (h : DataW.TrodAll enc P W base spare held [t, t', t'', t3, t4, t5] args.toList ds ps) :
    ∃ v v' v'' v3 v4 v5 d d' d'' d3 d4 d5 p p' p'' p3 p4 p5, args = #[v, v', v'', v3, v4, v5] ∧ ds = [d, d', d'', d3, d4, d5] ∧ ps = p ++ p' ++ p'' ++ p3 ++ p4 ++ p5 ∧ DataW.Trod enc P W base spare held t v d p ∧ DataW.Trod enc P W base spare held t' v' d' p' ∧ DataW.Trod enc P W base spare held t'' v'' d'' p'' ∧ DataW.Trod enc P W base spare held t3 v3 d3 p3 ∧ DataW.Trod enc P W base spare held t4 v4 d4 p4 ∧ DataW.Trod enc P W base spare held t5 v5 d5 p5 := by
  obtain ⟨v, vs, d, ds', p, q, hargs, rfl, rfl, hd, hrest⟩ := trodAll_cons h
  obtain ⟨v', vs', d', ds'', p', q', rfl, rfl, rfl, hd', hrest'⟩ := trodAll_cons hrest
  obtain ⟨v'', vs'', d'', ds''', p'', q'', rfl, rfl, rfl, hd'', hrest''⟩ := trodAll_cons hrest'
  obtain ⟨v3, vs3, d3, ds3, p3, q3, rfl, rfl, rfl, hd3, hrest3⟩ := trodAll_cons hrest''
  obtain ⟨v4, vs4, d4, ds4, p4, q4, rfl, rfl, rfl, hd4, hrest4⟩ := trodAll_cons hrest3
  obtain ⟨v5, vs5, d5, ds5, p5, q5, rfl, rfl, rfl, hd5, hrest5⟩ := trodAll_cons hrest4
  obtain ⟨rfl, rfl, rfl⟩ := trodAll_nil hrest5
  exact ⟨v, v', v'', v3, v4, v5, d, d', d'', d3, d4, d5, p, p', p'', p3, p4, p5, by cases args; simp_all, rfl, by simp, hd, hd', hd'', hd3, hd4, hd5⟩

theorem nums_of {t e : TypeId} {v : Value} {d : DataW H} {p : List MemPlace} (ht : P.underlying t = some (.slice e)) (he : P.underlying e = some (.int .i64)) (hc : P.cellsOf e = 1)
    (hk : Value.okWide P W .any base t v) (h : DataW.Trod enc P W 0 (fun _ => true) true t v d p) : ∃ l, NumsAt W v l := by
  obtain ⟨a, len, cap, rfl⟩ := okWide_slice ht hk
  obtain ⟨fuel, hf⟩ := h
  rcases open_ints ht he hc hf with ⟨hcs, _⟩ | ⟨a, len', cap', zs, hcs, _, hl, hm, hz, _, hcell, _⟩
  · simp [Value.cells] at hcs
    obtain ⟨rfl, rfl, rfl⟩ := hcs
    exact ⟨[], none, 0, rfl, Nat.le_refl _, by unfold maxLen; omega, fun i hi => by simp at hi⟩
  · simp [Value.cells] at hcs
    obtain ⟨rfl, rfl, rfl⟩ := hcs
    simp only [if_true] at hz
    have hlen : (zs.take len).length = len := by simp; omega
    refine ⟨zs.take len, some a, cap, by rw [List.length_map, hlen], by rw [List.length_map, hlen]; exact hl, hm, fun i hi => ?_⟩
    simp only [List.length_map, hlen] at hi
    obtain ⟨b, off, spot⟩ := a
    have hspot : spot = none := by simpa [Addr.add] using World.cell?_spot (hcell 0 (by omega))
    subst hspot
    refine ⟨b, off, rfl, fun j u hj => ?_⟩
    rcases j with _ | j
    · have := hcell i (by omega)
      rw [Addr.add_mid] at this
      simp [List.getD, show i < zs.length by omega] at hj this
      rw [← hj, Nat.mul_one]
      exact this
    · simp at hj
end
open Go.ChangeShapes Go.WideShapes Go.ChangeAt Go.RowKit Go.Deep

set_option maxRecDepth 100000 in
theorem arrI_of {H : Type} {enc : TypeId × Value → H} {W : World} {base n : Nat} {T : TypeId} {v : Value} {d : DataW H} {p : List MemPlace} (hu : Try.prog.underlying T = some (.array n 3)) (hc : Try.prog.cellsOf T = n) (hk : Value.okWide Try.prog W .any base T v) (h : DataW.Trod enc Try.prog W 0 (fun _ => true) true T v d p) :
    ∃ f : Nat → Int, v = .agg (arrI n f) := by
  simp only [Value.okWide, hu] at hk
  obtain ⟨xs, rfl, hsz, _⟩ := hk
  rw [hc] at hsz
  obtain ⟨fuel, hf⟩ := h
  have hf' : DataW.trod enc Try.prog W 0 (fun _ => true) true fuel T xs.toList = some (d, p) := hf
  have k1 : Try.prog.cellsOf 3 = 1 := by kernel_rfl
  obtain ⟨ys, m, _, _, hl, hy, hall⟩ := DataW.trod_array hu hf'
  rw [k1] at hall
  obtain ⟨f, hF⟩ := choose_lt (α := Int) (n := n) (p := fun i z => xs[i]? = some (.int .i64 z)) (fun i hi => by
    have h1 := hall i hi
    rw [Nat.mul_one] at h1
    have hlt : i < xs.toList.length := by rw [Array.length_toList, hsz]; exact hi
    have hx : (xs.toList.drop i).take 1 = [xs.toList[i]] := by
      rw [List.drop_eq_getElem_cons hlt]; rfl
    rw [hx] at h1
    have hlt2 : i < ys.length := by omega
    rw [List.getElem?_eq_getElem hlt2] at h1
    obtain ⟨z, e⟩ := trod_int_cell Try.underlying3 h1
    refine ⟨z, ?_⟩
    rw [← Array.getElem?_toList, List.getElem?_eq_getElem hlt, e])
  refine ⟨f, ?_⟩
  congr 1
  apply Array.ext_getElem?
  intro i
  by_cases hi : i < n
  · rw [hF i hi, arrI_get f hi]
  · rw [Array.getElem?_eq_none (by omega), Array.getElem?_eq_none (by rw [arrI_size]; omega)]

section
variable {H : Type} {enc : TypeId × Value → H} {W : World} {fuel : Nat} {v : Value} {x : DataW H × List MemPlace}
theorem seven_of {cs : List Value} (h : cs.length = 7) : ∃ a b c d e f g, cs = [a, b, c, d, e, f, g] := by
  match cs, h with
  | [a, b, c, d, e, f, g], _ => exact ⟨a, b, c, d, e, f, g, rfl⟩
set_option maxRecDepth 100000 in
theorem edge_of_trod {cs : List Value} (hl : cs.length = 7) (h : DataW.trod enc Try.prog W 0 (fun _ => true) true fuel 106 cs = some x) : ∃ e : Edg, cs = edgeC e := by
  obtain ⟨c0, c1, c2, c3, c4, c5, c6, rfl⟩ := seven_of hl
  obtain ⟨xs, n, _, _, _, hx, hall⟩ := DataW.trod_struct Try.underlying106 h
  have k1 : Try.prog.cellsOf 3 = 1 := by kernel_rfl
  have k2 : Try.prog.cellsOf 4 = 1 := by kernel_rfl
  match xs, hx with
  | [x0, x1, x2, x3, x4, x5, x6], _ =>
    have h0 : DataW.trod enc Try.prog W 0 (fun _ => true) true n 3 (([c0, c1, c2, c3, c4, c5, c6].drop 0).take (Try.prog.cellsOf 3)) = some x0 := hall 0 _ rfl
    have h1 : DataW.trod enc Try.prog W 0 (fun _ => true) true n 3 (([c0, c1, c2, c3, c4, c5, c6].drop 1).take (Try.prog.cellsOf 3)) = some x1 := hall 1 _ rfl
    have h2 : DataW.trod enc Try.prog W 0 (fun _ => true) true n 4 (([c0, c1, c2, c3, c4, c5, c6].drop 2).take (Try.prog.cellsOf 4)) = some x2 := hall 2 _ rfl
    have h3 : DataW.trod enc Try.prog W 0 (fun _ => true) true n 3 (([c0, c1, c2, c3, c4, c5, c6].drop 3).take (Try.prog.cellsOf 3)) = some x3 := hall 3 _ rfl
    have h4 : DataW.trod enc Try.prog W 0 (fun _ => true) true n 3 (([c0, c1, c2, c3, c4, c5, c6].drop 4).take (Try.prog.cellsOf 3)) = some x4 := hall 4 _ rfl
    have h5 : DataW.trod enc Try.prog W 0 (fun _ => true) true n 3 (([c0, c1, c2, c3, c4, c5, c6].drop 5).take (Try.prog.cellsOf 3)) = some x5 := hall 5 _ rfl
    have h6 : DataW.trod enc Try.prog W 0 (fun _ => true) true n 3 (([c0, c1, c2, c3, c4, c5, c6].drop 6).take (Try.prog.cellsOf 3)) = some x6 := hall 6 _ rfl
    rw [k1] at h0 h1 h3 h4 h5 h6
    rw [k2] at h2
    obtain ⟨z0, rfl⟩ := trod_int_cell Try.underlying3 (c := c0) h0
    obtain ⟨z1, rfl⟩ := trod_int_cell Try.underlying3 (c := c1) h1
    obtain ⟨z2, e2, _⟩ := DataW.trod_bool Try.underlying4 (cs := [c2]) h2
    cases e2
    obtain ⟨z3, rfl⟩ := trod_int_cell Try.underlying3 (c := c3) h3
    obtain ⟨z4, rfl⟩ := trod_int_cell Try.underlying3 (c := c4) h4
    obtain ⟨z5, rfl⟩ := trod_int_cell Try.underlying3 (c := c5) h5
    obtain ⟨z6, rfl⟩ := trod_int_cell Try.underlying3 (c := c6) h6
    exact ⟨⟨z0, z1, z2, z3, z4, z5, z6⟩, rfl⟩
set_option maxRecDepth 100000 in
theorem edges_of_trod (h : DataW.trod enc Try.prog W 0 (fun _ => true) true fuel 83 [v] = some x) : ∃ l, EdgesAt W v l := by
  have k2 : Try.prog.cellsOf 106 = 7 := by kernel_rfl
  rcases open_slice Try.underlying83 h with ⟨hcs, _⟩ | ⟨a, len, cap, m, n, D, Pl, hcs, _, hl, hm, hmm, _, hel⟩
  · cases hcs
    exact ⟨[], none, 0, rfl, Nat.le_refl _, by unfold maxLen; omega, fun i hi => by simp at hi⟩
  · cases hcs
    simp only [if_true] at hmm
    rw [k2] at hel
    obtain ⟨r, hr⟩ := choose_lt (α := Edg) (n := len) (p := fun i r => ∃ cs', W.cells? 0 (a.add (i * 7)) 7 = some cs' ∧ cs' = edgeC r) (fun i hi => by
      obtain ⟨cs', h1, h2⟩ := hel i (by omega)
      obtain ⟨_, hlen, _⟩ := World.cells?_some h1
      obtain ⟨r, e⟩ := edge_of_trod hlen h2
      exact ⟨r, cs', h1, e⟩)
    refine ⟨(List.range len).map r, some a, cap, by simp, by simpa using hl, hm, fun i hi => ?_⟩
    simp only [List.length_map, List.length_range] at hi
    obtain ⟨cs', h1, h2⟩ := hr i hi
    obtain ⟨_, hlen, hc⟩ := World.cells?_some h1
    obtain ⟨b, off, spot⟩ := a
    subst h2
    obtain ⟨_, h3, rfl⟩ := hr 0 (by omega)
    have h00 : W.cell? (((⟨b, off, spot⟩ : Addr).add (0 * 7)).add 0) = some (.int .i64 (r 0).x0) := (World.cells?_some h3).2.2 0 (by omega)
    have hspot : spot = none := by simpa [Addr.add] using World.cell?_spot h00
    subst hspot
    refine ⟨b, off, rfl, fun j u hj => ?_⟩
    simp only [List.getElem_map, List.getElem_range] at hj
    have := (hc j (by have := (List.getElem?_eq_some_iff.1 hj).1; simpa [edgeC] using this)).trans hj
    rw [Addr.add_mid, Addr.add_mid] at this
    exact this
end
set_option maxRecDepth 100000 in
theorem edges_of {H : Type} {enc : TypeId × Value → H} {W : World} {base : Nat} {v : Value} {d : DataW H} {p : List MemPlace} (hk : Value.okWide Try.prog W .any base 83 v) (h : DataW.Trod enc Try.prog W 0 (fun _ => true) true 83 v d p) : ∃ l, EdgesAt W v l := by
  obtain ⟨a, len, cap, rfl⟩ := okWide_slice Try.underlying83 hk
  obtain ⟨fuel, hf⟩ := h
  exact edges_of_trod (v := .slice a len cap) hf
end Go.Proofs.Ytfnolaoohmecbaa
