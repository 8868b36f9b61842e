/- What a mask that is handed in reads as, for layers above 28. -/
import Derived.Test.YtneddfiohekhiaaArgM
import Derived.Test.YtneddfiohekhiaaMskM
import Derived.Laws.IdiomArrays
import Derived.ChangeArms
namespace Go.Proofs.Ytneddfiohekhiaa
open Go.ChangeShapes Go.WideShapes Go.ChangeAt Go.RowKit

theorem bytes_of_trod {H : Type} {enc : TypeId × Value → H} {W : World} {fuel : Nat} {v : Value} {x : DataW H × List MemPlace} (h : DataW.trod enc Try.prog W 0 (fun _ => true) true fuel 24 [v] = some x) :
    ∃ l, BytesAt W v l ∧ ∀ n ∈ l, 0 ≤ n := by
  rcases open_ints Try.underlying24 Try.underlying5 (by kernel_rfl) h with ⟨hcs, _⟩ | ⟨a, len, cap, zs, hcs, _, hl, hm, hz, _, hcell, hwf⟩
  · cases hcs
    exact ⟨[], ⟨none, 0, rfl, Nat.le_refl _, by unfold maxLen; omega, fun i hi => by simp at hi⟩, fun n hn => by cases hn⟩
  · cases hcs
    simp only [if_true] at hz
    have hlen : (zs.take len).length = len := by simp; omega
    refine ⟨zs.take len, ⟨some a, cap, by rw [List.length_map, hlen], by rw [List.length_map, hlen]; exact hl, hm, fun i hi => ?_⟩, fun n hn => ?_⟩
    · simp only [List.length_map, hlen] at hi
      obtain ⟨b, off, spot⟩ := a
      have hspot : spot = none := by simpa [Addr.add] using World.cell?_spot (hcell 0 (by omega))
      subst hspot
      refine ⟨b, off, rfl, fun j u hj => ?_⟩
      rcases j with _ | j
      · have := hcell i (by omega)
        rw [Addr.add_mid] at this
        simp [List.getD, hi, show i < zs.length by omega] at hj this
        rw [← hj, Nat.mul_one]
        exact this
      · simp at hj
    · have := hwf n (List.mem_of_mem_take hn)
      simp [Lit.wf] at this
      have e : IntKind.u8.min = 0 := by decide
      omega
set_option maxRecDepth 100000 in
theorem mask_of {H : Type} {enc : TypeId × Value → H} {W : World} {base : Nat} {v : Value} {d : DataW H} {p : List MemPlace} (hk : Value.okWide Try.prog W .any base 26 v) (h : DataW.Trod enc Try.prog W 0 (fun _ => true) true 26 v d p) :
    ∃ m, MaskAt W v m ∧ ∀ n ∈ m.B, 0 ≤ n := by
  obtain ⟨cs, rfl, hsz⟩ := okWide_struct Try.underlying26 hk
  rw [show Try.prog.cellsOf 26 = 3 by kernel_rfl] at hsz
  obtain ⟨fuel, hf⟩ := h
  match cs, hsz with
  | ⟨[c0, c1, c2]⟩, _ =>
    obtain ⟨xs, n, _, _, _, hx, hall⟩ := DataW.trod_struct Try.underlying26 hf
    have k1 : Try.prog.cellsOf 3 = 1 := by kernel_rfl
    have k2 : Try.prog.cellsOf 24 = 1 := by kernel_rfl
    match xs, hx with
    | [x0, x1, x2], _ =>
      have h0 : DataW.trod enc Try.prog W 0 (fun _ => true) true n 3 (([c0, c1, c2].drop 0).take (Try.prog.cellsOf 3)) = some x0 := hall 0 _ rfl
      rw [k1] at h0
      have h1 : DataW.trod enc Try.prog W 0 (fun _ => true) true n 3 (([c0, c1, c2].drop 1).take (Try.prog.cellsOf 3)) = some x1 := hall 1 _ rfl
      rw [k1] at h1
      have h2 : DataW.trod enc Try.prog W 0 (fun _ => true) true n 24 (([c0, c1, c2].drop 2).take (Try.prog.cellsOf 24)) = some x2 := hall 2 _ rfl
      rw [k2] at h2
      obtain ⟨z0, rfl⟩ := trod_int_cell Try.underlying3 (c := c0) h0
      obtain ⟨z1, rfl⟩ := trod_int_cell Try.underlying3 (c := c1) h1
      obtain ⟨l, hl, hl0⟩ := bytes_of_trod (v := c2) h2
      exact ⟨⟨z0, z1, l⟩, ⟨c2, rfl, hl⟩, hl0⟩
end Go.Proofs.Ytneddfiohekhiaa
