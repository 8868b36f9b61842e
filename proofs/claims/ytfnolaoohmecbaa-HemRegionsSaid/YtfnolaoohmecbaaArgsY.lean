/- What a style that is handed in reads as. -/
import Derived.Test.YtfnolaoohmecbaaArgsS
import Derived.Test.YtfnolaoohmecbaaHmP
namespace Go.Proofs.Ytfnolaoohmecbaa
open Go.ChangeShapes Go.WideShapes Go.ChangeAt Go.RowKit Go.Deep

set_option maxRecDepth 100000 in
theorem sty_of {H : Type} {enc : TypeId × Value → H} {W : World} {base : Nat} {v : Value} {d : DataW H} {p : List MemPlace} (hk : Value.okWide Try.prog W .any base 24 v) (h : DataW.Trod enc Try.prog W 0 (fun _ => true) true 24 v d p) :
    ∃ s : Sty, v = .agg #[.int .i64 s.wide, .int .i64 s.cap, .int .i64 s.join] := by
  obtain ⟨cs, rfl, hsz⟩ := okWide_struct Try.underlying24 hk
  rw [show Try.prog.cellsOf 24 = 3 by kernel_rfl] at hsz
  obtain ⟨fuel, hf⟩ := h
  match cs, hsz with
  | ⟨[c0, c1, c2]⟩, _ =>
    have hf2 : DataW.trod enc Try.prog W 0 (fun _ => true) true fuel 24 [c0, c1, c2] = some (d, p) := hf
    obtain ⟨xs, n, _, _, _, hx, hall⟩ := DataW.trod_struct Try.underlying24 hf2
    have k1 : Try.prog.cellsOf 3 = 1 := by kernel_rfl
    match xs, hx with
    | [x0, x1, x2], _ =>
      have h0 : DataW.trod enc Try.prog W 0 (fun _ => true) true n 3 (([c0, c1, c2].drop 0).take (Try.prog.cellsOf 3)) = some x0 := hall 0 _ rfl
      have h1 : DataW.trod enc Try.prog W 0 (fun _ => true) true n 3 (([c0, c1, c2].drop 1).take (Try.prog.cellsOf 3)) = some x1 := hall 1 _ rfl
      have h2 : DataW.trod enc Try.prog W 0 (fun _ => true) true n 3 (([c0, c1, c2].drop 2).take (Try.prog.cellsOf 3)) = some x2 := hall 2 _ rfl
      rw [k1] at h0 h1 h2
      obtain ⟨z0, rfl⟩ := trod_int_cell Try.underlying3 (c := c0) h0
      obtain ⟨z1, rfl⟩ := trod_int_cell Try.underlying3 (c := c1) h1
      obtain ⟨z2, rfl⟩ := trod_int_cell Try.underlying3 (c := c2) h2
      exact ⟨⟨z0, z1, z2⟩, rfl⟩
end Go.Proofs.Ytfnolaoohmecbaa
