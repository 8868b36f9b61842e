/- Package scan: Region, its rows by number; reading a row. -/
import Derived.Test.YtfnolaoohmecbaaBwlM
import Derived.Test.YtfnolaoohmecbaaTrnM
import Derived.Test.YtfnolaoohmecbaaRgnM
import Derived.Test.YtfnolaoohmecbaaCtrM
import Derived.Test.YtfnolaoohmecbaaShM
namespace Go.Proofs.Ytfnolaoohmecbaa
open Go.RowKit

/-- crossings that may be -/
def InCols (n : Nat) (cs : List (Int × Int)) : Prop := ∀ c ∈ cs, 0 ≤ c.2 ∧ c.2 ≤ n ∧ -1 ≤ c.1 ∧ c.1 ≤ 1
theorem Crosses.cols {e : Edg} {y : Int} {n : Nat} {cs : List (Int × Int)} (h : Crosses e y n cs) : InCols n cs := by
  intro c hc
  obtain ⟨k, hk, rfl⟩ := List.mem_iff_getElem.1 hc
  have := h.bd k hk
  rwa [show cs.getD k (0, 0) = cs[k] by simp [hk]] at this
theorem InCols.append {n : Nat} {a b : List (Int × Int)} (h : InCols n a) (k : InCols n b) : InCols n (a ++ b) := by
  intro c hc
  rcases List.mem_append.1 hc with g | g
  · exact h c g
  · exact k c g
theorem InCols.take {n : Nat} {a : List (Int × Int)} (h : InCols n a) (k : Nat) : InCols n (a.take k) := fun c hc => h c (List.mem_of_mem_take hc)
/-- the crossings of edges -/
structure ScanAt (l : List Edg) (y : Int) (n : Nat) (k : Nat) (cs : List (Int × Int)) : Prop where
  len : cs.length ≤ 2 * k
  cols : InCols n cs
  col : ∀ i : Nat, i < n → left cs i = windG (l.take k) (16 * (i : Int) + 8) y
theorem ScanAt.start (l : List Edg) (y : Int) (n : Nat) : ScanAt l y n 0 [] := ⟨by simp, fun c hc => by simp at hc, fun i _ => by simp [left, windG]⟩
theorem ScanAt.step {l : List Edg} {y : Int} {n k : Nat} {a b : List (Int × Int)} (h : ScanAt l y n k a) (hk : k < l.length) (hc : Crosses (l.getD k default) y n b) : ScanAt l y n (k + 1) (a ++ b) := by
  refine ⟨?_, h.cols.append hc.cols, fun i hi => ?_⟩
  · have := h.len; have := hc.len; simp; omega
  · rw [left_append, h.col i hi, hc.col i hi, windG_step hk]
open Go.RowKit

open Go.RowKit

structure Sds (W H : Nat) : Prop where
  w0 : 0 < W
  w1 : W ≤ 64
  h0 : 0 < H
  h1 : H ≤ 64
open Go.RowKit

open Go.RowKit

open Go.RowKit

theorem row_get {w : World} {a : Option Addr} {n c : Nat} {rows : List (List (Int × Int))} (h : RowsAt w (.slice a n c) rows) {j : Nat} (hj : j < n) : ∃ b o u, a = some ⟨b, o, none⟩ ∧ w.cell? ⟨b, o + j, none⟩ = some u ∧ RunsAt w u (rows.getD j []) := by
  obtain ⟨vs, hlen, ⟨a', cap, e, _, _, hel⟩, hr⟩ := h
  injection e with e1 e2 e3
  subst e1
  simp only [List.length_map] at e2 hel
  subst e2
  obtain ⟨b, o, e, hc⟩ := hel j hj
  subst e
  have hv := hc 0 vs[j] (by simp)
  simp only [Nat.mul_one, Nat.add_zero] at hv
  exact ⟨b, o, vs[j], rfl, hv, hr j vs[j] (by simp [hj])⟩
end Go.Proofs.Ytfnolaoohmecbaa
