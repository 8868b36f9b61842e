/- An upright box as pieces. -/
import Derived.Test.YtfnolaoohmecbaaCtrM
import Derived.Test.YtfnolaoohmecbaaWndM
import Derived.Test.YtfnolaoohmecbaaArmM
namespace Go.Proofs.Ytfnolaoohmecbaa
open Go.RowKit

theorem segC_len (l : List Sg) : ∀ c ∈ l.map segC, c.length = 5 := by
  intro c hc
  obtain ⟨e, _, rfl⟩ := List.mem_map.1 hc
  rfl
open Go.RowKit

def SegsOut (l : List Sg) (w : World) (e : Ending) (w' : World) : Prop := ∃ v, e = .returned v ∧ Below w.heap.size w w' ∧ Fresh w w' (fun w => SegsAt w v l)
theorem own_segs {w0 w : World} {e : TypeId} {a : Option Addr} {cap : Nat} {p : List Sg} {M : List Res} {Φ : List (World → Prop)} (hL : Holds w0 w (own w0.heap.size e 5 (.slice a p.length cap) p.length (p.map segC).flatten :: M) Φ) :
    Fresh w0 w (fun w => SegsAt w (.slice a p.length cap) p) :=
  (hL.settle .here (φ := fun w => SegsAt w (.slice a p.length cap) p) fun w h => own_sliceAt h (by simp) rfl (segC_len p)).fresh

open Go.RowKit

/-- of a slice of n elements, those from l to h -/
theorem SliceAt.part {w : World} {size n c : Nat} {a : Option Addr} {els : List (List Value)} (h : SliceAt w size (.slice a n c) els) {l m : Nat} (h1 : l ≤ m) (h2 : m ≤ n) : SliceAt w size (sliced a l m c size) ((els.take m).drop l) := by
  obtain ⟨a', c', he, hlc, hcm, hel⟩ := h
  injection he with e1 e2 e3
  subst e1; subst e2; subst e3
  have hlen : ((els.take m).drop l).length = m - l := by simp; omega
  refine ⟨if c = l then a else a.map (·.add (l * size)), c - l, by unfold sliced; rw [hlen], by omega, by omega, fun i hi => ?_⟩
  rw [hlen] at hi
  obtain ⟨b, o, e, hr⟩ := hel (l + i) (by omega)
  subst e
  rw [if_neg (by omega)]
  refine ⟨b, o + l * size, by simp [Addr.add], ?_⟩
  rw [List.getElem_drop, List.getElem_take]
  rwa [Nat.add_mul, ← Nat.add_assoc] at hr
section
variable {P : Program} {w0 w : World} {M M' : List Res} {Φ : List (World → Prop)} {K2 : Value → World → Prop}
end
open Go.RowKit

theorem Holds.range {w0 w : World} {M : List Res} {Φ : List (World → Prop)} {b : Nat} {cs : Array Value} {T : TypeId} (hL : Holds w0 w M Φ) (hat : At M (blk b cs T)) : w.rangeAt b 0 cs.toList := fun j v hv => by
  rw [Nat.zero_add, hL.cell hat]; simpa using hv
theorem Holds.segsLit {w0 w : World} {M : List Res} {Φ : List (World → Prop)} {b : Nat} {cs : Array Value} {T : TypeId} (l : List Sg) (hL : Holds w0 w M Φ) (k : At M (blk b cs T)) (hcs : cs.toList = (l.map segC).flatten) (hm : l.length ≤ maxLen) : SegsAt w (.slice (some ⟨b, 0, none⟩) l.length l.length) l := by
  refine ⟨_, l.length, by simp, by simp, hm, fun i hi => ⟨b, 0, rfl, fun j v hj => ?_⟩⟩
  rw [hL.cell k, ← Array.getElem?_toList, hcs, Nat.zero_add]
  exact flatten_get (segC_len l) i hi j v hj
end Go.Proofs.Ytfnolaoohmecbaa
