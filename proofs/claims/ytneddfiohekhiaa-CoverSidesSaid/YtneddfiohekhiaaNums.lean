/- Numbers that are handed in; a number's place. -/
import Derived.Test.YtneddfiohekhiaaTypes
import Derived.Test.YtneddfiohekhiaaRows
import Derived.Test.YtneddfiohekhiaaArm
import Derived.Deep.QuietTactic
import Derived.BigQuiet
namespace Go.Proofs.Ytneddfiohekhiaa
open Go.RowKit

theorem atO {M : List Res} {r : Res} (h : At M r := by (repeat (first | with_reducible exact At.here | with_reducible apply At.there))) : At M r := h
theorem updO {M M' : List Res} {r r' : Res} (h : Upd M r r' M' := by (repeat (first | with_reducible exact Upd.here | with_reducible apply Upd.there))) : Upd M r r' M' := h
theorem Holds.row {w0 w : World} {M : List Res} {Φ : List (World → Prop)} {b : Nat} {cs : Array Value} {T : TypeId} (hL : Holds w0 w M Φ) (k : At M (blk b cs T)) : w.heap[b]? = some (.cells cs T (0, 0)) := hL.at k
theorem ret_int {k : IntKind} {a b : Int} (h : a = b) : Ending.returned (.int k a) = .returned (.int k b) := by rw [h]
theorem ret_bool {a b : Bool} (h : a = b) : Ending.returned (.bool a) = .returned (.bool b) := by rw [h]
/-- the result is a new slice that reads so -/
def SliceOut (k : Nat) (els : List (List Value)) (w : World) (e : Ending) (w' : World) : Prop :=
  ∃ v, e = .returned v ∧ Below w.heap.size w w' ∧ Fresh w w' (fun w => SliceAt w k v els)
/-- the numbers of a slice -/
def NumsAt (w : World) (v : Value) (l : List Int) : Prop := SliceAt w 1 v (l.map fun n => [.int .i64 n])
theorem NumsAt.parts {w : World} {s : Value} {l : List Int} (h : NumsAt w s l) :
    ∃ a cap, s = .slice a l.length cap ∧ l.length ≤ cap ∧ cap ≤ maxLen ∧ ∀ i, i < l.length → ∃ b o, a = some ⟨b, o, none⟩ ∧ w.cell? ⟨b, o + i, none⟩ = some (.int .i64 (l.getD i 0)) := by
  obtain ⟨a, cap, h2, h3, h4, h5⟩ := h
  simp only [List.length_map] at h2 h3 h5
  refine ⟨a, cap, h2, h3, h4, fun i hi => ?_⟩
  obtain ⟨b, o, e, hr⟩ := h5 i hi
  refine ⟨b, o, e, ?_⟩
  have := hr 0 (.int .i64 (l.getD i 0)) (by simp [hi])
  simpa using this
theorem NumsAt.hold {w0 w : World} {M : List Res} {Φ : List (World → Prop)} {v : Value} {l : List Int} (h : NumsAt w0 v l) (hL : Holds w0 w M Φ) : NumsAt w v l := SliceAt.below h hL.below


theorem litA3 {P : Program} {w0 w : World} {M : List Res} {Φ : List (World → Prop)} {K2 : Value → World → Prop} {t e size bytes : Nat} {z : Value} {vp : Array (Nat × Value)} {v0 v1 v2 : Value} {cs : Array Value} [ht : SliceT P t e] [hi : ElemT P e size bytes z]
    (hL : Holds w0 w M Φ) (h : ∀ b w', Holds w0 w' (blk b cs e :: M) Φ → K2 (.slice (some ⟨b, 0, none⟩) 3 3) w')
    (hvs : vp = #[(0, v0), (1, v1), (2, v2)] := by (simp only [List.map_toArray, List.map_cons, List.map_nil]; rfl)) (hv : [v0, v1, v2].all (fun v => decide (v.cells.size = size)) = true := by (simp [go_sem, Value.cells]; done)) (hsm : 3 * size ≤ 16777216 := by decide) (hcs : litCells [v0, v1, v2] = cs := by (simp [go_sem, litCells, Value.cells]; rfl)) : LitAt P t 3 vp w K2 := litAt3 v0 v1 v2 hvs ht hi hv hsm cs hcs hL h
theorem litA4 {P : Program} {w0 w : World} {M : List Res} {Φ : List (World → Prop)} {K2 : Value → World → Prop} {t e size bytes : Nat} {z : Value} {vp : Array (Nat × Value)} {v0 v1 v2 v3 : Value} {cs : Array Value} [ht : SliceT P t e] [hi : ElemT P e size bytes z]
    (hL : Holds w0 w M Φ) (h : ∀ b w', Holds w0 w' (blk b cs e :: M) Φ → K2 (.slice (some ⟨b, 0, none⟩) 4 4) w')
    (hvs : vp = #[(0, v0), (1, v1), (2, v2), (3, v3)] := by (simp only [List.map_toArray, List.map_cons, List.map_nil]; rfl)) (hv : [v0, v1, v2, v3].all (fun v => decide (v.cells.size = size)) = true := by (simp [go_sem, Value.cells]; done)) (hsm : 4 * size ≤ 16777216 := by decide) (hcs : litCells [v0, v1, v2, v3] = cs := by (simp [go_sem, litCells, Value.cells]; rfl)) : LitAt P t 4 vp w K2 := litAt4 v0 v1 v2 v3 hvs ht hi hv hsm cs hcs hL h
theorem litA6 {P : Program} {w0 w : World} {M : List Res} {Φ : List (World → Prop)} {K2 : Value → World → Prop} {t e size bytes : Nat} {z : Value} {vp : Array (Nat × Value)} {v0 v1 v2 v3 v4 v5 : Value} {cs : Array Value} [ht : SliceT P t e] [hi : ElemT P e size bytes z]
    (hL : Holds w0 w M Φ) (h : ∀ b w', Holds w0 w' (blk b cs e :: M) Φ → K2 (.slice (some ⟨b, 0, none⟩) 6 6) w')
    (hvs : vp = #[(0, v0), (1, v1), (2, v2), (3, v3), (4, v4), (5, v5)] := by (simp only [List.map_toArray, List.map_cons, List.map_nil]; rfl)) (hv : [v0, v1, v2, v3, v4, v5].all (fun v => decide (v.cells.size = size)) = true := by (simp [go_sem, Value.cells]; done)) (hsm : 6 * size ≤ 16777216 := by decide) (hcs : litCells [v0, v1, v2, v3, v4, v5] = cs := by (simp [go_sem, litCells, Value.cells]; rfl)) : LitAt P t 6 vp w K2 := litAt ht hi [v0, v1, v2, v3, v4, v5] hvs rfl hv hsm cs hcs hL h

theorem tmod_emod (v n : Int) (hn : 0 < n) : (if v.tmod n < 0 then v.tmod n + n else v.tmod n) = v % n := by
  have h1 := Int.emod_nonneg v (show n ≠ 0 by omega)
  have h2 := Int.emod_lt_of_pos v hn
  rw [Int.tmod_eq_emod]
  have h0 : ((n.natAbs : Nat) : Int) = n := by omega
  split <;> split <;> omega

set_option maxHeartbeats 400000 in
theorem place_calls (v n : Int) (hn : 0 < n) (hn2 : n < 1073741824) (w : World) :
    Calls Try.prog 18 #[.int .i64 v, .int .i64 n] w fun e w' => e = .returned (.int .i64 (v % n)) ∧ w = w' := by
  have H := Lib.hid (tmod_emod v n hn)
  have t1 := Int.tmod_lt_of_pos v hn
  have t2 : -n < v.tmod n := by
    have := Int.emod_nonneg v (show n ≠ 0 by omega)
    rw [Int.tmod_eq_emod]
    have h0 : ((n.natAbs : Nat) : Int) = n := by omega
    split <;> omega
  have t3 : (n == 0) = false := by simp; omega
  by_cases h : v.tmod n < 0
  · rw [if_pos h] at H
    go_enter Try.func18, Try.ntmps18
    go_wp2
    go_ret
    exact ⟨ret_int H.out, rfl⟩
  · rw [if_neg h] at H
    go_enter Try.func18, Try.ntmps18
    go_wp2
    go_ret
    exact ⟨ret_int H.out, rfl⟩

end Go.Proofs.Ytneddfiohekhiaa
