/- The arms of a walk, with what each asks for found by itself. -/
import Derived.Test.YtneddfiohekhiaaCls
-- uses arrU
namespace Go.Proofs.Ytneddfiohekhiaa
open Go.RowKit

section
variable {P : Program} {w0 w : World} {M M' : List Res} {Φ : List (World → Prop)} {K : Value → Prop} {KW : World → Prop} {K2 : Value → World → Prop}

theorem loadA {T : TypeId} {b off : Nat} [hT : ScalarT P T] (hL : Holds w0 w M Φ) {cs : Array Value} {T' : TypeId} {v : Value} (h : K v)
    (hat : At M (blk b cs T') := by (repeat (first | with_reducible exact At.here | with_reducible apply At.there)))
    (hv : cs[off]? = some v := by (first | with_reducible exact arrB_get _ (by omega) | with_reducible exact arrI_get _ (by omega) | with_reducible exact arrU_get _ (by omega) | (simp only [List.getElem?_toArray, List.getElem?_cons_zero]; rfl) | (simp only [List.getElem?_toArray, List.getElem?_cons_zero, List.getElem?_cons_succ]; rfl) | rfl)) : LoadAt P T ⟨b, off, none⟩ w K := loadAt_blk hT hL cs T' hat v hv h
theorem loadR {T : TypeId} {b off n : Nat} [hT : RowT P T n] (hL : Holds w0 w M Φ) {cs : Array Value} {T' : TypeId} (h : K (.agg cs))
    (h0 : off = 0 := by with_reducible rfl) (hat : At M (blk b cs T') := by (repeat (first | with_reducible exact At.here | with_reducible apply At.there)))
    (hn : n = cs.size := by (first | rfl | (simp only [arrB_size]; done) | (simp only [arrI_size]; done))) : LoadAt P T ⟨b, off, none⟩ w K := by
  subst h0
  exact loadAt_row hT hL cs T' hat hn h
theorem loadC {T : TypeId} {p : Addr} [hT : ScalarT P T] (hL : Holds w0 w M Φ) {v : Value} (h : K v) (hc : w0.cell? p = some v := by with_reducible assumption) : LoadAt P T p w K := loadAt_cell hT v (hL.old hc) h
theorem loadD {T : TypeId} {p : Addr} [hT : ScalarT P T] {v : Value} (h : K v) (hc : w.cell? p = some v := by with_reducible assumption) : LoadAt P T p w K := loadAt_cell hT v hc h
theorem loadE {T : TypeId} {b off n : Nat} [hT : RowT P T n] (hL : Holds w0 w M Φ) {cs : List Value} (h : K (.agg cs.toArray)) (hc : w0.rangeAt b off cs := by with_reducible assumption) (hn : n = cs.length := by rfl) : LoadAt P T ⟨b, off, none⟩ w K := loadAt_cells hT cs (hL.olds hc) hn h
theorem loadF {T : TypeId} {b off n : Nat} [hT : RowT P T n] {cs : List Value} (h : K (.agg cs.toArray)) (hc : w.rangeAt b off cs := by with_reducible assumption) (hn : n = cs.length := by rfl) : LoadAt P T ⟨b, off, none⟩ w K := loadAt_cells hT cs hc hn h

theorem storeA {T : TypeId} {b off : Nat} {v : Value} [hT : ScalarT P T] (hL : Holds w0 w M Φ) {cs : Array Value} {T' : TypeId} {cs' : Array Value} (h : ∀ w', Holds w0 w' M' Φ → KW w')
    (h1 : v.cells = #[v] := by rfl) (hv1 : v.oneCell' = true := by rfl)
    (hu : Upd M (blk b cs T') (blk b cs' T') M' := by (repeat (first | with_reducible exact Upd.here | with_reducible apply Upd.there)))
    (hoff : off < cs.size := by (first | (rw [arrB_size]; omega) | (rw [arrI_size]; omega) | (rw [arrU_size]; omega) | (simp only [List.size_toArray, List.length_cons, List.length_nil]; omega) | omega))
    (hcs : cs.setIfInBounds off v = cs' := by (first | with_reducible exact arrB_set _ _ (by omega) | with_reducible exact arrI_set _ _ (by omega) | with_reducible exact arrU_set _ _ (by omega) | (simp only [List.setIfInBounds_toArray, List.set_cons_zero, List.set_cons_succ]; rfl) | rfl)) : StoreAt P T ⟨b, off, none⟩ v w KW := storeAt_cell h1 hv1 hT hL cs T' cs' hu hoff hcs h
theorem storeR {T : TypeId} {b off n : Nat} {cs' : Array Value} [hT : RowT P T n] (hL : Holds w0 w M Φ) {cs : Array Value} {T' : TypeId} (h : ∀ w', Holds w0 w' M' Φ → KW w')
    (h0 : off = 0 := by with_reducible rfl) (hv1 : cs'.all (·.oneCell') = true := by (first | exact arrB_one _ | exact arrI_one _ _ | (simp [Value.oneCell']; done) | rfl))
    (hu : Upd M (blk b cs T') (blk b cs' T') M' := by (repeat (first | with_reducible exact Upd.here | with_reducible apply Upd.there)))
    (hsz : cs.size = cs'.size := by (first | rfl | (simp only [arrB_size]; done) | (simp only [arrI_size]; done))) (hn : n = cs'.size := by (first | rfl | (simp only [arrB_size]; done) | (simp only [arrI_size]; done))) : StoreAt P T ⟨b, off, none⟩ (.agg cs') w KW := by
  subst h0
  exact storeAt_row hT hv1 hL cs T' hu hsz hn h

theorem litA1 {t e size bytes : Nat} {z : Value} {vp : Array (Nat × Value)} {v0 : Value} {cs : Array Value} [ht : SliceT P t e] [hi : ElemT P e size bytes z]
    (hL : Holds w0 w M Φ) (h : ∀ b w', Holds w0 w' (blk b cs e :: M) Φ → K2 (.slice (some ⟨b, 0, none⟩) 1 1) w')
    (hvs : vp = #[(0, v0)] := by (simp only [List.map_toArray, List.map_cons, List.map_nil]; rfl)) (hv : [v0].all (fun v => decide (v.cells.size = size)) = true := by (simp [go_sem, Value.cells]; done)) (hsm : 1 * size ≤ 16777216 := by decide) (hcs : litCells [v0] = cs := by (simp [go_sem, litCells, Value.cells]; rfl)) : LitAt P t 1 vp w K2 := litAt1 v0 hvs ht hi hv hsm cs hcs hL h
theorem litA2 {t e size bytes : Nat} {z : Value} {vp : Array (Nat × Value)} {v0 v1 : Value} {cs : Array Value} [ht : SliceT P t e] [hi : ElemT P e size bytes z]
    (hL : Holds w0 w M Φ) (h : ∀ b w', Holds w0 w' (blk b cs e :: M) Φ → K2 (.slice (some ⟨b, 0, none⟩) 2 2) w')
    (hvs : vp = #[(0, v0), (1, v1)] := by (simp only [List.map_toArray, List.map_cons, List.map_nil]; rfl)) (hv : [v0, v1].all (fun v => decide (v.cells.size = size)) = true := by (simp [go_sem, Value.cells]; done)) (hsm : 2 * size ≤ 16777216 := by decide) (hcs : litCells [v0, v1] = cs := by (simp [go_sem, litCells, Value.cells]; rfl)) : LitAt P t 2 vp w K2 := litAt2 v0 v1 hvs ht hi hv hsm cs hcs hL h

theorem appendA {t ty e size bytes : Nat} {z v : Value} {b m c : Nat} [ht : SliceT P t e] [hi : ElemT P e size bytes z]
    (hL : Holds w0 w M Φ) {news : Array Value} {T' : TypeId} {n : Nat} {xs : List Value} {f : Res → List Res}
    (h : ∀ g cap w', Holds w0 w' (f (own w0.heap.size e size (.slice (some ⟨g, 0, none⟩) (n + m) cap) (n + m) (xs ++ news.toList))) Φ → K2 (.slice (some ⟨g, 0, none⟩) (n + m) cap) w')
    (hrem : Rem M (blk b news T') M' := by (repeat (first | with_reducible exact Rem.here | with_reducible apply Rem.there)))
    (hu : ∀ r', Upd M' (own w0.heap.size e size v n xs) r' (f r') := by intro _; (repeat (first | with_reducible exact Upd.here | with_reducible apply Upd.there)))
    (hz : z.cells.size = size := by rfl) (hp : 0 < size := by decide) (hl : news.size = m * size := by (first | rfl | omega)) (h1 : news.all (·.oneCell') = true := by (first | exact arrB_one _ | exact arrI_one _ _ | (simp [Value.oneCell']; done) | rfl))
    (hm : 0 < m := by (first | decide | omega)) (h63 : n + m ≤ maxLen := by (unfold maxLen; omega)) (hbytes : (n + m) * bytes ≤ 140737488355328 := by omega) : AppendAt P t ty v (.slice (some ⟨b, 0, none⟩) m c) w K2 :=
  appendAt ht hi hL news T' hrem n xs f hu hz hp hl h1 hm h63 hbytes h
theorem makeA {t e bytes : Nat} {z : Value} {L : Int} {n : Nat} [ht : SliceT P t e] [hi : ElemT P e 1 bytes z] (hL : Holds w0 w M Φ) (h : ∀ b w', Holds w0 w' (blk b (List.replicate n z).toArray e :: M) Φ → K2 (.slice (some ⟨b, 0, none⟩) n n) w')
    (hz : z.cells = #[z] := by rfl) (hL0 : L = (n : Int) := by (first | rfl | exact (Int.toNat_of_nonneg (by omega)).symm)) (hb : bytes * n ≤ 281474976710656 := by omega) (hm : n ≤ maxLen := by (unfold maxLen; omega)) : MakeAt P t L w K2 := makeAt ht hi hz n hL0 hb hm hL h
theorem indexA {T e : TypeId} {i : Int} {p : Nat → Bool} [hT : ArrT P T 64 e] (h : K (.bool (p i.toNat))) (h0 : 0 ≤ i := by omega) (h1 : i < 64 := by omega) : IndexAt P T (.agg (arrB p)) i w K := indexAt_B hT h0 h1 h
theorem indexC {T e : TypeId} {n : Nat} {i : Int} {cs : Array Value} {v : Value} [hT : ArrT P T n e] (h : K v) (h0 : 0 ≤ i := by omega) (h1 : i < (n : Int) := by omega) (hv : cs[i.toNat]? = some v := by (first | with_reducible exact arrB_get _ (by omega) | with_reducible exact arrI_get _ (by omega) | with_reducible exact arrU_get _ (by omega) | (simp only [List.getElem?_toArray, List.getElem?_cons_zero]; rfl) | (simp only [List.getElem?_toArray, List.getElem?_cons_zero, List.getElem?_cons_succ]; rfl) | rfl)) : IndexAt P T (.agg cs) i w K := indexAt hT v h0 h1 hv h
end
end Go.Proofs.Ytneddfiohekhiaa
