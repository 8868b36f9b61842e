/- A slice of the call's own is written. -/
import Derived.Test.YtneddfiohekhiaaNums
namespace Go.Proofs.Ytneddfiohekhiaa
open Go.RowKit

/-- a cell of a slice of the call's own is written -/
theorem Holds.setOwn {w0 w : World} {M M' : List Res} {Φ : List (World → Prop)} {B : Nat} {e : TypeId} {k n cap g off : Nat} {xs : List Value} {v : Value} (h : Holds w0 w M Φ)
    (hu : Upd M (own B e k (.slice (some ⟨g, 0, none⟩) n cap) n xs) (own B e k (.slice (some ⟨g, 0, none⟩) n cap) n (xs.set off v)) M') (hoff : off < xs.length) :
    Holds w0 (w.setCell ⟨g, off, none⟩ v) M' Φ ∧ w.cell? ⟨g, off, none⟩ = some xs[off] ∧ w.frozen? ⟨g, off, none⟩ = false := by
  obtain ⟨h1, h2 | ⟨g', cap', cur, hv, hb, hg, hnc, hcm, hcs, ht⟩⟩ := h.at hu.at
  · cases h2.1
  · cases hv
    have hlt : off < n * k := by omega
    have hoc : off < cur.size := by rw [hcs]; exact Nat.lt_of_lt_of_le hlt (Nat.mul_le_mul_right k hnc)
    have hc : w.cell? ⟨g, off, none⟩ = some xs[off] := by
      rw [cell_of_row w g off cur e (0, 0) hg]
      have : xs[off]? = cur[off]? := by rw [← ht, List.getElem?_take, if_pos hlt]; simp
      rw [← this]; simp [hoff]
    refine ⟨?_, hc, frozen_of_row w g off cur e hg⟩
    rw [setCell_eq_setRow w g off cur e (0, 0) v hg]
    refine h.upd hu ⟨rfl, rfl, rfl, by simp, fun b hb' hne => setRow_other w g b _ (fun e => hne (by subst e; rfl))⟩ ⟨by rw [List.length_set]; exact h1, .inr ⟨g, cap, cur.setIfInBounds off v, rfl, hb, setRow_heap w g cur _ e (0, 0) hg, hnc, hcm, by rw [Array.size_setIfInBounds]; exact hcs, ?_⟩⟩ (fun b hb' => .inl hb')
    rw [← ht]
    apply List.ext_getElem?
    intro i
    rw [List.getElem?_take, List.getElem?_set, List.getElem?_take]
    simp only [Array.getElem?_toList, Array.getElem?_setIfInBounds]
    by_cases hi : i < n * k
    · simp only [hi, if_true]
      by_cases hio : off = i
      · subst hio; simp [hoc]
        omega
      · simp [hio]
    · have : ¬ off = i := by omega
      simp [hi, this]

theorem storeAt_own {P : Program} {w0 w : World} {M M' : List Res} {Φ : List (World → Prop)} {KW : World → Prop} {T : TypeId} {g off : Nat} {v : Value} (h1 : v.cells = #[v]) (hv1 : v.oneCell' = true) (hT : ScalarT P T)
    (hL : Holds w0 w M Φ) (B : Nat) (e : TypeId) (k n cap : Nat) (xs : List Value) (hu : Upd M (own B e k (.slice (some ⟨g, 0, none⟩) n cap) n xs) (own B e k (.slice (some ⟨g, 0, none⟩) n cap) n (xs.set off v)) M') (hoff : off < xs.length)
    (h : ∀ w', Holds w0 w' M' Φ → KW w') : StoreAt P T ⟨g, off, none⟩ v w KW := by
  obtain ⟨hH, hc, hf⟩ := hL.setOwn hu hoff
  refine ⟨w.setCell ⟨g, off, none⟩ v, ?_, h _ hH⟩
  have hi := hT.size
  cases hq : P.info? T with
  | none => simp [hq] at hi
  | some i =>
    have hs : i.size = 1 := by simpa [hq] using hi
    simp [Sem.run_bind, storeVar, sizeOf, typeInfo, hq, hs, h1, storeCells, run_store, hv1, hc, hf, Addr.add]

theorem storeO {P : Program} {w0 w : World} {M M' : List Res} {Φ : List (World → Prop)} {KW : World → Prop} {T : TypeId} {g off : Nat} {v : Value} [hT : ScalarT P T] (hL : Holds w0 w M Φ) {B : Nat} {e : TypeId} {k n cap : Nat} {xs : List Value} (h : ∀ w', Holds w0 w' M' Φ → KW w')
    (h1 : v.cells = #[v] := by rfl) (hv1 : v.oneCell' = true := by rfl)
    (hu : Upd M (own B e k (.slice (some ⟨g, 0, none⟩) n cap) n xs) (own B e k (.slice (some ⟨g, 0, none⟩) n cap) n (xs.set off v)) M' := by (repeat (first | with_reducible exact Upd.here | with_reducible apply Upd.there))) (hoff : off < xs.length := by omega) : StoreAt P T ⟨g, off, none⟩ v w KW := storeAt_own h1 hv1 hT hL B e k n cap xs hu hoff h

theorem own_shape {w0 w : World} {M : List Res} {Φ : List (World → Prop)} {B : Nat} {e : TypeId} {k n : Nat} {v : Value} {xs : List Value} (h : Holds w0 w M Φ) (hat : At M (own B e k v n xs)) (hn : 0 < n) : ∃ g cap, v = .slice (some ⟨g, 0, none⟩) n cap := by
  obtain ⟨g, cap, hv, _⟩ := World.ownsRow.form (h.at hat) hn
  exact ⟨g, cap, hv⟩
theorem own_slice {w0 w : World} {M : List Res} {Φ : List (World → Prop)} {B : Nat} {e : TypeId} {k n : Nat} {v : Value} {xs : List Value} (h : Holds w0 w M Φ) (hat : At M (own B e k v n xs)) : ∃ a cap, v = .slice a n cap := by
  obtain ⟨_, h2 | ⟨g, cap, cur, hv, _⟩⟩ := h.at hat
  · exact ⟨none, 0, by rw [h2.1, h2.2]⟩
  · exact ⟨_, cap, hv⟩
end Go.Proofs.Ytneddfiohekhiaa
