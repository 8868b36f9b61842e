/- Lists of one or two marks that a law makes itself; no pixel counted. -/
import Derived.Test.YtmnoeoecjfhhbaaGreatIm6
namespace Go.Proofs.YtmnoeoecjfhhbaaGreat
open Go.RowKit

theorem countTo_zero {p : Nat → Bool} : ∀ {n : Nat}, countTo p n = 0 → ∀ i, i < n → p i = false
  | 0, _, i, h => absurd h (Nat.not_lt_zero i)
  | n + 1, h, i, hi => by
    cases hp : p n
    · rw [countTo_off hp] at h
      by_cases e : i = n
      · rw [e, hp]
      · exact countTo_zero h i (by omega)
    · rw [countTo_on hp] at h
      omega
theorem pixCount_zero {W : Nat} {p : Nat → Nat → Bool} : ∀ {n : Nat}, pixCount W p n = 0 → ∀ j, j < n → ∀ i, i < W → p j i = false
  | 0, _, j, h, _, _ => absurd h (Nat.not_lt_zero j)
  | n + 1, h, j, hj, i, hi => by
    simp only [pixCount] at h
    by_cases e : j = n
    · subst e
      exact countTo_zero (n := W) (by omega) i hi
    · exact pixCount_zero (n := n) (by omega) j (by omega) i hi
/-- what a mark's slices are -/
def ItmPt (w : World) (vp vc : Value) (i : Itm) : Prop := SegsAt w vp i.path ∧ ClpsAt w vc i.clips ∧ ItmOk i
theorem ItmPt.below {w w' : World} {vp vc : Value} {i : Itm} (h : ItmPt w vp vc i) (hb : Below w.heap.size w w') : ItmPt w' vp vc i := ⟨SliceAt.below h.1 hb, h.2.1.below hb, h.2.2⟩
theorem ItmPt.is {w : World} {vp vc : Value} {i : Itm} (h : ItmPt w vp vc i) : ItmIs w (itmV vp vc i) i := ⟨vp, vc, rfl, h.1, h.2.1, h.2.2⟩
theorem ItmIs.pt {w : World} {v : Value} {i : Itm} (h : ItmIs w v i) : ∃ pa pc ca cc, v = itmV (.slice pa i.path.length pc) (.slice ca i.clips.length cc) i ∧ i.path.length ≤ maxLen ∧ i.clips.length ≤ maxLen ∧ ItmPt w (.slice pa i.path.length pc) (.slice ca i.clips.length cc) i := by
  obtain ⟨pa, pc, ca, cc, rfl, hp2, hp1, hc2, hc1, hP, hC, hOk⟩ := h.val
  exact ⟨pa, pc, ca, cc, rfl, Nat.le_trans hp1 hp2, Nat.le_trans hc1 hc2, hP, hC, hOk⟩
section
variable {w0 w : World} {M : List Res} {Φ : List (World → Prop)} {b : Nat} {cs : Array Value} {T : TypeId} (hL : Holds w0 w M Φ) (k : At M (blk b cs T))
include hL k
theorem items_one {A : Itm} {pa ca : Value} (hA : ItmPt w0 pa ca A) (hcs : cs.toList = itmC pa ca A) : ItmsAt w (.slice (some ⟨b, 0, none⟩) 1 1) [A] := by
  refine ⟨some ⟨b, 0, none⟩, 1, rfl, by simp, by unfold maxLen; omega, fun i hi => ⟨b, 0, rfl, ?_⟩⟩
  have h0 : i = 0 := by simpa using hi
  subst h0
  have hA' := hA.below hL.below
  refine ⟨pa, ca, fun j v hj => ?_, hA'.1, hA'.2.1, hA'.2.2⟩
  rw [Nat.zero_mul, Nat.zero_add, hL.cell k, ← Array.getElem?_toList, hcs]
  exact hj
theorem items_two {A B : Itm} {pa ca pb cb : Value} (hA : ItmPt w0 pa ca A) (hB : ItmPt w0 pb cb B) (hcs : cs.toList = itmC pa ca A ++ itmC pb cb B) : ItmsAt w (.slice (some ⟨b, 0, none⟩) 2 2) [A, B] := by
  have lA : (itmC pa ca A).length = 21 := rfl
  refine ⟨some ⟨b, 0, none⟩, 2, rfl, by simp, by unfold maxLen; omega, fun i hi => ⟨b, 0, rfl, ?_⟩⟩
  have hi2 : i < 2 := hi
  have hA' := hA.below hL.below
  have hB' := hB.below hL.below
  rcases (show i = 0 ∨ i = 1 by omega) with rfl | rfl
  · refine ⟨pa, ca, fun j v hj => ?_, hA'.1, hA'.2.1, hA'.2.2⟩
    rw [Nat.zero_mul, Nat.zero_add, hL.cell k, ← Array.getElem?_toList, hcs]
    have hj' : (itmC pa ca A)[j]? = some v := hj
    have hjl : j < (itmC pa ca A).length := by
      by_cases h : j < (itmC pa ca A).length
      · exact h
      · rw [List.getElem?_eq_none (by omega)] at hj'; cases hj'
    rw [List.getElem?_append_left hjl]
    exact hj
  · refine ⟨pb, cb, fun j v hj => ?_, hB'.1, hB'.2.1, hB'.2.2⟩
    rw [hL.cell k, ← Array.getElem?_toList, hcs, List.getElem?_append_right (by rw [lA]; omega), lA]
    rw [show 0 + 1 * 21 + j - 21 = j by omega]
    exact hj
end
/-- a page that is there, its bytes by a list -/
theorem pgB_ok {l : List Itm} {Wi Hi : Int} (h : paintErr l Wi Hi = 0) : pgB l Wi Hi = (List.range (3 * Wi.toNat * Hi.toNat)).map (paintL Wi.toNat l) := by unfold pgB; rw [if_pos h]
theorem pgB_eq {l m : List Itm} {W H : Nat} (h : paintErr l W H = 0) (k : paintErr m W H = 0) (e : ∀ n, n < 3 * W * H → paintL W l n = paintL W m n) : pgB l W H = pgB m W H := by
  rw [pgB_ok h, pgB_ok k]
  apply List.map_congr_left
  intro n hn
  rw [Int.toNat_natCast] at *
  exact e n (by simpa using hn)
theorem pgW_eq {l m : List Itm} {Wi Hi v : Int} (h : paintErr l Wi Hi = paintErr m Wi Hi) : pgW l Wi Hi v = pgW m Wi Hi v := by unfold pgW; rw [h]
/-- what Paint says where there is a page -/
def PgOk (l : List Itm) (W H : Nat) (w : World) (e : Ending) (w' : World) : Prop :=
  ∃ a n c, e = .returned (.tuple #[.agg #[.int .i64 W, .int .i64 H, .slice a n c], .int .i64 0]) ∧ Below w.heap.size w w' ∧ Fresh w w' (fun w => BytesAt w (.slice a n c) (pgB l W H))
theorem PaintOut.ok {l : List Itm} {W H : Nat} {w : World} {e : Ending} {w' : World} (h : PaintOut l W H w e w') (h0 : paintErr l W H = 0) : PgOk l W H w e w' := by
  obtain ⟨a, n, c, rfl, hb, hf⟩ := h.any
  unfold pgW at *
  rw [if_pos h0, if_pos h0, h0]
  exact ⟨a, n, c, rfl, hb, hf⟩
/-- what it says where there may be none -/
theorem PaintOut.some {l : List Itm} {Wi Hi : Int} {w : World} {e : Ending} {w' : World} (h : PaintOut l Wi Hi w e w') : ∃ a b c n d, e = .returned (.tuple #[.agg #[.int .i64 a, .int .i64 b, .slice c n d], .int .i64 (paintErr l Wi Hi)]) ∧ Below w.heap.size w w' := by
  obtain ⟨a, n, c, rfl, hb, _⟩ := h.any
  exact ⟨_, _, a, n, c, rfl, hb⟩
theorem byte_pix {W H n : Nat} (hW : 0 < W) (h : n < 3 * W * H) : n / 3 / W < H ∧ n / 3 % W < W := by
  refine ⟨?_, Nat.mod_lt _ hW⟩
  rw [Nat.div_div_eq_div_mul]
  exact Nat.div_lt_of_lt_mul h
/-- marks that share no pixel -/
theorem apart_pg {A B : Itm} {W H : Nat} (hW : 0 < W) (h : paintErr [A, B] W H = 0) (c : pixCount W (fun j i => markP A j i && markP B j i) H = 0) : pgB [B, A] W H = pgB [A, B] W H := by
  refine pgB_eq (by rw [paintErr_swap]; exact h) h fun n hn => ?_
  obtain ⟨hj, hi⟩ := byte_pix hW hn
  have hz := pixCount_zero c _ hj _ hi
  exact (paintI_apart (a := A) (b := B) (f := fun _ => 255) hz).symm
/-- ink that is none -/
def clearI (A : Itm) : Itm := { A with ink := { A.ink with a := 0 } }
theorem clear_err (A B : Itm) (Wi Hi : Int) : paintErr [B, clearI A] Wi Hi = paintErr [B, A] Wi Hi := rfl
theorem clear_pg {A B : Itm} {W H : Nat} (h : paintErr [A, B] W H = 0) (hk : A.kind ≠ 3) : pgB [B, clearI A] W H = pgB [B] W H := by
  refine pgB_eq (by rw [clear_err, paintErr_swap]; exact h) (paintErr_one h).2 fun n _ => ?_
  exact paintI_clear (i := clearI A) hk rfl
theorem ItmPt.clear {w : World} {vp vc : Value} {A : Itm} (h : ItmPt w vp vc A) : ItmPt w vp vc (clearI A) := by
  refine ⟨h.1, h.2.1, h.2.2.1, ?_⟩
  have := h.2.2.2
  exact ⟨this.1, this.2.1, this.2.2.1, by show (0 : Int) ≤ 0 ∧ (0 : Int) ≤ 255; omega⟩
end Go.Proofs.YtmnoeoecjfhhbaaGreat
