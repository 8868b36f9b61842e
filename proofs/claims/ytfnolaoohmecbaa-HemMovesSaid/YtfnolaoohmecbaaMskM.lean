/- Package cover: Has, of masks that are said pixel by pixel; a literal of five; Mask with given sides. -/
import Derived.Test.YtfnolaoohmecbaaMkdM
import Derived.Deep.RegionWith
import Derived.Deep.RegionHeld3
import Derived.Laws.BytesArg
import Derived.Test.YtfnolaoohmecbaaTrnM
import Derived.Laws.CopyOwn
namespace Go.Proofs.Ytfnolaoohmecbaa
open Go.RowKit

structure Sides (W H : Nat) : Prop where
  w0 : 1 ≤ W
  w1 : W ≤ 64
  h0 : 1 ≤ H
  h1 : H ≤ 64
/-- a fact that stands in the list -/
def FactAt (Φ : List (World → Prop)) (φ : World → Prop) : Prop := φ ∈ Φ
theorem FactAt.here {Φ : List (World → Prop)} {φ : World → Prop} : FactAt (φ :: Φ) φ := List.mem_cons_self
theorem FactAt.there {Φ : List (World → Prop)} {φ ψ : World → Prop} (h : FactAt Φ φ) : FactAt (ψ :: Φ) φ := List.mem_cons_of_mem _ h
def isSide (n : Int) : Bool := decide (1 ≤ n) && decide (n ≤ 64)
theorem side_nat {W : Nat} (h0 : 1 ≤ W) (h1 : W ≤ 64) : isSide (W : Int) = true := by
  simp [isSide]; omega
theorem all_take_step {α : Type} (p : α → Bool) (l : List α) (k : Nat) (d : α) (h : k < l.length) : (l.take (k + 1)).all p = ((l.take k).all p && p (l.getD k d)) := by
  rw [List.take_succ_eq_append_getElem h, List.all_append]
  simp [h]
theorem all_take_false {α : Type} (p : α → Bool) (l : List α) (k : Nat) (h : (l.take k).all p = false) : l.all p = false := by
  rw [← List.take_append_drop k l, List.all_append, h]; rfl
/-- n bytes as cells -/
def arrU (n : Nat) (p : Nat → Int) : Array Value := ((List.range n).map (fun i => Value.int .u8 (p i))).toArray
theorem arrU_size (n : Nat) (p : Nat → Int) : (arrU n p).size = n := by simp [arrU]
theorem arrU_get {n : Nat} (p : Nat → Int) {i : Nat} (h : i < n) : (arrU n p)[i]? = some (.int .u8 (p i)) := by
  simp [arrU, h]
theorem arrU_set {n : Nat} (p : Nat → Int) (b : Int) {i : Nat} (h : i < n) : (arrU n p).setIfInBounds i (.int .u8 b) = arrU n (fun j => if j = i then b else p j) := by
  apply Array.ext_getElem?
  intro j
  rw [Array.getElem?_setIfInBounds]
  by_cases hj : i = j
  · subst hj; rw [if_pos rfl, if_pos (by rw [arrU_size]; exact h), arrU_get _ h]; simp
  · rw [if_neg hj]
    by_cases h64 : j < n
    · rw [arrU_get _ h64, arrU_get _ h64, if_neg (fun e => hj e.symm)]
    · rw [Array.getElem?_eq_none (by rw [arrU_size]; omega), Array.getElem?_eq_none (by rw [arrU_size]; omega)]
attribute [irreducible] arrU

/-- a mask, as a list of bytes -/
structure Msk where
  W : Int
  H : Int
  B : List Int
def BytesAt (w : World) (v : Value) (l : List Int) : Prop := SliceAt w 1 v (l.map fun n => [.int .u8 n])
def MaskAt (w : World) (v : Value) (m : Msk) : Prop := ∃ s, v = .agg #[.int .i64 m.W, .int .i64 m.H, s] ∧ BytesAt w s m.B
theorem BytesAt.parts {w : World} {s : Value} {l : List Int} (h : BytesAt w s l) :
    ∃ a cap, s = .slice a l.length cap ∧ l.length ≤ cap ∧ cap ≤ maxLen ∧ ∀ i, i < l.length → ∃ b o, a = some ⟨b, o, none⟩ ∧ w.cell? ⟨b, o + i, none⟩ = some (.int .u8 (l.getD i 0)) := by
  obtain ⟨a, cap, h2, h3, h4, h5⟩ := h
  simp only [List.length_map] at h2 h3 h5
  refine ⟨a, cap, h2, h3, h4, fun i hi => ?_⟩
  obtain ⟨b, o, e, hr⟩ := h5 i hi
  refine ⟨b, o, e, ?_⟩
  have := hr 0 (.int .u8 (l.getD i 0)) (by simp [hi])
  simpa using this
theorem MaskAt.below {w w' : World} {v : Value} {m : Msk} (h : MaskAt w v m) (hb : Below w.heap.size w w') : MaskAt w' v m := by
  obtain ⟨s, h1, h2⟩ := h; exact ⟨s, h1, SliceAt.below h2 hb⟩
theorem MaskAt.hold {w0 w : World} {M : List Res} {Φ : List (World → Prop)} {v : Value} {m : Msk} (h : MaskAt w0 v m) (hL : Holds w0 w M Φ) : MaskAt w v m := h.below hL.below
theorem MaskAt.shape {w : World} {v : Value} {m : Msk} (h : MaskAt w v m) : ∃ sa sc, v = .agg #[.int .i64 m.W, .int .i64 m.H, .slice sa m.B.length sc] ∧ m.B.length ≤ sc ∧ sc ≤ maxLen ∧ BytesAt w (.slice sa m.B.length sc) m.B := by
  obtain ⟨s, rfl, h2⟩ := h
  obtain ⟨a, cap, rfl, h3, h4, _⟩ := h2.parts
  exact ⟨a, cap, rfl, h3, h4, h2⟩

/-- a region's mask -/
def pixMask (W H : Nat) (q : Nat → Nat → Bool) : Msk := ⟨W, H, (List.range (W * H)).map fun k => if q (k / W) (k % W) then 1 else 0⟩
open Go.RowKit

def MaskF (v : Value) (m : Msk) (w : World) : Prop := MaskAt w v m
theorem Holds.mask {w0 w : World} {M : List Res} {Φ : List (World → Prop)} {v : Value} {m : Msk} (hL : Holds w0 w M Φ) (h : FactAt Φ (MaskF v m)) : MaskAt w v m := hL.fact h
theorem MaskAt.bytes {w : World} {W H : Nat} {ma : Option Addr} {q : Nat → Nat → Bool} (h : MaskAt w (.agg #[.int .i64 W, .int .i64 H, .slice ma (W * H) (W * H)]) (pixMask W H q)) : BytesAt w (.slice ma (W * H) (W * H)) (pixMask W H q).B := by
  obtain ⟨s, hv, hB⟩ := h
  simp at hv
  obtain ⟨_, _, rfl⟩ := hv
  exact hB
theorem BytesAt.hold {w0 w : World} {M : List Res} {Φ : List (World → Prop)} {v : Value} {l : List Int} (h : BytesAt w0 v l) (hL : Holds w0 w M Φ) : BytesAt w v l := SliceAt.below h hL.below

open Go.RowKit

open Go.RowKit

/-- is a place's pixel in? -/
def atPix (W H : Nat) (p : Nat → Nat → Bool) (i j : Int) : Bool := decide (0 ≤ i) && (decide (i < W) && (decide (0 ≤ j) && (decide (j < H) && p j.toNat i.toNat)))
/-! the same with sides that are numbers -/
section
variable {W H : Nat} {Wi Hi : Int} {n : Nat}
end
end Go.Proofs.Ytfnolaoohmecbaa
