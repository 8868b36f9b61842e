/- Package cover: Has, of masks that are said pixel by pixel; a literal of five; Mask with given sides. -/
import Derived.Test.YtfnolaoohmecbaaMkdM
import Derived.Deep.RegionWith
import Derived.Deep.RegionHeld3
import Derived.Laws.BytesArg
import Derived.Test.YtfnolaoohmecbaaTrnM
import Derived.Laws.CopyOwn
namespace Go.Proofs.Ytfnolaoohmecbaa
open Go.RowKit

structure Sides (W H : Nat) : Prop where
  w0 : 1 ≤ W
  w1 : W ≤ 64
  h0 : 1 ≤ H
  h1 : H ≤ 64
/-- a fact that stands in the list -/
def FactAt (Φ : List (World → Prop)) (φ : World → Prop) : Prop := φ ∈ Φ
theorem FactAt.here {Φ : List (World → Prop)} {φ : World → Prop} : FactAt (φ :: Φ) φ := List.mem_cons_self
theorem FactAt.there {Φ : List (World → Prop)} {φ ψ : World → Prop} (h : FactAt Φ φ) : FactAt (ψ :: Φ) φ := List.mem_cons_of_mem _ h
theorem mul_le100 {x y : Int} (h1 : 0 ≤ x) (h2 : x ≤ 100) (h3 : 0 ≤ y) (h4 : y ≤ 100) : 0 ≤ x * y ∧ x * y ≤ 10000 :=
  ⟨Int.mul_nonneg h1 h3, by have := Int.mul_le_mul h2 h4 h3 (by omega : (0 : Int) ≤ 100); omega⟩
def isSide (n : Int) : Bool := decide (1 ≤ n) && decide (n ≤ 64)
theorem side_nat {W : Nat} (h0 : 1 ≤ W) (h1 : W ≤ 64) : isSide (W : Int) = true := by
  simp [isSide]; omega
theorem all_take_step {α : Type} (p : α → Bool) (l : List α) (k : Nat) (d : α) (h : k < l.length) : (l.take (k + 1)).all p = ((l.take k).all p && p (l.getD k d)) := by
  rw [List.take_succ_eq_append_getElem h, List.all_append]
  simp [h]
theorem all_take_false {α : Type} (p : α → Bool) (l : List α) (k : Nat) (h : (l.take k).all p = false) : l.all p = false := by
  rw [← List.take_append_drop k l, List.all_append, h]; rfl
/-- n bytes as cells -/
def arrU (n : Nat) (p : Nat → Int) : Array Value := ((List.range n).map (fun i => Value.int .u8 (p i))).toArray
theorem arrU_size (n : Nat) (p : Nat → Int) : (arrU n p).size = n := by simp [arrU]
theorem arrU_get {n : Nat} (p : Nat → Int) {i : Nat} (h : i < n) : (arrU n p)[i]? = some (.int .u8 (p i)) := by
  simp [arrU, h]
theorem arrU_set {n : Nat} (p : Nat → Int) (b : Int) {i : Nat} (h : i < n) : (arrU n p).setIfInBounds i (.int .u8 b) = arrU n (fun j => if j = i then b else p j) := by
  apply Array.ext_getElem?
  intro j
  rw [Array.getElem?_setIfInBounds]
  by_cases hj : i = j
  · subst hj; rw [if_pos rfl, if_pos (by rw [arrU_size]; exact h), arrU_get _ h]; simp
  · rw [if_neg hj]
    by_cases h64 : j < n
    · rw [arrU_get _ h64, arrU_get _ h64, if_neg (fun e => hj e.symm)]
    · rw [Array.getElem?_eq_none (by rw [arrU_size]; omega), Array.getElem?_eq_none (by rw [arrU_size]; omega)]
theorem arrU_congr {n : Nat} {p q : Nat → Int} (h : ∀ i, i < n → p i = q i) : arrU n p = arrU n q := by
  apply Array.ext_getElem?
  intro j
  by_cases h64 : j < n
  · rw [arrU_get _ h64, arrU_get _ h64, h j h64]
  · rw [Array.getElem?_eq_none (by rw [arrU_size]; omega), Array.getElem?_eq_none (by rw [arrU_size]; omega)]
theorem arrU_zero (n : Nat) : (List.replicate n (Value.int .u8 0)).toArray = arrU n (fun _ => 0) := by
  apply Array.ext_getElem?
  intro j
  by_cases h : j < n
  · rw [arrU_get _ h]; simp [h]
  · rw [Array.getElem?_eq_none (by simp; omega), Array.getElem?_eq_none (by rw [arrU_size]; omega)]
attribute [irreducible] arrU

/-- a mask, as a list of bytes -/
structure Msk where
  W : Int
  H : Int
  B : List Int
def BytesAt (w : World) (v : Value) (l : List Int) : Prop := SliceAt w 1 v (l.map fun n => [.int .u8 n])
def MaskAt (w : World) (v : Value) (m : Msk) : Prop := ∃ s, v = .agg #[.int .i64 m.W, .int .i64 m.H, s] ∧ BytesAt w s m.B
theorem BytesAt.parts {w : World} {s : Value} {l : List Int} (h : BytesAt w s l) :
    ∃ a cap, s = .slice a l.length cap ∧ l.length ≤ cap ∧ cap ≤ maxLen ∧ ∀ i, i < l.length → ∃ b o, a = some ⟨b, o, none⟩ ∧ w.cell? ⟨b, o + i, none⟩ = some (.int .u8 (l.getD i 0)) := by
  obtain ⟨a, cap, h2, h3, h4, h5⟩ := h
  simp only [List.length_map] at h2 h3 h5
  refine ⟨a, cap, h2, h3, h4, fun i hi => ?_⟩
  obtain ⟨b, o, e, hr⟩ := h5 i hi
  refine ⟨b, o, e, ?_⟩
  have := hr 0 (.int .u8 (l.getD i 0)) (by simp [hi])
  simpa using this
theorem MaskAt.below {w w' : World} {v : Value} {m : Msk} (h : MaskAt w v m) (hb : Below w.heap.size w w') : MaskAt w' v m := by
  obtain ⟨s, h1, h2⟩ := h; exact ⟨s, h1, SliceAt.below h2 hb⟩
theorem MaskAt.hold {w0 w : World} {M : List Res} {Φ : List (World → Prop)} {v : Value} {m : Msk} (h : MaskAt w0 v m) (hL : Holds w0 w M Φ) : MaskAt w v m := h.below hL.below
theorem MaskAt.shape {w : World} {v : Value} {m : Msk} (h : MaskAt w v m) : ∃ sa sc, v = .agg #[.int .i64 m.W, .int .i64 m.H, .slice sa m.B.length sc] ∧ m.B.length ≤ sc ∧ sc ≤ maxLen ∧ BytesAt w (.slice sa m.B.length sc) m.B := by
  obtain ⟨s, rfl, h2⟩ := h
  obtain ⟨a, cap, rfl, h3, h4, _⟩ := h2.parts
  exact ⟨a, cap, rfl, h3, h4, h2⟩

/-- may a mask be? -/
def mayMask (m : Msk) : Bool := isSide m.W && (isSide m.H && (decide ((m.B.length : Int) = m.W * m.H) && m.B.all fun b => decide (b ≤ 1)))

theorem side_mul {W H : Int} (h1 : isSide W = true) (h2 : isSide H = true) : 1 ≤ W ∧ W ≤ 64 ∧ 1 ≤ H ∧ H ≤ 64 ∧ 0 ≤ W * H ∧ W * H ≤ 10000 := by
  simp [isSide] at h1 h2
  obtain ⟨a, b⟩ := mul_le100 (x := W) (y := H) (by omega) (by omega) (by omega) (by omega)
  exact ⟨h1.1, h1.2, h2.1, h2.2, a, b⟩

/-- a region's mask -/
def pixMask (W H : Nat) (q : Nat → Nat → Bool) : Msk := ⟨W, H, (List.range (W * H)).map fun k => if q (k / W) (k % W) then 1 else 0⟩
theorem run_makeU {n : Nat} (hn : n ≤ 10000) {L : Int} (hL : L = (n : Int)) (w : World) :
    (Instr.makeSlice 41 (.int .i64 L) (.int .i64 L)).run Try.prog w = .ok (.slice (some ⟨w.heap.size, 0, none⟩) n n) (w.alloc (.cells (arrU n fun _ => 0) 5)) := by
  have hS : SliceT Try.prog 41 5 := inferInstance
  have hE : ElemT Try.prog 5 1 1 (.int .u8 0) := inferInstance
  obtain ⟨i, hi1, hi2, hi3, hi4⟩ := info_parts hE.info
  subst hL
  have hb' : (i.bytes : Int) * (n : Int) ≤ 281474976710656 := by rw [hi4]; omega
  have hrun := run_make (P := Try.prog) w _ _ i _ hS.out hi1 hi2 .i64 .i64 (n : Int) (n : Int) (by omega) (Int.le_refl _) hb' (by omega)
  simp only [Int.toNat_natCast, hi3, Nat.mul_one, Value.cells, madeCells_one, arrU_zero] at hrun
  exact hrun
theorem divmod_eq {W i j x : Nat} (hi : i < W) : x = j * W + i ↔ x / W = j ∧ x % W = i := by
  constructor
  · rintro rfl
    rw [Nat.mul_comm, Nat.mul_add_div (by omega), Nat.mul_add_mod, Nat.div_eq_of_lt hi, Nat.mod_eq_of_lt hi]
    exact ⟨by omega, rfl⟩
  · rintro ⟨h1, h2⟩
    have := Nat.div_add_mod x W
    rw [h1, h2, Nat.mul_comm] at this
    exact this.symm
theorem bytes_of {w : World} {b n : Nat} {f : Nat → Int} {T : TypeId} (hb : w.heap[b]? = some (.cells (arrU n f) T (0, 0))) (hm : n ≤ maxLen) : BytesAt w (.slice (some ⟨b, 0, none⟩) n n) ((List.range n).map f) := by
  refine ⟨_, n, by simp, by simp, hm, fun i hi => ⟨b, 0, rfl, fun j v hj => ?_⟩⟩
  simp at hi
  rcases j with _ | j
  · rw [cell_of_row w b _ (arrU n f) T (0, 0) hb]
    simp at hj
    simp only [Nat.zero_add, Nat.mul_one, Nat.add_zero]
    rw [arrU_get _ hi, hj]
  · simp at hj
def bit (b : Bool) : Int := if b then 1 else 0
theorem idx_lt {W H j i : Nat} (hj : j < H) (hi : i < W) : j * W + i < W * H := by
  have := Nat.mul_le_mul_right W (show j + 1 ≤ H by omega)
  rw [Nat.add_mul, Nat.mul_comm H W] at this
  omega
theorem pixMask_get {W H j i : Nat} (q : Nat → Nat → Bool) (hj : j < H) (hi : i < W) : (pixMask W H q).B.getD (j * W + i) 0 = bit (q j i) := by
  have h := idx_lt hj hi
  obtain ⟨h1, h2⟩ := (divmod_eq (W := W) (i := i) (j := j) (x := j * W + i) hi).1 rfl
  simp [pixMask, h, h1, h2, bit]
theorem mask_may {W H : Nat} (hs : Sides W H) (q : Nat → Nat → Bool) : mayMask (pixMask W H q) = true := by
  simp only [mayMask, pixMask, side_nat hs.w0 hs.w1, side_nat hs.h0 hs.h1, Bool.true_and, Bool.and_eq_true]
  refine ⟨by simp, ?_⟩
  simp only [List.all_eq_true, List.mem_map]
  rintro l ⟨j, _, rfl⟩
  split <;> simp
open Go.RowKit

def MaskF (v : Value) (m : Msk) (w : World) : Prop := MaskAt w v m
theorem Holds.mask {w0 w : World} {M : List Res} {Φ : List (World → Prop)} {v : Value} {m : Msk} (hL : Holds w0 w M Φ) (h : FactAt Φ (MaskF v m)) : MaskAt w v m := hL.fact h
theorem MaskAt.bytes {w : World} {W H : Nat} {ma : Option Addr} {q : Nat → Nat → Bool} (h : MaskAt w (.agg #[.int .i64 W, .int .i64 H, .slice ma (W * H) (W * H)]) (pixMask W H q)) : BytesAt w (.slice ma (W * H) (W * H)) (pixMask W H q).B := by
  obtain ⟨s, hv, hB⟩ := h
  simp at hv
  obtain ⟨_, _, rfl⟩ := hv
  exact hB
theorem mask_bounds {W H : Nat} (hs : Sides W H) : 1 ≤ W * H ∧ W * H ≤ 4096 ∧ ((W * H : Nat) : Int) = (W : Int) * (H : Int) :=
  ⟨Nat.mul_pos hs.w0 hs.h0, Nat.mul_le_mul hs.w1 hs.h1, by simp⟩
theorem BytesAt.hold {w0 w : World} {M : List Res} {Φ : List (World → Prop)} {v : Value} {l : List Int} (h : BytesAt w0 v l) (hL : Holds w0 w M Φ) : BytesAt w v l := SliceAt.below h hL.below

def MaskOut (W H : Nat) (q : Nat → Nat → Bool) (w : World) (e : Ending) (w' : World) : Prop :=
  ∃ ma, e = .returned (.tuple #[.agg #[.int .i64 W, .int .i64 H, .slice ma (W * H) (W * H)], .int .i64 0]) ∧ Below w.heap.size w w' ∧ Fresh w w' (MaskF (.agg #[.int .i64 W, .int .i64 H, .slice ma (W * H) (W * H)]) (pixMask W H q))
open Go.RowKit

theorem makeU {w0 w : World} {M : List Res} {Φ : List (World → Prop)} {K2 : Value → World → Prop} {L : Int} (n : Nat) (hn : n ≤ 10000) (hLn : L = (n : Int)) (hL : Holds w0 w M Φ)
    (h : ∀ b w', Holds w0 w' (blk b (arrU n fun _ => 0) 5 :: M) Φ → K2 (.slice (some ⟨b, 0, none⟩) n n) w') : MakeAt Try.prog 41 L w K2 :=
  ⟨_, _, run_makeU hn hLn w, h _ _ (hL.alloc _ _)⟩
def maskF (W : Nat) (P : Nat → Nat → Bool) (k : Nat) : Int := bit (P (k / W) (k % W))
open Go.RowKit

/-! the same with sides that are numbers -/
section
variable {W H : Nat} {Wi Hi : Int} {n : Nat}
end
end Go.Proofs.Ytfnolaoohmecbaa
