/- What the functions on rows return, said place by place. -/
import Derived.Test.YtjgnbmgdnfldeaaPixC
namespace Go.Proofs.Ytjgnbmgdnfldeaa
open Go.RowKit

def RunsF (v : Value) (l : List (Int × Int)) (w : World) : Prop := RunsAt w v l
theorem Holds.runs {w0 w : World} {M : List Res} {Φ : List (World → Prop)} {v : Value} {l : List (Int × Int)} (hL : Holds w0 w M Φ) (h : FactAt Φ (RunsF v l)) : RunsAt w v l := hL.fact h
/-- a new row is returned -/
def RowOut (l : List (Int × Int)) (w : World) (e : Ending) (w' : World) : Prop :=
  ∃ sa sn sc, e = .returned (.slice sa sn sc) ∧ Below w.heap.size w w' ∧ Fresh w w' (RunsF (.slice sa sn sc) l)
theorem RowOut.of {l l' : List (Int × Int)} {w : World} {e : Ending} {w' : World} (h : RunsOut l w e w') (hl : l = l') : RowOut l' w e w' := by
  subst hl
  obtain ⟨v, rfl, hb, hf⟩ := h
  obtain ⟨sa, sn, sc, rfl⟩ := SliceAt.shape hf.now
  exact ⟨sa, sn, sc, rfl, hb, hf⟩
theorem rowsOp_runsTo (h : Bool → Bool → Bool) (h0 : h false false = false) {W : Nat} (hW : W ≤ 64) (p q : Nat → Bool) : rowsOp h (runsTo p W) (runsTo q W) = runsTo (fun i => h (p i) (q i)) W := by
  unfold rowsOp
  rw [runsTo_beyond (n := W) hW]
  · refine runsTo_congr fun i hi => ?_
    rw [inRuns_runsTo _ hW, inRuns_runsTo _ hW]
    simp [hi]
  · intro i h1 _
    rw [inRuns_runsTo _ hW, inRuns_runsTo _ hW]
    have : ¬ i < W := by omega
    simp [this, h0]
theorem notRow_runsTo {W : Nat} (hW : W ≤ 64) (p : Nat → Bool) : notRow (runsTo p W) W = runsTo (fun i => !p i) W := by
  unfold notRow
  have hc : cutI (W : Int) = W := by unfold cutI; omega
  rw [runsTo_beyond (n := W) hW]
  · refine runsTo_congr fun i hi => ?_
    rw [inRuns_runsTo _ hW, hc]
    have : inRuns [(0, (W : Int))] i = true := by simp [inRuns, inRun]; omega
    simp [hi, this]
  · intro i h1 _
    rw [hc]
    have : inRuns [(0, (W : Int))] i = false := by simp [inRuns, inRun]; omega
    rw [this]; rfl
section
variable {W : Nat} (hW : W ≤ 64)
include hW
theorem rowJoin_calls (w : World) (a b : Value) (p q : Nat → Bool) (ha : RunsAt w a (runsTo p W)) (hb : RunsAt w b (runsTo q W)) : Calls Try.prog 22 #[a, b] w (RowOut (runsTo (fun i => p i || q i) W) w) :=
  (spanJoin_calls w a b _ _ ha hb).mono fun _ _ h => .of h (rowsOp_runsTo (fun x y => x || y) rfl hW p q)
theorem rowMeet_calls (w : World) (a b : Value) (p q : Nat → Bool) (ha : RunsAt w a (runsTo p W)) (hb : RunsAt w b (runsTo q W)) : Calls Try.prog 23 #[a, b] w (RowOut (runsTo (fun i => p i && q i) W) w) :=
  (spanMeet_calls w a b _ _ ha hb).mono fun _ _ h => .of h (rowsOp_runsTo (fun x y => x && y) rfl hW p q)
theorem rowLess_calls (w : World) (a b : Value) (p q : Nat → Bool) (ha : RunsAt w a (runsTo p W)) (hb : RunsAt w b (runsTo q W)) : Calls Try.prog 24 #[a, b] w (RowOut (runsTo (fun i => p i && !q i) W) w) :=
  (spanLess_calls w a b _ _ ha hb).mono fun _ _ h => .of h (rowsOp_runsTo (fun x y => x && !y) rfl hW p q)
theorem rowOther_calls (w : World) (a b : Value) (p q : Nat → Bool) (ha : RunsAt w a (runsTo p W)) (hb : RunsAt w b (runsTo q W)) : Calls Try.prog 25 #[a, b] w (RowOut (runsTo (fun i => p i != q i) W) w) :=
  (spanOther_calls w a b _ _ ha hb).mono fun _ _ h => .of h (rowsOp_runsTo (fun x y => x != y) rfl hW p q)
theorem rowNot_calls (w : World) (a : Value) (p : Nat → Bool) (ha : RunsAt w a (runsTo p W)) : Calls Try.prog 26 #[a, .int .i64 W] w (RowOut (runsTo (fun i => !p i) W) w) :=
  (spanNot_calls w a _ ha W).mono fun _ _ h => .of h (notRow_runsTo hW p)
end
theorem rowSame_calls (w : World) (a b : Value) (l : List (Int × Int)) (ha : RunsAt w a l) (hb : RunsAt w b l) : Calls Try.prog 21 #[a, b] w fun e w' => e = .returned (.bool true) ∧ Below w.heap.size w w' :=
  (same_calls w a b l l ha hb).mono fun _ _ h => by simpa using h

/-- a region's row -/
theorem regRow {w : World} {W H : Nat} {q : Nat → Nat → Bool} {sa : Option Addr} {sn sc : Nat} (h : RegAt w (.agg #[.int .i64 W, .int .i64 H, .slice sa sn sc]) (pixReg W H q)) :
    sn = H ∧ ∀ y, y < H → ∃ b o va vn vc, sa = some ⟨b, o, none⟩ ∧ w.cell? ⟨b, o + y, none⟩ = some (.slice va vn vc) ∧ RunsAt w (.slice va vn vc) (runsTo (q y) W) := by
  obtain ⟨s, hv, hs⟩ := h
  simp at hv
  obtain ⟨_, _, rfl⟩ := hv
  obtain ⟨a, cap, e, _, _, he⟩ := hs.parts
  have hl : (pixReg W H q).rows.length = H := by simp [pixReg]
  rw [hl] at e he
  simp at e
  obtain ⟨rfl, rfl, rfl⟩ := e
  refine ⟨rfl, fun y hy => ?_⟩
  obtain ⟨b, o, rfl, va, vn, vc, hc, hr⟩ := he y hy
  rw [pix_row q hy] at hr
  exact ⟨b, o, va, vn, vc, rfl, hc, hr⟩
/-- the same, with the rows' number -/
def PixOutH (W H : Nat) (q : Nat → Nat → Bool) (w : World) (e : Ending) (w' : World) : Prop :=
  ∃ sa sc, e = .returned (.tuple #[.agg #[.int .i64 W, .int .i64 H, .slice sa H sc], .int .i64 0]) ∧ Below w.heap.size w w' ∧ Fresh w w' (RegF (.agg #[.int .i64 W, .int .i64 H, .slice sa H sc]) (pixReg W H q))
theorem PixOut.len {W H : Nat} {q : Nat → Nat → Bool} {w : World} {e : Ending} {w' : World} (h : PixOut W H q w e w') : PixOutH W H q w e w' := by
  obtain ⟨sa, sn, sc, rfl, hb, hf⟩ := h
  obtain ⟨rfl, _⟩ := regRow hf.now
  exact ⟨sa, sc, rfl, hb, hf⟩
theorem pixMadeH_calls {W H : Nat} (w : World) (v : Value) (ns : List Int) (hn : NumsAt w v ns) (hW : W ≤ 12) (hH : H ≤ 12) :
    Calls Try.prog 14 #[v, .int .i64 W, .int .i64 H] w fun e w' => ∃ q sa sc, e = .returned (.agg #[.int .i64 W, .int .i64 H, .slice sa H sc]) ∧ Below w.heap.size w w' ∧ Fresh w w' (RegF (.agg #[.int .i64 W, .int .i64 H, .slice sa H sc]) (pixReg W H q)) := by
  refine (pixMade_calls w v ns hn hW hH).mono ?_
  rintro e w' ⟨q, sa, sn, sc, rfl, hb, hf⟩
  obtain ⟨rfl, _⟩ := regRow hf.now
  exact ⟨q, sa, sc, rfl, hb, hf⟩
end Go.Proofs.Ytjgnbmgdnfldeaa
