/- Laws of strokes: what they share. -/
import Derived.Test.YtfnolaoohmecbaaHmK
import Derived.Test.YtfnolaoohmecbaaHmV2
-- lit6
namespace Go.Proofs.Ytfnolaoohmecbaa
open Go.RowKit

theorem madeF_straight : ∀ (f : Nat) (p : List Sg) (n : List Int), (∀ s ∈ p, s.kind ≠ 3) → ∀ s ∈ madeF false f p n, s.kind ≠ 3
  | 0, p, n, h => h
  | f + 1, p, n, h => by
    unfold madeF
    split
    · exact h
    · refine madeF_straight f _ _ fun s hs => ?_
      rcases List.mem_append.1 hs with hs | hs
      · exact h s hs
      · rw [List.mem_singleton.1 hs]
        unfold segP
        split
        · simp
        · split
          · simp
          · split
            · rename_i hx; simp at hx
            · simp
theorem made_straight (n : List Int) : straightS (madeS n false) = true := by
  unfold straightS
  rw [made_may, Bool.true_and, List.all_eq_true]
  intro s hs
  simpa using madeF_straight 12 [] n (by simp) s hs
/-- is a line's place covered? -/
def lineB (l : List Sg) (s : Sty) (y : Int) (i : Nat) : Bool := covL (allS l s) (16 * (i : Int) + 8) y
theorem strokeS_ok {l : List Sg} {s : Sty} {y : Int} {W : Nat} (h1 : straightS l = true) (h2 : mayY s = true) (h3 : -8191 ≤ y ∧ y ≤ 8191) (h4 : W ≤ 64) : strokeS l s y W = runsTo (lineB l s y) W := by
  unfold strokeS
  rw [if_pos (by unfold lineOkS near1; rw [h1, h2]; simp; omega), Int.toNat_natCast]
  rfl
theorem runs_both (f : Bool → Bool → Bool) (hf : f false false = false) (p q : Nat → Bool) {n : Nat} (hn : n ≤ 64) : runsTo (fun i => f (inRuns (runsTo p n) i) (inRuns (runsTo q n) i)) 64 = runsTo (fun i => f (p i) (q i)) n := by
  rw [runsTo_beyond hn fun i h1 h2 => by rw [inRuns_runsTo p hn, inRuns_runsTo q hn]; simp [show ¬ i < n by omega, hf]]
  refine runsTo_congr fun i hi => ?_
  rw [inRuns_runsTo p hn, inRuns_runsTo q hn]
  simp [hi]
def LnF (v : Value) (P : Nat → Bool) (n : Nat) (w : World) : Prop := RunsAt w v (runsTo P n)
def LnOut (P : Nat → Bool) (n : Nat) (w : World) (e : Ending) (w' : World) : Prop := ∃ v, e = .returned v ∧ Below w.heap.size w w' ∧ Fresh w w' (LnF v P n)
theorem LnOut.of {P : Nat → Bool} {n : Nat} {l : List (Int × Int)} {w : World} {e : Ending} {w' : World} (h : RunsOut l w e w') (hl : l = runsTo P n) : LnOut P n w e w' := by
  subst hl; exact h
theorem lnLine_calls (w : World) (v : Value) (l : List Sg) (hv : SegsAt w v l) (s : Sty) (y : Int) (W : Nat) (Wi : Int) (hW : Wi = (W : Int)) (h1 : straightS l = true) (h2 : mayY s = true) (h3 : -8191 ≤ y ∧ y ≤ 8191) (h4 : W ≤ 64) :
    Calls Try.prog 14 #[v, .agg #[.int .i64 s.wide, .int .i64 s.cap, .int .i64 s.join], .int .i64 y, .int .i64 Wi] w (LnOut (lineB l s y) W w) := by
  subst hW
  exact (hemLine_calls w v l hv s y W).mono fun _ _ h => LnOut.of h (strokeS_ok h1 h2 h3 h4)
theorem lnJoin_calls (w : World) {v u : Value} {P Q : Nat → Bool} {n : Nat} (hn : n ≤ 64) (h : LnF v P n w) (k : LnF u Q n w) : Calls Try.prog 27 #[v, u] w (LnOut (fun i => P i || Q i) n w) :=
  (spanJoin_calls w v u _ _ h k).mono fun _ _ h => LnOut.of h (runs_both (fun a b => a || b) rfl P Q hn)
theorem lnLess_calls (w : World) {v u : Value} {P Q : Nat → Bool} {n : Nat} (hn : n ≤ 64) (h : LnF v P n w) (k : LnF u Q n w) : Calls Try.prog 28 #[v, u] w (LnOut (fun i => P i && !Q i) n w) :=
  (spanLess_calls w v u _ _ h k).mono fun _ _ h => LnOut.of h (runs_both (fun a b => a && !b) rfl P Q hn)
theorem lnSame_calls (w : World) {v u : Value} {P Q : Nat → Bool} {n : Nat} (h : LnF v P n w) (k : LnF u Q n w) (e : ∀ i, i < n → P i = Q i) : Calls Try.prog 15 #[v, u] w fun e w' => e = .returned (.bool true) ∧ Below w.heap.size w w' := by
  have := same_calls w v u _ _ h k
  rwa [runsTo_congr e, decide_eq_true rfl] at this
end Go.Proofs.Ytfnolaoohmecbaa
