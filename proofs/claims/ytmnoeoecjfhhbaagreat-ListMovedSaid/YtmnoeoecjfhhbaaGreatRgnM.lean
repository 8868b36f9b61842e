/- Runs, rows and regions. -/
import Derived.Test.YtmnoeoecjfhhbaaGreatSpB
import Derived.Test.YtmnoeoecjfhhbaaGreatArmM
import Derived.Deep.QuietTactic
import Derived.BigQuiet
import Derived.Test.YtmnoeoecjfhhbaaGreatMkdM
namespace Go.Proofs.YtmnoeoecjfhhbaaGreat
open Go.RowKit
theorem SliceAt.shape {w : World} {k : Nat} {v : Value} {els : List (List Value)} (h : SliceAt w k v els) : ∃ a n c, v = .slice a n c := by
  obtain ⟨a, c, h, _⟩ := h; exact ⟨a, _, c, h⟩
/-- a region, as lists -/
structure Reg where
  W : Int
  H : Int
  rows : List (List (Int × Int))

def RowsAt (w : World) (s : Value) (rows : List (List (Int × Int))) : Prop :=
  ∃ vs : List Value, vs.length = rows.length ∧ SliceAt w 1 s (vs.map fun v => [v]) ∧ ∀ i v, vs[i]? = some v → RunsAt w v (rows.getD i [])
theorem RowsAt.below {w w' : World} {s : Value} {rows : List (List (Int × Int))} (h : RowsAt w s rows) (hb : Below w.heap.size w w') : RowsAt w' s rows := by
  obtain ⟨vs, h1, h2, h3⟩ := h
  exact ⟨vs, h1, h2.below hb, fun i v hv => SliceAt.below (h3 i v hv) hb⟩
theorem rows_of {w : World} {b h : Nat} {cs : Array Value} {T : TypeId} {F : Nat → List (Int × Int)} (hb : w.heap[b]? = some (.cells cs T (0, 0))) (hs : cs.size = h) (hm : h ≤ maxLen) (hv : ∀ i, i < h → ∃ v, cs[i]? = some v ∧ RunsAt w v (F i)) :
    RowsAt w (.slice (some ⟨b, 0, none⟩) h h) ((List.range h).map F) := by
  subst hs
  refine ⟨cs.toList, by simp, ⟨_, cs.size, by simp, by simp, hm, fun i hi => ⟨b, 0, rfl, fun j v hj => ?_⟩⟩, fun i v hi => ?_⟩
  · simp only [List.getElem_map] at hj
    have hj0 : j = 0 := by
      rcases j with _ | j
      · rfl
      · simp at hj
    subst hj0
    rw [cell_of_row w b _ cs T (0, 0) hb]
    simp at hj hi
    simp
    rw [Array.getElem?_eq_getElem hi, hj]
  · obtain ⟨v', h1, h2⟩ := hv i (by have := (List.getElem?_eq_some_iff.1 hi).1; simpa using this)
    have hi' : cs[i]? = some v := by simpa using hi
    rw [h1] at hi'
    cases hi'
    have hlt : i < cs.size := (Array.getElem?_eq_some_iff.1 h1).1
    have e : ((List.range cs.size).map F).getD i [] = F i := by simp [hlt]
    rw [e]
    exact h2
def RegAt (w : World) (v : Value) (R : Reg) : Prop := ∃ s, v = .agg #[.int .i64 R.W, .int .i64 R.H, s] ∧ RowsAt w s R.rows
theorem RegAt.below {w w' : World} {v : Value} {R : Reg} (h : RegAt w v R) (hb : Below w.heap.size w w') : RegAt w' v R := by
  obtain ⟨s, h1, h2⟩ := h
  exact ⟨s, h1, h2.below hb⟩

/-- a region and an error -/
def RegOut (R : Reg) (err : Int) (w : World) (e : Ending) (w' : World) : Prop :=
  ∃ v, e = .returned (.tuple #[v, .int .i64 err]) ∧ Below w.heap.size w w' ∧ Fresh w w' (fun w => RegAt w v R)
/-- runs, new or not -/
def RunsRet (l : List (Int × Int)) (w : World) (e : Ending) (w' : World) : Prop :=
  ∃ v, e = .returned v ∧ Below w.heap.size w w' ∧ RunsAt w' v l

def noReg : Reg := ⟨0, 0, []⟩
theorem noReg_at (w : World) : RegAt w (.agg #[.int .i64 0, .int .i64 0, .slice none 0 0]) noReg :=
  ⟨_, rfl, [], rfl, ⟨none, 0, rfl, Nat.le_refl _, by unfold maxLen; omega, fun i hi => by simp at hi⟩, fun i v h => by simp at h⟩

theorem RowsAt.parts {w : World} {s : Value} {rows : List (List (Int × Int))} (h : RowsAt w s rows) :
    ∃ a cap, s = .slice a rows.length cap ∧ rows.length ≤ cap ∧ cap ≤ maxLen ∧ ∀ i, i < rows.length → ∃ b o, a = some ⟨b, o, none⟩ ∧ ∃ va vn vc, w.cell? ⟨b, o + i, none⟩ = some (.slice va vn vc) ∧ RunsAt w (.slice va vn vc) (rows.getD i []) := by
  obtain ⟨vs, h1, ⟨a, cap, h2, h3, h4, h5⟩, h6⟩ := h
  simp only [List.length_map] at h2 h3 h5
  rw [h1] at h2 h3
  refine ⟨a, cap, h2, h3, h4, fun i hi => ?_⟩
  have hi' : i < vs.length := by omega
  obtain ⟨b, o, e, hr⟩ := h5 i hi'
  have h7 := h6 i vs[i] (by simp [hi'])
  obtain ⟨va, vn, vc, ev⟩ := SliceAt.shape h7
  refine ⟨b, o, e, va, vn, vc, ?_, by rw [← ev]; exact h7⟩
  have := hr 0 vs[i] (by simp)
  simp only [Nat.mul_one, Nat.add_zero] at this
  rw [this, ev]

theorem RegAt.hold {w0 w : World} {M : List Res} {Φ : List (World → Prop)} {v : Value} {R : Reg} (h : RegAt w0 v R) (hL : Holds w0 w M Φ) : RegAt w v R := h.below hL.below
theorem RegAt.shape {w : World} {v : Value} {R : Reg} (h : RegAt w v R) : ∃ sa sn sc, v = .agg #[.int .i64 R.W, .int .i64 R.H, .slice sa sn sc] ∧ RowsAt w (.slice sa sn sc) R.rows := by
  obtain ⟨s, h1, h2⟩ := h
  obtain ⟨a, cap, rfl, _⟩ := h2.parts
  exact ⟨a, _, cap, h1, h2⟩

theorem RunsAt.parts {w : World} {s : Value} {l : List (Int × Int)} (h : RunsAt w s l) :
    ∃ a cap, s = .slice a l.length cap ∧ l.length ≤ cap ∧ cap ≤ maxLen ∧ ∀ i, i < l.length → ∃ b o, a = some ⟨b, o, none⟩ ∧ w.rangeAt b (o + i * 2) [.int .i64 (l.getD i (0, 0)).1, .int .i64 (l.getD i (0, 0)).2] := by
  obtain ⟨a, cap, h2, h3, h4, h5⟩ := h
  simp only [List.length_map] at h2 h3 h5
  refine ⟨a, cap, h2, h3, h4, fun i hi => ?_⟩
  obtain ⟨b, o, e, hr⟩ := h5 i hi
  refine ⟨b, o, e, ?_⟩
  simp only [List.getElem_map, runC] at hr
  rw [show l.getD i (0, 0) = l[i] by simp [hi]]
  exact hr
theorem runsTo_beyond {p : Nat → Bool} {n m : Nat} (hnm : n ≤ m) (h : ∀ i, n ≤ i → i < m → p i = false) : runsTo p m = runsTo p n := by
  have := rruns_const (p := p) (i := n) (m - n) (fun j h1 h2 => h j h1 (by omega))
  rw [show n + (m - n) = m by omega] at this
  rw [runsTo, this, runsTo]
open Go.RowKit
end Go.Proofs.YtmnoeoecjfhhbaaGreat
