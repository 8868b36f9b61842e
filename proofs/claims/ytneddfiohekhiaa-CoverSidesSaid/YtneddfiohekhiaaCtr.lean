/- Package path: Contours. -/
import Derived.Test.YtneddfiohekhiaaPMay
import Derived.Test.YtneddfiohekhiaaBoxW
-- lit6
namespace Go.Proofs.Ytneddfiohekhiaa
open Go.RowKit

structure Ct where
  x : Int
  y : Int
  edges : List Edg
  shut : Bool
instance : Inhabited Ct := ⟨⟨0, 0, [], false⟩⟩
def ctC (v : Value) (c : Ct) : List Value := [.int .i64 c.x, .int .i64 c.y, v, .bool c.shut]
def segE (x y : Int) (s : Sg) : Edg := ⟨x, y, decide (s.kind = 3), s.cx, s.cy, s.x, s.y⟩
def ctFold : List Sg → List Ct → Option Ct → Int → Int → List Ct
  | [], done, cur, _, _ => done ++ cur.toList
  | s :: l, done, cur, x, y =>
    if s.kind = 1 then ctFold l (done ++ cur.toList) (some ⟨s.x, s.y, [], false⟩) s.x s.y
    else match cur with
      | none => ctFold l done none x y
      | some c => if s.kind = 4 then ctFold l done (some ⟨c.x, c.y, c.edges, true⟩) x y else ctFold l done (some ⟨c.x, c.y, c.edges ++ [segE x y s], c.shut⟩) s.x s.y
def contoursS (l : List Sg) : List Ct := if pathMay l then ctFold l [] none 0 0 else []
def CtsAt (w : World) (v : Value) (vs : List Value) (l : List Ct) : Prop := SliceAt w 4 v (List.zipWith ctC vs l) ∧ ∀ i u, vs[i]? = some u → EdgesAt w u (l.getD i default).edges
def CtsOut (l : List Ct) (w : World) (e : Ending) (w' : World) : Prop := ∃ v vs, e = .returned v ∧ vs.length = l.length ∧ Below w.heap.size w w' ∧ Fresh w w' (fun w => CtsAt w v vs l)

theorem rightS_first {s : Sg} (h : rightS s 0 = true) : s.kind = 1 := by
  unfold rightS at h
  by_cases h1 : s.kind = 1
  · exact h1
  · by_cases h4 : s.kind = 4 <;> by_cases h2 : s.kind = 2 ∨ s.kind = 3 <;> simp [h1, h4, h2] at h
theorem rightS_kind {s : Sg} {last : Int} (h : rightS s last = true) : s.kind = 1 ∨ s.kind = 2 ∨ s.kind = 3 ∨ s.kind = 4 := by
  unfold rightS at h
  by_cases h1 : s.kind = 1
  · exact .inl h1
  · by_cases h4 : s.kind = 4
    · exact .inr (.inr (.inr h4))
    · by_cases h2 : s.kind = 2 ∨ s.kind = 3
      · omega
      · simp [h1, h4, h2] at h
theorem rightS_near {s : Sg} {last : Int} (h : rightS s last = true) : near1 s.x = true ∧ near1 s.y = true ∧ near1 s.cx = true ∧ near1 s.cy = true := by
  unfold rightS at h
  simp only [List.all_cons, List.all_nil, Bool.and_true, Bool.and_eq_true] at h
  exact ⟨h.1.1, h.1.2.1, h.1.2.2.1, h.1.2.2.2⟩
/-- what stands of the contours, and how they lie -/
def CtHeld (w wr : World) (s3 : Value) (done : List Ct) (c : Ct) : Prop := ∃ (vs : List Value) (ve : Value), vs.length = done.length ∧
  Holds w wr [own w.heap.size 47 7 ve c.edges.length (c.edges.map edgeC).flatten, own w.heap.size 77 4 s3 (done.length + 1) ((List.zipWith ctC vs done).flatten ++ ctC ve c)] [fun w => ∀ i u, vs[i]? = some u → EdgesAt w u (done.getD i default).edges]

theorem zip_len {vs : List Value} {l : List Ct} : ∀ c ∈ List.zipWith ctC vs l, c.length = 4 := by
  intro c hc
  obtain ⟨i, hi, rfl⟩ := List.getElem_of_mem hc
  simp [ctC]
theorem zip_flat_len (vs : List Value) (l : List Ct) (h : vs.length = l.length) : (List.zipWith ctC vs l).flatten.length = l.length * 4 := by
  induction l generalizing vs with
  | nil => simp
  | cons c l ih =>
    cases vs with
    | nil => simp at h
    | cons v vs =>
      rw [List.zipWith_cons_cons, List.flatten_cons, List.length_append, ih vs (by simpa using h), List.length_cons]
      simp [ctC]; omega
/-- the last contour joins those that are done -/
theorem CtHeld.settle {w wr : World} {s3 : Value} {done : List Ct} {c : Ct} (h : CtHeld w wr s3 done c) : ∃ vs : List Value, vs.length = (done ++ [c]).length ∧ Holds w wr [own w.heap.size 77 4 s3 (done ++ [c]).length (List.zipWith ctC vs (done ++ [c])).flatten] [fun w => ∀ i u, vs[i]? = some u → EdgesAt w u ((done ++ [c]).getD i default).edges] := by
  obtain ⟨vs, ve, hl, hL⟩ := h
  refine ⟨vs ++ [ve], by simp [hl], ?_⟩
  have h1 := (hL.settle .here (φ := fun w => EdgesAt w ve c.edges) fun w h => own_sliceAt h (by rw [List.length_map]) rfl (edgeC_len _)).join (χ := fun w => ∀ i u, (vs ++ [ve])[i]? = some u → EdgesAt w u ((done ++ [c]).getD i default).edges) fun w h1 h2 i u hu => by
    by_cases hi : i < vs.length
    · rw [List.getElem?_append_left hi] at hu
      have := h2 i u hu
      rwa [show (done ++ [c]).getD i default = done.getD i default by simp [List.getD, List.getElem?_append_left (show i < done.length by omega)]]
    · rw [List.getElem?_append_right (by omega)] at hu
      have hi0 : i - vs.length = 0 := by
        have := (List.getElem?_eq_some_iff.1 hu).1
        simp at this; omega
      rw [hi0] at hu
      simp at hu
      subst hu
      have hid : i = done.length := by omega
      rwa [show (done ++ [c]).getD i default = c by simp [hid]]
  rw [List.zipWith_append hl, List.flatten_append]
  simpa using h1
end Go.Proofs.Ytneddfiohekhiaa
