/- Edges, as they lie. -/
import Derived.Test.YtneddfiohekhiaaNums
namespace Go.Proofs.Ytneddfiohekhiaa
open Go.RowKit

structure Edg where
  x0 : Int
  y0 : Int
  bent : Bool
  cx : Int
  cy : Int
  x1 : Int
  y1 : Int
instance : Inhabited Edg := ⟨⟨0, 0, false, 0, 0, 0, 0⟩⟩
def edgeC (e : Edg) : List Value := [.int .i64 e.x0, .int .i64 e.y0, .bool e.bent, .int .i64 e.cx, .int .i64 e.cy, .int .i64 e.x1, .int .i64 e.y1]
def edgeV (e : Edg) : Value := .agg #[.int .i64 e.x0, .int .i64 e.y0, .bool e.bent, .int .i64 e.cx, .int .i64 e.cy, .int .i64 e.x1, .int .i64 e.y1]
def EdgesAt (w : World) (v : Value) (l : List Edg) : Prop := SliceAt w 7 v (l.map edgeC)
theorem EdgesAt.hold {w0 w : World} {M : List Res} {Φ : List (World → Prop)} {v : Value} {l : List Edg} (h : EdgesAt w0 v l) (hL : Holds w0 w M Φ) : EdgesAt w v l := SliceAt.below h hL.below
theorem EdgesAt.parts {w : World} {s : Value} {l : List Edg} (h : EdgesAt w s l) :
    ∃ a cap, s = .slice a l.length cap ∧ l.length ≤ cap ∧ cap ≤ maxLen ∧ ∀ i, i < l.length → ∃ b o, a = some ⟨b, o, none⟩ ∧ w.rangeAt b (o + i * 7) (edgeC (l.getD i default)) := by
  obtain ⟨a, cap, h2, h3, h4, h5⟩ := h
  simp only [List.length_map] at h2 h3 h5
  refine ⟨a, cap, h2, h3, h4, fun i hi => ?_⟩
  obtain ⟨b, o, e, hr⟩ := h5 i hi
  refine ⟨b, o, e, ?_⟩
  simp only [List.getElem_map] at hr
  rw [show l.getD i default = l[i] by simp [hi]]
  exact hr

/-! straight edges -/
def near1 (v : Int) : Bool := decide (-8191 ≤ v) && decide (v ≤ 8191)
def mayE (e : Edg) : Bool := near1 e.x0 && (near1 e.y0 && (near1 e.cx && (near1 e.cy && (near1 e.x1 && (near1 e.y1 && (e.bent || (decide (e.cx = 0) && decide (e.cy = 0))))))))
def turnS (e : Edg) (x y : Int) : Int :=
  if y < min e.y0 e.y1 ∨ max e.y0 e.y1 ≤ y then 0
  else if e.y1 - e.y0 < 0 then (if 0 < -(e.x0 * (e.y1 - e.y0) + (e.x1 - e.x0) * (y - e.y0)) - x * -(e.y1 - e.y0) then -1 else 0)
  else (if 0 < (e.x0 * (e.y1 - e.y0) + (e.x1 - e.x0) * (y - e.y0)) - x * (e.y1 - e.y0) then 1 else 0)
def turnE (e : Edg) (x y : Int) : Int := if mayE e && (near1 x && near1 y) then turnS e x y else 0
def windS (l : List Edg) (x y : Int) : Int := (l.map fun e => turnE e x y).sum
end Go.Proofs.Ytneddfiohekhiaa
