/- The frame of a statement: what the call's arguments read as stays, and the result reads as true. -/
import Derived.Test.YtneddfiohekhiaaRows
import Derived.ProofKit
import Derived.SizedLaws
namespace Go.Proofs.Ytneddfiohekhiaa
open Go.ChangeShapes Go.WideShapes Go.ChangeAt Go.RowKit

theorem Try.own : ownKnob Try.prog.godebug = none := by kernel_rfl
theorem Try.laidOut : laidOutB Try.prog = true := by kernel_rfl

theorem trodAll_below {H : Type} {enc : TypeId × Value → H} {P : Program} (hl : laidOutB P = true) {W W' : World} (hb : Below W.heap.size W W') :
    ∀ {ts : List TypeId} {vs : List Value} {ds : List (DataW H)} {ps : List MemPlace}, (∀ t ∈ ts, P.readableRec t = true ∧ t < P.types.size) →
      DataW.TrodAll enc P W 0 (fun _ => true) true ts vs ds ps → (∀ x ∈ ps, x.block < W.heap.size) → DataW.TrodAll enc P W' 0 (fun b => decide (b < W.heap.size)) true ts vs ds ps
  | [], [], [], ps, _, h, _ => h
  | t :: ts, v :: vs, d :: ds, ps, ht, h, hp => by
    obtain ⟨p, q, h1, h2, rfl⟩ := h
    exact ⟨p, q, Below.trod hl (ht t (by simp)).1 (ht t (by simp)).2 h1 hb (fun x hx => hp x (by simp [hx])), trodAll_below hl hb (fun u hu => ht u (by simp [hu])) h2 (fun x hx => hp x (by simp [hx])), rfl⟩
  | [], [], _ :: _, _, _, h, _ => h.elim
  | [], _ :: _, _, _, _, h, _ => h.elim
  | _ :: _, [], _, _, _, h, _ => h.elim
  | _ :: _, _ :: _, [], _, _, h, _ => h.elim

theorem law_post {H : Type} {enc : TypeId × Value → H} {P : Program} {fn : Func} {s : ChangeSpec} {apart handsOn : Bool} {W W' : World} {args : Array Value} {ds gs : List (DataW H)} {before : List MemPlace} {T : TypeId}
    (hl : laidOutB P = true) (hW : DataW.Whole enc P fn.params.toList s.vars apart W args.toList ds gs before) (hb : Below W.heap.size W W') (hv : s.vars = [])
    (hres : fn.resultTypes = #[T]) (hT : P.underlying T = some .bool) (hspec : s.fn H (ds ++ gs) = { results := [.lit (.bool true)], args := ds }) (hpar : ∀ t ∈ fn.params.toList, P.readableRec t = true ∧ t < P.types.size) :
    s.post enc P fn apart true handsOn false W args (.bool true) W' := by
  have hW' := hW
  obtain ⟨p, q, hA, hV, rfl, _, _⟩ := hW
  have hlt : ∀ x ∈ p, x.block < W.heap.size := fun x hx => by simpa using hW'.lt x (by simp [hx])
  refine ⟨ds, gs, p ++ q, [], p, [], hW', ?_, ?_, ?_, hb.frame _, fun h => by cases h⟩
  · rw [hspec, hres]
    exact trodAll_mk1 (shut_bool hT true)
  · rw [hspec]
    exact trodAll_below hl hb hpar hA hlt
  · rw [hspec, hv]; rfl

/-- a number of an array's, out of its reading -/
theorem trod_int_cell {H : Type} {enc : TypeId × Value → H} {P : Program} {w : World} {base : Nat} {spare : Nat → Bool} {held : Bool} {n : Nat} {T : TypeId} {k : IntKind} {c : Value} {y : DataW H × List MemPlace} (hT : P.underlying T = some (.int k))
    (h : DataW.trod enc P w base spare held n T [c] = some y) : ∃ z : Int, c = .int k z := by
  obtain ⟨a, e0, _⟩ := DataW.trod_int hT h
  exact ⟨a, by simpa using e0⟩
end Go.Proofs.Ytneddfiohekhiaa
