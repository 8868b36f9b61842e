/- Strokes of moved paths on a page. -/
import Derived.Test.YtfnolaoohmecbaaHmM
import Derived.Test.YtfnolaoohmecbaaHmV5
import Derived.Test.YtfnolaoohmecbaaRgC
import Derived.Test.YtfnolaoohmecbaaShM
-- lit6
namespace Go.Proofs.Ytfnolaoohmecbaa
open Go.RowKit

section
variable {P : Program} {w0 w : World} {M : List Res} {Φ : List (World → Prop)} {ops : Array Oper} {o : Oper} {a : Act} {Q : Exit → Act → World → Prop} {K : Act → World → Prop}
theorem st_alloc (hgd : Region.wanted o (yielded ops a.tmps) = true) (T : TypeId) (ho : o.op = .alloc T) {z : Value} {cs : Array Value} [hz : ZeroT P T z cs]
    (hL : Holds w0 w M Φ) (h : ∀ b w', Holds w0 w' (blk b cs T :: M) Φ → K (a.put o.dst (.pointer (some ⟨b, 0, none⟩))) w') : wpStep P ops Q o K a w := by
  obtain ⟨hz1, hz2⟩ := hz
  subst hz2
  refine st_run hgd (.pointer (some ⟨w.heap.size, 0, none⟩)) (w.alloc (.cells z.cells T)) ?_ (h _ _ (hL.alloc _ _))
  unfold execOp
  have : (Instr.alloc T true (.tuple #[])).run P w = .ok (.pointer (some ⟨w.heap.size, 0, none⟩)) (w.alloc (.cells z.cells T)) := by
    unfold Instr.alloc
    rw [Sem.run_bind, hz1]
    rfl
  simp only [ho, Sem.run_bind, this, Result.andThen_ok]
  rfl
end
theorem laterC {w w' : World} {p : Addr} {v : Value} (h : Below w.heap.size w w') (hc : w.cell? p = some v) : w'.cell? p = some v := (Holds.start w).call h |>.old hc
theorem LnF.later {w w' : World} {v : Value} {P : Nat → Bool} {n : Nat} (h : LnF v P n w) (k : Below w.heap.size w w') : LnF v P n w' := SliceAt.below h k
/-- a region's value, its rows by number -/
def RgL (Wi Hi : Int) (H : Nat) (sa : Option Addr) (sc : Nat) (R : Reg) : World → Prop := RegF (.agg #[.int .i64 Wi, .int .i64 Hi, .slice sa H sc]) R
def RgS (sa : Option Addr) (sn sc : Nat) (R : Reg) : World → Prop := RegF (.agg #[.int .i64 52, .int .i64 52, .slice sa sn sc]) R
def pixC (l : List Sg) (s : Sty) (j i : Nat) : Bool := covL (allS l s) (16 * (i : Int) + 8) (16 * (j : Int) + 8)
theorem rgL_calls {W H : Nat} {Wi Hi : Int} (hW : Wi = (W : Int)) (hH : Hi = (H : Int)) (hw0 : 0 < W) (hw1 : W ≤ 64) (hh0 : 0 < H) (hh1 : H ≤ 64) (w : World) (v : Value) (l : List Sg) (hv : SegsAt w v l) (s : Sty) (hst : straightS l = true) (hmy : mayY s = true) :
    Calls Try.prog 17 #[v, .agg #[.int .i64 s.wide, .int .i64 s.cap, .int .i64 s.join], .int .i64 Wi, .int .i64 Hi] w fun e w' => ∃ sa sc, e = .returned (.tuple #[.agg #[.int .i64 Wi, .int .i64 Hi, .slice sa H sc], .int .i64 0]) ∧ Below w.heap.size w w' ∧ Fresh w w' (RgL Wi Hi H sa sc (pixReg W H (pixC l s))) := by
  subst hW; subst hH
  refine (hemRegion_ok hw0 hw1 hh0 hh1 w v l hv s hst hmy).mono ?_
  rintro e w' ⟨v', rfl, hb, hf⟩
  obtain ⟨s', rfl, h1, h2, ⟨a, c, rfl, _⟩, _⟩ := hf.now
  have hl : (h1.map fun v => [v]).length = H := by rw [List.length_map, h2]; simp [strokeReg]
  refine ⟨a, c, by rw [hl]; rfl, hb, hf.mono fun w2 h => ?_⟩
  have e3 : (Value.slice a (h1.map fun v => [v]).length c) = .slice a H c := by rw [hl]
  rw [e3] at h
  exact h
theorem rgL_row {Wi Hi : Int} {W H : Nat} {sa : Option Addr} {sc : Nat} {q : Nat → Nat → Bool} {w : World} (h : RgL Wi Hi H sa sc (pixReg W H q) w) {j : Nat} (hj : j < H) : ∃ b o u, sa = some ⟨b, o, none⟩ ∧ w.cell? ⟨b, o + j, none⟩ = some u ∧ LnF u (q j) W w := by
  obtain ⟨s, hs, hr⟩ := h
  have e : s = .slice sa H sc := by
    injection hs with hs
    have := congrArg (fun x : Array Value => x[2]?) hs
    simpa using this.symm
  subst e
  obtain ⟨b, o, u, h1, h2, h3⟩ := row_get hr hj
  refine ⟨b, o, u, h1, h2, ?_⟩
  have e2 : (pixReg W H q).rows.getD j [] = runsTo (q j) W := pix_row q hj
  rw [e2] at h3
  exact h3
theorem s52 : Sides 52 52 := ⟨by decide, by decide, by decide, by decide⟩
theorem mov_small {l : List Sg} (h : ∀ s ∈ l, SmallS s) {u t : Int} (hu : -3 ≤ u ∧ u ≤ 3) (ht : -3 ≤ t ∧ t ≤ 3) : ∀ s ∈ l.map (moveS 256 256), nearS s = true ∧ nearS (moveS (16 * u) (16 * t) s) = true := by
  intro s hs
  obtain ⟨q, hq, rfl⟩ := List.mem_map.1 hs
  obtain ⟨h1, h2, h3, h4⟩ := h q hq
  unfold smallI at *
  have n : ∀ t : Int, -1000 ≤ t → t ≤ 1000 → near1 t = true := fun t a b => (near_iff' t).2 ⟨by omega, by omega⟩
  unfold moveS nearS
  by_cases k4 : q.kind = 4
  · rw [if_pos k4, if_pos k4]
    simp [n q.x (by omega) (by omega), n q.y (by omega) (by omega), n q.cx (by omega) (by omega), n q.cy (by omega) (by omega)]
  · rw [if_neg k4]
    by_cases k3 : q.kind = 3
    · rw [if_pos k3]
      simp [n (q.x + 256) (by omega) (by omega), n (q.y + 256) (by omega) (by omega), n (q.cx + 256) (by omega) (by omega), n (q.cy + 256) (by omega) (by omega), n (q.x + 256 + 16 * u) (by omega) (by omega), n (q.y + 256 + 16 * t) (by omega) (by omega), n (q.cx + 256 + 16 * u) (by omega) (by omega), n (q.cy + 256 + 16 * t) (by omega) (by omega)]
    · rw [if_neg k3]
      simp [k3, k4, n (q.x + 256) (by omega) (by omega), n (q.y + 256) (by omega) (by omega), n q.cx (by omega) (by omega), n q.cy (by omega) (by omega), n (q.x + 256 + 16 * u) (by omega) (by omega), n (q.y + 256 + 16 * t) (by omega) (by omega)]
/-- the page of a moved path is the moved page -/
theorem mov_pix {l : List Sg} (h : ∀ s ∈ l, SmallS s) (s : Sty) (hw : 0 ≤ s.wide ∧ s.wide ≤ 129) {u t : Int} (hu : -3 ≤ u ∧ u ≤ 3) (ht : -3 ≤ t ∧ t ≤ 3) {j i : Nat} (hj : j < 52) (hi : i < 52) : pixC ((l.map (moveS 256 256)).map (moveS (16 * u) (16 * t))) s j i = shQ 52 52 (pixC (l.map (moveS 256 256)) s) u t j i := by
  have hn := small_near h (dx := 256) (dy := 256) (by omega) (by omega)
  unfold pixC
  rw [moved_cov (mov_small h hu ht), moved_cov hn]
  unfold shQ atPix
  have hbx : ∀ x y, covL (allS l s) x y = true → InBox (-32 - s.wide) (287 + s.wide) x y := fun x y hc => allS_reach (lo := -32) (hi := 287) (fun q hq => by
    obtain ⟨h1, h2, _⟩ := h q hq
    unfold smallI at *
    exact ⟨by omega, by omega⟩) s hw.1 hc
  by_cases hin : (0 ≤ (i : Int) - u ∧ (i : Int) - u < (52 : Nat)) ∧ (0 ≤ (j : Int) - t ∧ (j : Int) - t < (52 : Nat))
  · obtain ⟨⟨a1, a2⟩, a3, a4⟩ := hin
    rw [decide_eq_true a1, decide_eq_true a2, decide_eq_true a3, decide_eq_true a4]
    simp only [Bool.true_and]
    rw [moved_cov hn]
    rw [show ((((i : Int) - u).toNat : Nat) : Int) = (i : Int) - u by omega, show ((((j : Int) - t).toNat : Nat) : Int) = (j : Int) - t by omega]
    congr 1 <;> omega
  · have hf : covL (allS l s) (16 * (i : Int) + 8 - 16 * u - 256) (16 * (j : Int) + 8 - 16 * t - 256) = false := by
      cases hc : covL (allS l s) (16 * (i : Int) + 8 - 16 * u - 256) (16 * (j : Int) + 8 - 16 * t - 256) with
      | false => rfl
      | true =>
        have := hbx _ _ hc
        unfold InBox at this
        omega
    rw [hf]
    symm
    rw [Bool.eq_false_iff]
    intro hc
    simp only [Bool.and_eq_true, decide_eq_true_eq] at hc
    exact hin ⟨⟨hc.1, hc.2.1⟩, hc.2.2.1, hc.2.2.2.1⟩
end Go.Proofs.Ytfnolaoohmecbaa
