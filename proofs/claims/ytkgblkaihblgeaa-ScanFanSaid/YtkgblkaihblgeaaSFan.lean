/- ScanFan returns true. -/
import Derived.Test.YtkgblkaihblgeaaScnM
import Derived.Test.YtkgblkaihblgeaaBoxM
-- lit6
namespace Go.Proofs.Ytkgblkaihblgeaa
open Go.RowKit

/-- a triangle of a fan, as edges -/
def fanT (u v x y : Int) (e : Edg) : Int := turnG e x y + (turnG (lineE e.x1 e.y1 u v) x y + turnG (lineE u v e.x0 e.y0) x y)
theorem fanT_law (u v x y : Int) (l : List Sg) : ((edgesS l).map (fanT u v x y)).sum = windG (edgesS l) x y := by
  have h := edges_closed (fun a b => turnG (lineE a b u v) x y) l
  have e : (fanT u v x y) = fun e => turnG e x y + -((fun e : Edg => turnG (lineE e.x0 e.y0 u v) x y - turnG (lineE e.x1 e.y1 u v) x y) e) := by
    funext e
    unfold fanT
    have hrv := turnG_line_rev e.x0 e.y0 u v x y
    dsimp only
    generalize turnG (lineE u v e.x0 e.y0) x y = A at *
    generalize turnG (lineE e.x0 e.y0 u v) x y = B at *
    generalize turnG (lineE e.x1 e.y1 u v) x y = C at *
    generalize turnG e x y = D at *
    omega
  rw [e, sum_addG]
  have e2 : ((edgesS l).map fun e => -((fun e : Edg => turnG (lineE e.x0 e.y0 u v) x y - turnG (lineE e.x1 e.y1 u v) x y) e)).sum = 0 := by
    have : ∀ m : List Edg, (m.map fun e => -((fun e : Edg => turnG (lineE e.x0 e.y0 u v) x y - turnG (lineE e.x1 e.y1 u v) x y) e)).sum = -(m.map fun e : Edg => turnG (lineE e.x0 e.y0 u v) x y - turnG (lineE e.x1 e.y1 u v) x y).sum := by
      intro m
      induction m with
      | nil => rfl
      | cons a m ih => rw [List.map_cons, List.map_cons, List.sum_cons, List.sum_cons, ih]; dsimp only; omega
    rw [this, h]; rfl
  rw [e2, Int.add_zero]
  rfl
/-- what the first triangles of a fan have of a line, by EvenOdd -/
def fanP (u v y : Int) (E : List Edg) (k : Nat) (i : Nat) : Bool := isIn 1 ((E.take k).map (fanT u v (16 * (i : Int) + 8) y)).sum
def fanR (u v y : Int) (E : List Edg) (k : Nat) : List (Int × Int) := runsTo (fanP u v y E k) 20
theorem fanR_zero (u v y : Int) (E : List Edg) : fanR u v y E 0 = [] := runs_none 20

set_option maxRecDepth 100000 in
set_option maxHeartbeats 8000000 in
theorem scanFan_calls (w : World) (va : Value) (na : List Int) (ha : NumsAt w va na) (px py pl : Int) : Calls Try.prog 6 #[va, .int .i64 px, .int .i64 py, .int .i64 pl] w fun e w' => e = .returned (.bool true) ∧ Below w.heap.size w w' := by
  have hL := Holds.start w
  obtain ⟨a, cap, rfl, _⟩ := ha.parts
  have HM := Lib.hid (fun w' hb => loop_calls w' _ na (SliceAt.below ha hb))
  clear ha
  have hline := loop_line na
  generalize loopS na = S at *
  have q1a := Int.emod_nonneg px (show (300 : Int) ≠ 0 by omega)
  have q1b := Int.emod_lt_of_pos px (show (0 : Int) < 300 by omega)
  have HP1 := Lib.hid (fun w => place_calls px 300 (by omega) (by omega) w)
  generalize px % 300 = du at *
  have q2a := Int.emod_nonneg py (show (300 : Int) ≠ 0 by omega)
  have q2b := Int.emod_lt_of_pos py (show (0 : Int) < 300 by omega)
  have HP2 := Lib.hid (fun w => place_calls py 300 (by omega) (by omega) w)
  generalize py % 300 = dv at *
  have q3a := Int.emod_nonneg pl (show (340 : Int) ≠ 0 by omega)
  have q3b := Int.emod_lt_of_pos pl (show (0 : Int) < 340 by omega)
  have HP3 := Lib.hid (fun w => place_calls pl 340 (by omega) (by omega) w)
  generalize pl % 340 = dl at *
  have hy : near1 (dl - 40) = true := by unfold near1; simp; omega
  have hlen := edgesS_len S
  have HE := Lib.hid (fun w' v => edges_calls w' v S)
  have HLf := Lib.hid (fun w' ve hv => scanLine_calls w' ve (edgesS S) hv (by omega) 1 (dl - 40) 20)
  rw [show lineS (edgesS S) 1 (dl - 40) 20 = fanR (du - 30) (dv - 30) (dl - 40) (edgesS S) (edgesS S).length by
    rw [show lineS (edgesS S) 1 (dl - 40) 20 = runsTo (rowP (edgesS S) 1 (dl - 40)) 20 from lineS_in (n := 20) (.inr rfl) hy (by omega)]
    exact runsTo_congr fun i _ => by unfold rowP fanP; rw [List.take_length, fanT_law]] at HLf
  generalize edgesS S = E at *
  have HLn := Lib.hid hline
  clear hline
  go_enter Try.func6, Try.ntmps6
  go_wp2_with (first | (go_at_call 13; (with_reducible refine (known_calls _).mono ?_); rintro e _ ⟨rfl, hb⟩; replace hL := hL.call hb; clear hb) | (go_at_call 26; (with_reducible refine (HM.out _ hL.below).mono ?_); rintro e _ ⟨vs, rfl, hb, hf⟩; replace hL := hL.callF hb hf; clear hb hf) | (go_at_call 25; (with_reducible refine (HE.out _ _ hL.fact0).mono ?_); rintro e _ ⟨ve, rfl, hb, hf⟩; obtain ⟨ea, ec, rfl, _⟩ := EdgesAt.parts hf.now; replace hL := hL.callF hb hf; clear hb hf) | (go_at_call 22; (with_reducible first | refine (HP1.out _).mono ?_ | refine (HP2.out _).mono ?_ | refine (HP3.out _).mono ?_); rintro e _ ⟨rfl, rfl⟩) | ((clear hL; with_reducible intro _ _ hL)) | (with_reducible refine wpC_alloc rfl _ rfl _ _ inferInstance hL ?_) | (with_reducible first | refine wpB_agg rfl _ _ _ rfl rfl hL ?_ | refine wpB_one rfl _ _ (.int _ _) rfl rfl rfl hL ?_ | refine wpB_one rfl _ _ (.slice _ _ _) rfl rfl rfl hL ?_ | refine wpB_one rfl _ _ (.bool _) rfl rfl rfl hL ?_ | refine wpB_one rfl _ _ (.pointer _) rfl rfl rfl hL ?_ | refine wpB_one rfl _ _ (.func _ _ _) rfl rfl rfl hL ?_) | (with_reducible first | refine wpH_max rfl _ _ _ _ rfl _ _ rfl rfl ?_ | refine wpH_min rfl _ _ _ _ rfl _ _ rfl rfl ?_) | ((with_reducible refine wpA_load rfl _ _ rfl _ rfl ?_); first | refine loadA hL ?_ | refine loadR hL ?_ | refine loadC hL ?_ | refine loadD ?_ | refine loadE hL ?_ | refine loadF ?_) | ((with_reducible refine wpA_index rfl _ _ _ rfl _ rfl _ rfl ?_); first | (refine indexA ?_; try rw [Int.toNat_natCast]) | refine indexC ?_) | ((with_reducible refine wpA_store rfl _ _ _ rfl _ rfl (.agg _) rfl ?_); refine storeR hL ?_; clear hL; intro _ hL) | ((with_reducible first | refine wpA_store rfl _ _ _ rfl _ rfl (.int _ _) rfl ?_ | refine wpA_store rfl _ _ _ rfl _ rfl (.slice _ _ _) rfl ?_ | refine wpA_store rfl _ _ _ rfl _ rfl (.bool _) rfl ?_ | refine wpA_store rfl _ _ _ rfl _ rfl (.pointer _) rfl ?_ | refine wpA_store rfl _ _ _ rfl _ rfl (.func _ _ _) rfl ?_); (first | refine storeA hL ?_ | refine storeO hL ?_); (clear hL; intro _ hL)) | ((with_reducible refine wpA_lit rfl _ _ _ rfl ?_); first | refine litA1 hL ?_ | refine litA2 hL ?_ | refine litA3 hL ?_ | refine litA4 hL ?_ | refine litA6 hL ?_) | ((with_reducible refine wpA_append rfl _ _ _ rfl (.slice _ _ _) rfl ?_); intro vq hvq; simp [go_sem] at hvq; subst hvq; refine appendA hL ?_; clear hL; intro _ _ _ hL; try dsimp only at hL) | ((with_reducible refine wpA_make rfl _ _ _ rfl _ rfl rfl ?_); refine makeA hL ?_))
  replace hL := (hL.facts (Ψ := [fun w => EdgesAt w (.slice ea E.length ec) E]) fun θ hθ => by rw [List.mem_singleton.1 hθ]; exact hL.firm _ List.mem_cons_self).triv (χ := fun w => RunsAt w (.slice none 0 0) (fanR (du - 30) (dv - 30) (dl - 40) E 0)) fun w => by
    rw [fanR_zero]
    exact ⟨none, 0, rfl, Nat.le_refl _, by unfold maxLen; omega, fun i hi => by simp at hi⟩
  go_loopw [13, 14] (fun s13 s14 wr => ∃ i : Nat, i ≤ E.length ∧ s14 = .int .i64 i ∧ Holds w wr [] [fun w => RunsAt w s13 (fanR (du - 30) (dv - 30) (dl - 40) E i), fun w => EdgesAt w (.slice ea E.length ec) E])
    (fun s13 s14 wr => E.length - (intOf s14).toNat)
  case atStart => exact ⟨0, by omega, rfl, hL⟩
  case round =>
    clear hL
    obtain ⟨i, hi, rfl, hL⟩ := hrel
    by_cases hit : i < E.length
    · have hib : (i : Int) < (E.length : Int) := by omega
      have hib0 : (0 : Int) ≤ (i : Int) := by omega
      have hmem : E.getD i default ∈ E := by rw [show E.getD i default = E[i] by simp [hit]]; exact List.getElem_mem hit
      have hln := HLn.out _ hmem
      clear hmem
      obtain ⟨be, oe, rfl, _⟩ : ∃ be oe, ea = some ⟨be, oe, none⟩ ∧ True := by
        obtain ⟨a', c', he, _, _, hel⟩ := EdgesAt.parts hL.fact1
        injection he with he _ _
        subst he
        obtain ⟨b, o, e, _⟩ := hel i hit
        exact ⟨b, o, e, trivial⟩
      replace hL := (hL.swap.dup).map (χ := fun w => w.rangeAt be (oe + i * 7) (edgeC (E.getD i default))) fun w h => by
        obtain ⟨a', c', he, _, _, h5⟩ := EdgesAt.parts h
        injection he with he _ _
        subst he
        obtain ⟨b, o, e, hr⟩ := h5 i hit
        injection e with e
        injection e with e1 e2
        subst e1; subst e2
        exact hr
      have hOt : ∀ x0 y0 x1 y1, E.getD i default = ⟨x0, y0, false, 0, 0, x1, y1⟩ → ∀ w' u v, RunsAt w' u (fanR (du - 30) (dv - 30) (dl - 40) E i) → RunsAt w' v (lineS [⟨x0, y0, false, 0, 0, x1, y1⟩, ⟨x1, y1, false, 0, 0, du - 30, dv - 30⟩, ⟨du - 30, dv - 30, false, 0, 0, x0, y0⟩] 1 (dl - 40) 20) → Calls Try.prog 27 #[u, v] w' (RunsOut (fanR (du - 30) (dv - 30) (dl - 40) E (i + 1)) w') := fun x0 y0 x1 y1 he w' u v hu hv => by
        rw [show lineS [⟨x0, y0, false, 0, 0, x1, y1⟩, ⟨x1, y1, false, 0, 0, du - 30, dv - 30⟩, ⟨du - 30, dv - 30, false, 0, 0, x0, y0⟩] 1 (dl - 40) 20 = runsTo (rowP [⟨x0, y0, false, 0, 0, x1, y1⟩, ⟨x1, y1, false, 0, 0, du - 30, dv - 30⟩, ⟨du - 30, dv - 30, false, 0, 0, x0, y0⟩] 1 (dl - 40)) 20 from lineS_in (n := 20) (.inr rfl) hy (by omega)] at hv
        have h := spanOther_calls w' u v _ _ hu hv
        unfold fanR at h
        rw [other_runs _ _ (by omega)] at h
        have e : fanR (du - 30) (dv - 30) (dl - 40) E (i + 1) = runsTo (fun j => fanP (du - 30) (dv - 30) (dl - 40) E i j != rowP [⟨x0, y0, false, 0, 0, x1, y1⟩, ⟨x1, y1, false, 0, 0, du - 30, dv - 30⟩, ⟨du - 30, dv - 30, false, 0, 0, x0, y0⟩] 1 (dl - 40) j) 20 := runsTo_congr fun j _ => by
          unfold fanP rowP
          rw [sum_stepG _ hit, he, odd_add]
          congr 1
          unfold fanT windG lineE
          simp only [List.map_cons, List.map_nil, List.sum_cons, List.sum_nil, Int.add_zero]
        rw [e]
        exact h
      have HOt := Lib.hid hOt
      clear hOt
      generalize E.getD i default = e0 at *
      obtain ⟨x0, y0, bt, cx, cy, x1, y1⟩ := e0
      unfold Line0 lineE at hln
      injection hln with _ _ l1 l2 l3 _ _
      subst l1; subst l2; subst l3
      unfold edgeC at hL
      dsimp only at hL
      have HO := Lib.hid (HOt.out x0 y0 x1 y1 rfl)
      have HT := Lib.hid (fun w' ve hv => scanLine_calls w' ve [⟨x0, y0, false, 0, 0, x1, y1⟩, ⟨x1, y1, false, 0, 0, du - 30, dv - 30⟩, ⟨du - 30, dv - 30, false, 0, 0, x0, y0⟩] hv (by simp) 1 (dl - 40) 20)
      generalize lineS [⟨x0, y0, false, 0, 0, x1, y1⟩, ⟨x1, y1, false, 0, 0, du - 30, dv - 30⟩, ⟨du - 30, dv - 30, false, 0, 0, x0, y0⟩] 1 (dl - 40) 20 = T at *
      go_wp2_with (first | ((clear hL; with_reducible intro _ _ hL)) | (with_reducible refine wpC_alloc rfl _ rfl _ _ inferInstance hL ?_) | (with_reducible first | refine wpB_agg rfl _ _ _ rfl rfl hL ?_ | refine wpB_one rfl _ _ (.int _ _) rfl rfl rfl hL ?_ | refine wpB_one rfl _ _ (.slice _ _ _) rfl rfl rfl hL ?_ | refine wpB_one rfl _ _ (.bool _) rfl rfl rfl hL ?_ | refine wpB_one rfl _ _ (.pointer _) rfl rfl rfl hL ?_ | refine wpB_one rfl _ _ (.func _ _ _) rfl rfl rfl hL ?_) | (with_reducible first | refine wpH_max rfl _ _ _ _ rfl _ _ rfl rfl ?_ | refine wpH_min rfl _ _ _ _ rfl _ _ rfl rfl ?_) | ((with_reducible refine wpA_load rfl _ _ rfl _ rfl ?_); first | refine loadA hL ?_ | refine loadR hL ?_ | refine loadC hL ?_ | refine loadD ?_ | refine loadE hL ?_ | refine loadF ?_) | ((with_reducible refine wpA_index rfl _ _ _ rfl _ rfl _ rfl ?_); first | (refine indexA ?_; try rw [Int.toNat_natCast]) | refine indexC ?_) | ((with_reducible refine wpA_store rfl _ _ _ rfl _ rfl (.agg _) rfl ?_); refine storeR hL ?_; clear hL; intro _ hL) | ((with_reducible first | refine wpA_store rfl _ _ _ rfl _ rfl (.int _ _) rfl ?_ | refine wpA_store rfl _ _ _ rfl _ rfl (.slice _ _ _) rfl ?_ | refine wpA_store rfl _ _ _ rfl _ rfl (.bool _) rfl ?_ | refine wpA_store rfl _ _ _ rfl _ rfl (.pointer _) rfl ?_ | refine wpA_store rfl _ _ _ rfl _ rfl (.func _ _ _) rfl ?_); (first | refine storeA hL ?_ | refine storeO hL ?_); (clear hL; intro _ hL)) | ((with_reducible refine wpA_lit rfl _ _ _ rfl ?_); first | refine litA1 hL ?_ | refine litA2 hL ?_ | refine litA3 hL ?_ | refine litA4 hL ?_ | refine litA6 hL ?_) | ((with_reducible refine wpA_append rfl _ _ _ rfl (.slice _ _ _) rfl ?_); intro vq hvq; simp [go_sem] at hvq; subst hvq; refine appendA hL ?_; clear hL; intro _ _ _ hL; try dsimp only at hL) | ((with_reducible refine wpA_make rfl _ _ _ rfl _ rfl rfl ?_); refine makeA hL ?_))
      replace hL := hL.drew
      have hS := (show (fun w' : World => w'.rangeAt be (oe + i * 7) [.int .i64 x0, .int .i64 y0, .bool false, .int .i64 0, .int .i64 0, .int .i64 x1, .int .i64 y1]) _ from hL.fact0)
      refine wpH_begin (by kernel_rfl) (fun w' : World => w'.rangeAt be (oe + i * 7) [.int .i64 x0, .int .i64 y0, .bool false, .int .i64 0, .int .i64 0, .int .i64 x1, .int .i64 y1]) ?_
      refine stH (i := 0) (.slice (some ⟨be, oe, none⟩) E.length ec) hS ?_ ?_; (· exact fun w' _ => (by go_simp)); simp only [Act.put, List.setIfInBounds_toArray, List.set_cons_zero, List.set_cons_succ]
      refine stH (i := 1) (.int .i64 i) hS ?_ ?_; (· exact fun w' _ => (by go_simp)); simp only [Act.put, List.setIfInBounds_toArray, List.set_cons_zero, List.set_cons_succ]
      refine stH (i := 2) (.pointer (some ⟨be, oe + i * 7, none⟩)) hS ?_ ?_; (· exact fun w' _ => (by go_simp)); simp only [Act.put, List.setIfInBounds_toArray, List.set_cons_zero, List.set_cons_succ]
      refine stH (i := 3) (.agg #[.int .i64 x0, .int .i64 y0, .bool false, .int .i64 0, .int .i64 0, .int .i64 x1, .int .i64 y1]) hS ?_ ?_; (· exact fun w' hw => run_loadOp _ _ rfl _ rfl _ (loadAt_cells inferInstance [.int .i64 x0, .int .i64 y0, .bool false, .int .i64 0, .int .i64 0, .int .i64 x1, .int .i64 y1] hw rfl rfl)); simp only [Act.put, List.setIfInBounds_toArray, List.set_cons_zero, List.set_cons_succ]
      refine stH (i := 4) (.slice (some ⟨be, oe, none⟩) E.length ec) hS ?_ ?_; (· exact fun w' _ => (by go_simp)); simp only [Act.put, List.setIfInBounds_toArray, List.set_cons_zero, List.set_cons_succ]
      refine stH (i := 5) (.int .i64 i) hS ?_ ?_; (· exact fun w' _ => (by go_simp)); simp only [Act.put, List.setIfInBounds_toArray, List.set_cons_zero, List.set_cons_succ]
      refine stH (i := 6) (.pointer (some ⟨be, oe + i * 7, none⟩)) hS ?_ ?_; (· exact fun w' _ => (by go_simp)); simp only [Act.put, List.setIfInBounds_toArray, List.set_cons_zero, List.set_cons_succ]
      refine stH (i := 7) (.pointer (some ⟨be, oe + i * 7 + 5, none⟩)) hS ?_ ?_; (· exact fun w' _ => (by go_simp)); simp only [Act.put, List.setIfInBounds_toArray, List.set_cons_zero, List.set_cons_succ]
      refine stH (i := 8) (.int .i64 x1) hS ?_ ?_; (· exact fun w' hw => run_loadOp _ _ rfl _ rfl _ (load_cell (hw 5 _ rfl))); simp only [Act.put, List.setIfInBounds_toArray, List.set_cons_zero, List.set_cons_succ]
      refine stH (i := 9) (.slice (some ⟨be, oe, none⟩) E.length ec) hS ?_ ?_; (· exact fun w' _ => (by go_simp)); simp only [Act.put, List.setIfInBounds_toArray, List.set_cons_zero, List.set_cons_succ]
      refine stH (i := 10) (.int .i64 i) hS ?_ ?_; (· exact fun w' _ => (by go_simp)); simp only [Act.put, List.setIfInBounds_toArray, List.set_cons_zero, List.set_cons_succ]
      refine stH (i := 11) (.pointer (some ⟨be, oe + i * 7, none⟩)) hS ?_ ?_; (· exact fun w' _ => (by go_simp)); simp only [Act.put, List.setIfInBounds_toArray, List.set_cons_zero, List.set_cons_succ]
      refine stH (i := 12) (.pointer (some ⟨be, oe + i * 7 + 6, none⟩)) hS ?_ ?_; (· exact fun w' _ => (by go_simp)); simp only [Act.put, List.setIfInBounds_toArray, List.set_cons_zero, List.set_cons_succ]
      refine stH (i := 13) (.int .i64 y1) hS ?_ ?_; (· exact fun w' hw => run_loadOp _ _ rfl _ rfl _ (load_cell (hw 6 _ rfl))); simp only [Act.put, List.setIfInBounds_toArray, List.set_cons_zero, List.set_cons_succ]
      refine stH (i := 14) (.int .i64 (du - 30)) hS ?_ ?_; (· exact fun w' _ => (by go_simp)); simp only [Act.put, List.setIfInBounds_toArray, List.set_cons_zero, List.set_cons_succ]
      refine stH (i := 15) (.int .i64 (dv - 30)) hS ?_ ?_; (· exact fun w' _ => (by go_simp)); simp only [Act.put, List.setIfInBounds_toArray, List.set_cons_zero, List.set_cons_succ]
      refine stH (i := 16) (.agg #[.int .i64 x1, .int .i64 y1, .bool false, .int .i64 0, .int .i64 0, .int .i64 (du - 30), .int .i64 (dv - 30)]) hS ?_ ?_; (· exact fun w' _ => (by go_simp)); simp only [Act.put, List.setIfInBounds_toArray, List.set_cons_zero, List.set_cons_succ]
      refine stH (i := 17) (.int .i64 (du - 30)) hS ?_ ?_; (· exact fun w' _ => (by go_simp)); simp only [Act.put, List.setIfInBounds_toArray, List.set_cons_zero, List.set_cons_succ]
      refine stH (i := 18) (.int .i64 (dv - 30)) hS ?_ ?_; (· exact fun w' _ => (by go_simp)); simp only [Act.put, List.setIfInBounds_toArray, List.set_cons_zero, List.set_cons_succ]
      refine stH (i := 19) (.slice (some ⟨be, oe, none⟩) E.length ec) hS ?_ ?_; (· exact fun w' _ => (by go_simp)); simp only [Act.put, List.setIfInBounds_toArray, List.set_cons_zero, List.set_cons_succ]
      refine stH (i := 20) (.int .i64 i) hS ?_ ?_; (· exact fun w' _ => (by go_simp)); simp only [Act.put, List.setIfInBounds_toArray, List.set_cons_zero, List.set_cons_succ]
      refine stH (i := 21) (.pointer (some ⟨be, oe + i * 7, none⟩)) hS ?_ ?_; (· exact fun w' _ => (by go_simp)); simp only [Act.put, List.setIfInBounds_toArray, List.set_cons_zero, List.set_cons_succ]
      refine stH (i := 22) (.pointer (some ⟨be, oe + i * 7, none⟩)) hS ?_ ?_; (· exact fun w' _ => (by go_simp)); simp only [Act.put, List.setIfInBounds_toArray, List.set_cons_zero, List.set_cons_succ]
      refine stH (i := 23) (.int .i64 x0) hS ?_ ?_; (· exact fun w' hw => run_loadOp _ _ rfl _ rfl _ (load_cell (hw 0 _ rfl))); simp only [Act.put, List.setIfInBounds_toArray, List.set_cons_zero, List.set_cons_succ]
      refine stH (i := 24) (.slice (some ⟨be, oe, none⟩) E.length ec) hS ?_ ?_; (· exact fun w' _ => (by go_simp)); simp only [Act.put, List.setIfInBounds_toArray, List.set_cons_zero, List.set_cons_succ]
      refine stH (i := 25) (.int .i64 i) hS ?_ ?_; (· exact fun w' _ => (by go_simp)); simp only [Act.put, List.setIfInBounds_toArray, List.set_cons_zero, List.set_cons_succ]
      refine stH (i := 26) (.pointer (some ⟨be, oe + i * 7, none⟩)) hS ?_ ?_; (· exact fun w' _ => (by go_simp)); simp only [Act.put, List.setIfInBounds_toArray, List.set_cons_zero, List.set_cons_succ]
      refine stH (i := 27) (.pointer (some ⟨be, oe + i * 7 + 1, none⟩)) hS ?_ ?_; (· exact fun w' _ => (by go_simp)); simp only [Act.put, List.setIfInBounds_toArray, List.set_cons_zero, List.set_cons_succ]
      refine stH (i := 28) (.int .i64 y0) hS ?_ ?_; (· exact fun w' hw => run_loadOp _ _ rfl _ rfl _ (load_cell (hw 1 _ rfl))); simp only [Act.put, List.setIfInBounds_toArray, List.set_cons_zero, List.set_cons_succ]
      refine stH (i := 29) (.agg #[.int .i64 (du - 30), .int .i64 (dv - 30), .bool false, .int .i64 0, .int .i64 0, .int .i64 x0, .int .i64 y0]) hS ?_ ?_; (· exact fun w' _ => (by go_simp)); simp only [Act.put, List.setIfInBounds_toArray, List.set_cons_zero, List.set_cons_succ]
      refine wpH_one (i := 30) (by kernel_rfl) (wpOp_of (by simp only [List.getElem?_toArray, List.getElem?_cons_zero, List.getElem?_cons_succ]; rfl) ?_)
      refine st_lit rfl _ _ _ rfl (litA3 hL ?_)
      clear hL hS
      intro bq wq hL
      have hS := (show (fun w' : World => w'.rangeAt be (oe + i * 7) [.int .i64 x0, .int .i64 y0, .bool false, .int .i64 0, .int .i64 0, .int .i64 x1, .int .i64 y1]) wq from hL.fact0)
      refine ⟨hS, ?_⟩
      simp only [Act.put, List.setIfInBounds_toArray, List.set_cons_zero, List.set_cons_succ]
      refine stH (i := 31) (.slice (some ⟨bq, 0, none⟩) 3 3) hS ?_ ?_; (· exact fun w' _ => (by go_simp)); simp only [Act.put, List.setIfInBounds_toArray, List.set_cons_zero, List.set_cons_succ]
      refine wpAnyH_done (by kernel_rfl) ?_ _
      clear hS
      replace hL := hL.forget
      have hTri : EdgesAt wq (.slice (some ⟨bq, 0, none⟩) 3 3) [⟨x0, y0, false, 0, 0, x1, y1⟩, ⟨x1, y1, false, 0, 0, du - 30, dv - 30⟩, ⟨du - 30, dv - 30, false, 0, 0, x0, y0⟩] := hL.edgesLit [⟨x0, y0, false, 0, 0, x1, y1⟩, ⟨x1, y1, false, 0, 0, du - 30, dv - 30⟩, ⟨du - 30, dv - 30, false, 0, 0, x0, y0⟩] .here rfl (by unfold maxLen; simp)
      have HTri := Lib.hid hTri
      clear hTri
      go_wp2_with (first | (go_at_call 15; (with_reducible refine (HT.out _ _ HTri.out).mono ?_); rintro e _ ⟨vl, rfl, hb, hf⟩; replace hf := runsFresh hf; replace hL := hL.callF hb hf; clear hb hf) | (go_at_call 27; (with_reducible refine (HO.out _ _ _ hL.fact2 hL.fact0).mono ?_); rintro e _ ⟨vo, rfl, hb, hf⟩; replace hf := runsFresh hf; replace hL := hL.callF hb hf; clear hb hf) | ((clear hL; with_reducible intro _ _ hL)) | (with_reducible refine wpC_alloc rfl _ rfl _ _ inferInstance hL ?_) | (with_reducible first | refine wpB_agg rfl _ _ _ rfl rfl hL ?_ | refine wpB_one rfl _ _ (.int _ _) rfl rfl rfl hL ?_ | refine wpB_one rfl _ _ (.slice _ _ _) rfl rfl rfl hL ?_ | refine wpB_one rfl _ _ (.bool _) rfl rfl rfl hL ?_ | refine wpB_one rfl _ _ (.pointer _) rfl rfl rfl hL ?_ | refine wpB_one rfl _ _ (.func _ _ _) rfl rfl rfl hL ?_) | (with_reducible first | refine wpH_max rfl _ _ _ _ rfl _ _ rfl rfl ?_ | refine wpH_min rfl _ _ _ _ rfl _ _ rfl rfl ?_) | ((with_reducible refine wpA_load rfl _ _ rfl _ rfl ?_); first | refine loadA hL ?_ | refine loadR hL ?_ | refine loadC hL ?_ | refine loadD ?_ | refine loadE hL ?_ | refine loadF ?_) | ((with_reducible refine wpA_index rfl _ _ _ rfl _ rfl _ rfl ?_); first | (refine indexA ?_; try rw [Int.toNat_natCast]) | refine indexC ?_) | ((with_reducible refine wpA_store rfl _ _ _ rfl _ rfl (.agg _) rfl ?_); refine storeR hL ?_; clear hL; intro _ hL) | ((with_reducible first | refine wpA_store rfl _ _ _ rfl _ rfl (.int _ _) rfl ?_ | refine wpA_store rfl _ _ _ rfl _ rfl (.slice _ _ _) rfl ?_ | refine wpA_store rfl _ _ _ rfl _ rfl (.bool _) rfl ?_ | refine wpA_store rfl _ _ _ rfl _ rfl (.pointer _) rfl ?_ | refine wpA_store rfl _ _ _ rfl _ rfl (.func _ _ _) rfl ?_); (first | refine storeA hL ?_ | refine storeO hL ?_); (clear hL; intro _ hL)) | ((with_reducible refine wpA_lit rfl _ _ _ rfl ?_); first | refine litA1 hL ?_ | refine litA2 hL ?_ | refine litA3 hL ?_ | refine litA4 hL ?_ | refine litA6 hL ?_) | ((with_reducible refine wpA_append rfl _ _ _ rfl (.slice _ _ _) rfl ?_); intro vq hvq; simp [go_sem] at hvq; subst hvq; refine appendA hL ?_; clear hL; intro _ _ _ hL; try dsimp only at hL) | ((with_reducible refine wpA_make rfl _ _ _ rfl _ rfl rfl ?_); refine makeA hL ?_))
      go_roundw
      case rel =>
        refine ⟨i + 1, by omega, by go_num, ?_⟩
        exact (hL.drop .here).facts fun θ hθ => by
          simp only [List.mem_cons, List.not_mem_nil, or_false] at hθ
          rcases hθ with h | h
          · rw [h]; exact (hL.drop .here).firm _ List.mem_cons_self
          · rw [h]; exact (hL.drop .here).firm _ (by simp)
      case measure => simp [intOf]; omega
    · have e : i = E.length := by omega
      subst e
      generalize fanR (du - 30) (dv - 30) (dl - 40) E E.length = T at *
      go_wp2_with (first | (go_at_call 15; (with_reducible refine (HLf.out _ _ hL.fact1).mono ?_); rintro e _ ⟨vl, rfl, hb, hf⟩; replace hf := runsFresh hf; replace hL := hL.callF hb hf; clear hb hf) | (go_at_call 14; (with_reducible refine (sameR_calls _ _ _ T hL.fact1 hL.fact0).mono ?_); rintro e _ ⟨rfl, hb⟩; replace hL := hL.call hb; clear hb) | ((clear hL; with_reducible intro _ _ hL)) | (with_reducible refine wpC_alloc rfl _ rfl _ _ inferInstance hL ?_) | (with_reducible first | refine wpB_agg rfl _ _ _ rfl rfl hL ?_ | refine wpB_one rfl _ _ (.int _ _) rfl rfl rfl hL ?_ | refine wpB_one rfl _ _ (.slice _ _ _) rfl rfl rfl hL ?_ | refine wpB_one rfl _ _ (.bool _) rfl rfl rfl hL ?_ | refine wpB_one rfl _ _ (.pointer _) rfl rfl rfl hL ?_ | refine wpB_one rfl _ _ (.func _ _ _) rfl rfl rfl hL ?_) | (with_reducible first | refine wpH_max rfl _ _ _ _ rfl _ _ rfl rfl ?_ | refine wpH_min rfl _ _ _ _ rfl _ _ rfl rfl ?_) | ((with_reducible refine wpA_load rfl _ _ rfl _ rfl ?_); first | refine loadA hL ?_ | refine loadR hL ?_ | refine loadC hL ?_ | refine loadD ?_ | refine loadE hL ?_ | refine loadF ?_) | ((with_reducible refine wpA_index rfl _ _ _ rfl _ rfl _ rfl ?_); first | (refine indexA ?_; try rw [Int.toNat_natCast]) | refine indexC ?_) | ((with_reducible refine wpA_store rfl _ _ _ rfl _ rfl (.agg _) rfl ?_); refine storeR hL ?_; clear hL; intro _ hL) | ((with_reducible first | refine wpA_store rfl _ _ _ rfl _ rfl (.int _ _) rfl ?_ | refine wpA_store rfl _ _ _ rfl _ rfl (.slice _ _ _) rfl ?_ | refine wpA_store rfl _ _ _ rfl _ rfl (.bool _) rfl ?_ | refine wpA_store rfl _ _ _ rfl _ rfl (.pointer _) rfl ?_ | refine wpA_store rfl _ _ _ rfl _ rfl (.func _ _ _) rfl ?_); (first | refine storeA hL ?_ | refine storeO hL ?_); (clear hL; intro _ hL)) | ((with_reducible refine wpA_lit rfl _ _ _ rfl ?_); first | refine litA1 hL ?_ | refine litA2 hL ?_ | refine litA3 hL ?_ | refine litA4 hL ?_ | refine litA6 hL ?_) | ((with_reducible refine wpA_append rfl _ _ _ rfl (.slice _ _ _) rfl ?_); intro vq hvq; simp [go_sem] at hvq; subst hvq; refine appendA hL ?_; clear hL; intro _ _ _ hL; try dsimp only at hL) | ((with_reducible refine wpA_make rfl _ _ _ rfl _ rfl rfl ?_); refine makeA hL ?_))
      go_ret
      exact ⟨rfl, hL.below⟩
end Go.Proofs.Ytkgblkaihblgeaa
