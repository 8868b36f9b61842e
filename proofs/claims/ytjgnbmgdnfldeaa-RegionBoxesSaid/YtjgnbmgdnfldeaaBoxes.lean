/- RegionBoxes returns true, whatever its two arrays of four numbers are. -/
import Derived.Test.YtjgnbmgdnfldeaaKnown
import Derived.Test.YtjgnbmgdnfldeaaPure
import Derived.Deep.RegionWith
namespace Go.Proofs.Ytjgnbmgdnfldeaa
open Go.RowKit

theorem Holds.fact2 {w0 w : World} {M : List Res} {Φ : List (World → Prop)} {a b φ : World → Prop} (h : Holds w0 w M (a :: b :: φ :: Φ)) : φ w := h.fact (.tail _ (.tail _ (.head _)))
theorem Holds.fact3 {w0 w : World} {M : List Res} {Φ : List (World → Prop)} {a b c φ : World → Prop} (h : Holds w0 w M (a :: b :: c :: φ :: Φ)) : φ w := h.fact (.tail _ (.tail _ (.tail _ (.head _))))
def place30 (p : Nat → Int) (j : Nat) : Int := p j % 30 - 5
def placed (p : Nat → Int) (i : Nat) (j : Nat) : Int := if j < i then place30 p j else p j
theorem arrI_congr {n : Nat} {p q : Nat → Int} (h : ∀ i, i < n → p i = q i) : arrI n p = arrI n q := by
  apply Array.ext_getElem?
  intro j
  by_cases h64 : j < n
  · rw [arrI_get _ h64, arrI_get _ h64, h j h64]
  · rw [Array.getElem?_eq_none (by rw [arrI_size]; omega), Array.getElem?_eq_none (by rw [arrI_size]; omega)]
theorem placed_step (p : Nat → Int) (i : Nat) : arrI 4 (fun j => if j = i then place30 p i else placed p i j) = arrI 4 (placed p (i + 1)) := by
  refine arrI_congr fun j _ => ?_
  by_cases h : j = i
  · subst h; simp [placed]
  · have : j < i + 1 ↔ j < i := by omega
    simp [placed, h, this]


theorem arrI_lit4 (p : Nat → Int) : arrI 4 p = #[.int .i64 (p 0), .int .i64 (p 1), .int .i64 (p 2), .int .i64 (p 3)] := by
  unfold arrI; rfl
theorem side20 : isSide 20 = true ∧ isSide 18 = true := by decide
def boxReg (a0 a1 a2 a3 : Int) : Reg := madeReg 20 18 (rectRow a0 a1 a2 a3)
theorem box_may (a0 a1 a2 a3 : Int) : mayReg (boxReg a0 a1 a2 a3) = true := mayReg_made side20.1 side20.2 _
theorem box_WH (a0 a1 a2 a3 : Int) : (boxReg a0 a1 a2 a3).W = 20 ∧ (boxReg a0 a1 a2 a3).H = 18 := by
  unfold boxReg; rw [madeReg_ok side20.1 side20.2]; exact ⟨rfl, rfl⟩
theorem box_row (a0 a1 a2 a3 : Int) {j : Nat} (hj : j < 18) (i : Nat) : inRuns ((boxReg a0 a1 a2 a3).rows.getD j []) i = (decide (i < 20) && (decide (a1 ≤ (j : Int)) && (decide ((j : Int) < a3) && inRun (a0, a2) i))) := by
  unfold boxReg
  rw [madeReg_row side20.1 side20.2 _ (by omega), inRuns_normRow, inRuns_rect, cutI_side side20.1]
  congr 1
  have : (i : Int) < 20 ↔ i < 20 := by omega
  simp [this]
theorem box_meet (a0 a1 a2 a3 b0 b1 b2 b3 : Int) : bothReg (rowsOp fun x y => x && y) (boxReg a0 a1 a2 a3) (boxReg b0 b1 b2 b3) = boxReg (max a0 b0) (max a1 b1) (min a2 b2) (min a3 b3) ∧ bothErr (boxReg a0 a1 a2 a3) (boxReg b0 b1 b2 b3) = 0 := by
  have wa := box_WH a0 a1 a2 a3
  have wb := box_WH b0 b1 b2 b3
  obtain ⟨e1, e2⟩ := bothReg_ok (rowsOp fun x y => x && y) (box_may a0 a1 a2 a3) (box_may b0 b1 b2 b3) (wa.1.trans wb.1.symm) (wa.2.trans wb.2.symm)
  refine ⟨?_, e2⟩
  rw [e1, wa.1, wa.2]
  show _ = madeReg 20 18 _
  refine madeReg_congr fun j hj i hi => ?_
  rw [cutI_side side20.1] at hi
  rw [inRuns_rowsOp _ _ _ (by omega), box_row _ _ _ _ (by omega), box_row _ _ _ _ (by omega), inRuns_rect]
  have h20 : i < 20 := by omega
  rw [Bool.eq_iff_iff]
  simp [h20, inRun]
  omega
theorem box_sum (a0 a1 a2 a3 : Int) : ∀ n : Nat, n ≤ 18 → (sumTo (boxReg a0 a1 a2 a3) n : Int) = max 0 (min a2 20 - max a0 0) * max 0 (min a3 n - max a1 0)
  | 0, _ => by
    have : max 0 (min a3 ((0 : Nat) : Int) - max a1 0) = 0 := by omega
    rw [this]; simp [sumTo]
  | n + 1, hn => by
    have ih := box_sum a0 a1 a2 a3 n (by omega)
    have hrow : (countTo (inRuns ((boxReg a0 a1 a2 a3).rows.getD n [])) 64 : Int) = if a1 ≤ (n : Int) ∧ (n : Int) < a3 then max 0 (min a2 20 - max a0 0) else 0 := by
      split
      · rename_i h
        rw [countTo_congr (q := fun i => decide (a0 ≤ (i : Int)) && decide ((i : Int) < min a2 20)) (fun i hi => ?_), countTo_iv]
        · omega
        · rw [box_row _ _ _ _ (by omega), Bool.eq_iff_iff]; simp [inRun, h]; omega
      · rename_i h
        rw [countTo_none fun i hi => ?_]
        · rfl
        · rw [box_row _ _ _ _ (by omega)]
          rw [Bool.eq_false_iff]
          intro e; simp at e; exact h ⟨e.2.1, e.2.2.1⟩
    simp only [sumTo]
    rw [Int.natCast_add, ih, hrow]
    split
    · rename_i h
      have : max 0 (min a3 ((n + 1 : Nat) : Int) - max a1 0) = max 0 (min a3 n - max a1 0) + 1 := by omega
      rw [this, Int.mul_add, Int.mul_one]
    · rename_i h
      have : max 0 (min a3 ((n + 1 : Nat) : Int) - max a1 0) = max 0 (min a3 n - max a1 0) := by omega
      rw [this, Int.add_zero]
theorem box_count (a0 a1 a2 a3 : Int) : (countReg (boxReg a0 a1 a2 a3) : Int) = max 0 (min a2 20 - max a0 0) * max 0 (min a3 18 - max a1 0) := by
  rw [countReg_ok (box_may _ _ _ _), (box_WH a0 a1 a2 a3).2]
  exact box_sum a0 a1 a2 a3 18 (by omega)
theorem mul_small {x y : Int} (h1 : 0 ≤ x) (h2 : x ≤ 100) (h3 : 0 ≤ y) (h4 : y ≤ 100) : 0 ≤ x * y ∧ x * y ≤ 10000 :=
  ⟨Int.mul_nonneg h1 h3, by have := Int.mul_le_mul h2 h4 h3 (by omega : (0 : Int) ≤ 100); omega⟩

set_option maxRecDepth 100000 in
set_option maxHeartbeats 2000000 in
theorem boxes_calls (w : World) (pa pb : Nat → Int) : Calls Try.prog 5 #[.agg (arrI 4 pa), .agg (arrI 4 pb)] w fun e w' => e = .returned (.bool true) ∧ Below w.heap.size w w' := by
  have hL := Holds.start w
  have n1 : True := trivial; have n2 : True := trivial; have n3 : True := trivial; have n4 : True := trivial; have n5 : True := trivial; have n6 : True := trivial; have n7 : True := trivial; have n8 : True := trivial
  go_enter Try.func5, Try.ntmps5
  go_wp2_with (first | (go_at_call 13; (with_reducible refine (known_calls _).mono ?_); rintro e _ ⟨rfl, hb⟩; replace hL := hL.call hb; clear hb) | (first | (clear hL n1; with_reducible intro b1 w1 hL) | (clear hL n2; with_reducible intro b2 w2 hL) | (clear hL n3; with_reducible intro b3 w3 hL) | (clear hL n4; with_reducible intro b4 w4 hL) | (clear hL n5; with_reducible intro b5 w5 hL) | (clear hL n6; with_reducible intro b6 w6 hL) | (clear hL n7; with_reducible intro b7 w7 hL) | (clear hL n8; with_reducible intro b8 w8 hL) | (clear hL; with_reducible intro _ _ hL)) | (with_reducible refine wpC_alloc rfl _ rfl _ _ inferInstance hL ?_) | (with_reducible first | refine wpB_agg rfl _ _ _ rfl rfl hL ?_ | refine wpB_one rfl _ _ (.int _ _) rfl rfl rfl hL ?_ | refine wpB_one rfl _ _ (.slice _ _ _) rfl rfl rfl hL ?_ | refine wpB_one rfl _ _ (.bool _) rfl rfl rfl hL ?_ | refine wpB_one rfl _ _ (.pointer _) rfl rfl rfl hL ?_ | refine wpB_one rfl _ _ (.func _ _ _) rfl rfl rfl hL ?_) | (with_reducible first | refine wpH_max rfl _ _ _ _ rfl _ _ rfl rfl ?_ | refine wpH_min rfl _ _ _ _ rfl _ _ rfl rfl ?_) | ((with_reducible refine wpA_load rfl _ _ rfl _ rfl ?_); first | ((with_reducible apply loadAt_blk); (· infer_instance); (· exact hL); (· (repeat (first | with_reducible exact At.here | with_reducible apply At.there))); (· (first | with_reducible exact arrB_get _ (by omega) | with_reducible exact arrI_get _ (by omega) | (simp only [List.getElem?_toArray, List.getElem?_cons_zero]; rfl) | (simp only [List.getElem?_toArray, List.getElem?_cons_zero, List.getElem?_cons_succ]; rfl) | rfl))) | ((with_reducible apply loadAt_row); (· infer_instance); (· exact hL); (· (repeat (first | with_reducible exact At.here | with_reducible apply At.there))); (· (first | rfl | (simp only [arrB_size]; done) | (simp only [arrI_size]; done)))) | ((with_reducible apply loadAt_cell); (· infer_instance); (· (first | exact hL.old (by with_reducible assumption) | with_reducible assumption))) | ((with_reducible apply loadAt_cells); (· infer_instance); (· (first | exact hL.olds (by with_reducible assumption) | with_reducible assumption)); (· rfl))) | ((with_reducible refine wpA_index rfl _ _ _ rfl _ rfl _ rfl ?_); first | ((with_reducible apply indexAt_B); (· infer_instance); (· omega); (· omega); try rw [Int.toNat_natCast]) | ((with_reducible apply indexAt); (· infer_instance); (· omega); (· omega); (· (first | with_reducible exact arrB_get _ (by omega) | with_reducible exact arrI_get _ (by omega) | (simp only [List.getElem?_toArray, List.getElem?_cons_zero]; rfl) | (simp only [List.getElem?_toArray, List.getElem?_cons_zero, List.getElem?_cons_succ]; rfl) | rfl)))) | ((with_reducible refine wpA_store rfl _ _ _ rfl _ rfl (.agg _) rfl ?_); (with_reducible apply storeAt_row); (· infer_instance); (· (first | exact arrB_one _ | exact arrI_one _ _ | (simp [Value.oneCell']; done) | rfl)); (· exact hL); (· (repeat (first | with_reducible exact Upd.here | with_reducible apply Upd.there))); (· (first | rfl | (simp only [arrB_size]; done) | (simp only [arrI_size]; done))); (· (first | rfl | (simp only [arrB_size]; done) | (simp only [arrI_size]; done))); clear hL; intro _ hL) | ((with_reducible first | refine wpA_store rfl _ _ _ rfl _ rfl (.int _ _) rfl ?_ | refine wpA_store rfl _ _ _ rfl _ rfl (.slice _ _ _) rfl ?_ | refine wpA_store rfl _ _ _ rfl _ rfl (.bool _) rfl ?_ | refine wpA_store rfl _ _ _ rfl _ rfl (.pointer _) rfl ?_ | refine wpA_store rfl _ _ _ rfl _ rfl (.func _ _ _) rfl ?_); first | ((with_reducible apply storeAt_cell); (· rfl); (· rfl); (· infer_instance); (· exact hL); (· (repeat (first | with_reducible exact Upd.here | with_reducible apply Upd.there))); (· (first | (rw [arrB_size]; omega) | (rw [arrI_size]; omega) | (simp only [List.size_toArray, List.length_cons, List.length_nil]; omega) | omega)); (· (first | with_reducible exact arrB_set _ _ (by omega) | with_reducible exact arrI_set _ _ (by omega) | (simp only [List.setIfInBounds_toArray, List.set_cons_zero, List.set_cons_succ]; rfl))); clear hL; intro _ hL) | ((with_reducible apply storeAt_own); (· rfl); (· rfl); (· infer_instance); (· exact hL); (· (repeat (first | with_reducible exact Upd.here | with_reducible apply Upd.there))); (· omega); clear hL; intro _ hL)) | ((with_reducible refine wpA_lit rfl _ _ _ rfl ?_); first | ((with_reducible apply litAt1); (· (simp only [List.map_toArray, List.map_cons, List.map_nil]; rfl)); (· infer_instance); (· infer_instance); (· (simp [go_sem, Value.cells]; done)); (· decide); (· (simp [go_sem, litCells, Value.cells]; rfl)); (· exact hL)) | ((with_reducible apply litAt2); (· (simp only [List.map_toArray, List.map_cons, List.map_nil]; rfl)); (· infer_instance); (· infer_instance); (· (simp [go_sem, Value.cells]; done)); (· decide); (· (simp [go_sem, litCells, Value.cells]; rfl)); (· exact hL))) | ((with_reducible refine wpA_append rfl _ _ _ rfl (.slice _ _ _) rfl ?_); intro vq hvq; simp [go_sem] at hvq; subst hvq; (with_reducible apply appendAt); (· infer_instance); (· infer_instance); (· exact hL); (· (repeat (first | with_reducible exact Rem.here | with_reducible apply Rem.there))); (· (intro _; (repeat (first | with_reducible exact Upd.here | with_reducible apply Upd.there)))); (· rfl); (· decide); (· (first | rfl | omega)); (· (first | exact arrB_one _ | exact arrI_one _ _ | (simp [Value.oneCell']; done) | rfl)); (· (first | decide | omega)); (· (unfold maxLen; omega)); (· omega); clear hL; intro _ _ _ hL; try dsimp only at hL) | ((with_reducible refine wpA_make rfl _ _ _ rfl _ rfl rfl ?_); (with_reducible apply makeAt); (· infer_instance); (· infer_instance); (· rfl); (· (first | rfl | exact (Int.toNat_of_nonneg (by omega)).symm)); (· omega); (· (unfold maxLen; omega)); (· exact hL)))
  go_loopw [5] (fun s5 wr => ∃ i : Nat, i ≤ 4 ∧ s5 = .int .i64 i ∧ Holds w wr [blk b2 (arrI 4 (placed pb i)) 40, blk b1 (arrI 4 (placed pa i)) 40] [])
    (fun s5 wr => (4 - intOf s5).toNat)
  case atStart => exact ⟨0, by omega, rfl, hL⟩
  case round =>
    clear hL
    obtain ⟨i, hi, rfl, hL⟩ := hrel
    by_cases hlt : i < 4
    · go_wp2_with (first | (first | (clear hL n1; with_reducible intro b1 w1 hL) | (clear hL n2; with_reducible intro b2 w2 hL) | (clear hL n3; with_reducible intro b3 w3 hL) | (clear hL n4; with_reducible intro b4 w4 hL) | (clear hL n5; with_reducible intro b5 w5 hL) | (clear hL n6; with_reducible intro b6 w6 hL) | (clear hL n7; with_reducible intro b7 w7 hL) | (clear hL n8; with_reducible intro b8 w8 hL) | (clear hL; with_reducible intro _ _ hL)) | (with_reducible refine wpC_alloc rfl _ rfl _ _ inferInstance hL ?_) | (with_reducible first | refine wpB_agg rfl _ _ _ rfl rfl hL ?_ | refine wpB_one rfl _ _ (.int _ _) rfl rfl rfl hL ?_ | refine wpB_one rfl _ _ (.slice _ _ _) rfl rfl rfl hL ?_ | refine wpB_one rfl _ _ (.bool _) rfl rfl rfl hL ?_ | refine wpB_one rfl _ _ (.pointer _) rfl rfl rfl hL ?_ | refine wpB_one rfl _ _ (.func _ _ _) rfl rfl rfl hL ?_) | (with_reducible first | refine wpH_max rfl _ _ _ _ rfl _ _ rfl rfl ?_ | refine wpH_min rfl _ _ _ _ rfl _ _ rfl rfl ?_) | ((with_reducible refine wpA_load rfl _ _ rfl _ rfl ?_); first | ((with_reducible apply loadAt_blk); (· infer_instance); (· exact hL); (· (repeat (first | with_reducible exact At.here | with_reducible apply At.there))); (· (first | with_reducible exact arrB_get _ (by omega) | with_reducible exact arrI_get _ (by omega) | (simp only [List.getElem?_toArray, List.getElem?_cons_zero]; rfl) | (simp only [List.getElem?_toArray, List.getElem?_cons_zero, List.getElem?_cons_succ]; rfl) | rfl))) | ((with_reducible apply loadAt_row); (· infer_instance); (· exact hL); (· (repeat (first | with_reducible exact At.here | with_reducible apply At.there))); (· (first | rfl | (simp only [arrB_size]; done) | (simp only [arrI_size]; done)))) | ((with_reducible apply loadAt_cell); (· infer_instance); (· (first | exact hL.old (by with_reducible assumption) | with_reducible assumption))) | ((with_reducible apply loadAt_cells); (· infer_instance); (· (first | exact hL.olds (by with_reducible assumption) | with_reducible assumption)); (· rfl))) | ((with_reducible refine wpA_index rfl _ _ _ rfl _ rfl _ rfl ?_); first | ((with_reducible apply indexAt_B); (· infer_instance); (· omega); (· omega); try rw [Int.toNat_natCast]) | ((with_reducible apply indexAt); (· infer_instance); (· omega); (· omega); (· (first | with_reducible exact arrB_get _ (by omega) | with_reducible exact arrI_get _ (by omega) | (simp only [List.getElem?_toArray, List.getElem?_cons_zero]; rfl) | (simp only [List.getElem?_toArray, List.getElem?_cons_zero, List.getElem?_cons_succ]; rfl) | rfl)))) | ((with_reducible refine wpA_store rfl _ _ _ rfl _ rfl (.agg _) rfl ?_); (with_reducible apply storeAt_row); (· infer_instance); (· (first | exact arrB_one _ | exact arrI_one _ _ | (simp [Value.oneCell']; done) | rfl)); (· exact hL); (· (repeat (first | with_reducible exact Upd.here | with_reducible apply Upd.there))); (· (first | rfl | (simp only [arrB_size]; done) | (simp only [arrI_size]; done))); (· (first | rfl | (simp only [arrB_size]; done) | (simp only [arrI_size]; done))); clear hL; intro _ hL) | ((with_reducible first | refine wpA_store rfl _ _ _ rfl _ rfl (.int _ _) rfl ?_ | refine wpA_store rfl _ _ _ rfl _ rfl (.slice _ _ _) rfl ?_ | refine wpA_store rfl _ _ _ rfl _ rfl (.bool _) rfl ?_ | refine wpA_store rfl _ _ _ rfl _ rfl (.pointer _) rfl ?_ | refine wpA_store rfl _ _ _ rfl _ rfl (.func _ _ _) rfl ?_); first | ((with_reducible apply storeAt_cell); (· rfl); (· rfl); (· infer_instance); (· exact hL); (· (repeat (first | with_reducible exact Upd.here | with_reducible apply Upd.there))); (· (first | (rw [arrB_size]; omega) | (rw [arrI_size]; omega) | (simp only [List.size_toArray, List.length_cons, List.length_nil]; omega) | omega)); (· (first | with_reducible exact arrB_set _ _ (by omega) | with_reducible exact arrI_set _ _ (by omega) | (simp only [List.setIfInBounds_toArray, List.set_cons_zero, List.set_cons_succ]; rfl))); clear hL; intro _ hL) | ((with_reducible apply storeAt_own); (· rfl); (· rfl); (· infer_instance); (· exact hL); (· (repeat (first | with_reducible exact Upd.here | with_reducible apply Upd.there))); (· omega); clear hL; intro _ hL)) | ((with_reducible refine wpA_lit rfl _ _ _ rfl ?_); first | ((with_reducible apply litAt1); (· (simp only [List.map_toArray, List.map_cons, List.map_nil]; rfl)); (· infer_instance); (· infer_instance); (· (simp [go_sem, Value.cells]; done)); (· decide); (· (simp [go_sem, litCells, Value.cells]; rfl)); (· exact hL)) | ((with_reducible apply litAt2); (· (simp only [List.map_toArray, List.map_cons, List.map_nil]; rfl)); (· infer_instance); (· infer_instance); (· (simp [go_sem, Value.cells]; done)); (· decide); (· (simp [go_sem, litCells, Value.cells]; rfl)); (· exact hL))) | ((with_reducible refine wpA_append rfl _ _ _ rfl (.slice _ _ _) rfl ?_); intro vq hvq; simp [go_sem] at hvq; subst hvq; (with_reducible apply appendAt); (· infer_instance); (· infer_instance); (· exact hL); (· (repeat (first | with_reducible exact Rem.here | with_reducible apply Rem.there))); (· (intro _; (repeat (first | with_reducible exact Upd.here | with_reducible apply Upd.there)))); (· rfl); (· decide); (· (first | rfl | omega)); (· (first | exact arrB_one _ | exact arrI_one _ _ | (simp [Value.oneCell']; done) | rfl)); (· (first | decide | omega)); (· (unfold maxLen; omega)); (· omega); clear hL; intro _ _ _ hL; try dsimp only at hL) | ((with_reducible refine wpA_make rfl _ _ _ rfl _ rfl rfl ?_); (with_reducible apply makeAt); (· infer_instance); (· infer_instance); (· rfl); (· (first | rfl | exact (Int.toNat_of_nonneg (by omega)).symm)); (· omega); (· (unfold maxLen; omega)); (· exact hL)))
      have hne := hL.apart
      simp [blk] at hne
      have e12 : ¬ b1 = b2 := by first | exact hne | exact fun e => hne e.symm
      have e21 : ¬ b2 = b1 := fun e => e12 e.symm
      clear hne
      have c1 := hL.cell (o := i) (.there .here)
      have c2 := hL.cell (o := i) .here
      rw [arrI_get _ hlt] at c1 c2
      rw [show placed pa i i = pa i by simp [placed]] at c1
      rw [show placed pb i i = pb i by simp [placed]] at c2
      have f1 := hL.soft (o := i) (.there .here)
      have f2 := hL.soft (o := i) .here
      have ha := ((hL.setCell (o := i) (v := .int .i64 (place30 pa i)) (.there .here)).setCell (o := i) (v := .int .i64 (place30 pb i)) .here).drew
      rw [arrI_set _ _ hlt, arrI_set _ _ hlt, placed_step, placed_step] at ha
      have Ha := Lib.hid ha; clear ha hL
      have p1 := Int.emod_nonneg (pa i) (show (30 : Int) ≠ 0 by omega)
      have p2 := Int.emod_lt_of_pos (pa i) (show (0 : Int) < 30 by omega)
      have p3 := Int.emod_nonneg (pb i) (show (30 : Int) ≠ 0 by omega)
      have p4 := Int.emod_lt_of_pos (pb i) (show (0 : Int) < 30 by omega)
      go_region_with (go_at_call 34; refine (place_calls _ _ (by omega) (by omega) _).mono ?_; rintro e w' ⟨rfl, rfl⟩)
      all_goals
        go_wp2
        go_roundw
        case rel => exact ⟨i + 1, by omega, by go_num, Ha.out⟩
        case measure => simp [intOf]; omega
    · have e : i = 4 := by omega
      subst e
      have q : ∀ (p : Nat → Int) (k : Nat), k < 4 → -5 ≤ placed p 4 k ∧ placed p 4 k ≤ 24 := by
        intro p k hk
        have p1 := Int.emod_nonneg (p k) (show (30 : Int) ≠ 0 by omega)
        have p2 := Int.emod_lt_of_pos (p k) (show (0 : Int) < 30 by omega)
        simp only [placed, hk, if_true, place30]
        omega
      rw [arrI_lit4, arrI_lit4] at hL
      obtain ⟨qa0, ra0⟩ := q pa 0 (by omega)
      obtain ⟨qa1, ra1⟩ := q pa 1 (by omega)
      obtain ⟨qa2, ra2⟩ := q pa 2 (by omega)
      obtain ⟨qa3, ra3⟩ := q pa 3 (by omega)
      obtain ⟨qb0, rb0⟩ := q pb 0 (by omega)
      obtain ⟨qb1, rb1⟩ := q pb 1 (by omega)
      obtain ⟨qb2, rb2⟩ := q pb 2 (by omega)
      obtain ⟨qb3, rb3⟩ := q pb 3 (by omega)
      clear q
      generalize placed pa 4 0 = a0 at *
      generalize placed pa 4 1 = a1 at *
      generalize placed pa 4 2 = a2 at *
      generalize placed pa 4 3 = a3 at *
      generalize placed pb 4 0 = d0 at *
      generalize placed pb 4 1 = d1 at *
      generalize placed pb 4 2 = d2 at *
      generalize placed pb 4 3 = d3 at *
      have HM := Lib.hid (box_meet a0 a1 a2 a3 d0 d1 d2 d3)
      have HC := Lib.hid (box_count a0 a1 a2 a3)
      have HE := Lib.hid (show madeErr 20 18 = 0 by decide)
      obtain ⟨m1, m2⟩ := mul_small (x := max 0 (min a2 20 - max a0 0)) (y := max 0 (min a3 18 - max a1 0)) (by omega) (by omega) (by omega) (by omega)
      have HS := Lib.hid (sameReg_self (boxReg (max a0 d0) (max a1 d1) (min a2 d2) (min a3 d3)))
      go_wp2_with (first | (go_at_call 27; (with_reducible refine (regRect_calls _ _ _ _ _ _ _).mono ?_); rintro e _ ⟨v, rfl, hb, hf⟩; have hf : Fresh _ _ (fun w => RegAt w v (boxReg _ _ _ _)) := hf; rw [HE.out]; obtain ⟨sa, sn, sc, rfl, _⟩ := RegAt.shape hf.now; replace hL := hL.callF hb hf; clear hb hf) | (go_at_call 17; (with_reducible refine (regMeet_calls _ _ _ _ _ hL.fact1 hL.fact0).mono ?_); rintro e _ ⟨v, rfl, hb, hf⟩; rw [HM.out.1] at hf; rw [HM.out.2]; obtain ⟨sa, sn, sc, rfl, _⟩ := RegAt.shape hf.now; replace hL := hL.callF hb hf; clear hb hf) | (go_at_call 35; (with_reducible refine (regSame_calls _ _ _ _ _ hL.fact1 hL.fact0).mono ?_); rintro e _ ⟨rfl, hb⟩; rw [HS.out]; replace hL := hL.call hb; clear hb) | (go_at_call 36; (with_reducible refine (regCount_calls _ _ _ hL.fact3).mono ?_); rintro e _ ⟨rfl, hb⟩; rw [HC.out]; replace hL := hL.call hb; clear hb) | (first | (clear hL n1; with_reducible intro b1 w1 hL) | (clear hL n2; with_reducible intro b2 w2 hL) | (clear hL n3; with_reducible intro b3 w3 hL) | (clear hL n4; with_reducible intro b4 w4 hL) | (clear hL n5; with_reducible intro b5 w5 hL) | (clear hL n6; with_reducible intro b6 w6 hL) | (clear hL n7; with_reducible intro b7 w7 hL) | (clear hL n8; with_reducible intro b8 w8 hL) | (clear hL; with_reducible intro _ _ hL)) | (with_reducible refine wpC_alloc rfl _ rfl _ _ inferInstance hL ?_) | (with_reducible first | refine wpB_agg rfl _ _ _ rfl rfl hL ?_ | refine wpB_one rfl _ _ (.int _ _) rfl rfl rfl hL ?_ | refine wpB_one rfl _ _ (.slice _ _ _) rfl rfl rfl hL ?_ | refine wpB_one rfl _ _ (.bool _) rfl rfl rfl hL ?_ | refine wpB_one rfl _ _ (.pointer _) rfl rfl rfl hL ?_ | refine wpB_one rfl _ _ (.func _ _ _) rfl rfl rfl hL ?_) | (with_reducible first | refine wpH_max rfl _ _ _ _ rfl _ _ rfl rfl ?_ | refine wpH_min rfl _ _ _ _ rfl _ _ rfl rfl ?_) | ((with_reducible refine wpA_load rfl _ _ rfl _ rfl ?_); first | ((with_reducible apply loadAt_blk); (· infer_instance); (· exact hL); (· (repeat (first | with_reducible exact At.here | with_reducible apply At.there))); (· (first | with_reducible exact arrB_get _ (by omega) | with_reducible exact arrI_get _ (by omega) | (simp only [List.getElem?_toArray, List.getElem?_cons_zero]; rfl) | (simp only [List.getElem?_toArray, List.getElem?_cons_zero, List.getElem?_cons_succ]; rfl) | rfl))) | ((with_reducible apply loadAt_row); (· infer_instance); (· exact hL); (· (repeat (first | with_reducible exact At.here | with_reducible apply At.there))); (· (first | rfl | (simp only [arrB_size]; done) | (simp only [arrI_size]; done)))) | ((with_reducible apply loadAt_cell); (· infer_instance); (· (first | exact hL.old (by with_reducible assumption) | with_reducible assumption))) | ((with_reducible apply loadAt_cells); (· infer_instance); (· (first | exact hL.olds (by with_reducible assumption) | with_reducible assumption)); (· rfl))) | ((with_reducible refine wpA_index rfl _ _ _ rfl _ rfl _ rfl ?_); first | ((with_reducible apply indexAt_B); (· infer_instance); (· omega); (· omega); try rw [Int.toNat_natCast]) | ((with_reducible apply indexAt); (· infer_instance); (· omega); (· omega); (· (first | with_reducible exact arrB_get _ (by omega) | with_reducible exact arrI_get _ (by omega) | (simp only [List.getElem?_toArray, List.getElem?_cons_zero]; rfl) | (simp only [List.getElem?_toArray, List.getElem?_cons_zero, List.getElem?_cons_succ]; rfl) | rfl)))) | ((with_reducible refine wpA_store rfl _ _ _ rfl _ rfl (.agg _) rfl ?_); (with_reducible apply storeAt_row); (· infer_instance); (· (first | exact arrB_one _ | exact arrI_one _ _ | (simp [Value.oneCell']; done) | rfl)); (· exact hL); (· (repeat (first | with_reducible exact Upd.here | with_reducible apply Upd.there))); (· (first | rfl | (simp only [arrB_size]; done) | (simp only [arrI_size]; done))); (· (first | rfl | (simp only [arrB_size]; done) | (simp only [arrI_size]; done))); clear hL; intro _ hL) | ((with_reducible first | refine wpA_store rfl _ _ _ rfl _ rfl (.int _ _) rfl ?_ | refine wpA_store rfl _ _ _ rfl _ rfl (.slice _ _ _) rfl ?_ | refine wpA_store rfl _ _ _ rfl _ rfl (.bool _) rfl ?_ | refine wpA_store rfl _ _ _ rfl _ rfl (.pointer _) rfl ?_ | refine wpA_store rfl _ _ _ rfl _ rfl (.func _ _ _) rfl ?_); first | ((with_reducible apply storeAt_cell); (· rfl); (· rfl); (· infer_instance); (· exact hL); (· (repeat (first | with_reducible exact Upd.here | with_reducible apply Upd.there))); (· (first | (rw [arrB_size]; omega) | (rw [arrI_size]; omega) | (simp only [List.size_toArray, List.length_cons, List.length_nil]; omega) | omega)); (· (first | with_reducible exact arrB_set _ _ (by omega) | with_reducible exact arrI_set _ _ (by omega) | (simp only [List.setIfInBounds_toArray, List.set_cons_zero, List.set_cons_succ]; rfl))); clear hL; intro _ hL) | ((with_reducible apply storeAt_own); (· rfl); (· rfl); (· infer_instance); (· exact hL); (· (repeat (first | with_reducible exact Upd.here | with_reducible apply Upd.there))); (· omega); clear hL; intro _ hL)) | ((with_reducible refine wpA_lit rfl _ _ _ rfl ?_); first | ((with_reducible apply litAt1); (· (simp only [List.map_toArray, List.map_cons, List.map_nil]; rfl)); (· infer_instance); (· infer_instance); (· (simp [go_sem, Value.cells]; done)); (· decide); (· (simp [go_sem, litCells, Value.cells]; rfl)); (· exact hL)) | ((with_reducible apply litAt2); (· (simp only [List.map_toArray, List.map_cons, List.map_nil]; rfl)); (· infer_instance); (· infer_instance); (· (simp [go_sem, Value.cells]; done)); (· decide); (· (simp [go_sem, litCells, Value.cells]; rfl)); (· exact hL))) | ((with_reducible refine wpA_append rfl _ _ _ rfl (.slice _ _ _) rfl ?_); intro vq hvq; simp [go_sem] at hvq; subst hvq; (with_reducible apply appendAt); (· infer_instance); (· infer_instance); (· exact hL); (· (repeat (first | with_reducible exact Rem.here | with_reducible apply Rem.there))); (· (intro _; (repeat (first | with_reducible exact Upd.here | with_reducible apply Upd.there)))); (· rfl); (· decide); (· (first | rfl | omega)); (· (first | exact arrB_one _ | exact arrI_one _ _ | (simp [Value.oneCell']; done) | rfl)); (· (first | decide | omega)); (· (unfold maxLen; omega)); (· omega); clear hL; intro _ _ _ hL; try dsimp only at hL) | ((with_reducible refine wpA_make rfl _ _ _ rfl _ rfl rfl ?_); (with_reducible apply makeAt); (· infer_instance); (· infer_instance); (· rfl); (· (first | rfl | exact (Int.toNat_of_nonneg (by omega)).symm)); (· omega); (· (unfold maxLen; omega)); (· exact hL)))
      go_ret
      exact ⟨rfl, hL.below⟩
end Go.Proofs.Ytjgnbmgdnfldeaa
