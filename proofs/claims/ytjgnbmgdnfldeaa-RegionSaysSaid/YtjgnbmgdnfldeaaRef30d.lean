/- The reference's May of runs. -/
import Derived.Test.YtjgnbmgdnfldeaaRef30c
import Derived.Test.YtjgnbmgdnfldeaaDraw
namespace Go.Proofs.Ytjgnbmgdnfldeaa
open Go.RowKit

set_option maxRecDepth 100000 in
set_option maxHeartbeats 1000000 in
theorem refMay_calls (w : World) (a : Value) (l : List (Int × Int)) (ha : RunsAt w a l) (W : Int) :
    Calls Try.prog 79 #[a, .int .i64 W] w fun e w' => e = .returned (.bool (mayRuns l W)) ∧ Below w.heap.size w w' := by
  obtain ⟨a, cap, rfl, hlc, hcm, hel⟩ := ha
  unfold maxLen at hcm
  simp only [List.length_map] at hlc hel ⊢
  have Hel := Lib.hid hel; clear hel
  have hL := Holds.start w
  rcases (by omega : (0 ≤ W ∧ W ≤ 64) ∨ W < 0 ∨ 64 < W) with ⟨h1, h2⟩ | h1 | h1
  · have Hr := Lib.hid (show mayRuns l W = mayFrom (-1) W l by simp [mayRuns, h1, h2])
    have n1 : True := trivial; have n2 : True := trivial; have n3 : True := trivial; have n4 : True := trivial
    go_enter Try.func79, Try.ntmps79
    go_wp2_with (first | (first | (clear hL n1; with_reducible intro b1 w1 hL) | (clear hL n2; with_reducible intro b2 w2 hL) | (clear hL n3; with_reducible intro b3 w3 hL) | (clear hL n4; with_reducible intro b4 w4 hL) | (clear hL; with_reducible intro _ _ hL)) | (with_reducible refine wpC_alloc rfl _ rfl _ _ inferInstance hL ?_) | (with_reducible first | refine wpB_agg rfl _ _ _ rfl rfl hL ?_ | refine wpB_one rfl _ _ (.int _ _) rfl rfl rfl hL ?_ | refine wpB_one rfl _ _ (.slice _ _ _) rfl rfl rfl hL ?_ | refine wpB_one rfl _ _ (.bool _) rfl rfl rfl hL ?_ | refine wpB_one rfl _ _ (.pointer _) rfl rfl rfl hL ?_ | refine wpB_one rfl _ _ (.func _ _ _) rfl rfl rfl hL ?_) | (with_reducible first | refine wpH_max rfl _ _ _ _ rfl _ _ rfl rfl ?_ | refine wpH_min rfl _ _ _ _ rfl _ _ rfl rfl ?_) | ((with_reducible refine wpA_load rfl _ _ rfl _ rfl ?_); first | refine loadA hL ?_ | refine loadR hL ?_ | refine loadC hL ?_ | refine loadD ?_ | refine loadE hL ?_ | refine loadF ?_) | ((with_reducible refine wpA_index rfl _ _ _ rfl _ rfl _ rfl ?_); first | (refine indexA ?_; try rw [Int.toNat_natCast]) | refine indexC ?_) | ((with_reducible refine wpA_store rfl _ _ _ rfl _ rfl (.agg _) rfl ?_); refine storeR hL ?_; clear hL; intro _ hL) | ((with_reducible first | refine wpA_store rfl _ _ _ rfl _ rfl (.int _ _) rfl ?_ | refine wpA_store rfl _ _ _ rfl _ rfl (.slice _ _ _) rfl ?_ | refine wpA_store rfl _ _ _ rfl _ rfl (.bool _) rfl ?_ | refine wpA_store rfl _ _ _ rfl _ rfl (.pointer _) rfl ?_ | refine wpA_store rfl _ _ _ rfl _ rfl (.func _ _ _) rfl ?_); (first | refine storeA hL ?_ | refine storeO hL ?_); (clear hL; intro _ hL)) | ((with_reducible refine wpA_lit rfl _ _ _ rfl ?_); first | refine litA1 hL ?_ | refine litA2 hL ?_) | ((with_reducible refine wpA_append rfl _ _ _ rfl (.slice _ _ _) rfl ?_); intro vq hvq; simp [go_sem] at hvq; subst hvq; refine appendA hL ?_; clear hL; intro _ _ _ hL; try dsimp only at hL) | ((with_reducible refine wpA_make rfl _ _ _ rfl _ rfl rfl ?_); refine makeA hL ?_))
    go_loopw [5, 6] (fun s5 s6 wr => ∃ k : Nat, k ≤ l.length ∧ s6 = .int .i64 k ∧ s5 = .int .i64 (lastTo (-1) (l.take k)) ∧ mayFrom (-1) W (l.take k) = true ∧ Holds w wr [] [])
      (fun s5 s6 wr => l.length - (intOf s6).toNat)
    case atStart => exact ⟨0, by omega, rfl, rfl, rfl, hL⟩
    case round =>
      clear hL
      obtain ⟨k, hk, rfl, rfl, hm, hL⟩ := hrel
      by_cases hlt : k < l.length
      · obtain ⟨b, o, rfl, hr⟩ := Hel.out k hlt
        have Ht : l.take (k + 1) = l.take k ++ [l.getD k (0, 0)] := by rw [List.take_succ_eq_append_getElem hlt]; simp [hlt]
        have Hl := Lib.hid (show lastTo (-1) (l.take (k + 1)) = (l.getD k (0, 0)).2 by rw [Ht, lastTo_append])
        have Hm := Lib.hid (show mayFrom (-1) W (l.take (k + 1)) = (decide (lastTo (-1) (l.take k) < (l.getD k (0, 0)).1) && (decide ((l.getD k (0, 0)).1 < (l.getD k (0, 0)).2) && decide ((l.getD k (0, 0)).2 ≤ W))) by
          rw [Ht, mayFrom_append, hm]; simp [mayFrom])
        have Hall := Lib.hid (show mayFrom (-1) W (l.take (k + 1)) = false → mayFrom (-1) W l = false by
          intro h
          rw [← List.take_append_drop (k + 1) l, mayFrom_append, h]; rfl)
        simp only [List.getElem_map, runC] at hr
        have hkb0 : (0 : Int) ≤ (k : Int) := by omega
        have hkb1 : (k : Int) < (l.length : Int) := by omega
        rw [show l[k] = l.getD k (0, 0) by simp [hlt]] at hr
        generalize (l.getD k (0,0)).1 = f at *
        generalize (l.getD k (0,0)).2 = t at *
        generalize lastTo (-1) (l.take k) = z at *
        clear Ht hm
        rename_i wr _
        have e1 := hL.olds hr 0 _ rfl
        have e2 := hL.olds hr 1 _ rfl
        simp only [Nat.add_zero] at e1
        rcases (by omega : (z < f ∧ f < t ∧ t ≤ W) ∨ f ≤ z ∨ (z < f ∧ t ≤ f) ∨ (z < f ∧ f < t ∧ W < t)) with ⟨g1, g2, g3⟩ | g1 | ⟨g1, g2⟩ | ⟨g1, g2, g3⟩
        · have Hm' := Lib.hid (show mayFrom (-1) W (l.take (k + 1)) = true by rw [Hm.out]; simp [g1, g2, g3])
          have d1 : decide (f ≤ z) = false := by simp; omega
          have d2 : decide (t ≤ f) = false := by simp; omega
          have d3 : decide (W < t) = false := by simp; omega
          go_wp2_with (first | (first | (clear hL n1; with_reducible intro b1 w1 hL) | (clear hL n2; with_reducible intro b2 w2 hL) | (clear hL n3; with_reducible intro b3 w3 hL) | (clear hL n4; with_reducible intro b4 w4 hL) | (clear hL; with_reducible intro _ _ hL)) | (with_reducible refine wpC_alloc rfl _ rfl _ _ inferInstance hL ?_) | (with_reducible first | refine wpB_agg rfl _ _ _ rfl rfl hL ?_ | refine wpB_one rfl _ _ (.int _ _) rfl rfl rfl hL ?_ | refine wpB_one rfl _ _ (.slice _ _ _) rfl rfl rfl hL ?_ | refine wpB_one rfl _ _ (.bool _) rfl rfl rfl hL ?_ | refine wpB_one rfl _ _ (.pointer _) rfl rfl rfl hL ?_ | refine wpB_one rfl _ _ (.func _ _ _) rfl rfl rfl hL ?_) | (with_reducible first | refine wpH_max rfl _ _ _ _ rfl _ _ rfl rfl ?_ | refine wpH_min rfl _ _ _ _ rfl _ _ rfl rfl ?_) | ((with_reducible refine wpA_load rfl _ _ rfl _ rfl ?_); first | refine loadA hL ?_ | refine loadR hL ?_ | refine loadC hL ?_ | refine loadD ?_ | refine loadE hL ?_ | refine loadF ?_) | ((with_reducible refine wpA_index rfl _ _ _ rfl _ rfl _ rfl ?_); first | (refine indexA ?_; try rw [Int.toNat_natCast]) | refine indexC ?_) | ((with_reducible refine wpA_store rfl _ _ _ rfl _ rfl (.agg _) rfl ?_); refine storeR hL ?_; clear hL; intro _ hL) | ((with_reducible first | refine wpA_store rfl _ _ _ rfl _ rfl (.int _ _) rfl ?_ | refine wpA_store rfl _ _ _ rfl _ rfl (.slice _ _ _) rfl ?_ | refine wpA_store rfl _ _ _ rfl _ rfl (.bool _) rfl ?_ | refine wpA_store rfl _ _ _ rfl _ rfl (.pointer _) rfl ?_ | refine wpA_store rfl _ _ _ rfl _ rfl (.func _ _ _) rfl ?_); (first | refine storeA hL ?_ | refine storeO hL ?_); (clear hL; intro _ hL)) | ((with_reducible refine wpA_lit rfl _ _ _ rfl ?_); first | refine litA1 hL ?_ | refine litA2 hL ?_) | ((with_reducible refine wpA_append rfl _ _ _ rfl (.slice _ _ _) rfl ?_); intro vq hvq; simp [go_sem] at hvq; subst hvq; refine appendA hL ?_; clear hL; intro _ _ _ hL; try dsimp only at hL) | ((with_reducible refine wpA_make rfl _ _ _ rfl _ rfl rfl ?_); refine makeA hL ?_))
          have hS := (Below.refl wr.heap.size wr).drew
          refine wpH_begin (by kernel_rfl) (fun w' => Below wr.heap.size wr w') ?_
          refine wpH_take1 (i := 0) (by simp only [List.getElem?_toArray, List.getElem?_cons_zero, List.getElem?_cons_succ]; rfl) ?_
          refine ⟨.slice (some ⟨b, o, none⟩) l.length cap, by kernel_rfl, by kernel_rfl, by kernel_rfl, fun _ _ _ h => h, hS, rfl, (fun w' _ => by go_simp), ?_⟩
          simp only [Act.put, List.setIfInBounds_toArray, List.set_cons_zero, List.set_cons_succ]
          refine wpH_take1 (i := 1) (by simp only [List.getElem?_toArray, List.getElem?_cons_zero, List.getElem?_cons_succ]; rfl) ?_
          refine ⟨.int .i64 k, by kernel_rfl, by kernel_rfl, by kernel_rfl, fun _ _ _ h => h, hS, rfl, (fun w' _ => by go_simp), ?_⟩
          simp only [Act.put, List.setIfInBounds_toArray, List.set_cons_zero, List.set_cons_succ]
          refine wpH_take1 (i := 2) (by simp only [List.getElem?_toArray, List.getElem?_cons_zero, List.getElem?_cons_succ]; rfl) ?_
          refine ⟨.pointer (some ⟨b, o + k * 2, none⟩), by kernel_rfl, by kernel_rfl, by kernel_rfl, fun _ _ _ h => h, hS, rfl, (fun w' _ => by go_simp), ?_⟩
          simp only [Act.put, List.setIfInBounds_toArray, List.set_cons_zero, List.set_cons_succ]
          refine wpH_take1 (i := 3) (by simp only [List.getElem?_toArray, List.getElem?_cons_zero, List.getElem?_cons_succ]; rfl) ?_
          refine ⟨.pointer (some ⟨b, o + k * 2, none⟩), by kernel_rfl, by kernel_rfl, by kernel_rfl, fun _ _ _ h => h, hS, rfl, (fun w' _ => by go_simp), ?_⟩
          simp only [Act.put, List.setIfInBounds_toArray, List.set_cons_zero, List.set_cons_succ]
          refine wpH_take1 (i := 4) (by simp only [List.getElem?_toArray, List.getElem?_cons_zero, List.getElem?_cons_succ]; rfl) ?_
          refine ⟨.int .i64 f, by kernel_rfl, by kernel_rfl, by kernel_rfl, fun _ _ _ h => h, hS, rfl, (fun w' hw => run_loadOp _ _ rfl _ rfl _ (load_cell (cell_later hw e1))), ?_⟩
          simp only [Act.put, List.setIfInBounds_toArray, List.set_cons_zero, List.set_cons_succ]
          refine wpH_take1 (i := 5) (by simp only [List.getElem?_toArray, List.getElem?_cons_zero, List.getElem?_cons_succ]; rfl) ?_
          refine ⟨.int .i64 z, by kernel_rfl, by kernel_rfl, by kernel_rfl, fun _ _ _ h => h, hS, rfl, (fun w' _ => by go_simp), ?_⟩
          simp only [Act.put, List.setIfInBounds_toArray, List.set_cons_zero, List.set_cons_succ]
          refine wpH_take1 (i := 6) (by simp only [List.getElem?_toArray, List.getElem?_cons_zero, List.getElem?_cons_succ]; rfl) ?_
          refine ⟨.bool false, by kernel_rfl, by kernel_rfl, by kernel_rfl, fun _ _ _ h => h, hS, rfl, (fun w' _ => by go_simp), ?_⟩
          simp only [Act.put, List.setIfInBounds_toArray, List.set_cons_zero, List.set_cons_succ]
          refine wpH_take1 (i := 7) (by simp only [List.getElem?_toArray, List.getElem?_cons_zero, List.getElem?_cons_succ]; rfl) ?_
          refine ⟨.bool false, by kernel_rfl, by kernel_rfl, by kernel_rfl, fun _ _ _ h => h, hS, rfl, (fun w' _ => by go_simp), ?_⟩
          simp only [Act.put, List.setIfInBounds_toArray, List.set_cons_zero, List.set_cons_succ]
          refine wpH_take1 (i := 8) (by simp only [List.getElem?_toArray, List.getElem?_cons_zero, List.getElem?_cons_succ]; rfl) ?_
          refine ⟨.slice (some ⟨b, o, none⟩) l.length cap, by kernel_rfl, by kernel_rfl, by kernel_rfl, fun _ _ _ h => h, hS, rfl, (fun w' _ => by go_simp), ?_⟩
          simp only [Act.put, List.setIfInBounds_toArray, List.set_cons_zero, List.set_cons_succ]
          refine wpH_take1 (i := 9) (by simp only [List.getElem?_toArray, List.getElem?_cons_zero, List.getElem?_cons_succ]; rfl) ?_
          refine ⟨.int .i64 k, by kernel_rfl, by kernel_rfl, by kernel_rfl, fun _ _ _ h => h, hS, rfl, (fun w' _ => by go_simp), ?_⟩
          simp only [Act.put, List.setIfInBounds_toArray, List.set_cons_zero, List.set_cons_succ]
          refine wpH_take1 (i := 10) (by simp only [List.getElem?_toArray, List.getElem?_cons_zero, List.getElem?_cons_succ]; rfl) ?_
          refine ⟨.pointer (some ⟨b, o + k * 2, none⟩), by kernel_rfl, by kernel_rfl, by kernel_rfl, fun _ _ _ h => h, hS, rfl, (fun w' _ => by go_simp), ?_⟩
          simp only [Act.put, List.setIfInBounds_toArray, List.set_cons_zero, List.set_cons_succ]
          refine wpH_take1 (i := 11) (by simp only [List.getElem?_toArray, List.getElem?_cons_zero, List.getElem?_cons_succ]; rfl) ?_
          refine ⟨.pointer (some ⟨b, o + k * 2 + 1, none⟩), by kernel_rfl, by kernel_rfl, by kernel_rfl, fun _ _ _ h => h, hS, rfl, (fun w' _ => by go_simp), ?_⟩
          simp only [Act.put, List.setIfInBounds_toArray, List.set_cons_zero, List.set_cons_succ]
          refine wpH_take1 (i := 12) (by simp only [List.getElem?_toArray, List.getElem?_cons_zero, List.getElem?_cons_succ]; rfl) ?_
          refine ⟨.int .i64 t, by kernel_rfl, by kernel_rfl, by kernel_rfl, fun _ _ _ h => h, hS, rfl, (fun w' hw => run_loadOp _ _ rfl _ rfl _ (load_cell (cell_later hw e2))), ?_⟩
          simp only [Act.put, List.setIfInBounds_toArray, List.set_cons_zero, List.set_cons_succ]
          refine wpH_take1 (i := 13) (by simp only [List.getElem?_toArray, List.getElem?_cons_zero, List.getElem?_cons_succ]; rfl) ?_
          refine ⟨.slice (some ⟨b, o, none⟩) l.length cap, by kernel_rfl, by kernel_rfl, by kernel_rfl, fun _ _ _ h => h, hS, rfl, (fun w' _ => by go_simp), ?_⟩
          simp only [Act.put, List.setIfInBounds_toArray, List.set_cons_zero, List.set_cons_succ]
          refine wpH_take1 (i := 14) (by simp only [List.getElem?_toArray, List.getElem?_cons_zero, List.getElem?_cons_succ]; rfl) ?_
          refine ⟨.int .i64 k, by kernel_rfl, by kernel_rfl, by kernel_rfl, fun _ _ _ h => h, hS, rfl, (fun w' _ => by go_simp), ?_⟩
          simp only [Act.put, List.setIfInBounds_toArray, List.set_cons_zero, List.set_cons_succ]
          refine wpH_take1 (i := 15) (by simp only [List.getElem?_toArray, List.getElem?_cons_zero, List.getElem?_cons_succ]; rfl) ?_
          refine ⟨.pointer (some ⟨b, o + k * 2, none⟩), by kernel_rfl, by kernel_rfl, by kernel_rfl, fun _ _ _ h => h, hS, rfl, (fun w' _ => by go_simp), ?_⟩
          simp only [Act.put, List.setIfInBounds_toArray, List.set_cons_zero, List.set_cons_succ]
          refine wpH_take1 (i := 16) (by simp only [List.getElem?_toArray, List.getElem?_cons_zero, List.getElem?_cons_succ]; rfl) ?_
          refine ⟨.pointer (some ⟨b, o + k * 2, none⟩), by kernel_rfl, by kernel_rfl, by kernel_rfl, fun _ _ _ h => h, hS, rfl, (fun w' _ => by go_simp), ?_⟩
          simp only [Act.put, List.setIfInBounds_toArray, List.set_cons_zero, List.set_cons_succ]
          refine wpH_take1 (i := 17) (by simp only [List.getElem?_toArray, List.getElem?_cons_zero, List.getElem?_cons_succ]; rfl) ?_
          refine ⟨.int .i64 f, by kernel_rfl, by kernel_rfl, by kernel_rfl, fun _ _ _ h => h, hS, rfl, (fun w' hw => run_loadOp _ _ rfl _ rfl _ (load_cell (cell_later hw e1))), ?_⟩
          simp only [Act.put, List.setIfInBounds_toArray, List.set_cons_zero, List.set_cons_succ]
          refine wpH_take1 (i := 18) (by simp only [List.getElem?_toArray, List.getElem?_cons_zero, List.getElem?_cons_succ]; rfl) ?_
          refine ⟨.bool false, by kernel_rfl, by kernel_rfl, by kernel_rfl, fun _ _ _ h => h, hS, rfl, (fun w' _ => by go_simp), ?_⟩
          simp only [Act.put, List.setIfInBounds_toArray, List.set_cons_zero, List.set_cons_succ]
          refine wpH_take1 (i := 19) (by simp only [List.getElem?_toArray, List.getElem?_cons_zero, List.getElem?_cons_succ]; rfl) ?_
          refine ⟨.bool false, by kernel_rfl, by kernel_rfl, by kernel_rfl, fun _ _ _ h => h, hS, rfl, (fun w' _ => by go_simp), ?_⟩
          simp only [Act.put, List.setIfInBounds_toArray, List.set_cons_zero, List.set_cons_succ]
          refine wpH_take1 (i := 20) (by simp only [List.getElem?_toArray, List.getElem?_cons_zero, List.getElem?_cons_succ]; rfl) ?_
          refine ⟨.bool false, by kernel_rfl, by kernel_rfl, by kernel_rfl, fun _ _ _ h => h, hS, rfl, (fun w' _ => by go_simp), ?_⟩
          simp only [Act.put, List.setIfInBounds_toArray, List.set_cons_zero, List.set_cons_succ]
          refine wpH_take1 (i := 21) (by simp only [List.getElem?_toArray, List.getElem?_cons_zero, List.getElem?_cons_succ]; rfl) ?_
          refine ⟨.slice (some ⟨b, o, none⟩) l.length cap, by kernel_rfl, by kernel_rfl, by kernel_rfl, fun _ _ _ h => h, hS, rfl, (fun w' _ => by go_simp), ?_⟩
          simp only [Act.put, List.setIfInBounds_toArray, List.set_cons_zero, List.set_cons_succ]
          refine wpH_take1 (i := 22) (by simp only [List.getElem?_toArray, List.getElem?_cons_zero, List.getElem?_cons_succ]; rfl) ?_
          refine ⟨.int .i64 k, by kernel_rfl, by kernel_rfl, by kernel_rfl, fun _ _ _ h => h, hS, rfl, (fun w' _ => by go_simp), ?_⟩
          simp only [Act.put, List.setIfInBounds_toArray, List.set_cons_zero, List.set_cons_succ]
          refine wpH_take1 (i := 23) (by simp only [List.getElem?_toArray, List.getElem?_cons_zero, List.getElem?_cons_succ]; rfl) ?_
          refine ⟨.pointer (some ⟨b, o + k * 2, none⟩), by kernel_rfl, by kernel_rfl, by kernel_rfl, fun _ _ _ h => h, hS, rfl, (fun w' _ => by go_simp), ?_⟩
          simp only [Act.put, List.setIfInBounds_toArray, List.set_cons_zero, List.set_cons_succ]
          refine wpH_take1 (i := 24) (by simp only [List.getElem?_toArray, List.getElem?_cons_zero, List.getElem?_cons_succ]; rfl) ?_
          refine ⟨.pointer (some ⟨b, o + k * 2 + 1, none⟩), by kernel_rfl, by kernel_rfl, by kernel_rfl, fun _ _ _ h => h, hS, rfl, (fun w' _ => by go_simp), ?_⟩
          simp only [Act.put, List.setIfInBounds_toArray, List.set_cons_zero, List.set_cons_succ]
          refine wpH_take1 (i := 25) (by simp only [List.getElem?_toArray, List.getElem?_cons_zero, List.getElem?_cons_succ]; rfl) ?_
          refine ⟨.int .i64 t, by kernel_rfl, by kernel_rfl, by kernel_rfl, fun _ _ _ h => h, hS, rfl, (fun w' hw => run_loadOp _ _ rfl _ rfl _ (load_cell (cell_later hw e2))), ?_⟩
          simp only [Act.put, List.setIfInBounds_toArray, List.set_cons_zero, List.set_cons_succ]
          refine wpH_take1 (i := 26) (by simp only [List.getElem?_toArray, List.getElem?_cons_zero, List.getElem?_cons_succ]; rfl) ?_
          refine ⟨.int .i64 W, by kernel_rfl, by kernel_rfl, by kernel_rfl, fun _ _ _ h => h, hS, rfl, (fun w' _ => by go_simp), ?_⟩
          simp only [Act.put, List.setIfInBounds_toArray, List.set_cons_zero, List.set_cons_succ]
          refine wpH_take1 (i := 27) (by simp only [List.getElem?_toArray, List.getElem?_cons_zero, List.getElem?_cons_succ]; rfl) ?_
          refine ⟨.bool false, by kernel_rfl, by kernel_rfl, by kernel_rfl, fun _ _ _ h => h, hS, rfl, (fun w' _ => by go_simp), ?_⟩
          simp only [Act.put, List.setIfInBounds_toArray, List.set_cons_zero, List.set_cons_succ]
          refine wpH_take1 (i := 28) (by simp only [List.getElem?_toArray, List.getElem?_cons_zero, List.getElem?_cons_succ]; rfl) ?_
          refine ⟨.bool false, by kernel_rfl, by kernel_rfl, by kernel_rfl, fun _ _ _ h => h, hS, rfl, (fun w' _ => by go_simp), ?_⟩
          simp only [Act.put, List.setIfInBounds_toArray, List.set_cons_zero, List.set_cons_succ]
          refine wpAnyH_done (by kernel_rfl) ?_ _
          replace hL := hL.drew
          go_wp2_with (first | (first | (clear hL n1; with_reducible intro b1 w1 hL) | (clear hL n2; with_reducible intro b2 w2 hL) | (clear hL n3; with_reducible intro b3 w3 hL) | (clear hL n4; with_reducible intro b4 w4 hL) | (clear hL; with_reducible intro _ _ hL)) | (with_reducible refine wpC_alloc rfl _ rfl _ _ inferInstance hL ?_) | (with_reducible first | refine wpB_agg rfl _ _ _ rfl rfl hL ?_ | refine wpB_one rfl _ _ (.int _ _) rfl rfl rfl hL ?_ | refine wpB_one rfl _ _ (.slice _ _ _) rfl rfl rfl hL ?_ | refine wpB_one rfl _ _ (.bool _) rfl rfl rfl hL ?_ | refine wpB_one rfl _ _ (.pointer _) rfl rfl rfl hL ?_ | refine wpB_one rfl _ _ (.func _ _ _) rfl rfl rfl hL ?_) | (with_reducible first | refine wpH_max rfl _ _ _ _ rfl _ _ rfl rfl ?_ | refine wpH_min rfl _ _ _ _ rfl _ _ rfl rfl ?_) | ((with_reducible refine wpA_load rfl _ _ rfl _ rfl ?_); first | refine loadA hL ?_ | refine loadR hL ?_ | refine loadC hL ?_ | refine loadD ?_ | refine loadE hL ?_ | refine loadF ?_) | ((with_reducible refine wpA_index rfl _ _ _ rfl _ rfl _ rfl ?_); first | (refine indexA ?_; try rw [Int.toNat_natCast]) | refine indexC ?_) | ((with_reducible refine wpA_store rfl _ _ _ rfl _ rfl (.agg _) rfl ?_); refine storeR hL ?_; clear hL; intro _ hL) | ((with_reducible first | refine wpA_store rfl _ _ _ rfl _ rfl (.int _ _) rfl ?_ | refine wpA_store rfl _ _ _ rfl _ rfl (.slice _ _ _) rfl ?_ | refine wpA_store rfl _ _ _ rfl _ rfl (.bool _) rfl ?_ | refine wpA_store rfl _ _ _ rfl _ rfl (.pointer _) rfl ?_ | refine wpA_store rfl _ _ _ rfl _ rfl (.func _ _ _) rfl ?_); (first | refine storeA hL ?_ | refine storeO hL ?_); (clear hL; intro _ hL)) | ((with_reducible refine wpA_lit rfl _ _ _ rfl ?_); first | refine litA1 hL ?_ | refine litA2 hL ?_) | ((with_reducible refine wpA_append rfl _ _ _ rfl (.slice _ _ _) rfl ?_); intro vq hvq; simp [go_sem] at hvq; subst hvq; refine appendA hL ?_; clear hL; intro _ _ _ hL; try dsimp only at hL) | ((with_reducible refine wpA_make rfl _ _ _ rfl _ rfl rfl ?_); refine makeA hL ?_))
          go_roundw
          case rel => exact ⟨k + 1, by omega, by go_num, by rw [Hl.out], Hm'.out, hL⟩
          case measure => simp [intOf]; omega
        · have Hm' := Lib.hid (Hall.out (by rw [Hm.out]; simp; omega))
          have d1 : decide (f ≤ z) = true := by simp; omega
          go_wp2_with (first | (first | (clear hL n1; with_reducible intro b1 w1 hL) | (clear hL n2; with_reducible intro b2 w2 hL) | (clear hL n3; with_reducible intro b3 w3 hL) | (clear hL n4; with_reducible intro b4 w4 hL) | (clear hL; with_reducible intro _ _ hL)) | (with_reducible refine wpC_alloc rfl _ rfl _ _ inferInstance hL ?_) | (with_reducible first | refine wpB_agg rfl _ _ _ rfl rfl hL ?_ | refine wpB_one rfl _ _ (.int _ _) rfl rfl rfl hL ?_ | refine wpB_one rfl _ _ (.slice _ _ _) rfl rfl rfl hL ?_ | refine wpB_one rfl _ _ (.bool _) rfl rfl rfl hL ?_ | refine wpB_one rfl _ _ (.pointer _) rfl rfl rfl hL ?_ | refine wpB_one rfl _ _ (.func _ _ _) rfl rfl rfl hL ?_) | (with_reducible first | refine wpH_max rfl _ _ _ _ rfl _ _ rfl rfl ?_ | refine wpH_min rfl _ _ _ _ rfl _ _ rfl rfl ?_) | ((with_reducible refine wpA_load rfl _ _ rfl _ rfl ?_); first | refine loadA hL ?_ | refine loadR hL ?_ | refine loadC hL ?_ | refine loadD ?_ | refine loadE hL ?_ | refine loadF ?_) | ((with_reducible refine wpA_index rfl _ _ _ rfl _ rfl _ rfl ?_); first | (refine indexA ?_; try rw [Int.toNat_natCast]) | refine indexC ?_) | ((with_reducible refine wpA_store rfl _ _ _ rfl _ rfl (.agg _) rfl ?_); refine storeR hL ?_; clear hL; intro _ hL) | ((with_reducible first | refine wpA_store rfl _ _ _ rfl _ rfl (.int _ _) rfl ?_ | refine wpA_store rfl _ _ _ rfl _ rfl (.slice _ _ _) rfl ?_ | refine wpA_store rfl _ _ _ rfl _ rfl (.bool _) rfl ?_ | refine wpA_store rfl _ _ _ rfl _ rfl (.pointer _) rfl ?_ | refine wpA_store rfl _ _ _ rfl _ rfl (.func _ _ _) rfl ?_); (first | refine storeA hL ?_ | refine storeO hL ?_); (clear hL; intro _ hL)) | ((with_reducible refine wpA_lit rfl _ _ _ rfl ?_); first | refine litA1 hL ?_ | refine litA2 hL ?_) | ((with_reducible refine wpA_append rfl _ _ _ rfl (.slice _ _ _) rfl ?_); intro vq hvq; simp [go_sem] at hvq; subst hvq; refine appendA hL ?_; clear hL; intro _ _ _ hL; try dsimp only at hL) | ((with_reducible refine wpA_make rfl _ _ _ rfl _ rfl rfl ?_); refine makeA hL ?_))
          have hS := (Below.refl wr.heap.size wr).drew
          refine wpH_begin (by kernel_rfl) (fun w' => Below wr.heap.size wr w') ?_
          refine wpH_take1 (i := 0) (by simp only [List.getElem?_toArray, List.getElem?_cons_zero, List.getElem?_cons_succ]; rfl) ?_
          refine ⟨.slice (some ⟨b, o, none⟩) l.length cap, by kernel_rfl, by kernel_rfl, by kernel_rfl, fun _ _ _ h => h, hS, rfl, (fun w' _ => by go_simp), ?_⟩
          simp only [Act.put, List.setIfInBounds_toArray, List.set_cons_zero, List.set_cons_succ]
          refine wpH_take1 (i := 1) (by simp only [List.getElem?_toArray, List.getElem?_cons_zero, List.getElem?_cons_succ]; rfl) ?_
          refine ⟨.int .i64 k, by kernel_rfl, by kernel_rfl, by kernel_rfl, fun _ _ _ h => h, hS, rfl, (fun w' _ => by go_simp), ?_⟩
          simp only [Act.put, List.setIfInBounds_toArray, List.set_cons_zero, List.set_cons_succ]
          refine wpH_take1 (i := 2) (by simp only [List.getElem?_toArray, List.getElem?_cons_zero, List.getElem?_cons_succ]; rfl) ?_
          refine ⟨.pointer (some ⟨b, o + k * 2, none⟩), by kernel_rfl, by kernel_rfl, by kernel_rfl, fun _ _ _ h => h, hS, rfl, (fun w' _ => by go_simp), ?_⟩
          simp only [Act.put, List.setIfInBounds_toArray, List.set_cons_zero, List.set_cons_succ]
          refine wpH_take1 (i := 3) (by simp only [List.getElem?_toArray, List.getElem?_cons_zero, List.getElem?_cons_succ]; rfl) ?_
          refine ⟨.pointer (some ⟨b, o + k * 2, none⟩), by kernel_rfl, by kernel_rfl, by kernel_rfl, fun _ _ _ h => h, hS, rfl, (fun w' _ => by go_simp), ?_⟩
          simp only [Act.put, List.setIfInBounds_toArray, List.set_cons_zero, List.set_cons_succ]
          refine wpH_take1 (i := 4) (by simp only [List.getElem?_toArray, List.getElem?_cons_zero, List.getElem?_cons_succ]; rfl) ?_
          refine ⟨.int .i64 f, by kernel_rfl, by kernel_rfl, by kernel_rfl, fun _ _ _ h => h, hS, rfl, (fun w' hw => run_loadOp _ _ rfl _ rfl _ (load_cell (cell_later hw e1))), ?_⟩
          simp only [Act.put, List.setIfInBounds_toArray, List.set_cons_zero, List.set_cons_succ]
          refine wpH_take1 (i := 5) (by simp only [List.getElem?_toArray, List.getElem?_cons_zero, List.getElem?_cons_succ]; rfl) ?_
          refine ⟨.int .i64 z, by kernel_rfl, by kernel_rfl, by kernel_rfl, fun _ _ _ h => h, hS, rfl, (fun w' _ => by go_simp), ?_⟩
          simp only [Act.put, List.setIfInBounds_toArray, List.set_cons_zero, List.set_cons_succ]
          refine wpH_take1 (i := 6) (by simp only [List.getElem?_toArray, List.getElem?_cons_zero, List.getElem?_cons_succ]; rfl) ?_
          refine ⟨.bool true, by kernel_rfl, by kernel_rfl, by kernel_rfl, fun _ _ _ h => h, hS, rfl, (fun w' _ => by go_simp), ?_⟩
          simp only [Act.put, List.setIfInBounds_toArray, List.set_cons_zero, List.set_cons_succ]
          refine wpH_take1 (i := 7) (by simp only [List.getElem?_toArray, List.getElem?_cons_zero, List.getElem?_cons_succ]; rfl) ?_
          refine ⟨.bool true, by kernel_rfl, by kernel_rfl, by kernel_rfl, fun _ _ _ h => h, hS, rfl, (fun w' _ => by go_simp), ?_⟩
          simp only [Act.put, List.setIfInBounds_toArray, List.set_cons_zero, List.set_cons_succ]
          refine wpH_skip1 (i := 8) (by simp only [List.getElem?_toArray, List.getElem?_cons_zero, List.getElem?_cons_succ]; rfl) ?_
          refine ⟨by kernel_rfl, by kernel_rfl, by kernel_rfl, fun _ _ _ h => h, hS, rfl, ?_⟩
          simp only [Act.put, List.setIfInBounds_toArray, List.set_cons_zero, List.set_cons_succ]
          refine wpH_skip1 (i := 9) (by simp only [List.getElem?_toArray, List.getElem?_cons_zero, List.getElem?_cons_succ]; rfl) ?_
          refine ⟨by kernel_rfl, by kernel_rfl, by kernel_rfl, fun _ _ _ h => h, hS, rfl, ?_⟩
          simp only [Act.put, List.setIfInBounds_toArray, List.set_cons_zero, List.set_cons_succ]
          refine wpH_skip1 (i := 10) (by simp only [List.getElem?_toArray, List.getElem?_cons_zero, List.getElem?_cons_succ]; rfl) ?_
          refine ⟨by kernel_rfl, by kernel_rfl, by kernel_rfl, fun _ _ _ h => h, hS, rfl, ?_⟩
          simp only [Act.put, List.setIfInBounds_toArray, List.set_cons_zero, List.set_cons_succ]
          refine wpH_skip1 (i := 11) (by simp only [List.getElem?_toArray, List.getElem?_cons_zero, List.getElem?_cons_succ]; rfl) ?_
          refine ⟨by kernel_rfl, by kernel_rfl, by kernel_rfl, fun _ _ _ h => h, hS, rfl, ?_⟩
          simp only [Act.put, List.setIfInBounds_toArray, List.set_cons_zero, List.set_cons_succ]
          refine wpH_skip1 (i := 12) (by simp only [List.getElem?_toArray, List.getElem?_cons_zero, List.getElem?_cons_succ]; rfl) ?_
          refine ⟨by kernel_rfl, by kernel_rfl, by kernel_rfl, fun _ _ _ h => h, hS, rfl, ?_⟩
          simp only [Act.put, List.setIfInBounds_toArray, List.set_cons_zero, List.set_cons_succ]
          refine wpH_skip1 (i := 13) (by simp only [List.getElem?_toArray, List.getElem?_cons_zero, List.getElem?_cons_succ]; rfl) ?_
          refine ⟨by kernel_rfl, by kernel_rfl, by kernel_rfl, fun _ _ _ h => h, hS, rfl, ?_⟩
          simp only [Act.put, List.setIfInBounds_toArray, List.set_cons_zero, List.set_cons_succ]
          refine wpH_skip1 (i := 14) (by simp only [List.getElem?_toArray, List.getElem?_cons_zero, List.getElem?_cons_succ]; rfl) ?_
          refine ⟨by kernel_rfl, by kernel_rfl, by kernel_rfl, fun _ _ _ h => h, hS, rfl, ?_⟩
          simp only [Act.put, List.setIfInBounds_toArray, List.set_cons_zero, List.set_cons_succ]
          refine wpH_skip1 (i := 15) (by simp only [List.getElem?_toArray, List.getElem?_cons_zero, List.getElem?_cons_succ]; rfl) ?_
          refine ⟨by kernel_rfl, by kernel_rfl, by kernel_rfl, fun _ _ _ h => h, hS, rfl, ?_⟩
          simp only [Act.put, List.setIfInBounds_toArray, List.set_cons_zero, List.set_cons_succ]
          refine wpH_skip1 (i := 16) (by simp only [List.getElem?_toArray, List.getElem?_cons_zero, List.getElem?_cons_succ]; rfl) ?_
          refine ⟨by kernel_rfl, by kernel_rfl, by kernel_rfl, fun _ _ _ h => h, hS, rfl, ?_⟩
          simp only [Act.put, List.setIfInBounds_toArray, List.set_cons_zero, List.set_cons_succ]
          refine wpH_skip1 (i := 17) (by simp only [List.getElem?_toArray, List.getElem?_cons_zero, List.getElem?_cons_succ]; rfl) ?_
          refine ⟨by kernel_rfl, by kernel_rfl, by kernel_rfl, fun _ _ _ h => h, hS, rfl, ?_⟩
          simp only [Act.put, List.setIfInBounds_toArray, List.set_cons_zero, List.set_cons_succ]
          refine wpH_skip1 (i := 18) (by simp only [List.getElem?_toArray, List.getElem?_cons_zero, List.getElem?_cons_succ]; rfl) ?_
          refine ⟨by kernel_rfl, by kernel_rfl, by kernel_rfl, fun _ _ _ h => h, hS, rfl, ?_⟩
          simp only [Act.put, List.setIfInBounds_toArray, List.set_cons_zero, List.set_cons_succ]
          refine wpH_take1 (i := 19) (by simp only [List.getElem?_toArray, List.getElem?_cons_zero, List.getElem?_cons_succ]; rfl) ?_
          refine ⟨.bool true, by kernel_rfl, by kernel_rfl, by kernel_rfl, fun _ _ _ h => h, hS, rfl, (fun w' _ => by go_simp), ?_⟩
          simp only [Act.put, List.setIfInBounds_toArray, List.set_cons_zero, List.set_cons_succ]
          refine wpH_take1 (i := 20) (by simp only [List.getElem?_toArray, List.getElem?_cons_zero, List.getElem?_cons_succ]; rfl) ?_
          refine ⟨.bool true, by kernel_rfl, by kernel_rfl, by kernel_rfl, fun _ _ _ h => h, hS, rfl, (fun w' _ => by go_simp), ?_⟩
          simp only [Act.put, List.setIfInBounds_toArray, List.set_cons_zero, List.set_cons_succ]
          refine wpH_skip1 (i := 21) (by simp only [List.getElem?_toArray, List.getElem?_cons_zero, List.getElem?_cons_succ]; rfl) ?_
          refine ⟨by kernel_rfl, by kernel_rfl, by kernel_rfl, fun _ _ _ h => h, hS, rfl, ?_⟩
          simp only [Act.put, List.setIfInBounds_toArray, List.set_cons_zero, List.set_cons_succ]
          refine wpH_skip1 (i := 22) (by simp only [List.getElem?_toArray, List.getElem?_cons_zero, List.getElem?_cons_succ]; rfl) ?_
          refine ⟨by kernel_rfl, by kernel_rfl, by kernel_rfl, fun _ _ _ h => h, hS, rfl, ?_⟩
          simp only [Act.put, List.setIfInBounds_toArray, List.set_cons_zero, List.set_cons_succ]
          refine wpH_skip1 (i := 23) (by simp only [List.getElem?_toArray, List.getElem?_cons_zero, List.getElem?_cons_succ]; rfl) ?_
          refine ⟨by kernel_rfl, by kernel_rfl, by kernel_rfl, fun _ _ _ h => h, hS, rfl, ?_⟩
          simp only [Act.put, List.setIfInBounds_toArray, List.set_cons_zero, List.set_cons_succ]
          refine wpH_skip1 (i := 24) (by simp only [List.getElem?_toArray, List.getElem?_cons_zero, List.getElem?_cons_succ]; rfl) ?_
          refine ⟨by kernel_rfl, by kernel_rfl, by kernel_rfl, fun _ _ _ h => h, hS, rfl, ?_⟩
          simp only [Act.put, List.setIfInBounds_toArray, List.set_cons_zero, List.set_cons_succ]
          refine wpH_skip1 (i := 25) (by simp only [List.getElem?_toArray, List.getElem?_cons_zero, List.getElem?_cons_succ]; rfl) ?_
          refine ⟨by kernel_rfl, by kernel_rfl, by kernel_rfl, fun _ _ _ h => h, hS, rfl, ?_⟩
          simp only [Act.put, List.setIfInBounds_toArray, List.set_cons_zero, List.set_cons_succ]
          refine wpH_skip1 (i := 26) (by simp only [List.getElem?_toArray, List.getElem?_cons_zero, List.getElem?_cons_succ]; rfl) ?_
          refine ⟨by kernel_rfl, by kernel_rfl, by kernel_rfl, fun _ _ _ h => h, hS, rfl, ?_⟩
          simp only [Act.put, List.setIfInBounds_toArray, List.set_cons_zero, List.set_cons_succ]
          refine wpH_skip1 (i := 27) (by simp only [List.getElem?_toArray, List.getElem?_cons_zero, List.getElem?_cons_succ]; rfl) ?_
          refine ⟨by kernel_rfl, by kernel_rfl, by kernel_rfl, fun _ _ _ h => h, hS, rfl, ?_⟩
          simp only [Act.put, List.setIfInBounds_toArray, List.set_cons_zero, List.set_cons_succ]
          refine wpH_take1 (i := 28) (by simp only [List.getElem?_toArray, List.getElem?_cons_zero, List.getElem?_cons_succ]; rfl) ?_
          refine ⟨.bool true, by kernel_rfl, by kernel_rfl, by kernel_rfl, fun _ _ _ h => h, hS, rfl, (fun w' _ => by go_simp), ?_⟩
          simp only [Act.put, List.setIfInBounds_toArray, List.set_cons_zero, List.set_cons_succ]
          refine wpAnyH_done (by kernel_rfl) ?_ _
          replace hL := hL.drew
          go_wp2
          go_ret
          exact ⟨ret_bool (by rw [Hr.out, Hm'.out]), hL.below⟩
        · have Hm' := Lib.hid (Hall.out (by rw [Hm.out]; simp; omega))
          have d1 : decide (f ≤ z) = false := by simp; omega
          have d2 : decide (t ≤ f) = true := by simp; omega
          go_wp2_with (first | (first | (clear hL n1; with_reducible intro b1 w1 hL) | (clear hL n2; with_reducible intro b2 w2 hL) | (clear hL n3; with_reducible intro b3 w3 hL) | (clear hL n4; with_reducible intro b4 w4 hL) | (clear hL; with_reducible intro _ _ hL)) | (with_reducible refine wpC_alloc rfl _ rfl _ _ inferInstance hL ?_) | (with_reducible first | refine wpB_agg rfl _ _ _ rfl rfl hL ?_ | refine wpB_one rfl _ _ (.int _ _) rfl rfl rfl hL ?_ | refine wpB_one rfl _ _ (.slice _ _ _) rfl rfl rfl hL ?_ | refine wpB_one rfl _ _ (.bool _) rfl rfl rfl hL ?_ | refine wpB_one rfl _ _ (.pointer _) rfl rfl rfl hL ?_ | refine wpB_one rfl _ _ (.func _ _ _) rfl rfl rfl hL ?_) | (with_reducible first | refine wpH_max rfl _ _ _ _ rfl _ _ rfl rfl ?_ | refine wpH_min rfl _ _ _ _ rfl _ _ rfl rfl ?_) | ((with_reducible refine wpA_load rfl _ _ rfl _ rfl ?_); first | refine loadA hL ?_ | refine loadR hL ?_ | refine loadC hL ?_ | refine loadD ?_ | refine loadE hL ?_ | refine loadF ?_) | ((with_reducible refine wpA_index rfl _ _ _ rfl _ rfl _ rfl ?_); first | (refine indexA ?_; try rw [Int.toNat_natCast]) | refine indexC ?_) | ((with_reducible refine wpA_store rfl _ _ _ rfl _ rfl (.agg _) rfl ?_); refine storeR hL ?_; clear hL; intro _ hL) | ((with_reducible first | refine wpA_store rfl _ _ _ rfl _ rfl (.int _ _) rfl ?_ | refine wpA_store rfl _ _ _ rfl _ rfl (.slice _ _ _) rfl ?_ | refine wpA_store rfl _ _ _ rfl _ rfl (.bool _) rfl ?_ | refine wpA_store rfl _ _ _ rfl _ rfl (.pointer _) rfl ?_ | refine wpA_store rfl _ _ _ rfl _ rfl (.func _ _ _) rfl ?_); (first | refine storeA hL ?_ | refine storeO hL ?_); (clear hL; intro _ hL)) | ((with_reducible refine wpA_lit rfl _ _ _ rfl ?_); first | refine litA1 hL ?_ | refine litA2 hL ?_) | ((with_reducible refine wpA_append rfl _ _ _ rfl (.slice _ _ _) rfl ?_); intro vq hvq; simp [go_sem] at hvq; subst hvq; refine appendA hL ?_; clear hL; intro _ _ _ hL; try dsimp only at hL) | ((with_reducible refine wpA_make rfl _ _ _ rfl _ rfl rfl ?_); refine makeA hL ?_))
          have hS := (Below.refl wr.heap.size wr).drew
          refine wpH_begin (by kernel_rfl) (fun w' => Below wr.heap.size wr w') ?_
          refine wpH_take1 (i := 0) (by simp only [List.getElem?_toArray, List.getElem?_cons_zero, List.getElem?_cons_succ]; rfl) ?_
          refine ⟨.slice (some ⟨b, o, none⟩) l.length cap, by kernel_rfl, by kernel_rfl, by kernel_rfl, fun _ _ _ h => h, hS, rfl, (fun w' _ => by go_simp), ?_⟩
          simp only [Act.put, List.setIfInBounds_toArray, List.set_cons_zero, List.set_cons_succ]
          refine wpH_take1 (i := 1) (by simp only [List.getElem?_toArray, List.getElem?_cons_zero, List.getElem?_cons_succ]; rfl) ?_
          refine ⟨.int .i64 k, by kernel_rfl, by kernel_rfl, by kernel_rfl, fun _ _ _ h => h, hS, rfl, (fun w' _ => by go_simp), ?_⟩
          simp only [Act.put, List.setIfInBounds_toArray, List.set_cons_zero, List.set_cons_succ]
          refine wpH_take1 (i := 2) (by simp only [List.getElem?_toArray, List.getElem?_cons_zero, List.getElem?_cons_succ]; rfl) ?_
          refine ⟨.pointer (some ⟨b, o + k * 2, none⟩), by kernel_rfl, by kernel_rfl, by kernel_rfl, fun _ _ _ h => h, hS, rfl, (fun w' _ => by go_simp), ?_⟩
          simp only [Act.put, List.setIfInBounds_toArray, List.set_cons_zero, List.set_cons_succ]
          refine wpH_take1 (i := 3) (by simp only [List.getElem?_toArray, List.getElem?_cons_zero, List.getElem?_cons_succ]; rfl) ?_
          refine ⟨.pointer (some ⟨b, o + k * 2, none⟩), by kernel_rfl, by kernel_rfl, by kernel_rfl, fun _ _ _ h => h, hS, rfl, (fun w' _ => by go_simp), ?_⟩
          simp only [Act.put, List.setIfInBounds_toArray, List.set_cons_zero, List.set_cons_succ]
          refine wpH_take1 (i := 4) (by simp only [List.getElem?_toArray, List.getElem?_cons_zero, List.getElem?_cons_succ]; rfl) ?_
          refine ⟨.int .i64 f, by kernel_rfl, by kernel_rfl, by kernel_rfl, fun _ _ _ h => h, hS, rfl, (fun w' hw => run_loadOp _ _ rfl _ rfl _ (load_cell (cell_later hw e1))), ?_⟩
          simp only [Act.put, List.setIfInBounds_toArray, List.set_cons_zero, List.set_cons_succ]
          refine wpH_take1 (i := 5) (by simp only [List.getElem?_toArray, List.getElem?_cons_zero, List.getElem?_cons_succ]; rfl) ?_
          refine ⟨.int .i64 z, by kernel_rfl, by kernel_rfl, by kernel_rfl, fun _ _ _ h => h, hS, rfl, (fun w' _ => by go_simp), ?_⟩
          simp only [Act.put, List.setIfInBounds_toArray, List.set_cons_zero, List.set_cons_succ]
          refine wpH_take1 (i := 6) (by simp only [List.getElem?_toArray, List.getElem?_cons_zero, List.getElem?_cons_succ]; rfl) ?_
          refine ⟨.bool false, by kernel_rfl, by kernel_rfl, by kernel_rfl, fun _ _ _ h => h, hS, rfl, (fun w' _ => by go_simp), ?_⟩
          simp only [Act.put, List.setIfInBounds_toArray, List.set_cons_zero, List.set_cons_succ]
          refine wpH_take1 (i := 7) (by simp only [List.getElem?_toArray, List.getElem?_cons_zero, List.getElem?_cons_succ]; rfl) ?_
          refine ⟨.bool false, by kernel_rfl, by kernel_rfl, by kernel_rfl, fun _ _ _ h => h, hS, rfl, (fun w' _ => by go_simp), ?_⟩
          simp only [Act.put, List.setIfInBounds_toArray, List.set_cons_zero, List.set_cons_succ]
          refine wpH_take1 (i := 8) (by simp only [List.getElem?_toArray, List.getElem?_cons_zero, List.getElem?_cons_succ]; rfl) ?_
          refine ⟨.slice (some ⟨b, o, none⟩) l.length cap, by kernel_rfl, by kernel_rfl, by kernel_rfl, fun _ _ _ h => h, hS, rfl, (fun w' _ => by go_simp), ?_⟩
          simp only [Act.put, List.setIfInBounds_toArray, List.set_cons_zero, List.set_cons_succ]
          refine wpH_take1 (i := 9) (by simp only [List.getElem?_toArray, List.getElem?_cons_zero, List.getElem?_cons_succ]; rfl) ?_
          refine ⟨.int .i64 k, by kernel_rfl, by kernel_rfl, by kernel_rfl, fun _ _ _ h => h, hS, rfl, (fun w' _ => by go_simp), ?_⟩
          simp only [Act.put, List.setIfInBounds_toArray, List.set_cons_zero, List.set_cons_succ]
          refine wpH_take1 (i := 10) (by simp only [List.getElem?_toArray, List.getElem?_cons_zero, List.getElem?_cons_succ]; rfl) ?_
          refine ⟨.pointer (some ⟨b, o + k * 2, none⟩), by kernel_rfl, by kernel_rfl, by kernel_rfl, fun _ _ _ h => h, hS, rfl, (fun w' _ => by go_simp), ?_⟩
          simp only [Act.put, List.setIfInBounds_toArray, List.set_cons_zero, List.set_cons_succ]
          refine wpH_take1 (i := 11) (by simp only [List.getElem?_toArray, List.getElem?_cons_zero, List.getElem?_cons_succ]; rfl) ?_
          refine ⟨.pointer (some ⟨b, o + k * 2 + 1, none⟩), by kernel_rfl, by kernel_rfl, by kernel_rfl, fun _ _ _ h => h, hS, rfl, (fun w' _ => by go_simp), ?_⟩
          simp only [Act.put, List.setIfInBounds_toArray, List.set_cons_zero, List.set_cons_succ]
          refine wpH_take1 (i := 12) (by simp only [List.getElem?_toArray, List.getElem?_cons_zero, List.getElem?_cons_succ]; rfl) ?_
          refine ⟨.int .i64 t, by kernel_rfl, by kernel_rfl, by kernel_rfl, fun _ _ _ h => h, hS, rfl, (fun w' hw => run_loadOp _ _ rfl _ rfl _ (load_cell (cell_later hw e2))), ?_⟩
          simp only [Act.put, List.setIfInBounds_toArray, List.set_cons_zero, List.set_cons_succ]
          refine wpH_take1 (i := 13) (by simp only [List.getElem?_toArray, List.getElem?_cons_zero, List.getElem?_cons_succ]; rfl) ?_
          refine ⟨.slice (some ⟨b, o, none⟩) l.length cap, by kernel_rfl, by kernel_rfl, by kernel_rfl, fun _ _ _ h => h, hS, rfl, (fun w' _ => by go_simp), ?_⟩
          simp only [Act.put, List.setIfInBounds_toArray, List.set_cons_zero, List.set_cons_succ]
          refine wpH_take1 (i := 14) (by simp only [List.getElem?_toArray, List.getElem?_cons_zero, List.getElem?_cons_succ]; rfl) ?_
          refine ⟨.int .i64 k, by kernel_rfl, by kernel_rfl, by kernel_rfl, fun _ _ _ h => h, hS, rfl, (fun w' _ => by go_simp), ?_⟩
          simp only [Act.put, List.setIfInBounds_toArray, List.set_cons_zero, List.set_cons_succ]
          refine wpH_take1 (i := 15) (by simp only [List.getElem?_toArray, List.getElem?_cons_zero, List.getElem?_cons_succ]; rfl) ?_
          refine ⟨.pointer (some ⟨b, o + k * 2, none⟩), by kernel_rfl, by kernel_rfl, by kernel_rfl, fun _ _ _ h => h, hS, rfl, (fun w' _ => by go_simp), ?_⟩
          simp only [Act.put, List.setIfInBounds_toArray, List.set_cons_zero, List.set_cons_succ]
          refine wpH_take1 (i := 16) (by simp only [List.getElem?_toArray, List.getElem?_cons_zero, List.getElem?_cons_succ]; rfl) ?_
          refine ⟨.pointer (some ⟨b, o + k * 2, none⟩), by kernel_rfl, by kernel_rfl, by kernel_rfl, fun _ _ _ h => h, hS, rfl, (fun w' _ => by go_simp), ?_⟩
          simp only [Act.put, List.setIfInBounds_toArray, List.set_cons_zero, List.set_cons_succ]
          refine wpH_take1 (i := 17) (by simp only [List.getElem?_toArray, List.getElem?_cons_zero, List.getElem?_cons_succ]; rfl) ?_
          refine ⟨.int .i64 f, by kernel_rfl, by kernel_rfl, by kernel_rfl, fun _ _ _ h => h, hS, rfl, (fun w' hw => run_loadOp _ _ rfl _ rfl _ (load_cell (cell_later hw e1))), ?_⟩
          simp only [Act.put, List.setIfInBounds_toArray, List.set_cons_zero, List.set_cons_succ]
          refine wpH_take1 (i := 18) (by simp only [List.getElem?_toArray, List.getElem?_cons_zero, List.getElem?_cons_succ]; rfl) ?_
          refine ⟨.bool true, by kernel_rfl, by kernel_rfl, by kernel_rfl, fun _ _ _ h => h, hS, rfl, (fun w' _ => by go_simp), ?_⟩
          simp only [Act.put, List.setIfInBounds_toArray, List.set_cons_zero, List.set_cons_succ]
          refine wpH_take1 (i := 19) (by simp only [List.getElem?_toArray, List.getElem?_cons_zero, List.getElem?_cons_succ]; rfl) ?_
          refine ⟨.bool true, by kernel_rfl, by kernel_rfl, by kernel_rfl, fun _ _ _ h => h, hS, rfl, (fun w' _ => by go_simp), ?_⟩
          simp only [Act.put, List.setIfInBounds_toArray, List.set_cons_zero, List.set_cons_succ]
          refine wpH_take1 (i := 20) (by simp only [List.getElem?_toArray, List.getElem?_cons_zero, List.getElem?_cons_succ]; rfl) ?_
          refine ⟨.bool true, by kernel_rfl, by kernel_rfl, by kernel_rfl, fun _ _ _ h => h, hS, rfl, (fun w' _ => by go_simp), ?_⟩
          simp only [Act.put, List.setIfInBounds_toArray, List.set_cons_zero, List.set_cons_succ]
          refine wpH_skip1 (i := 21) (by simp only [List.getElem?_toArray, List.getElem?_cons_zero, List.getElem?_cons_succ]; rfl) ?_
          refine ⟨by kernel_rfl, by kernel_rfl, by kernel_rfl, fun _ _ _ h => h, hS, rfl, ?_⟩
          simp only [Act.put, List.setIfInBounds_toArray, List.set_cons_zero, List.set_cons_succ]
          refine wpH_skip1 (i := 22) (by simp only [List.getElem?_toArray, List.getElem?_cons_zero, List.getElem?_cons_succ]; rfl) ?_
          refine ⟨by kernel_rfl, by kernel_rfl, by kernel_rfl, fun _ _ _ h => h, hS, rfl, ?_⟩
          simp only [Act.put, List.setIfInBounds_toArray, List.set_cons_zero, List.set_cons_succ]
          refine wpH_skip1 (i := 23) (by simp only [List.getElem?_toArray, List.getElem?_cons_zero, List.getElem?_cons_succ]; rfl) ?_
          refine ⟨by kernel_rfl, by kernel_rfl, by kernel_rfl, fun _ _ _ h => h, hS, rfl, ?_⟩
          simp only [Act.put, List.setIfInBounds_toArray, List.set_cons_zero, List.set_cons_succ]
          refine wpH_skip1 (i := 24) (by simp only [List.getElem?_toArray, List.getElem?_cons_zero, List.getElem?_cons_succ]; rfl) ?_
          refine ⟨by kernel_rfl, by kernel_rfl, by kernel_rfl, fun _ _ _ h => h, hS, rfl, ?_⟩
          simp only [Act.put, List.setIfInBounds_toArray, List.set_cons_zero, List.set_cons_succ]
          refine wpH_skip1 (i := 25) (by simp only [List.getElem?_toArray, List.getElem?_cons_zero, List.getElem?_cons_succ]; rfl) ?_
          refine ⟨by kernel_rfl, by kernel_rfl, by kernel_rfl, fun _ _ _ h => h, hS, rfl, ?_⟩
          simp only [Act.put, List.setIfInBounds_toArray, List.set_cons_zero, List.set_cons_succ]
          refine wpH_skip1 (i := 26) (by simp only [List.getElem?_toArray, List.getElem?_cons_zero, List.getElem?_cons_succ]; rfl) ?_
          refine ⟨by kernel_rfl, by kernel_rfl, by kernel_rfl, fun _ _ _ h => h, hS, rfl, ?_⟩
          simp only [Act.put, List.setIfInBounds_toArray, List.set_cons_zero, List.set_cons_succ]
          refine wpH_skip1 (i := 27) (by simp only [List.getElem?_toArray, List.getElem?_cons_zero, List.getElem?_cons_succ]; rfl) ?_
          refine ⟨by kernel_rfl, by kernel_rfl, by kernel_rfl, fun _ _ _ h => h, hS, rfl, ?_⟩
          simp only [Act.put, List.setIfInBounds_toArray, List.set_cons_zero, List.set_cons_succ]
          refine wpH_take1 (i := 28) (by simp only [List.getElem?_toArray, List.getElem?_cons_zero, List.getElem?_cons_succ]; rfl) ?_
          refine ⟨.bool true, by kernel_rfl, by kernel_rfl, by kernel_rfl, fun _ _ _ h => h, hS, rfl, (fun w' _ => by go_simp), ?_⟩
          simp only [Act.put, List.setIfInBounds_toArray, List.set_cons_zero, List.set_cons_succ]
          refine wpAnyH_done (by kernel_rfl) ?_ _
          replace hL := hL.drew
          go_wp2
          go_ret
          exact ⟨ret_bool (by rw [Hr.out, Hm'.out]), hL.below⟩
        · have Hm' := Lib.hid (Hall.out (by rw [Hm.out]; simp; omega))
          have d1 : decide (f ≤ z) = false := by simp; omega
          have d2 : decide (t ≤ f) = false := by simp; omega
          have d3 : decide (W < t) = true := by simp; omega
          go_wp2_with (first | (first | (clear hL n1; with_reducible intro b1 w1 hL) | (clear hL n2; with_reducible intro b2 w2 hL) | (clear hL n3; with_reducible intro b3 w3 hL) | (clear hL n4; with_reducible intro b4 w4 hL) | (clear hL; with_reducible intro _ _ hL)) | (with_reducible refine wpC_alloc rfl _ rfl _ _ inferInstance hL ?_) | (with_reducible first | refine wpB_agg rfl _ _ _ rfl rfl hL ?_ | refine wpB_one rfl _ _ (.int _ _) rfl rfl rfl hL ?_ | refine wpB_one rfl _ _ (.slice _ _ _) rfl rfl rfl hL ?_ | refine wpB_one rfl _ _ (.bool _) rfl rfl rfl hL ?_ | refine wpB_one rfl _ _ (.pointer _) rfl rfl rfl hL ?_ | refine wpB_one rfl _ _ (.func _ _ _) rfl rfl rfl hL ?_) | (with_reducible first | refine wpH_max rfl _ _ _ _ rfl _ _ rfl rfl ?_ | refine wpH_min rfl _ _ _ _ rfl _ _ rfl rfl ?_) | ((with_reducible refine wpA_load rfl _ _ rfl _ rfl ?_); first | refine loadA hL ?_ | refine loadR hL ?_ | refine loadC hL ?_ | refine loadD ?_ | refine loadE hL ?_ | refine loadF ?_) | ((with_reducible refine wpA_index rfl _ _ _ rfl _ rfl _ rfl ?_); first | (refine indexA ?_; try rw [Int.toNat_natCast]) | refine indexC ?_) | ((with_reducible refine wpA_store rfl _ _ _ rfl _ rfl (.agg _) rfl ?_); refine storeR hL ?_; clear hL; intro _ hL) | ((with_reducible first | refine wpA_store rfl _ _ _ rfl _ rfl (.int _ _) rfl ?_ | refine wpA_store rfl _ _ _ rfl _ rfl (.slice _ _ _) rfl ?_ | refine wpA_store rfl _ _ _ rfl _ rfl (.bool _) rfl ?_ | refine wpA_store rfl _ _ _ rfl _ rfl (.pointer _) rfl ?_ | refine wpA_store rfl _ _ _ rfl _ rfl (.func _ _ _) rfl ?_); (first | refine storeA hL ?_ | refine storeO hL ?_); (clear hL; intro _ hL)) | ((with_reducible refine wpA_lit rfl _ _ _ rfl ?_); first | refine litA1 hL ?_ | refine litA2 hL ?_) | ((with_reducible refine wpA_append rfl _ _ _ rfl (.slice _ _ _) rfl ?_); intro vq hvq; simp [go_sem] at hvq; subst hvq; refine appendA hL ?_; clear hL; intro _ _ _ hL; try dsimp only at hL) | ((with_reducible refine wpA_make rfl _ _ _ rfl _ rfl rfl ?_); refine makeA hL ?_))
          have hS := (Below.refl wr.heap.size wr).drew
          refine wpH_begin (by kernel_rfl) (fun w' => Below wr.heap.size wr w') ?_
          refine wpH_take1 (i := 0) (by simp only [List.getElem?_toArray, List.getElem?_cons_zero, List.getElem?_cons_succ]; rfl) ?_
          refine ⟨.slice (some ⟨b, o, none⟩) l.length cap, by kernel_rfl, by kernel_rfl, by kernel_rfl, fun _ _ _ h => h, hS, rfl, (fun w' _ => by go_simp), ?_⟩
          simp only [Act.put, List.setIfInBounds_toArray, List.set_cons_zero, List.set_cons_succ]
          refine wpH_take1 (i := 1) (by simp only [List.getElem?_toArray, List.getElem?_cons_zero, List.getElem?_cons_succ]; rfl) ?_
          refine ⟨.int .i64 k, by kernel_rfl, by kernel_rfl, by kernel_rfl, fun _ _ _ h => h, hS, rfl, (fun w' _ => by go_simp), ?_⟩
          simp only [Act.put, List.setIfInBounds_toArray, List.set_cons_zero, List.set_cons_succ]
          refine wpH_take1 (i := 2) (by simp only [List.getElem?_toArray, List.getElem?_cons_zero, List.getElem?_cons_succ]; rfl) ?_
          refine ⟨.pointer (some ⟨b, o + k * 2, none⟩), by kernel_rfl, by kernel_rfl, by kernel_rfl, fun _ _ _ h => h, hS, rfl, (fun w' _ => by go_simp), ?_⟩
          simp only [Act.put, List.setIfInBounds_toArray, List.set_cons_zero, List.set_cons_succ]
          refine wpH_take1 (i := 3) (by simp only [List.getElem?_toArray, List.getElem?_cons_zero, List.getElem?_cons_succ]; rfl) ?_
          refine ⟨.pointer (some ⟨b, o + k * 2, none⟩), by kernel_rfl, by kernel_rfl, by kernel_rfl, fun _ _ _ h => h, hS, rfl, (fun w' _ => by go_simp), ?_⟩
          simp only [Act.put, List.setIfInBounds_toArray, List.set_cons_zero, List.set_cons_succ]
          refine wpH_take1 (i := 4) (by simp only [List.getElem?_toArray, List.getElem?_cons_zero, List.getElem?_cons_succ]; rfl) ?_
          refine ⟨.int .i64 f, by kernel_rfl, by kernel_rfl, by kernel_rfl, fun _ _ _ h => h, hS, rfl, (fun w' hw => run_loadOp _ _ rfl _ rfl _ (load_cell (cell_later hw e1))), ?_⟩
          simp only [Act.put, List.setIfInBounds_toArray, List.set_cons_zero, List.set_cons_succ]
          refine wpH_take1 (i := 5) (by simp only [List.getElem?_toArray, List.getElem?_cons_zero, List.getElem?_cons_succ]; rfl) ?_
          refine ⟨.int .i64 z, by kernel_rfl, by kernel_rfl, by kernel_rfl, fun _ _ _ h => h, hS, rfl, (fun w' _ => by go_simp), ?_⟩
          simp only [Act.put, List.setIfInBounds_toArray, List.set_cons_zero, List.set_cons_succ]
          refine wpH_take1 (i := 6) (by simp only [List.getElem?_toArray, List.getElem?_cons_zero, List.getElem?_cons_succ]; rfl) ?_
          refine ⟨.bool false, by kernel_rfl, by kernel_rfl, by kernel_rfl, fun _ _ _ h => h, hS, rfl, (fun w' _ => by go_simp), ?_⟩
          simp only [Act.put, List.setIfInBounds_toArray, List.set_cons_zero, List.set_cons_succ]
          refine wpH_take1 (i := 7) (by simp only [List.getElem?_toArray, List.getElem?_cons_zero, List.getElem?_cons_succ]; rfl) ?_
          refine ⟨.bool false, by kernel_rfl, by kernel_rfl, by kernel_rfl, fun _ _ _ h => h, hS, rfl, (fun w' _ => by go_simp), ?_⟩
          simp only [Act.put, List.setIfInBounds_toArray, List.set_cons_zero, List.set_cons_succ]
          refine wpH_take1 (i := 8) (by simp only [List.getElem?_toArray, List.getElem?_cons_zero, List.getElem?_cons_succ]; rfl) ?_
          refine ⟨.slice (some ⟨b, o, none⟩) l.length cap, by kernel_rfl, by kernel_rfl, by kernel_rfl, fun _ _ _ h => h, hS, rfl, (fun w' _ => by go_simp), ?_⟩
          simp only [Act.put, List.setIfInBounds_toArray, List.set_cons_zero, List.set_cons_succ]
          refine wpH_take1 (i := 9) (by simp only [List.getElem?_toArray, List.getElem?_cons_zero, List.getElem?_cons_succ]; rfl) ?_
          refine ⟨.int .i64 k, by kernel_rfl, by kernel_rfl, by kernel_rfl, fun _ _ _ h => h, hS, rfl, (fun w' _ => by go_simp), ?_⟩
          simp only [Act.put, List.setIfInBounds_toArray, List.set_cons_zero, List.set_cons_succ]
          refine wpH_take1 (i := 10) (by simp only [List.getElem?_toArray, List.getElem?_cons_zero, List.getElem?_cons_succ]; rfl) ?_
          refine ⟨.pointer (some ⟨b, o + k * 2, none⟩), by kernel_rfl, by kernel_rfl, by kernel_rfl, fun _ _ _ h => h, hS, rfl, (fun w' _ => by go_simp), ?_⟩
          simp only [Act.put, List.setIfInBounds_toArray, List.set_cons_zero, List.set_cons_succ]
          refine wpH_take1 (i := 11) (by simp only [List.getElem?_toArray, List.getElem?_cons_zero, List.getElem?_cons_succ]; rfl) ?_
          refine ⟨.pointer (some ⟨b, o + k * 2 + 1, none⟩), by kernel_rfl, by kernel_rfl, by kernel_rfl, fun _ _ _ h => h, hS, rfl, (fun w' _ => by go_simp), ?_⟩
          simp only [Act.put, List.setIfInBounds_toArray, List.set_cons_zero, List.set_cons_succ]
          refine wpH_take1 (i := 12) (by simp only [List.getElem?_toArray, List.getElem?_cons_zero, List.getElem?_cons_succ]; rfl) ?_
          refine ⟨.int .i64 t, by kernel_rfl, by kernel_rfl, by kernel_rfl, fun _ _ _ h => h, hS, rfl, (fun w' hw => run_loadOp _ _ rfl _ rfl _ (load_cell (cell_later hw e2))), ?_⟩
          simp only [Act.put, List.setIfInBounds_toArray, List.set_cons_zero, List.set_cons_succ]
          refine wpH_take1 (i := 13) (by simp only [List.getElem?_toArray, List.getElem?_cons_zero, List.getElem?_cons_succ]; rfl) ?_
          refine ⟨.slice (some ⟨b, o, none⟩) l.length cap, by kernel_rfl, by kernel_rfl, by kernel_rfl, fun _ _ _ h => h, hS, rfl, (fun w' _ => by go_simp), ?_⟩
          simp only [Act.put, List.setIfInBounds_toArray, List.set_cons_zero, List.set_cons_succ]
          refine wpH_take1 (i := 14) (by simp only [List.getElem?_toArray, List.getElem?_cons_zero, List.getElem?_cons_succ]; rfl) ?_
          refine ⟨.int .i64 k, by kernel_rfl, by kernel_rfl, by kernel_rfl, fun _ _ _ h => h, hS, rfl, (fun w' _ => by go_simp), ?_⟩
          simp only [Act.put, List.setIfInBounds_toArray, List.set_cons_zero, List.set_cons_succ]
          refine wpH_take1 (i := 15) (by simp only [List.getElem?_toArray, List.getElem?_cons_zero, List.getElem?_cons_succ]; rfl) ?_
          refine ⟨.pointer (some ⟨b, o + k * 2, none⟩), by kernel_rfl, by kernel_rfl, by kernel_rfl, fun _ _ _ h => h, hS, rfl, (fun w' _ => by go_simp), ?_⟩
          simp only [Act.put, List.setIfInBounds_toArray, List.set_cons_zero, List.set_cons_succ]
          refine wpH_take1 (i := 16) (by simp only [List.getElem?_toArray, List.getElem?_cons_zero, List.getElem?_cons_succ]; rfl) ?_
          refine ⟨.pointer (some ⟨b, o + k * 2, none⟩), by kernel_rfl, by kernel_rfl, by kernel_rfl, fun _ _ _ h => h, hS, rfl, (fun w' _ => by go_simp), ?_⟩
          simp only [Act.put, List.setIfInBounds_toArray, List.set_cons_zero, List.set_cons_succ]
          refine wpH_take1 (i := 17) (by simp only [List.getElem?_toArray, List.getElem?_cons_zero, List.getElem?_cons_succ]; rfl) ?_
          refine ⟨.int .i64 f, by kernel_rfl, by kernel_rfl, by kernel_rfl, fun _ _ _ h => h, hS, rfl, (fun w' hw => run_loadOp _ _ rfl _ rfl _ (load_cell (cell_later hw e1))), ?_⟩
          simp only [Act.put, List.setIfInBounds_toArray, List.set_cons_zero, List.set_cons_succ]
          refine wpH_take1 (i := 18) (by simp only [List.getElem?_toArray, List.getElem?_cons_zero, List.getElem?_cons_succ]; rfl) ?_
          refine ⟨.bool false, by kernel_rfl, by kernel_rfl, by kernel_rfl, fun _ _ _ h => h, hS, rfl, (fun w' _ => by go_simp), ?_⟩
          simp only [Act.put, List.setIfInBounds_toArray, List.set_cons_zero, List.set_cons_succ]
          refine wpH_take1 (i := 19) (by simp only [List.getElem?_toArray, List.getElem?_cons_zero, List.getElem?_cons_succ]; rfl) ?_
          refine ⟨.bool false, by kernel_rfl, by kernel_rfl, by kernel_rfl, fun _ _ _ h => h, hS, rfl, (fun w' _ => by go_simp), ?_⟩
          simp only [Act.put, List.setIfInBounds_toArray, List.set_cons_zero, List.set_cons_succ]
          refine wpH_take1 (i := 20) (by simp only [List.getElem?_toArray, List.getElem?_cons_zero, List.getElem?_cons_succ]; rfl) ?_
          refine ⟨.bool false, by kernel_rfl, by kernel_rfl, by kernel_rfl, fun _ _ _ h => h, hS, rfl, (fun w' _ => by go_simp), ?_⟩
          simp only [Act.put, List.setIfInBounds_toArray, List.set_cons_zero, List.set_cons_succ]
          refine wpH_take1 (i := 21) (by simp only [List.getElem?_toArray, List.getElem?_cons_zero, List.getElem?_cons_succ]; rfl) ?_
          refine ⟨.slice (some ⟨b, o, none⟩) l.length cap, by kernel_rfl, by kernel_rfl, by kernel_rfl, fun _ _ _ h => h, hS, rfl, (fun w' _ => by go_simp), ?_⟩
          simp only [Act.put, List.setIfInBounds_toArray, List.set_cons_zero, List.set_cons_succ]
          refine wpH_take1 (i := 22) (by simp only [List.getElem?_toArray, List.getElem?_cons_zero, List.getElem?_cons_succ]; rfl) ?_
          refine ⟨.int .i64 k, by kernel_rfl, by kernel_rfl, by kernel_rfl, fun _ _ _ h => h, hS, rfl, (fun w' _ => by go_simp), ?_⟩
          simp only [Act.put, List.setIfInBounds_toArray, List.set_cons_zero, List.set_cons_succ]
          refine wpH_take1 (i := 23) (by simp only [List.getElem?_toArray, List.getElem?_cons_zero, List.getElem?_cons_succ]; rfl) ?_
          refine ⟨.pointer (some ⟨b, o + k * 2, none⟩), by kernel_rfl, by kernel_rfl, by kernel_rfl, fun _ _ _ h => h, hS, rfl, (fun w' _ => by go_simp), ?_⟩
          simp only [Act.put, List.setIfInBounds_toArray, List.set_cons_zero, List.set_cons_succ]
          refine wpH_take1 (i := 24) (by simp only [List.getElem?_toArray, List.getElem?_cons_zero, List.getElem?_cons_succ]; rfl) ?_
          refine ⟨.pointer (some ⟨b, o + k * 2 + 1, none⟩), by kernel_rfl, by kernel_rfl, by kernel_rfl, fun _ _ _ h => h, hS, rfl, (fun w' _ => by go_simp), ?_⟩
          simp only [Act.put, List.setIfInBounds_toArray, List.set_cons_zero, List.set_cons_succ]
          refine wpH_take1 (i := 25) (by simp only [List.getElem?_toArray, List.getElem?_cons_zero, List.getElem?_cons_succ]; rfl) ?_
          refine ⟨.int .i64 t, by kernel_rfl, by kernel_rfl, by kernel_rfl, fun _ _ _ h => h, hS, rfl, (fun w' hw => run_loadOp _ _ rfl _ rfl _ (load_cell (cell_later hw e2))), ?_⟩
          simp only [Act.put, List.setIfInBounds_toArray, List.set_cons_zero, List.set_cons_succ]
          refine wpH_take1 (i := 26) (by simp only [List.getElem?_toArray, List.getElem?_cons_zero, List.getElem?_cons_succ]; rfl) ?_
          refine ⟨.int .i64 W, by kernel_rfl, by kernel_rfl, by kernel_rfl, fun _ _ _ h => h, hS, rfl, (fun w' _ => by go_simp), ?_⟩
          simp only [Act.put, List.setIfInBounds_toArray, List.set_cons_zero, List.set_cons_succ]
          refine wpH_take1 (i := 27) (by simp only [List.getElem?_toArray, List.getElem?_cons_zero, List.getElem?_cons_succ]; rfl) ?_
          refine ⟨.bool true, by kernel_rfl, by kernel_rfl, by kernel_rfl, fun _ _ _ h => h, hS, rfl, (fun w' _ => by go_simp), ?_⟩
          simp only [Act.put, List.setIfInBounds_toArray, List.set_cons_zero, List.set_cons_succ]
          refine wpH_take1 (i := 28) (by simp only [List.getElem?_toArray, List.getElem?_cons_zero, List.getElem?_cons_succ]; rfl) ?_
          refine ⟨.bool true, by kernel_rfl, by kernel_rfl, by kernel_rfl, fun _ _ _ h => h, hS, rfl, (fun w' _ => by go_simp), ?_⟩
          simp only [Act.put, List.setIfInBounds_toArray, List.set_cons_zero, List.set_cons_succ]
          refine wpAnyH_done (by kernel_rfl) ?_ _
          replace hL := hL.drew
          go_wp2
          go_ret
          exact ⟨ret_bool (by rw [Hr.out, Hm'.out]), hL.below⟩
      · have e : k = l.length := by omega
        subst e
        rw [List.take_length] at hm
        have Hm := Lib.hid hm; clear hm
        go_wp2_with (first | (first | (clear hL n1; with_reducible intro b1 w1 hL) | (clear hL n2; with_reducible intro b2 w2 hL) | (clear hL n3; with_reducible intro b3 w3 hL) | (clear hL n4; with_reducible intro b4 w4 hL) | (clear hL; with_reducible intro _ _ hL)) | (with_reducible refine wpC_alloc rfl _ rfl _ _ inferInstance hL ?_) | (with_reducible first | refine wpB_agg rfl _ _ _ rfl rfl hL ?_ | refine wpB_one rfl _ _ (.int _ _) rfl rfl rfl hL ?_ | refine wpB_one rfl _ _ (.slice _ _ _) rfl rfl rfl hL ?_ | refine wpB_one rfl _ _ (.bool _) rfl rfl rfl hL ?_ | refine wpB_one rfl _ _ (.pointer _) rfl rfl rfl hL ?_ | refine wpB_one rfl _ _ (.func _ _ _) rfl rfl rfl hL ?_) | (with_reducible first | refine wpH_max rfl _ _ _ _ rfl _ _ rfl rfl ?_ | refine wpH_min rfl _ _ _ _ rfl _ _ rfl rfl ?_) | ((with_reducible refine wpA_load rfl _ _ rfl _ rfl ?_); first | refine loadA hL ?_ | refine loadR hL ?_ | refine loadC hL ?_ | refine loadD ?_ | refine loadE hL ?_ | refine loadF ?_) | ((with_reducible refine wpA_index rfl _ _ _ rfl _ rfl _ rfl ?_); first | (refine indexA ?_; try rw [Int.toNat_natCast]) | refine indexC ?_) | ((with_reducible refine wpA_store rfl _ _ _ rfl _ rfl (.agg _) rfl ?_); refine storeR hL ?_; clear hL; intro _ hL) | ((with_reducible first | refine wpA_store rfl _ _ _ rfl _ rfl (.int _ _) rfl ?_ | refine wpA_store rfl _ _ _ rfl _ rfl (.slice _ _ _) rfl ?_ | refine wpA_store rfl _ _ _ rfl _ rfl (.bool _) rfl ?_ | refine wpA_store rfl _ _ _ rfl _ rfl (.pointer _) rfl ?_ | refine wpA_store rfl _ _ _ rfl _ rfl (.func _ _ _) rfl ?_); (first | refine storeA hL ?_ | refine storeO hL ?_); (clear hL; intro _ hL)) | ((with_reducible refine wpA_lit rfl _ _ _ rfl ?_); first | refine litA1 hL ?_ | refine litA2 hL ?_) | ((with_reducible refine wpA_append rfl _ _ _ rfl (.slice _ _ _) rfl ?_); intro vq hvq; simp [go_sem] at hvq; subst hvq; refine appendA hL ?_; clear hL; intro _ _ _ hL; try dsimp only at hL) | ((with_reducible refine wpA_make rfl _ _ _ rfl _ rfl rfl ?_); refine makeA hL ?_))
        go_ret
        exact ⟨ret_bool (by rw [Hr.out, Hm.out]), hL.below⟩
  all_goals
    have Hr := Lib.hid (show mayRuns l W = false by simp [mayRuns]; omega)
    go_enter Try.func79, Try.ntmps79
    go_wp2_with (first | (first | (clear hL n1; with_reducible intro b1 w1 hL) | (clear hL n2; with_reducible intro b2 w2 hL) | (clear hL n3; with_reducible intro b3 w3 hL) | (clear hL n4; with_reducible intro b4 w4 hL) | (clear hL; with_reducible intro _ _ hL)) | (with_reducible refine wpC_alloc rfl _ rfl _ _ inferInstance hL ?_) | (with_reducible first | refine wpB_agg rfl _ _ _ rfl rfl hL ?_ | refine wpB_one rfl _ _ (.int _ _) rfl rfl rfl hL ?_ | refine wpB_one rfl _ _ (.slice _ _ _) rfl rfl rfl hL ?_ | refine wpB_one rfl _ _ (.bool _) rfl rfl rfl hL ?_ | refine wpB_one rfl _ _ (.pointer _) rfl rfl rfl hL ?_ | refine wpB_one rfl _ _ (.func _ _ _) rfl rfl rfl hL ?_) | (with_reducible first | refine wpH_max rfl _ _ _ _ rfl _ _ rfl rfl ?_ | refine wpH_min rfl _ _ _ _ rfl _ _ rfl rfl ?_) | ((with_reducible refine wpA_load rfl _ _ rfl _ rfl ?_); first | refine loadA hL ?_ | refine loadR hL ?_ | refine loadC hL ?_ | refine loadD ?_ | refine loadE hL ?_ | refine loadF ?_) | ((with_reducible refine wpA_index rfl _ _ _ rfl _ rfl _ rfl ?_); first | (refine indexA ?_; try rw [Int.toNat_natCast]) | refine indexC ?_) | ((with_reducible refine wpA_store rfl _ _ _ rfl _ rfl (.agg _) rfl ?_); refine storeR hL ?_; clear hL; intro _ hL) | ((with_reducible first | refine wpA_store rfl _ _ _ rfl _ rfl (.int _ _) rfl ?_ | refine wpA_store rfl _ _ _ rfl _ rfl (.slice _ _ _) rfl ?_ | refine wpA_store rfl _ _ _ rfl _ rfl (.bool _) rfl ?_ | refine wpA_store rfl _ _ _ rfl _ rfl (.pointer _) rfl ?_ | refine wpA_store rfl _ _ _ rfl _ rfl (.func _ _ _) rfl ?_); (first | refine storeA hL ?_ | refine storeO hL ?_); (clear hL; intro _ hL)) | ((with_reducible refine wpA_lit rfl _ _ _ rfl ?_); first | refine litA1 hL ?_ | refine litA2 hL ?_) | ((with_reducible refine wpA_append rfl _ _ _ rfl (.slice _ _ _) rfl ?_); intro vq hvq; simp [go_sem] at hvq; subst hvq; refine appendA hL ?_; clear hL; intro _ _ _ hL; try dsimp only at hL) | ((with_reducible refine wpA_make rfl _ _ _ rfl _ rfl rfl ?_); refine makeA hL ?_))
    go_ret
    exact ⟨ret_bool (by rw [Hr.out]), hL.below⟩
end Go.Proofs.Ytjgnbmgdnfldeaa
