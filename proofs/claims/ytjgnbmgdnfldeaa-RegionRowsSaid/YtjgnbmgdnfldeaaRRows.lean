/- RegionRows returns true. -/
import Derived.Test.YtjgnbmgdnfldeaaRowC
import Derived.Test.YtjgnbmgdnfldeaaDraw
-- lint:cell
namespace Go.Proofs.Ytjgnbmgdnfldeaa
open Go.RowKit

set_option maxRecDepth 100000 in
set_option maxHeartbeats 4000000 in
theorem rrows_calls (w : World) (va vb : Value) (na nb : List Int) (ha : NumsAt w va na) (hb : NumsAt w vb nb) (wv hv : Int) :
    Calls Try.prog 3 #[va, vb, .int .i64 wv, .int .i64 hv] w fun e w' => e = .returned (.bool true) ∧ Below w.heap.size w w' := by
  obtain ⟨W, hWe, hW0, hW1⟩ := lawSideN wv
  obtain ⟨H, hHe, hH0, hH1⟩ := lawSideN hv
  have hs : Sides W H := ⟨hW0, by omega, hH0, by omega⟩
  have hW64 : W ≤ 64 := by omega
  have HW := Lib.hid hWe; have HH := Lib.hid hHe; have Ha := Lib.hid ha; have Hb := Lib.hid hb
  clear hWe hHe ha hb
  have hL := Holds.start w
  have n1 : True := trivial; have n2 : True := trivial; have n3 : True := trivial; have n4 : True := trivial; have n5 : True := trivial; have n6 : True := trivial; have n7 : True := trivial
  go_enter Try.func3, Try.ntmps3
  go_wp2_with (first | (go_at_call 13; (with_reducible refine (known_calls _).mono ?_); rintro e _ ⟨rfl, hb⟩; replace hL := hL.call hb; clear hb) | (go_at_call 15; (with_reducible refine (lawSide_calls _ _).mono ?_); rintro e _ ⟨rfl, rfl⟩; first | rw [HW.out] | rw [HH.out]) | (go_at_call 14; (with_reducible refine (pixMadeH_calls _ va na (Ha.out.hold hL) hW1 hH1).mono ?_); rintro e _ ⟨qa, saA, scA, rfl, hb, hf⟩; replace hL := hL.callF hb hf; clear hb hf) | (go_at_call 14; (with_reducible refine (pixMadeH_calls _ vb nb (Hb.out.hold hL) hW1 hH1).mono ?_); rintro e _ ⟨qb, saB, scB, rfl, hb, hf⟩; replace hL := hL.callF hb hf; clear hb hf) | (go_at_call 16; (with_reducible refine ((pixJoin_calls hs _ _ _ _ _ (hL.reg (by repeat (first | with_reducible exact FactAt.here | with_reducible apply FactAt.there))) (hL.reg (by repeat (first | with_reducible exact FactAt.here | with_reducible apply FactAt.there)))).mono fun _ _ h => h.len).mono ?_); rintro e _ ⟨saJ, scJ, rfl, hb, hf⟩; replace hL := hL.callF hb hf; clear hb hf) | (go_at_call 17; (with_reducible refine ((pixMeet_calls hs _ _ _ _ _ (hL.reg (by repeat (first | with_reducible exact FactAt.here | with_reducible apply FactAt.there))) (hL.reg (by repeat (first | with_reducible exact FactAt.here | with_reducible apply FactAt.there)))).mono fun _ _ h => h.len).mono ?_); rintro e _ ⟨saM, scM, rfl, hb, hf⟩; replace hL := hL.callF hb hf; clear hb hf) | (go_at_call 18; (with_reducible refine ((pixLess_calls hs _ _ _ _ _ (hL.reg (by repeat (first | with_reducible exact FactAt.here | with_reducible apply FactAt.there))) (hL.reg (by repeat (first | with_reducible exact FactAt.here | with_reducible apply FactAt.there)))).mono fun _ _ h => h.len).mono ?_); rintro e _ ⟨saL, scL, rfl, hb, hf⟩; replace hL := hL.callF hb hf; clear hb hf) | (go_at_call 19; (with_reducible refine ((pixOther_calls hs _ _ _ _ _ (hL.reg (by repeat (first | with_reducible exact FactAt.here | with_reducible apply FactAt.there))) (hL.reg (by repeat (first | with_reducible exact FactAt.here | with_reducible apply FactAt.there)))).mono fun _ _ h => h.len).mono ?_); rintro e _ ⟨saO, scO, rfl, hb, hf⟩; replace hL := hL.callF hb hf; clear hb hf) | (go_at_call 20; (with_reducible refine ((pixNot_calls hs _ _ _ (hL.reg (by repeat (first | with_reducible exact FactAt.here | with_reducible apply FactAt.there)))).mono fun _ _ h => h.len).mono ?_); rintro e _ ⟨saT, scT, rfl, hb, hf⟩; replace hL := hL.callF hb hf; clear hb hf) | (first | (clear hL n1; with_reducible intro b1 w1 hL) | (clear hL n2; with_reducible intro b2 w2 hL) | (clear hL n3; with_reducible intro b3 w3 hL) | (clear hL n4; with_reducible intro b4 w4 hL) | (clear hL n5; with_reducible intro b5 w5 hL) | (clear hL n6; with_reducible intro b6 w6 hL) | (clear hL n7; with_reducible intro b7 w7 hL) | (clear hL; with_reducible intro _ _ hL)) | (with_reducible refine wpC_alloc rfl _ rfl _ _ inferInstance hL ?_) | (with_reducible first | refine wpB_agg rfl _ _ _ rfl rfl hL ?_ | refine wpB_one rfl _ _ (.int _ _) rfl rfl rfl hL ?_ | refine wpB_one rfl _ _ (.slice _ _ _) rfl rfl rfl hL ?_ | refine wpB_one rfl _ _ (.bool _) rfl rfl rfl hL ?_ | refine wpB_one rfl _ _ (.pointer _) rfl rfl rfl hL ?_ | refine wpB_one rfl _ _ (.func _ _ _) rfl rfl rfl hL ?_) | (with_reducible first | refine wpH_max rfl _ _ _ _ rfl _ _ rfl rfl ?_ | refine wpH_min rfl _ _ _ _ rfl _ _ rfl rfl ?_) | ((with_reducible refine wpA_load rfl _ _ rfl _ rfl ?_); first | refine loadA hL ?_ | refine loadR hL ?_ | refine loadC hL ?_ | refine loadD ?_ | refine loadE hL ?_ | refine loadF ?_) | ((with_reducible refine wpA_index rfl _ _ _ rfl _ rfl _ rfl ?_); first | (refine indexA ?_; try rw [Int.toNat_natCast]) | refine indexC ?_) | ((with_reducible refine wpA_store rfl _ _ _ rfl _ rfl (.agg _) rfl ?_); refine storeR hL ?_; clear hL; intro _ hL) | ((with_reducible first | refine wpA_store rfl _ _ _ rfl _ rfl (.int _ _) rfl ?_ | refine wpA_store rfl _ _ _ rfl _ rfl (.slice _ _ _) rfl ?_ | refine wpA_store rfl _ _ _ rfl _ rfl (.bool _) rfl ?_ | refine wpA_store rfl _ _ _ rfl _ rfl (.pointer _) rfl ?_ | refine wpA_store rfl _ _ _ rfl _ rfl (.func _ _ _) rfl ?_); (first | refine storeA hL ?_ | refine storeO hL ?_); (clear hL; intro _ hL)) | ((with_reducible refine wpA_lit rfl _ _ _ rfl ?_); first | refine litA1 hL ?_ | refine litA2 hL ?_) | ((with_reducible refine wpA_append rfl _ _ _ rfl (.slice _ _ _) rfl ?_); intro vq hvq; simp [go_sem] at hvq; subst hvq; refine appendA hL ?_; clear hL; intro _ _ _ hL; try dsimp only at hL) | ((with_reducible refine wpA_make rfl _ _ _ rfl _ rfl rfl ?_); refine makeA hL ?_))
  go_loopw [21] (fun s21 wr => ∃ y : Nat, y ≤ H ∧ s21 = .int .i64 y ∧ Holds w wr [blk b7 #[.int .i64 W, .int .i64 H, .slice saT H scT] 26, blk b6 #[.int .i64 W, .int .i64 H, .slice saO H scO] 26, blk b5 #[.int .i64 W, .int .i64 H, .slice saL H scL] 26, blk b4 #[.int .i64 W, .int .i64 H, .slice saM H scM] 26, blk b3 #[.int .i64 W, .int .i64 H, .slice saJ H scJ] 26, blk b2 #[.int .i64 W, .int .i64 H, .slice saB H scB] 26, blk b1 #[.int .i64 W, .int .i64 H, .slice saA H scA] 26] [RegF (.agg #[.int .i64 W, .int .i64 H, .slice saT H scT]) (pixReg W H (fun j i => !qa j i)), RegF (.agg #[.int .i64 W, .int .i64 H, .slice saO H scO]) (pixReg W H (fun j i => qa j i != qb j i)), RegF (.agg #[.int .i64 W, .int .i64 H, .slice saL H scL]) (pixReg W H (fun j i => qa j i && !qb j i)), RegF (.agg #[.int .i64 W, .int .i64 H, .slice saM H scM]) (pixReg W H (fun j i => qa j i && qb j i)), RegF (.agg #[.int .i64 W, .int .i64 H, .slice saJ H scJ]) (pixReg W H (fun j i => qa j i || qb j i)), RegF (.agg #[.int .i64 W, .int .i64 H, .slice saB H scB]) (pixReg W H (qb)), RegF (.agg #[.int .i64 W, .int .i64 H, .slice saA H scA]) (pixReg W H (qa))])
    (fun s21 wr => (12 - intOf s21).toNat)
  case atStart => exact ⟨0, by omega, rfl, hL⟩
  case round =>
    clear hL
    obtain ⟨y, hy, rfl, hL⟩ := hrel
    by_cases hyt : y < H
    · rename_i wr _ _
      obtain ⟨xA, oA, vaA, vnA, vcA, rfl, eA, rA⟩ := (regRow (hL.reg (v := (.agg #[.int .i64 W, .int .i64 H, .slice saA H scA])) (R := pixReg W H (qa)) (by repeat (first | with_reducible exact FactAt.here | with_reducible apply FactAt.there)))).2 y hyt
      have RA := Lib.hid (show RunsAt wr (.slice vaA vnA vcA) (runsTo (fun i => qa y i) W) from rA)
      clear rA
      obtain ⟨xB, oB, vaB, vnB, vcB, rfl, eB, rB⟩ := (regRow (hL.reg (v := (.agg #[.int .i64 W, .int .i64 H, .slice saB H scB])) (R := pixReg W H (qb)) (by repeat (first | with_reducible exact FactAt.here | with_reducible apply FactAt.there)))).2 y hyt
      have RB := Lib.hid (show RunsAt wr (.slice vaB vnB vcB) (runsTo (fun i => qb y i) W) from rB)
      clear rB
      obtain ⟨xJ, oJ, vaJ, vnJ, vcJ, rfl, eJ, rJ⟩ := (regRow (hL.reg (v := (.agg #[.int .i64 W, .int .i64 H, .slice saJ H scJ])) (R := pixReg W H (fun j i => qa j i || qb j i)) (by repeat (first | with_reducible exact FactAt.here | with_reducible apply FactAt.there)))).2 y hyt
      have RJ := Lib.hid (show RunsAt wr (.slice vaJ vnJ vcJ) (runsTo (fun i => qa y i || qb y i) W) from rJ)
      clear rJ
      obtain ⟨xM, oM, vaM, vnM, vcM, rfl, eM, rM⟩ := (regRow (hL.reg (v := (.agg #[.int .i64 W, .int .i64 H, .slice saM H scM])) (R := pixReg W H (fun j i => qa j i && qb j i)) (by repeat (first | with_reducible exact FactAt.here | with_reducible apply FactAt.there)))).2 y hyt
      have RM := Lib.hid (show RunsAt wr (.slice vaM vnM vcM) (runsTo (fun i => qa y i && qb y i) W) from rM)
      clear rM
      obtain ⟨xL, oL, vaL, vnL, vcL, rfl, eL, rL⟩ := (regRow (hL.reg (v := (.agg #[.int .i64 W, .int .i64 H, .slice saL H scL])) (R := pixReg W H (fun j i => qa j i && !qb j i)) (by repeat (first | with_reducible exact FactAt.here | with_reducible apply FactAt.there)))).2 y hyt
      have RL := Lib.hid (show RunsAt wr (.slice vaL vnL vcL) (runsTo (fun i => qa y i && !qb y i) W) from rL)
      clear rL
      obtain ⟨xO, oO, vaO, vnO, vcO, rfl, eO, rO⟩ := (regRow (hL.reg (v := (.agg #[.int .i64 W, .int .i64 H, .slice saO H scO])) (R := pixReg W H (fun j i => qa j i != qb j i)) (by repeat (first | with_reducible exact FactAt.here | with_reducible apply FactAt.there)))).2 y hyt
      have RO := Lib.hid (show RunsAt wr (.slice vaO vnO vcO) (runsTo (fun i => qa y i != qb y i) W) from rO)
      clear rO
      obtain ⟨xT, oT, vaT, vnT, vcT, rfl, eT, rT⟩ := (regRow (hL.reg (v := (.agg #[.int .i64 W, .int .i64 H, .slice saT H scT])) (R := pixReg W H (fun j i => !qa j i)) (by repeat (first | with_reducible exact FactAt.here | with_reducible apply FactAt.there)))).2 y hyt
      have RT := Lib.hid (show RunsAt wr (.slice vaT vnT vcT) (runsTo (fun i => !qa y i) W) from rT)
      clear rT
      have dA : wr.cell? ⟨b1, 2, none⟩ = some (.slice (some ⟨xA, oA, none⟩) H scA) := (hL.cell (by (repeat (first | with_reducible exact At.here | with_reducible apply At.there)))).trans rfl
      have dB : wr.cell? ⟨b2, 2, none⟩ = some (.slice (some ⟨xB, oB, none⟩) H scB) := (hL.cell (by (repeat (first | with_reducible exact At.here | with_reducible apply At.there)))).trans rfl
      have dJ : wr.cell? ⟨b3, 2, none⟩ = some (.slice (some ⟨xJ, oJ, none⟩) H scJ) := (hL.cell (by (repeat (first | with_reducible exact At.here | with_reducible apply At.there)))).trans rfl
      have dM : wr.cell? ⟨b4, 2, none⟩ = some (.slice (some ⟨xM, oM, none⟩) H scM) := (hL.cell (by (repeat (first | with_reducible exact At.here | with_reducible apply At.there)))).trans rfl
      have dL : wr.cell? ⟨b5, 2, none⟩ = some (.slice (some ⟨xL, oL, none⟩) H scL) := (hL.cell (by (repeat (first | with_reducible exact At.here | with_reducible apply At.there)))).trans rfl
      have dO : wr.cell? ⟨b6, 2, none⟩ = some (.slice (some ⟨xO, oO, none⟩) H scO) := (hL.cell (by (repeat (first | with_reducible exact At.here | with_reducible apply At.there)))).trans rfl
      have dT : wr.cell? ⟨b7, 2, none⟩ = some (.slice (some ⟨xT, oT, none⟩) H scT) := (hL.cell (by (repeat (first | with_reducible exact At.here | with_reducible apply At.there)))).trans rfl
      have dW : wr.cell? ⟨b1, 0, none⟩ = some (.int .i64 W) := (hL.cell (by (repeat (first | with_reducible exact At.here | with_reducible apply At.there)))).trans rfl
      go_wp2_with (first | (first | (clear hL n1; with_reducible intro b1 w1 hL) | (clear hL n2; with_reducible intro b2 w2 hL) | (clear hL n3; with_reducible intro b3 w3 hL) | (clear hL n4; with_reducible intro b4 w4 hL) | (clear hL n5; with_reducible intro b5 w5 hL) | (clear hL n6; with_reducible intro b6 w6 hL) | (clear hL n7; with_reducible intro b7 w7 hL) | (clear hL; with_reducible intro _ _ hL)) | (with_reducible refine wpC_alloc rfl _ rfl _ _ inferInstance hL ?_) | (with_reducible first | refine wpB_agg rfl _ _ _ rfl rfl hL ?_ | refine wpB_one rfl _ _ (.int _ _) rfl rfl rfl hL ?_ | refine wpB_one rfl _ _ (.slice _ _ _) rfl rfl rfl hL ?_ | refine wpB_one rfl _ _ (.bool _) rfl rfl rfl hL ?_ | refine wpB_one rfl _ _ (.pointer _) rfl rfl rfl hL ?_ | refine wpB_one rfl _ _ (.func _ _ _) rfl rfl rfl hL ?_) | (with_reducible first | refine wpH_max rfl _ _ _ _ rfl _ _ rfl rfl ?_ | refine wpH_min rfl _ _ _ _ rfl _ _ rfl rfl ?_) | ((with_reducible refine wpA_load rfl _ _ rfl _ rfl ?_); first | refine loadA hL ?_ | refine loadR hL ?_ | refine loadC hL ?_ | refine loadD ?_ | refine loadE hL ?_ | refine loadF ?_) | ((with_reducible refine wpA_index rfl _ _ _ rfl _ rfl _ rfl ?_); first | (refine indexA ?_; try rw [Int.toNat_natCast]) | refine indexC ?_) | ((with_reducible refine wpA_store rfl _ _ _ rfl _ rfl (.agg _) rfl ?_); refine storeR hL ?_; clear hL; intro _ hL) | ((with_reducible first | refine wpA_store rfl _ _ _ rfl _ rfl (.int _ _) rfl ?_ | refine wpA_store rfl _ _ _ rfl _ rfl (.slice _ _ _) rfl ?_ | refine wpA_store rfl _ _ _ rfl _ rfl (.bool _) rfl ?_ | refine wpA_store rfl _ _ _ rfl _ rfl (.pointer _) rfl ?_ | refine wpA_store rfl _ _ _ rfl _ rfl (.func _ _ _) rfl ?_); (first | refine storeA hL ?_ | refine storeO hL ?_); (clear hL; intro _ hL)) | ((with_reducible refine wpA_lit rfl _ _ _ rfl ?_); first | refine litA1 hL ?_ | refine litA2 hL ?_) | ((with_reducible refine wpA_append rfl _ _ _ rfl (.slice _ _ _) rfl ?_); intro vq hvq; simp [go_sem] at hvq; subst hvq; refine appendA hL ?_; clear hL; intro _ _ _ hL; try dsimp only at hL) | ((with_reducible refine wpA_make rfl _ _ _ rfl _ rfl rfl ?_); refine makeA hL ?_))
      have hK := (Holds.start wr).drew
      dsimp only [List.append, List.append_eq, List.cons_append, List.nil_append, Array.append]
      have hb0 : (0 : Int) ≤ (y : Int) := by omega
      have hb1 : (y : Int) < (H : Int) := by omega
      refine wpH_begin (by kernel_rfl) (fun w' => Below wr.heap.size wr w') ?_
      refine wpH_take1 (i := 0) (by simp only [List.getElem?_toArray, List.getElem?_cons_zero]; rfl) ?_
      refine ⟨.pointer (some ⟨b3, 2, none⟩), by kernel_rfl, by kernel_rfl, by kernel_rfl, fun _ _ _ h => h, hK.below, rfl, (fun w' _ => by go_simp), ?_⟩
      simp only [Act.put, List.setIfInBounds_toArray, List.set_cons_zero, List.set_cons_succ]
      refine wpH_take1 (i := 1) (by simp only [List.getElem?_toArray, List.getElem?_cons_zero, List.getElem?_cons_succ]; rfl) ?_
      refine ⟨.slice (some ⟨xJ, oJ, none⟩) H scJ, by kernel_rfl, by kernel_rfl, by kernel_rfl, fun _ _ _ h => h, hK.below, rfl, (fun w' hw => run_loadOp _ _ rfl _ rfl _ (load_cell (cell_later hw dJ))), ?_⟩
      simp only [Act.put, List.setIfInBounds_toArray, List.set_cons_zero, List.set_cons_succ]
      refine wpH_take1 (i := 2) (by simp only [List.getElem?_toArray, List.getElem?_cons_zero, List.getElem?_cons_succ]; rfl) ?_
      refine ⟨.int .i64 y, by kernel_rfl, by kernel_rfl, by kernel_rfl, fun _ _ _ h => h, hK.below, rfl, (fun w' _ => by go_simp), ?_⟩
      simp only [Act.put, List.setIfInBounds_toArray, List.set_cons_zero, List.set_cons_succ]
      refine wpH_take1 (i := 3) (by simp only [List.getElem?_toArray, List.getElem?_cons_zero, List.getElem?_cons_succ]; rfl) ?_
      refine ⟨.pointer (some ⟨xJ, oJ + y, none⟩), by kernel_rfl, by kernel_rfl, by kernel_rfl, fun _ _ _ h => h, hK.below, rfl, (fun w' _ => by go_simp), ?_⟩
      simp only [Act.put, List.setIfInBounds_toArray, List.set_cons_zero, List.set_cons_succ]
      refine wpH_take1 (i := 4) (by simp only [List.getElem?_toArray, List.getElem?_cons_zero, List.getElem?_cons_succ]; rfl) ?_
      refine ⟨.slice vaJ vnJ vcJ, by kernel_rfl, by kernel_rfl, by kernel_rfl, fun _ _ _ h => h, hK.below, rfl, (fun w' hw => run_loadOp _ _ rfl _ rfl _ (load_cell (cell_later hw eJ))), ?_⟩
      simp only [Act.put, List.setIfInBounds_toArray, List.set_cons_zero, List.set_cons_succ]
      refine wpH_take1 (i := 5) (by simp only [List.getElem?_toArray, List.getElem?_cons_zero, List.getElem?_cons_succ]; rfl) ?_
      refine ⟨.pointer (some ⟨b1, 2, none⟩), by kernel_rfl, by kernel_rfl, by kernel_rfl, fun _ _ _ h => h, hK.below, rfl, (fun w' _ => by go_simp), ?_⟩
      simp only [Act.put, List.setIfInBounds_toArray, List.set_cons_zero, List.set_cons_succ]
      refine wpH_take1 (i := 6) (by simp only [List.getElem?_toArray, List.getElem?_cons_zero, List.getElem?_cons_succ]; rfl) ?_
      refine ⟨.slice (some ⟨xA, oA, none⟩) H scA, by kernel_rfl, by kernel_rfl, by kernel_rfl, fun _ _ _ h => h, hK.below, rfl, (fun w' hw => run_loadOp _ _ rfl _ rfl _ (load_cell (cell_later hw dA))), ?_⟩
      simp only [Act.put, List.setIfInBounds_toArray, List.set_cons_zero, List.set_cons_succ]
      refine wpH_take1 (i := 7) (by simp only [List.getElem?_toArray, List.getElem?_cons_zero, List.getElem?_cons_succ]; rfl) ?_
      refine ⟨.int .i64 y, by kernel_rfl, by kernel_rfl, by kernel_rfl, fun _ _ _ h => h, hK.below, rfl, (fun w' _ => by go_simp), ?_⟩
      simp only [Act.put, List.setIfInBounds_toArray, List.set_cons_zero, List.set_cons_succ]
      refine wpH_take1 (i := 8) (by simp only [List.getElem?_toArray, List.getElem?_cons_zero, List.getElem?_cons_succ]; rfl) ?_
      refine ⟨.pointer (some ⟨xA, oA + y, none⟩), by kernel_rfl, by kernel_rfl, by kernel_rfl, fun _ _ _ h => h, hK.below, rfl, (fun w' _ => by go_simp), ?_⟩
      simp only [Act.put, List.setIfInBounds_toArray, List.set_cons_zero, List.set_cons_succ]
      refine wpH_take1 (i := 9) (by simp only [List.getElem?_toArray, List.getElem?_cons_zero, List.getElem?_cons_succ]; rfl) ?_
      refine ⟨.slice vaA vnA vcA, by kernel_rfl, by kernel_rfl, by kernel_rfl, fun _ _ _ h => h, hK.below, rfl, (fun w' hw => run_loadOp _ _ rfl _ rfl _ (load_cell (cell_later hw eA))), ?_⟩
      simp only [Act.put, List.setIfInBounds_toArray, List.set_cons_zero, List.set_cons_succ]
      refine wpH_take1 (i := 10) (by simp only [List.getElem?_toArray, List.getElem?_cons_zero, List.getElem?_cons_succ]; rfl) ?_
      refine ⟨.pointer (some ⟨b2, 2, none⟩), by kernel_rfl, by kernel_rfl, by kernel_rfl, fun _ _ _ h => h, hK.below, rfl, (fun w' _ => by go_simp), ?_⟩
      simp only [Act.put, List.setIfInBounds_toArray, List.set_cons_zero, List.set_cons_succ]
      refine wpH_take1 (i := 11) (by simp only [List.getElem?_toArray, List.getElem?_cons_zero, List.getElem?_cons_succ]; rfl) ?_
      refine ⟨.slice (some ⟨xB, oB, none⟩) H scB, by kernel_rfl, by kernel_rfl, by kernel_rfl, fun _ _ _ h => h, hK.below, rfl, (fun w' hw => run_loadOp _ _ rfl _ rfl _ (load_cell (cell_later hw dB))), ?_⟩
      simp only [Act.put, List.setIfInBounds_toArray, List.set_cons_zero, List.set_cons_succ]
      refine wpH_take1 (i := 12) (by simp only [List.getElem?_toArray, List.getElem?_cons_zero, List.getElem?_cons_succ]; rfl) ?_
      refine ⟨.int .i64 y, by kernel_rfl, by kernel_rfl, by kernel_rfl, fun _ _ _ h => h, hK.below, rfl, (fun w' _ => by go_simp), ?_⟩
      simp only [Act.put, List.setIfInBounds_toArray, List.set_cons_zero, List.set_cons_succ]
      refine wpH_take1 (i := 13) (by simp only [List.getElem?_toArray, List.getElem?_cons_zero, List.getElem?_cons_succ]; rfl) ?_
      refine ⟨.pointer (some ⟨xB, oB + y, none⟩), by kernel_rfl, by kernel_rfl, by kernel_rfl, fun _ _ _ h => h, hK.below, rfl, (fun w' _ => by go_simp), ?_⟩
      simp only [Act.put, List.setIfInBounds_toArray, List.set_cons_zero, List.set_cons_succ]
      refine wpH_take1 (i := 14) (by simp only [List.getElem?_toArray, List.getElem?_cons_zero, List.getElem?_cons_succ]; rfl) ?_
      refine ⟨.slice vaB vnB vcB, by kernel_rfl, by kernel_rfl, by kernel_rfl, fun _ _ _ h => h, hK.below, rfl, (fun w' hw => run_loadOp _ _ rfl _ rfl _ (load_cell (cell_later hw eB))), ?_⟩
      simp only [Act.put, List.setIfInBounds_toArray, List.set_cons_zero, List.set_cons_succ]
      refine wpH_one (i := 15) (by kernel_rfl) (wpOp_of (by simp only [List.getElem?_toArray, List.getElem?_cons_zero, List.getElem?_cons_succ]; rfl) ?_)
      refine st_call rfl 22 #[.slice vaA vnA vcA, .slice vaB vnB vcB] (by go_simp) (rowJoin_calls hW64 _ _ _ _ _ (RA.out.hold hK) (RB.out.hold hK)) ?_
      rintro e w' ⟨sx1, sy1, sz1, rfl, hb, hf⟩
      replace hK := hK.callF hb hf
      clear hb hf
      refine ⟨_, rfl, hK.below, ?_⟩
      simp only [Act.put, List.setIfInBounds_toArray, List.set_cons_zero, List.set_cons_succ]
      refine wpH_one (i := 16) (by kernel_rfl) (wpOp_of (by simp only [List.getElem?_toArray, List.getElem?_cons_zero, List.getElem?_cons_succ]; rfl) ?_)
      refine st_call rfl 21 #[.slice vaJ vnJ vcJ, .slice sx1 sy1 sz1] (by go_simp) (rowSame_calls _ _ _ _ (RJ.out.hold hK) (hK.runs FactAt.here)) ?_
      rintro e w' ⟨rfl, hb⟩
      replace hK := hK.call hb
      clear hb
      refine ⟨_, rfl, hK.below, ?_⟩
      simp only [Act.put, List.setIfInBounds_toArray, List.set_cons_zero, List.set_cons_succ]
      as_aux_lemma =>
        refine wpH_take1 (i := 17) (by simp only [List.getElem?_toArray, List.getElem?_cons_zero, List.getElem?_cons_succ]; rfl) ?_
        refine ⟨.bool false, by kernel_rfl, by kernel_rfl, by kernel_rfl, fun _ _ _ h => h, hK.below, rfl, (fun w' _ => by go_simp), ?_⟩
        simp only [Act.put, List.setIfInBounds_toArray, List.set_cons_zero, List.set_cons_succ]
        refine wpH_take1 (i := 18) (by simp only [List.getElem?_toArray, List.getElem?_cons_zero, List.getElem?_cons_succ]; rfl) ?_
        refine ⟨.bool false, by kernel_rfl, by kernel_rfl, by kernel_rfl, fun _ _ _ h => h, hK.below, rfl, (fun w' _ => by go_simp), ?_⟩
        simp only [Act.put, List.setIfInBounds_toArray, List.set_cons_zero, List.set_cons_succ]
        refine wpH_take1 (i := 19) (by simp only [List.getElem?_toArray, List.getElem?_cons_zero, List.getElem?_cons_succ]; rfl) ?_
        refine ⟨.pointer (some ⟨b4, 2, none⟩), by kernel_rfl, by kernel_rfl, by kernel_rfl, fun _ _ _ h => h, hK.below, rfl, (fun w' _ => by go_simp), ?_⟩
        simp only [Act.put, List.setIfInBounds_toArray, List.set_cons_zero, List.set_cons_succ]
        refine wpH_take1 (i := 20) (by simp only [List.getElem?_toArray, List.getElem?_cons_zero, List.getElem?_cons_succ]; rfl) ?_
        refine ⟨.slice (some ⟨xM, oM, none⟩) H scM, by kernel_rfl, by kernel_rfl, by kernel_rfl, fun _ _ _ h => h, hK.below, rfl, (fun w' hw => run_loadOp _ _ rfl _ rfl _ (load_cell (cell_later hw dM))), ?_⟩
        simp only [Act.put, List.setIfInBounds_toArray, List.set_cons_zero, List.set_cons_succ]
        refine wpH_take1 (i := 21) (by simp only [List.getElem?_toArray, List.getElem?_cons_zero, List.getElem?_cons_succ]; rfl) ?_
        refine ⟨.int .i64 y, by kernel_rfl, by kernel_rfl, by kernel_rfl, fun _ _ _ h => h, hK.below, rfl, (fun w' _ => by go_simp), ?_⟩
        simp only [Act.put, List.setIfInBounds_toArray, List.set_cons_zero, List.set_cons_succ]
        refine wpH_take1 (i := 22) (by simp only [List.getElem?_toArray, List.getElem?_cons_zero, List.getElem?_cons_succ]; rfl) ?_
        refine ⟨.pointer (some ⟨xM, oM + y, none⟩), by kernel_rfl, by kernel_rfl, by kernel_rfl, fun _ _ _ h => h, hK.below, rfl, (fun w' _ => by go_simp), ?_⟩
        simp only [Act.put, List.setIfInBounds_toArray, List.set_cons_zero, List.set_cons_succ]
        refine wpH_take1 (i := 23) (by simp only [List.getElem?_toArray, List.getElem?_cons_zero, List.getElem?_cons_succ]; rfl) ?_
        refine ⟨.slice vaM vnM vcM, by kernel_rfl, by kernel_rfl, by kernel_rfl, fun _ _ _ h => h, hK.below, rfl, (fun w' hw => run_loadOp _ _ rfl _ rfl _ (load_cell (cell_later hw eM))), ?_⟩
        simp only [Act.put, List.setIfInBounds_toArray, List.set_cons_zero, List.set_cons_succ]
        refine wpH_take1 (i := 24) (by simp only [List.getElem?_toArray, List.getElem?_cons_zero, List.getElem?_cons_succ]; rfl) ?_
        refine ⟨.pointer (some ⟨b1, 2, none⟩), by kernel_rfl, by kernel_rfl, by kernel_rfl, fun _ _ _ h => h, hK.below, rfl, (fun w' _ => by go_simp), ?_⟩
        simp only [Act.put, List.setIfInBounds_toArray, List.set_cons_zero, List.set_cons_succ]
        refine wpH_take1 (i := 25) (by simp only [List.getElem?_toArray, List.getElem?_cons_zero, List.getElem?_cons_succ]; rfl) ?_
        refine ⟨.slice (some ⟨xA, oA, none⟩) H scA, by kernel_rfl, by kernel_rfl, by kernel_rfl, fun _ _ _ h => h, hK.below, rfl, (fun w' hw => run_loadOp _ _ rfl _ rfl _ (load_cell (cell_later hw dA))), ?_⟩
        simp only [Act.put, List.setIfInBounds_toArray, List.set_cons_zero, List.set_cons_succ]
        refine wpH_take1 (i := 26) (by simp only [List.getElem?_toArray, List.getElem?_cons_zero, List.getElem?_cons_succ]; rfl) ?_
        refine ⟨.int .i64 y, by kernel_rfl, by kernel_rfl, by kernel_rfl, fun _ _ _ h => h, hK.below, rfl, (fun w' _ => by go_simp), ?_⟩
        simp only [Act.put, List.setIfInBounds_toArray, List.set_cons_zero, List.set_cons_succ]
        refine wpH_take1 (i := 27) (by simp only [List.getElem?_toArray, List.getElem?_cons_zero, List.getElem?_cons_succ]; rfl) ?_
        refine ⟨.pointer (some ⟨xA, oA + y, none⟩), by kernel_rfl, by kernel_rfl, by kernel_rfl, fun _ _ _ h => h, hK.below, rfl, (fun w' _ => by go_simp), ?_⟩
        simp only [Act.put, List.setIfInBounds_toArray, List.set_cons_zero, List.set_cons_succ]
        refine wpH_take1 (i := 28) (by simp only [List.getElem?_toArray, List.getElem?_cons_zero, List.getElem?_cons_succ]; rfl) ?_
        refine ⟨.slice vaA vnA vcA, by kernel_rfl, by kernel_rfl, by kernel_rfl, fun _ _ _ h => h, hK.below, rfl, (fun w' hw => run_loadOp _ _ rfl _ rfl _ (load_cell (cell_later hw eA))), ?_⟩
        simp only [Act.put, List.setIfInBounds_toArray, List.set_cons_zero, List.set_cons_succ]
        refine wpH_take1 (i := 29) (by simp only [List.getElem?_toArray, List.getElem?_cons_zero, List.getElem?_cons_succ]; rfl) ?_
        refine ⟨.pointer (some ⟨b2, 2, none⟩), by kernel_rfl, by kernel_rfl, by kernel_rfl, fun _ _ _ h => h, hK.below, rfl, (fun w' _ => by go_simp), ?_⟩
        simp only [Act.put, List.setIfInBounds_toArray, List.set_cons_zero, List.set_cons_succ]
        refine wpH_take1 (i := 30) (by simp only [List.getElem?_toArray, List.getElem?_cons_zero, List.getElem?_cons_succ]; rfl) ?_
        refine ⟨.slice (some ⟨xB, oB, none⟩) H scB, by kernel_rfl, by kernel_rfl, by kernel_rfl, fun _ _ _ h => h, hK.below, rfl, (fun w' hw => run_loadOp _ _ rfl _ rfl _ (load_cell (cell_later hw dB))), ?_⟩
        simp only [Act.put, List.setIfInBounds_toArray, List.set_cons_zero, List.set_cons_succ]
        refine wpH_take1 (i := 31) (by simp only [List.getElem?_toArray, List.getElem?_cons_zero, List.getElem?_cons_succ]; rfl) ?_
        refine ⟨.int .i64 y, by kernel_rfl, by kernel_rfl, by kernel_rfl, fun _ _ _ h => h, hK.below, rfl, (fun w' _ => by go_simp), ?_⟩
        simp only [Act.put, List.setIfInBounds_toArray, List.set_cons_zero, List.set_cons_succ]
        refine wpH_take1 (i := 32) (by simp only [List.getElem?_toArray, List.getElem?_cons_zero, List.getElem?_cons_succ]; rfl) ?_
        refine ⟨.pointer (some ⟨xB, oB + y, none⟩), by kernel_rfl, by kernel_rfl, by kernel_rfl, fun _ _ _ h => h, hK.below, rfl, (fun w' _ => by go_simp), ?_⟩
        simp only [Act.put, List.setIfInBounds_toArray, List.set_cons_zero, List.set_cons_succ]
        refine wpH_take1 (i := 33) (by simp only [List.getElem?_toArray, List.getElem?_cons_zero, List.getElem?_cons_succ]; rfl) ?_
        refine ⟨.slice vaB vnB vcB, by kernel_rfl, by kernel_rfl, by kernel_rfl, fun _ _ _ h => h, hK.below, rfl, (fun w' hw => run_loadOp _ _ rfl _ rfl _ (load_cell (cell_later hw eB))), ?_⟩
        simp only [Act.put, List.setIfInBounds_toArray, List.set_cons_zero, List.set_cons_succ]
        refine wpH_one (i := 34) (by kernel_rfl) (wpOp_of (by simp only [List.getElem?_toArray, List.getElem?_cons_zero, List.getElem?_cons_succ]; rfl) ?_)
        refine st_call rfl 23 #[.slice vaA vnA vcA, .slice vaB vnB vcB] (by go_simp) (rowMeet_calls hW64 _ _ _ _ _ (RA.out.hold hK) (RB.out.hold hK)) ?_
        rintro e w' ⟨sx2, sy2, sz2, rfl, hb, hf⟩
        replace hK := hK.callF hb hf
        clear hb hf
        refine ⟨_, rfl, hK.below, ?_⟩
        simp only [Act.put, List.setIfInBounds_toArray, List.set_cons_zero, List.set_cons_succ]
        refine wpH_one (i := 35) (by kernel_rfl) (wpOp_of (by simp only [List.getElem?_toArray, List.getElem?_cons_zero, List.getElem?_cons_succ]; rfl) ?_)
        refine st_call rfl 21 #[.slice vaM vnM vcM, .slice sx2 sy2 sz2] (by go_simp) (rowSame_calls _ _ _ _ (RM.out.hold hK) (hK.runs FactAt.here)) ?_
        rintro e w' ⟨rfl, hb⟩
        replace hK := hK.call hb
        clear hb
        refine ⟨_, rfl, hK.below, ?_⟩
        simp only [Act.put, List.setIfInBounds_toArray, List.set_cons_zero, List.set_cons_succ]
        as_aux_lemma =>
          refine wpH_take1 (i := 36) (by simp only [List.getElem?_toArray, List.getElem?_cons_zero, List.getElem?_cons_succ]; rfl) ?_
          refine ⟨.bool false, by kernel_rfl, by kernel_rfl, by kernel_rfl, fun _ _ _ h => h, hK.below, rfl, (fun w' _ => by go_simp), ?_⟩
          simp only [Act.put, List.setIfInBounds_toArray, List.set_cons_zero, List.set_cons_succ]
          refine wpH_take1 (i := 37) (by simp only [List.getElem?_toArray, List.getElem?_cons_zero, List.getElem?_cons_succ]; rfl) ?_
          refine ⟨.bool false, by kernel_rfl, by kernel_rfl, by kernel_rfl, fun _ _ _ h => h, hK.below, rfl, (fun w' _ => by go_simp), ?_⟩
          simp only [Act.put, List.setIfInBounds_toArray, List.set_cons_zero, List.set_cons_succ]
          refine wpH_take1 (i := 38) (by simp only [List.getElem?_toArray, List.getElem?_cons_zero, List.getElem?_cons_succ]; rfl) ?_
          refine ⟨.bool false, by kernel_rfl, by kernel_rfl, by kernel_rfl, fun _ _ _ h => h, hK.below, rfl, (fun w' _ => by go_simp), ?_⟩
          simp only [Act.put, List.setIfInBounds_toArray, List.set_cons_zero, List.set_cons_succ]
          refine wpH_take1 (i := 39) (by simp only [List.getElem?_toArray, List.getElem?_cons_zero, List.getElem?_cons_succ]; rfl) ?_
          refine ⟨.pointer (some ⟨b5, 2, none⟩), by kernel_rfl, by kernel_rfl, by kernel_rfl, fun _ _ _ h => h, hK.below, rfl, (fun w' _ => by go_simp), ?_⟩
          simp only [Act.put, List.setIfInBounds_toArray, List.set_cons_zero, List.set_cons_succ]
          refine wpH_take1 (i := 40) (by simp only [List.getElem?_toArray, List.getElem?_cons_zero, List.getElem?_cons_succ]; rfl) ?_
          refine ⟨.slice (some ⟨xL, oL, none⟩) H scL, by kernel_rfl, by kernel_rfl, by kernel_rfl, fun _ _ _ h => h, hK.below, rfl, (fun w' hw => run_loadOp _ _ rfl _ rfl _ (load_cell (cell_later hw dL))), ?_⟩
          simp only [Act.put, List.setIfInBounds_toArray, List.set_cons_zero, List.set_cons_succ]
          refine wpH_take1 (i := 41) (by simp only [List.getElem?_toArray, List.getElem?_cons_zero, List.getElem?_cons_succ]; rfl) ?_
          refine ⟨.int .i64 y, by kernel_rfl, by kernel_rfl, by kernel_rfl, fun _ _ _ h => h, hK.below, rfl, (fun w' _ => by go_simp), ?_⟩
          simp only [Act.put, List.setIfInBounds_toArray, List.set_cons_zero, List.set_cons_succ]
          refine wpH_take1 (i := 42) (by simp only [List.getElem?_toArray, List.getElem?_cons_zero, List.getElem?_cons_succ]; rfl) ?_
          refine ⟨.pointer (some ⟨xL, oL + y, none⟩), by kernel_rfl, by kernel_rfl, by kernel_rfl, fun _ _ _ h => h, hK.below, rfl, (fun w' _ => by go_simp), ?_⟩
          simp only [Act.put, List.setIfInBounds_toArray, List.set_cons_zero, List.set_cons_succ]
          refine wpH_take1 (i := 43) (by simp only [List.getElem?_toArray, List.getElem?_cons_zero, List.getElem?_cons_succ]; rfl) ?_
          refine ⟨.slice vaL vnL vcL, by kernel_rfl, by kernel_rfl, by kernel_rfl, fun _ _ _ h => h, hK.below, rfl, (fun w' hw => run_loadOp _ _ rfl _ rfl _ (load_cell (cell_later hw eL))), ?_⟩
          simp only [Act.put, List.setIfInBounds_toArray, List.set_cons_zero, List.set_cons_succ]
          refine wpH_take1 (i := 44) (by simp only [List.getElem?_toArray, List.getElem?_cons_zero, List.getElem?_cons_succ]; rfl) ?_
          refine ⟨.pointer (some ⟨b1, 2, none⟩), by kernel_rfl, by kernel_rfl, by kernel_rfl, fun _ _ _ h => h, hK.below, rfl, (fun w' _ => by go_simp), ?_⟩
          simp only [Act.put, List.setIfInBounds_toArray, List.set_cons_zero, List.set_cons_succ]
          refine wpH_take1 (i := 45) (by simp only [List.getElem?_toArray, List.getElem?_cons_zero, List.getElem?_cons_succ]; rfl) ?_
          refine ⟨.slice (some ⟨xA, oA, none⟩) H scA, by kernel_rfl, by kernel_rfl, by kernel_rfl, fun _ _ _ h => h, hK.below, rfl, (fun w' hw => run_loadOp _ _ rfl _ rfl _ (load_cell (cell_later hw dA))), ?_⟩
          simp only [Act.put, List.setIfInBounds_toArray, List.set_cons_zero, List.set_cons_succ]
          refine wpH_take1 (i := 46) (by simp only [List.getElem?_toArray, List.getElem?_cons_zero, List.getElem?_cons_succ]; rfl) ?_
          refine ⟨.int .i64 y, by kernel_rfl, by kernel_rfl, by kernel_rfl, fun _ _ _ h => h, hK.below, rfl, (fun w' _ => by go_simp), ?_⟩
          simp only [Act.put, List.setIfInBounds_toArray, List.set_cons_zero, List.set_cons_succ]
          refine wpH_take1 (i := 47) (by simp only [List.getElem?_toArray, List.getElem?_cons_zero, List.getElem?_cons_succ]; rfl) ?_
          refine ⟨.pointer (some ⟨xA, oA + y, none⟩), by kernel_rfl, by kernel_rfl, by kernel_rfl, fun _ _ _ h => h, hK.below, rfl, (fun w' _ => by go_simp), ?_⟩
          simp only [Act.put, List.setIfInBounds_toArray, List.set_cons_zero, List.set_cons_succ]
          refine wpH_take1 (i := 48) (by simp only [List.getElem?_toArray, List.getElem?_cons_zero, List.getElem?_cons_succ]; rfl) ?_
          refine ⟨.slice vaA vnA vcA, by kernel_rfl, by kernel_rfl, by kernel_rfl, fun _ _ _ h => h, hK.below, rfl, (fun w' hw => run_loadOp _ _ rfl _ rfl _ (load_cell (cell_later hw eA))), ?_⟩
          simp only [Act.put, List.setIfInBounds_toArray, List.set_cons_zero, List.set_cons_succ]
          refine wpH_take1 (i := 49) (by simp only [List.getElem?_toArray, List.getElem?_cons_zero, List.getElem?_cons_succ]; rfl) ?_
          refine ⟨.pointer (some ⟨b2, 2, none⟩), by kernel_rfl, by kernel_rfl, by kernel_rfl, fun _ _ _ h => h, hK.below, rfl, (fun w' _ => by go_simp), ?_⟩
          simp only [Act.put, List.setIfInBounds_toArray, List.set_cons_zero, List.set_cons_succ]
          refine wpH_take1 (i := 50) (by simp only [List.getElem?_toArray, List.getElem?_cons_zero, List.getElem?_cons_succ]; rfl) ?_
          refine ⟨.slice (some ⟨xB, oB, none⟩) H scB, by kernel_rfl, by kernel_rfl, by kernel_rfl, fun _ _ _ h => h, hK.below, rfl, (fun w' hw => run_loadOp _ _ rfl _ rfl _ (load_cell (cell_later hw dB))), ?_⟩
          simp only [Act.put, List.setIfInBounds_toArray, List.set_cons_zero, List.set_cons_succ]
          refine wpH_take1 (i := 51) (by simp only [List.getElem?_toArray, List.getElem?_cons_zero, List.getElem?_cons_succ]; rfl) ?_
          refine ⟨.int .i64 y, by kernel_rfl, by kernel_rfl, by kernel_rfl, fun _ _ _ h => h, hK.below, rfl, (fun w' _ => by go_simp), ?_⟩
          simp only [Act.put, List.setIfInBounds_toArray, List.set_cons_zero, List.set_cons_succ]
          refine wpH_take1 (i := 52) (by simp only [List.getElem?_toArray, List.getElem?_cons_zero, List.getElem?_cons_succ]; rfl) ?_
          refine ⟨.pointer (some ⟨xB, oB + y, none⟩), by kernel_rfl, by kernel_rfl, by kernel_rfl, fun _ _ _ h => h, hK.below, rfl, (fun w' _ => by go_simp), ?_⟩
          simp only [Act.put, List.setIfInBounds_toArray, List.set_cons_zero, List.set_cons_succ]
          refine wpH_take1 (i := 53) (by simp only [List.getElem?_toArray, List.getElem?_cons_zero, List.getElem?_cons_succ]; rfl) ?_
          refine ⟨.slice vaB vnB vcB, by kernel_rfl, by kernel_rfl, by kernel_rfl, fun _ _ _ h => h, hK.below, rfl, (fun w' hw => run_loadOp _ _ rfl _ rfl _ (load_cell (cell_later hw eB))), ?_⟩
          simp only [Act.put, List.setIfInBounds_toArray, List.set_cons_zero, List.set_cons_succ]
          refine wpH_one (i := 54) (by kernel_rfl) (wpOp_of (by simp only [List.getElem?_toArray, List.getElem?_cons_zero, List.getElem?_cons_succ]; rfl) ?_)
          refine st_call rfl 24 #[.slice vaA vnA vcA, .slice vaB vnB vcB] (by go_simp) (rowLess_calls hW64 _ _ _ _ _ (RA.out.hold hK) (RB.out.hold hK)) ?_
          rintro e w' ⟨sx3, sy3, sz3, rfl, hb, hf⟩
          replace hK := hK.callF hb hf
          clear hb hf
          refine ⟨_, rfl, hK.below, ?_⟩
          simp only [Act.put, List.setIfInBounds_toArray, List.set_cons_zero, List.set_cons_succ]
          refine wpH_one (i := 55) (by kernel_rfl) (wpOp_of (by simp only [List.getElem?_toArray, List.getElem?_cons_zero, List.getElem?_cons_succ]; rfl) ?_)
          refine st_call rfl 21 #[.slice vaL vnL vcL, .slice sx3 sy3 sz3] (by go_simp) (rowSame_calls _ _ _ _ (RL.out.hold hK) (hK.runs FactAt.here)) ?_
          rintro e w' ⟨rfl, hb⟩
          replace hK := hK.call hb
          clear hb
          refine ⟨_, rfl, hK.below, ?_⟩
          simp only [Act.put, List.setIfInBounds_toArray, List.set_cons_zero, List.set_cons_succ]
          as_aux_lemma =>
            refine wpH_take1 (i := 56) (by simp only [List.getElem?_toArray, List.getElem?_cons_zero, List.getElem?_cons_succ]; rfl) ?_
            refine ⟨.bool false, by kernel_rfl, by kernel_rfl, by kernel_rfl, fun _ _ _ h => h, hK.below, rfl, (fun w' _ => by go_simp), ?_⟩
            simp only [Act.put, List.setIfInBounds_toArray, List.set_cons_zero, List.set_cons_succ]
            refine wpH_take1 (i := 57) (by simp only [List.getElem?_toArray, List.getElem?_cons_zero, List.getElem?_cons_succ]; rfl) ?_
            refine ⟨.bool false, by kernel_rfl, by kernel_rfl, by kernel_rfl, fun _ _ _ h => h, hK.below, rfl, (fun w' _ => by go_simp), ?_⟩
            simp only [Act.put, List.setIfInBounds_toArray, List.set_cons_zero, List.set_cons_succ]
            refine wpH_take1 (i := 58) (by simp only [List.getElem?_toArray, List.getElem?_cons_zero, List.getElem?_cons_succ]; rfl) ?_
            refine ⟨.bool false, by kernel_rfl, by kernel_rfl, by kernel_rfl, fun _ _ _ h => h, hK.below, rfl, (fun w' _ => by go_simp), ?_⟩
            simp only [Act.put, List.setIfInBounds_toArray, List.set_cons_zero, List.set_cons_succ]
            refine wpH_take1 (i := 59) (by simp only [List.getElem?_toArray, List.getElem?_cons_zero, List.getElem?_cons_succ]; rfl) ?_
            refine ⟨.pointer (some ⟨b6, 2, none⟩), by kernel_rfl, by kernel_rfl, by kernel_rfl, fun _ _ _ h => h, hK.below, rfl, (fun w' _ => by go_simp), ?_⟩
            simp only [Act.put, List.setIfInBounds_toArray, List.set_cons_zero, List.set_cons_succ]
            refine wpH_take1 (i := 60) (by simp only [List.getElem?_toArray, List.getElem?_cons_zero, List.getElem?_cons_succ]; rfl) ?_
            refine ⟨.slice (some ⟨xO, oO, none⟩) H scO, by kernel_rfl, by kernel_rfl, by kernel_rfl, fun _ _ _ h => h, hK.below, rfl, (fun w' hw => run_loadOp _ _ rfl _ rfl _ (load_cell (cell_later hw dO))), ?_⟩
            simp only [Act.put, List.setIfInBounds_toArray, List.set_cons_zero, List.set_cons_succ]
            refine wpH_take1 (i := 61) (by simp only [List.getElem?_toArray, List.getElem?_cons_zero, List.getElem?_cons_succ]; rfl) ?_
            refine ⟨.int .i64 y, by kernel_rfl, by kernel_rfl, by kernel_rfl, fun _ _ _ h => h, hK.below, rfl, (fun w' _ => by go_simp), ?_⟩
            simp only [Act.put, List.setIfInBounds_toArray, List.set_cons_zero, List.set_cons_succ]
            refine wpH_take1 (i := 62) (by simp only [List.getElem?_toArray, List.getElem?_cons_zero, List.getElem?_cons_succ]; rfl) ?_
            refine ⟨.pointer (some ⟨xO, oO + y, none⟩), by kernel_rfl, by kernel_rfl, by kernel_rfl, fun _ _ _ h => h, hK.below, rfl, (fun w' _ => by go_simp), ?_⟩
            simp only [Act.put, List.setIfInBounds_toArray, List.set_cons_zero, List.set_cons_succ]
            refine wpH_take1 (i := 63) (by simp only [List.getElem?_toArray, List.getElem?_cons_zero, List.getElem?_cons_succ]; rfl) ?_
            refine ⟨.slice vaO vnO vcO, by kernel_rfl, by kernel_rfl, by kernel_rfl, fun _ _ _ h => h, hK.below, rfl, (fun w' hw => run_loadOp _ _ rfl _ rfl _ (load_cell (cell_later hw eO))), ?_⟩
            simp only [Act.put, List.setIfInBounds_toArray, List.set_cons_zero, List.set_cons_succ]
            refine wpH_take1 (i := 64) (by simp only [List.getElem?_toArray, List.getElem?_cons_zero, List.getElem?_cons_succ]; rfl) ?_
            refine ⟨.pointer (some ⟨b1, 2, none⟩), by kernel_rfl, by kernel_rfl, by kernel_rfl, fun _ _ _ h => h, hK.below, rfl, (fun w' _ => by go_simp), ?_⟩
            simp only [Act.put, List.setIfInBounds_toArray, List.set_cons_zero, List.set_cons_succ]
            refine wpH_take1 (i := 65) (by simp only [List.getElem?_toArray, List.getElem?_cons_zero, List.getElem?_cons_succ]; rfl) ?_
            refine ⟨.slice (some ⟨xA, oA, none⟩) H scA, by kernel_rfl, by kernel_rfl, by kernel_rfl, fun _ _ _ h => h, hK.below, rfl, (fun w' hw => run_loadOp _ _ rfl _ rfl _ (load_cell (cell_later hw dA))), ?_⟩
            simp only [Act.put, List.setIfInBounds_toArray, List.set_cons_zero, List.set_cons_succ]
            refine wpH_take1 (i := 66) (by simp only [List.getElem?_toArray, List.getElem?_cons_zero, List.getElem?_cons_succ]; rfl) ?_
            refine ⟨.int .i64 y, by kernel_rfl, by kernel_rfl, by kernel_rfl, fun _ _ _ h => h, hK.below, rfl, (fun w' _ => by go_simp), ?_⟩
            simp only [Act.put, List.setIfInBounds_toArray, List.set_cons_zero, List.set_cons_succ]
            refine wpH_take1 (i := 67) (by simp only [List.getElem?_toArray, List.getElem?_cons_zero, List.getElem?_cons_succ]; rfl) ?_
            refine ⟨.pointer (some ⟨xA, oA + y, none⟩), by kernel_rfl, by kernel_rfl, by kernel_rfl, fun _ _ _ h => h, hK.below, rfl, (fun w' _ => by go_simp), ?_⟩
            simp only [Act.put, List.setIfInBounds_toArray, List.set_cons_zero, List.set_cons_succ]
            refine wpH_take1 (i := 68) (by simp only [List.getElem?_toArray, List.getElem?_cons_zero, List.getElem?_cons_succ]; rfl) ?_
            refine ⟨.slice vaA vnA vcA, by kernel_rfl, by kernel_rfl, by kernel_rfl, fun _ _ _ h => h, hK.below, rfl, (fun w' hw => run_loadOp _ _ rfl _ rfl _ (load_cell (cell_later hw eA))), ?_⟩
            simp only [Act.put, List.setIfInBounds_toArray, List.set_cons_zero, List.set_cons_succ]
            refine wpH_take1 (i := 69) (by simp only [List.getElem?_toArray, List.getElem?_cons_zero, List.getElem?_cons_succ]; rfl) ?_
            refine ⟨.pointer (some ⟨b2, 2, none⟩), by kernel_rfl, by kernel_rfl, by kernel_rfl, fun _ _ _ h => h, hK.below, rfl, (fun w' _ => by go_simp), ?_⟩
            simp only [Act.put, List.setIfInBounds_toArray, List.set_cons_zero, List.set_cons_succ]
            refine wpH_take1 (i := 70) (by simp only [List.getElem?_toArray, List.getElem?_cons_zero, List.getElem?_cons_succ]; rfl) ?_
            refine ⟨.slice (some ⟨xB, oB, none⟩) H scB, by kernel_rfl, by kernel_rfl, by kernel_rfl, fun _ _ _ h => h, hK.below, rfl, (fun w' hw => run_loadOp _ _ rfl _ rfl _ (load_cell (cell_later hw dB))), ?_⟩
            simp only [Act.put, List.setIfInBounds_toArray, List.set_cons_zero, List.set_cons_succ]
            refine wpH_take1 (i := 71) (by simp only [List.getElem?_toArray, List.getElem?_cons_zero, List.getElem?_cons_succ]; rfl) ?_
            refine ⟨.int .i64 y, by kernel_rfl, by kernel_rfl, by kernel_rfl, fun _ _ _ h => h, hK.below, rfl, (fun w' _ => by go_simp), ?_⟩
            simp only [Act.put, List.setIfInBounds_toArray, List.set_cons_zero, List.set_cons_succ]
            refine wpH_take1 (i := 72) (by simp only [List.getElem?_toArray, List.getElem?_cons_zero, List.getElem?_cons_succ]; rfl) ?_
            refine ⟨.pointer (some ⟨xB, oB + y, none⟩), by kernel_rfl, by kernel_rfl, by kernel_rfl, fun _ _ _ h => h, hK.below, rfl, (fun w' _ => by go_simp), ?_⟩
            simp only [Act.put, List.setIfInBounds_toArray, List.set_cons_zero, List.set_cons_succ]
            refine wpH_take1 (i := 73) (by simp only [List.getElem?_toArray, List.getElem?_cons_zero, List.getElem?_cons_succ]; rfl) ?_
            refine ⟨.slice vaB vnB vcB, by kernel_rfl, by kernel_rfl, by kernel_rfl, fun _ _ _ h => h, hK.below, rfl, (fun w' hw => run_loadOp _ _ rfl _ rfl _ (load_cell (cell_later hw eB))), ?_⟩
            simp only [Act.put, List.setIfInBounds_toArray, List.set_cons_zero, List.set_cons_succ]
            refine wpH_one (i := 74) (by kernel_rfl) (wpOp_of (by simp only [List.getElem?_toArray, List.getElem?_cons_zero, List.getElem?_cons_succ]; rfl) ?_)
            refine st_call rfl 25 #[.slice vaA vnA vcA, .slice vaB vnB vcB] (by go_simp) (rowOther_calls hW64 _ _ _ _ _ (RA.out.hold hK) (RB.out.hold hK)) ?_
            rintro e w' ⟨sx4, sy4, sz4, rfl, hb, hf⟩
            replace hK := hK.callF hb hf
            clear hb hf
            refine ⟨_, rfl, hK.below, ?_⟩
            simp only [Act.put, List.setIfInBounds_toArray, List.set_cons_zero, List.set_cons_succ]
            refine wpH_one (i := 75) (by kernel_rfl) (wpOp_of (by simp only [List.getElem?_toArray, List.getElem?_cons_zero, List.getElem?_cons_succ]; rfl) ?_)
            refine st_call rfl 21 #[.slice vaO vnO vcO, .slice sx4 sy4 sz4] (by go_simp) (rowSame_calls _ _ _ _ (RO.out.hold hK) (hK.runs FactAt.here)) ?_
            rintro e w' ⟨rfl, hb⟩
            replace hK := hK.call hb
            clear hb
            refine ⟨_, rfl, hK.below, ?_⟩
            simp only [Act.put, List.setIfInBounds_toArray, List.set_cons_zero, List.set_cons_succ]
            as_aux_lemma =>
              refine wpH_take1 (i := 76) (by simp only [List.getElem?_toArray, List.getElem?_cons_zero, List.getElem?_cons_succ]; rfl) ?_
              refine ⟨.bool false, by kernel_rfl, by kernel_rfl, by kernel_rfl, fun _ _ _ h => h, hK.below, rfl, (fun w' _ => by go_simp), ?_⟩
              simp only [Act.put, List.setIfInBounds_toArray, List.set_cons_zero, List.set_cons_succ]
              refine wpH_take1 (i := 77) (by simp only [List.getElem?_toArray, List.getElem?_cons_zero, List.getElem?_cons_succ]; rfl) ?_
              refine ⟨.bool false, by kernel_rfl, by kernel_rfl, by kernel_rfl, fun _ _ _ h => h, hK.below, rfl, (fun w' _ => by go_simp), ?_⟩
              simp only [Act.put, List.setIfInBounds_toArray, List.set_cons_zero, List.set_cons_succ]
              refine wpH_take1 (i := 78) (by simp only [List.getElem?_toArray, List.getElem?_cons_zero, List.getElem?_cons_succ]; rfl) ?_
              refine ⟨.bool false, by kernel_rfl, by kernel_rfl, by kernel_rfl, fun _ _ _ h => h, hK.below, rfl, (fun w' _ => by go_simp), ?_⟩
              simp only [Act.put, List.setIfInBounds_toArray, List.set_cons_zero, List.set_cons_succ]
              refine wpH_take1 (i := 79) (by simp only [List.getElem?_toArray, List.getElem?_cons_zero, List.getElem?_cons_succ]; rfl) ?_
              refine ⟨.pointer (some ⟨b7, 2, none⟩), by kernel_rfl, by kernel_rfl, by kernel_rfl, fun _ _ _ h => h, hK.below, rfl, (fun w' _ => by go_simp), ?_⟩
              simp only [Act.put, List.setIfInBounds_toArray, List.set_cons_zero, List.set_cons_succ]
              refine wpH_take1 (i := 80) (by simp only [List.getElem?_toArray, List.getElem?_cons_zero, List.getElem?_cons_succ]; rfl) ?_
              refine ⟨.slice (some ⟨xT, oT, none⟩) H scT, by kernel_rfl, by kernel_rfl, by kernel_rfl, fun _ _ _ h => h, hK.below, rfl, (fun w' hw => run_loadOp _ _ rfl _ rfl _ (load_cell (cell_later hw dT))), ?_⟩
              simp only [Act.put, List.setIfInBounds_toArray, List.set_cons_zero, List.set_cons_succ]
              refine wpH_take1 (i := 81) (by simp only [List.getElem?_toArray, List.getElem?_cons_zero, List.getElem?_cons_succ]; rfl) ?_
              refine ⟨.int .i64 y, by kernel_rfl, by kernel_rfl, by kernel_rfl, fun _ _ _ h => h, hK.below, rfl, (fun w' _ => by go_simp), ?_⟩
              simp only [Act.put, List.setIfInBounds_toArray, List.set_cons_zero, List.set_cons_succ]
              refine wpH_take1 (i := 82) (by simp only [List.getElem?_toArray, List.getElem?_cons_zero, List.getElem?_cons_succ]; rfl) ?_
              refine ⟨.pointer (some ⟨xT, oT + y, none⟩), by kernel_rfl, by kernel_rfl, by kernel_rfl, fun _ _ _ h => h, hK.below, rfl, (fun w' _ => by go_simp), ?_⟩
              simp only [Act.put, List.setIfInBounds_toArray, List.set_cons_zero, List.set_cons_succ]
              refine wpH_take1 (i := 83) (by simp only [List.getElem?_toArray, List.getElem?_cons_zero, List.getElem?_cons_succ]; rfl) ?_
              refine ⟨.slice vaT vnT vcT, by kernel_rfl, by kernel_rfl, by kernel_rfl, fun _ _ _ h => h, hK.below, rfl, (fun w' hw => run_loadOp _ _ rfl _ rfl _ (load_cell (cell_later hw eT))), ?_⟩
              simp only [Act.put, List.setIfInBounds_toArray, List.set_cons_zero, List.set_cons_succ]
              refine wpH_take1 (i := 84) (by simp only [List.getElem?_toArray, List.getElem?_cons_zero, List.getElem?_cons_succ]; rfl) ?_
              refine ⟨.pointer (some ⟨b1, 2, none⟩), by kernel_rfl, by kernel_rfl, by kernel_rfl, fun _ _ _ h => h, hK.below, rfl, (fun w' _ => by go_simp), ?_⟩
              simp only [Act.put, List.setIfInBounds_toArray, List.set_cons_zero, List.set_cons_succ]
              refine wpH_take1 (i := 85) (by simp only [List.getElem?_toArray, List.getElem?_cons_zero, List.getElem?_cons_succ]; rfl) ?_
              refine ⟨.slice (some ⟨xA, oA, none⟩) H scA, by kernel_rfl, by kernel_rfl, by kernel_rfl, fun _ _ _ h => h, hK.below, rfl, (fun w' hw => run_loadOp _ _ rfl _ rfl _ (load_cell (cell_later hw dA))), ?_⟩
              simp only [Act.put, List.setIfInBounds_toArray, List.set_cons_zero, List.set_cons_succ]
              refine wpH_take1 (i := 86) (by simp only [List.getElem?_toArray, List.getElem?_cons_zero, List.getElem?_cons_succ]; rfl) ?_
              refine ⟨.int .i64 y, by kernel_rfl, by kernel_rfl, by kernel_rfl, fun _ _ _ h => h, hK.below, rfl, (fun w' _ => by go_simp), ?_⟩
              simp only [Act.put, List.setIfInBounds_toArray, List.set_cons_zero, List.set_cons_succ]
              refine wpH_take1 (i := 87) (by simp only [List.getElem?_toArray, List.getElem?_cons_zero, List.getElem?_cons_succ]; rfl) ?_
              refine ⟨.pointer (some ⟨xA, oA + y, none⟩), by kernel_rfl, by kernel_rfl, by kernel_rfl, fun _ _ _ h => h, hK.below, rfl, (fun w' _ => by go_simp), ?_⟩
              simp only [Act.put, List.setIfInBounds_toArray, List.set_cons_zero, List.set_cons_succ]
              refine wpH_take1 (i := 88) (by simp only [List.getElem?_toArray, List.getElem?_cons_zero, List.getElem?_cons_succ]; rfl) ?_
              refine ⟨.slice vaA vnA vcA, by kernel_rfl, by kernel_rfl, by kernel_rfl, fun _ _ _ h => h, hK.below, rfl, (fun w' hw => run_loadOp _ _ rfl _ rfl _ (load_cell (cell_later hw eA))), ?_⟩
              simp only [Act.put, List.setIfInBounds_toArray, List.set_cons_zero, List.set_cons_succ]
              refine wpH_take1 (i := 89) (by simp only [List.getElem?_toArray, List.getElem?_cons_zero, List.getElem?_cons_succ]; rfl) ?_
              refine ⟨.pointer (some ⟨b1, 0, none⟩), by kernel_rfl, by kernel_rfl, by kernel_rfl, fun _ _ _ h => h, hK.below, rfl, (fun w' _ => by go_simp), ?_⟩
              simp only [Act.put, List.setIfInBounds_toArray, List.set_cons_zero, List.set_cons_succ]
              refine wpH_take1 (i := 90) (by simp only [List.getElem?_toArray, List.getElem?_cons_zero, List.getElem?_cons_succ]; rfl) ?_
              refine ⟨.int .i64 W, by kernel_rfl, by kernel_rfl, by kernel_rfl, fun _ _ _ h => h, hK.below, rfl, (fun w' hw => run_loadOp _ _ rfl _ rfl _ (load_cell (cell_later hw dW))), ?_⟩
              simp only [Act.put, List.setIfInBounds_toArray, List.set_cons_zero, List.set_cons_succ]
              refine wpH_one (i := 91) (by kernel_rfl) (wpOp_of (by simp only [List.getElem?_toArray, List.getElem?_cons_zero, List.getElem?_cons_succ]; rfl) ?_)
              refine st_call rfl 26 #[.slice vaA vnA vcA, .int .i64 W] (by go_simp) (rowNot_calls hW64 _ _ _ (RA.out.hold hK)) ?_
              rintro e w' ⟨sx5, sy5, sz5, rfl, hb, hf⟩
              replace hK := hK.callF hb hf
              clear hb hf
              refine ⟨_, rfl, hK.below, ?_⟩
              simp only [Act.put, List.setIfInBounds_toArray, List.set_cons_zero, List.set_cons_succ]
              refine wpH_one (i := 92) (by kernel_rfl) (wpOp_of (by simp only [List.getElem?_toArray, List.getElem?_cons_zero, List.getElem?_cons_succ]; rfl) ?_)
              refine st_call rfl 21 #[.slice vaT vnT vcT, .slice sx5 sy5 sz5] (by go_simp) (rowSame_calls _ _ _ _ (RT.out.hold hK) (hK.runs FactAt.here)) ?_
              rintro e w' ⟨rfl, hb⟩
              replace hK := hK.call hb
              clear hb
              refine ⟨_, rfl, hK.below, ?_⟩
              simp only [Act.put, List.setIfInBounds_toArray, List.set_cons_zero, List.set_cons_succ]
              as_aux_lemma =>
                refine wpH_take1 (i := 93) (by simp only [List.getElem?_toArray, List.getElem?_cons_zero, List.getElem?_cons_succ]; rfl) ?_
                refine ⟨.bool false, by kernel_rfl, by kernel_rfl, by kernel_rfl, fun _ _ _ h => h, hK.below, rfl, (fun w' _ => by go_simp), ?_⟩
                simp only [Act.put, List.setIfInBounds_toArray, List.set_cons_zero, List.set_cons_succ]
                refine wpH_take1 (i := 94) (by simp only [List.getElem?_toArray, List.getElem?_cons_zero, List.getElem?_cons_succ]; rfl) ?_
                refine ⟨.bool false, by kernel_rfl, by kernel_rfl, by kernel_rfl, fun _ _ _ h => h, hK.below, rfl, (fun w' _ => by go_simp), ?_⟩
                simp only [Act.put, List.setIfInBounds_toArray, List.set_cons_zero, List.set_cons_succ]
                refine wpAnyH_done (by kernel_rfl) ?_ _
                go_wp2
                go_roundw
                case rel => exact ⟨y + 1, by omega, by go_num, hL.call hK.below⟩
                case measure => simp [intOf]; omega
    · go_wp2_with (first | (first | (clear hL n1; with_reducible intro b1 w1 hL) | (clear hL n2; with_reducible intro b2 w2 hL) | (clear hL n3; with_reducible intro b3 w3 hL) | (clear hL n4; with_reducible intro b4 w4 hL) | (clear hL n5; with_reducible intro b5 w5 hL) | (clear hL n6; with_reducible intro b6 w6 hL) | (clear hL n7; with_reducible intro b7 w7 hL) | (clear hL; with_reducible intro _ _ hL)) | (with_reducible refine wpC_alloc rfl _ rfl _ _ inferInstance hL ?_) | (with_reducible first | refine wpB_agg rfl _ _ _ rfl rfl hL ?_ | refine wpB_one rfl _ _ (.int _ _) rfl rfl rfl hL ?_ | refine wpB_one rfl _ _ (.slice _ _ _) rfl rfl rfl hL ?_ | refine wpB_one rfl _ _ (.bool _) rfl rfl rfl hL ?_ | refine wpB_one rfl _ _ (.pointer _) rfl rfl rfl hL ?_ | refine wpB_one rfl _ _ (.func _ _ _) rfl rfl rfl hL ?_) | (with_reducible first | refine wpH_max rfl _ _ _ _ rfl _ _ rfl rfl ?_ | refine wpH_min rfl _ _ _ _ rfl _ _ rfl rfl ?_) | ((with_reducible refine wpA_load rfl _ _ rfl _ rfl ?_); first | refine loadA hL ?_ | refine loadR hL ?_ | refine loadC hL ?_ | refine loadD ?_ | refine loadE hL ?_ | refine loadF ?_) | ((with_reducible refine wpA_index rfl _ _ _ rfl _ rfl _ rfl ?_); first | (refine indexA ?_; try rw [Int.toNat_natCast]) | refine indexC ?_) | ((with_reducible refine wpA_store rfl _ _ _ rfl _ rfl (.agg _) rfl ?_); refine storeR hL ?_; clear hL; intro _ hL) | ((with_reducible first | refine wpA_store rfl _ _ _ rfl _ rfl (.int _ _) rfl ?_ | refine wpA_store rfl _ _ _ rfl _ rfl (.slice _ _ _) rfl ?_ | refine wpA_store rfl _ _ _ rfl _ rfl (.bool _) rfl ?_ | refine wpA_store rfl _ _ _ rfl _ rfl (.pointer _) rfl ?_ | refine wpA_store rfl _ _ _ rfl _ rfl (.func _ _ _) rfl ?_); (first | refine storeA hL ?_ | refine storeO hL ?_); (clear hL; intro _ hL)) | ((with_reducible refine wpA_lit rfl _ _ _ rfl ?_); first | refine litA1 hL ?_ | refine litA2 hL ?_) | ((with_reducible refine wpA_append rfl _ _ _ rfl (.slice _ _ _) rfl ?_); intro vq hvq; simp [go_sem] at hvq; subst hvq; refine appendA hL ?_; clear hL; intro _ _ _ hL; try dsimp only at hL) | ((with_reducible refine wpA_make rfl _ _ _ rfl _ rfl rfl ?_); refine makeA hL ?_))
      go_ret
      exact ⟨rfl, hL.below⟩
end Go.Proofs.Ytjgnbmgdnfldeaa
