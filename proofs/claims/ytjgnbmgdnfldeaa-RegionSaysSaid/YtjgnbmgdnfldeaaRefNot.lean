/- The reference's NotRegion. -/
import Derived.Test.YtjgnbmgdnfldeaaRef30f
import Derived.Test.YtjgnbmgdnfldeaaMade
namespace Go.Proofs.Ytjgnbmgdnfldeaa
open Go.RowKit

theorem refNot_row {W : Int} (h : isSide W = true) (l : List (Int × Int)) : normRow (notRow l W) W = runsTo (fun i => !inRuns l i) (cutI W).toNat := by
  have hc := cutI_side h
  simp [isSide] at h
  obtain ⟨n, rfl⟩ := Int.eq_ofNat_of_zero_le (show 0 ≤ W by omega)
  rw [normRow_eq, hc, Int.toNat_natCast, runsTo_beyond (n := n) (by omega) (fun i h1 _ => by simp; omega)]
  refine runsTo_congr fun i hi => ?_
  rw [inRuns_notRow _ _ (by rw [hc]; omega)]
  simp [hi]
def notRegOf (R : Reg) : Reg := oneReg R fun j => notRow (R.rows.getD j []) R.W
theorem notRegOf_ok {R : Reg} (h : mayReg R = true) : notRegOf R = ⟨R.W, R.H, (List.range R.rows.length).map fun j => runsTo (fun i => !inRuns (R.rows.getD j []) i) (cutI R.W).toNat⟩ := by
  obtain ⟨h1, h2, h3⟩ := mayReg_len h
  simp only [notRegOf, oneReg, h, if_true]
  rw [madeReg_ok h1 h2, show R.H.toNat = R.rows.length by omega]
  congr 1
  exact List.map_congr_left fun j _ => refNot_row h1 _

set_option maxRecDepth 100000 in
set_option maxHeartbeats 2000000 in
theorem refNotReg_calls (w : World) (v : Value) (R : Reg) (hv : RegAt w v R) :
    Calls Try.prog 43 #[v] w (RegOut (notRegOf R) (oneErr R) w) := by
  have Hv := Lib.hid hv
  obtain ⟨xa, xn, xc, rfl, hsa⟩ := hv.shape
  clear hv
  obtain ⟨a, cap, hslice, hlc, hcm, hel⟩ := hsa.parts
  cases hslice
  clear hsa
  unfold maxLen at hcm
  have Hel := Lib.hid hel; clear hel
  have hL := Holds.start w
  cases hm : mayReg R with
  | false =>
    have HR := Lib.hid (show notRegOf R = noReg by simp [notRegOf, oneReg, hm])
    have HE := Lib.hid (show oneErr R = 1 by simp [oneErr, hm])
    have n1 : True := trivial; have n2 : True := trivial; have n3 : True := trivial
    go_enter Try.func43, Try.ntmps43
    go_wp2_with (first | (go_at_call 39; (with_reducible refine (refMayReg_calls _ _ _ (Hv.out.hold hL)).mono ?_); rintro e _ ⟨rfl, hb⟩; rw [hm]; replace hL := hL.call hb; clear hb) | (first | (clear hL n1; with_reducible intro b1 w1 hL) | (clear hL n2; with_reducible intro b2 w2 hL) | (clear hL n3; with_reducible intro b3 w3 hL) | (clear hL; with_reducible intro _ _ hL)) | (with_reducible refine wpC_alloc rfl _ rfl _ _ inferInstance hL ?_) | (with_reducible first | refine wpB_agg rfl _ _ _ rfl rfl hL ?_ | refine wpB_one rfl _ _ (.int _ _) rfl rfl rfl hL ?_ | refine wpB_one rfl _ _ (.slice _ _ _) rfl rfl rfl hL ?_ | refine wpB_one rfl _ _ (.bool _) rfl rfl rfl hL ?_ | refine wpB_one rfl _ _ (.pointer _) rfl rfl rfl hL ?_ | refine wpB_one rfl _ _ (.func _ _ _) rfl rfl rfl hL ?_) | (with_reducible first | refine wpH_max rfl _ _ _ _ rfl _ _ rfl rfl ?_ | refine wpH_min rfl _ _ _ _ rfl _ _ rfl rfl ?_) | ((with_reducible refine wpA_load rfl _ _ rfl _ rfl ?_); first | refine loadA hL ?_ | refine loadR hL ?_ | refine loadC hL ?_ | refine loadD ?_ | refine loadE hL ?_ | refine loadF ?_) | ((with_reducible refine wpA_index rfl _ _ _ rfl _ rfl _ rfl ?_); first | (refine indexA ?_; try rw [Int.toNat_natCast]) | refine indexC ?_) | ((with_reducible refine wpA_store rfl _ _ _ rfl _ rfl (.agg _) rfl ?_); refine storeR hL ?_; clear hL; intro _ hL) | ((with_reducible first | refine wpA_store rfl _ _ _ rfl _ rfl (.int _ _) rfl ?_ | refine wpA_store rfl _ _ _ rfl _ rfl (.slice _ _ _) rfl ?_ | refine wpA_store rfl _ _ _ rfl _ rfl (.bool _) rfl ?_ | refine wpA_store rfl _ _ _ rfl _ rfl (.pointer _) rfl ?_ | refine wpA_store rfl _ _ _ rfl _ rfl (.func _ _ _) rfl ?_); (first | refine storeA hL ?_ | refine storeO hL ?_); (clear hL; intro _ hL)) | ((with_reducible refine wpA_lit rfl _ _ _ rfl ?_); first | refine litA1 hL ?_ | refine litA2 hL ?_) | ((with_reducible refine wpA_append rfl _ _ _ rfl (.slice _ _ _) rfl ?_); intro vq hvq; simp [go_sem] at hvq; subst hvq; refine appendA hL ?_; clear hL; intro _ _ _ hL; try dsimp only at hL) | ((with_reducible refine wpA_make rfl _ _ _ rfl _ rfl rfl ?_); refine makeA hL ?_))
    exact bodyPost_ret (results_row2 inferInstance rfl _ hL b2 rfl _ _ .here rfl) rfl ⟨_, ret_tup HE.out.symm, hL.below, by rw [HR.out]; exact (hL.triv noReg_at).fresh⟩
  | true =>
    have HR := Lib.hid (notRegOf_ok hm)
    have HE := Lib.hid (show oneErr R = 0 by simp [oneErr, hm])
    have hRH := (mayReg_len hm).2.2
    have hlen : R.rows.length ≤ 64 := by
      have : 1 ≤ R.H ∧ R.H ≤ 64 := by have := (mayReg_len hm).2.1; simp [isSide] at this; exact this
      omega
    have n1 : True := trivial; have n2 : True := trivial; have n3 : True := trivial
    go_enter Try.func43, Try.ntmps43
    go_wp2_with (first | (go_at_call 39; (with_reducible refine (refMayReg_calls _ _ _ (Hv.out.hold hL)).mono ?_); rintro e _ ⟨rfl, hb⟩; rw [hm]; replace hL := hL.call hb; clear hb) | (first | (clear hL n1; with_reducible intro b1 w1 hL) | (clear hL n2; with_reducible intro b2 w2 hL) | (clear hL n3; with_reducible intro b3 w3 hL) | (clear hL; with_reducible intro _ _ hL)) | (with_reducible refine wpC_alloc rfl _ rfl _ _ inferInstance hL ?_) | (with_reducible first | refine wpB_agg rfl _ _ _ rfl rfl hL ?_ | refine wpB_one rfl _ _ (.int _ _) rfl rfl rfl hL ?_ | refine wpB_one rfl _ _ (.slice _ _ _) rfl rfl rfl hL ?_ | refine wpB_one rfl _ _ (.bool _) rfl rfl rfl hL ?_ | refine wpB_one rfl _ _ (.pointer _) rfl rfl rfl hL ?_ | refine wpB_one rfl _ _ (.func _ _ _) rfl rfl rfl hL ?_) | (with_reducible first | refine wpH_max rfl _ _ _ _ rfl _ _ rfl rfl ?_ | refine wpH_min rfl _ _ _ _ rfl _ _ rfl rfl ?_) | ((with_reducible refine wpA_load rfl _ _ rfl _ rfl ?_); first | refine loadA hL ?_ | refine loadR hL ?_ | refine loadC hL ?_ | refine loadD ?_ | refine loadE hL ?_ | refine loadF ?_) | ((with_reducible refine wpA_index rfl _ _ _ rfl _ rfl _ rfl ?_); first | (refine indexA ?_; try rw [Int.toNat_natCast]) | refine indexC ?_) | ((with_reducible refine wpA_store rfl _ _ _ rfl _ rfl (.agg _) rfl ?_); refine storeR hL ?_; clear hL; intro _ hL) | ((with_reducible first | refine wpA_store rfl _ _ _ rfl _ rfl (.int _ _) rfl ?_ | refine wpA_store rfl _ _ _ rfl _ rfl (.slice _ _ _) rfl ?_ | refine wpA_store rfl _ _ _ rfl _ rfl (.bool _) rfl ?_ | refine wpA_store rfl _ _ _ rfl _ rfl (.pointer _) rfl ?_ | refine wpA_store rfl _ _ _ rfl _ rfl (.func _ _ _) rfl ?_); (first | refine storeA hL ?_ | refine storeO hL ?_); (clear hL; intro _ hL)) | ((with_reducible refine wpA_lit rfl _ _ _ rfl ?_); first | refine litA1 hL ?_ | refine litA2 hL ?_) | ((with_reducible refine wpA_append rfl _ _ _ rfl (.slice _ _ _) rfl ?_); intro vq hvq; simp [go_sem] at hvq; subst hvq; refine appendA hL ?_; clear hL; intro _ _ _ hL; try dsimp only at hL) | ((with_reducible refine wpA_make rfl _ _ _ rfl _ rfl rfl ?_); refine makeA hL ?_))
    go_loopw [5] (fun s5 wr => ∃ (j : Nat) (s : Value) (xs : List Value), j ≤ R.rows.length ∧ s5 = .int .i64 j ∧ xs.length = j ∧ Holds w wr [own w.heap.size 36 1 s j xs, blk b3 #[.int .i64 R.W, .int .i64 R.H, s] 26, blk b2 #[.int .i64 0, .int .i64 0, .slice none 0 0] 26, blk b1 #[.int .i64 R.W, .int .i64 R.H, .slice xa R.rows.length xc] 26] [fun w => ∀ i v, xs[i]? = some v → RunsAt w v (runsTo (fun c => !inRuns (R.rows.getD i []) c) (cutI R.W).toNat)])
      (fun s5 wr => (64 - intOf s5).toNat)
    case atStart => exact ⟨0, .slice none 0 0, [], by omega, rfl, rfl, hL.newOwn.triv (fun _ i v h => by simp at h)⟩
    case round =>
      clear hL
      obtain ⟨j, s, xs, hj, rfl, hxs, hL⟩ := hrel
      obtain ⟨sa, sc, rfl⟩ := own_slice hL .here
      have Hxs := Lib.hid hxs; clear hxs
      by_cases hjt : j < R.rows.length
      · obtain ⟨b, o, rfl, va, vn, vc, hc, hr⟩ := Hel.out j hjt
        have Hrr := Lib.hid hr; clear hr
        have hkb0 : (0 : Int) ≤ (j : Int) := by omega
        have hkb1 : (j : Int) < (R.rows.length : Int) := by omega
        have hjh : (j : Int) < R.H := by omega
        go_wp2_with (first | (first | (clear hL n1; with_reducible intro b1 w1 hL) | (clear hL n2; with_reducible intro b2 w2 hL) | (clear hL n3; with_reducible intro b3 w3 hL) | (clear hL; with_reducible intro _ _ hL)) | (with_reducible refine wpC_alloc rfl _ rfl _ _ inferInstance hL ?_) | (with_reducible first | refine wpB_agg rfl _ _ _ rfl rfl hL ?_ | refine wpB_one rfl _ _ (.int _ _) rfl rfl rfl hL ?_ | refine wpB_one rfl _ _ (.slice _ _ _) rfl rfl rfl hL ?_ | refine wpB_one rfl _ _ (.bool _) rfl rfl rfl hL ?_ | refine wpB_one rfl _ _ (.pointer _) rfl rfl rfl hL ?_ | refine wpB_one rfl _ _ (.func _ _ _) rfl rfl rfl hL ?_) | (with_reducible first | refine wpH_max rfl _ _ _ _ rfl _ _ rfl rfl ?_ | refine wpH_min rfl _ _ _ _ rfl _ _ rfl rfl ?_) | ((with_reducible refine wpA_load rfl _ _ rfl _ rfl ?_); first | refine loadA hL ?_ | refine loadR hL ?_ | refine loadC hL ?_ | refine loadD ?_ | refine loadE hL ?_ | refine loadF ?_) | ((with_reducible refine wpA_index rfl _ _ _ rfl _ rfl _ rfl ?_); first | (refine indexA ?_; try rw [Int.toNat_natCast]) | refine indexC ?_) | ((with_reducible refine wpA_store rfl _ _ _ rfl _ rfl (.agg _) rfl ?_); refine storeR hL ?_; clear hL; intro _ hL) | ((with_reducible first | refine wpA_store rfl _ _ _ rfl _ rfl (.int _ _) rfl ?_ | refine wpA_store rfl _ _ _ rfl _ rfl (.slice _ _ _) rfl ?_ | refine wpA_store rfl _ _ _ rfl _ rfl (.bool _) rfl ?_ | refine wpA_store rfl _ _ _ rfl _ rfl (.pointer _) rfl ?_ | refine wpA_store rfl _ _ _ rfl _ rfl (.func _ _ _) rfl ?_); (first | refine storeA hL ?_ | refine storeO hL ?_); (clear hL; intro _ hL)) | ((with_reducible refine wpA_lit rfl _ _ _ rfl ?_); first | refine litA1 hL ?_ | refine litA2 hL ?_) | ((with_reducible refine wpA_append rfl _ _ _ rfl (.slice _ _ _) rfl ?_); intro vq hvq; simp [go_sem] at hvq; subst hvq; refine appendA hL ?_; clear hL; intro _ _ _ hL; try dsimp only at hL) | ((with_reducible refine wpA_make rfl _ _ _ rfl _ rfl rfl ?_); refine makeA hL ?_))
        replace hL := hL.drew
        refine wpM_begin (by kernel_rfl) (fun w' : World => w'.cell? ⟨b3, 2, none⟩ = some (.slice sa j sc) ∧ w'.cell? ⟨b1, 2, none⟩ = some (.slice (some ⟨b, o, none⟩) R.rows.length xc) ∧ w'.cell? ⟨b1, 0, none⟩ = some (.int .i64 R.W) ∧ w'.cell? ⟨b, o + j, none⟩ = some (.slice va vn vc)) 13 ?_
        have hS : (fun w' : World => w'.cell? ⟨b3, 2, none⟩ = some (.slice sa j sc) ∧ w'.cell? ⟨b1, 2, none⟩ = some (.slice (some ⟨b, o, none⟩) R.rows.length xc) ∧ w'.cell? ⟨b1, 0, none⟩ = some (.int .i64 R.W) ∧ w'.cell? ⟨b, o + j, none⟩ = some (.slice va vn vc)) _ := ⟨(hL.cell (by (repeat (first | with_reducible exact At.here | with_reducible apply At.there)))).trans rfl, (hL.cell (by (repeat (first | with_reducible exact At.here | with_reducible apply At.there)))).trans rfl, (hL.cell (by (repeat (first | with_reducible exact At.here | with_reducible apply At.there)))).trans rfl, hL.old hc⟩
        refine wpM_take1 (i := 0) (by simp only [List.getElem?_toArray, List.getElem?_cons_zero, List.getElem?_cons_succ]; rfl) ?_
        refine ⟨.pointer (some ⟨b3, 2, none⟩), by kernel_rfl, by kernel_rfl, by kernel_rfl, by kernel_rfl, fun _ _ _ h => h, hS, rfl, (fun w' _ => by go_simp), ?_⟩
        simp only [Act.put, List.setIfInBounds_toArray, List.set_cons_zero, List.set_cons_succ]
        refine wpM_take1 (i := 1) (by simp only [List.getElem?_toArray, List.getElem?_cons_zero, List.getElem?_cons_succ]; rfl) ?_
        refine ⟨.slice sa j sc, by kernel_rfl, by kernel_rfl, by kernel_rfl, by kernel_rfl, fun _ _ _ h => h, hS, rfl, (fun w' hw => run_loadOp _ _ rfl _ rfl _ (load_cell hw.1)), ?_⟩
        simp only [Act.put, List.setIfInBounds_toArray, List.set_cons_zero, List.set_cons_succ]
        refine wpM_take1 (i := 2) (by simp only [List.getElem?_toArray, List.getElem?_cons_zero, List.getElem?_cons_succ]; rfl) ?_
        refine ⟨.pointer (some ⟨b1, 2, none⟩), by kernel_rfl, by kernel_rfl, by kernel_rfl, by kernel_rfl, fun _ _ _ h => h, hS, rfl, (fun w' _ => by go_simp), ?_⟩
        simp only [Act.put, List.setIfInBounds_toArray, List.set_cons_zero, List.set_cons_succ]
        refine wpM_take1 (i := 3) (by simp only [List.getElem?_toArray, List.getElem?_cons_zero, List.getElem?_cons_succ]; rfl) ?_
        refine ⟨.slice (some ⟨b, o, none⟩) R.rows.length xc, by kernel_rfl, by kernel_rfl, by kernel_rfl, by kernel_rfl, fun _ _ _ h => h, hS, rfl, (fun w' hw => run_loadOp _ _ rfl _ rfl _ (load_cell hw.2.1)), ?_⟩
        simp only [Act.put, List.setIfInBounds_toArray, List.set_cons_zero, List.set_cons_succ]
        refine wpM_take1 (i := 4) (by simp only [List.getElem?_toArray, List.getElem?_cons_zero, List.getElem?_cons_succ]; rfl) ?_
        refine ⟨.int .i64 j, by kernel_rfl, by kernel_rfl, by kernel_rfl, by kernel_rfl, fun _ _ _ h => h, hS, rfl, (fun w' _ => by go_simp), ?_⟩
        simp only [Act.put, List.setIfInBounds_toArray, List.set_cons_zero, List.set_cons_succ]
        refine wpM_take1 (i := 5) (by simp only [List.getElem?_toArray, List.getElem?_cons_zero, List.getElem?_cons_succ]; rfl) ?_
        refine ⟨.pointer (some ⟨b, o + j, none⟩), by kernel_rfl, by kernel_rfl, by kernel_rfl, by kernel_rfl, fun _ _ _ h => h, hS, rfl, (fun w' _ => by go_simp), ?_⟩
        simp only [Act.put, List.setIfInBounds_toArray, List.set_cons_zero, List.set_cons_succ]
        refine wpM_take1 (i := 6) (by simp only [List.getElem?_toArray, List.getElem?_cons_zero, List.getElem?_cons_succ]; rfl) ?_
        refine ⟨.slice va vn vc, by kernel_rfl, by kernel_rfl, by kernel_rfl, by kernel_rfl, fun _ _ _ h => h, hS, rfl, (fun w' hw => run_loadOp _ _ rfl _ rfl _ (load_cell hw.2.2.2)), ?_⟩
        simp only [Act.put, List.setIfInBounds_toArray, List.set_cons_zero, List.set_cons_succ]
        refine wpM_take1 (i := 7) (by simp only [List.getElem?_toArray, List.getElem?_cons_zero, List.getElem?_cons_succ]; rfl) ?_
        refine ⟨.pointer (some ⟨b1, 0, none⟩), by kernel_rfl, by kernel_rfl, by kernel_rfl, by kernel_rfl, fun _ _ _ h => h, hS, rfl, (fun w' _ => by go_simp), ?_⟩
        simp only [Act.put, List.setIfInBounds_toArray, List.set_cons_zero, List.set_cons_succ]
        refine wpM_take1 (i := 8) (by simp only [List.getElem?_toArray, List.getElem?_cons_zero, List.getElem?_cons_succ]; rfl) ?_
        refine ⟨.int .i64 R.W, by kernel_rfl, by kernel_rfl, by kernel_rfl, by kernel_rfl, fun _ _ _ h => h, hS, rfl, (fun w' hw => run_loadOp _ _ rfl _ rfl _ (load_cell hw.2.2.1)), ?_⟩
        simp only [Act.put, List.setIfInBounds_toArray, List.set_cons_zero, List.set_cons_succ]
        refine wpM_one (i := 9) (by kernel_rfl) (wpOp_of (by simp only [List.getElem?_toArray, List.getElem?_cons_zero, List.getElem?_cons_succ]; rfl) ?_)
        refine st_call rfl 83 #[.slice va vn vc, .int .i64 R.W] (by go_simp) (refNot_calls _ _ _ (Hrr.out.hold hL) _) ?_
        rintro e w5 ⟨v, rfl, hb, hf⟩
        obtain ⟨ra, rn, rc, rfl⟩ := SliceAt.shape hf.now
        replace hL := hL.callF hb hf
        clear hb hf hS
        refine ⟨_, rfl, fun _ => ⟨(hL.cell (by (repeat (first | with_reducible exact At.here | with_reducible apply At.there)))).trans rfl, (hL.cell (by (repeat (first | with_reducible exact At.here | with_reducible apply At.there)))).trans rfl, (hL.cell (by (repeat (first | with_reducible exact At.here | with_reducible apply At.there)))).trans rfl, hL.old hc⟩, ?_⟩
        simp only [Act.put, List.setIfInBounds_toArray, List.set_cons_zero, List.set_cons_succ]
        refine wpM_one (i := 10) (by kernel_rfl) (wpOp_of (by simp only [List.getElem?_toArray, List.getElem?_cons_zero, List.getElem?_cons_succ]; rfl) ?_)
        refine st_lit rfl _ _ _ rfl (litAt1 (.slice ra rn rc) (by simp only [List.map_toArray, List.map_cons, List.map_nil]; rfl) inferInstance inferInstance (by simp [go_sem, Value.cells]) (by decide) #[.slice ra rn rc] (by simp [go_sem, litCells, Value.cells]) hL ?_)
        clear hL
        intro b7 w7 hL
        refine ⟨fun _ => ⟨(hL.cell (by (repeat (first | with_reducible exact At.here | with_reducible apply At.there)))).trans rfl, (hL.cell (by (repeat (first | with_reducible exact At.here | with_reducible apply At.there)))).trans rfl, (hL.cell (by (repeat (first | with_reducible exact At.here | with_reducible apply At.there)))).trans rfl, hL.old hc⟩, ?_⟩
        simp only [Act.put, List.setIfInBounds_toArray, List.set_cons_zero, List.set_cons_succ]
        refine wpM_one (i := 11) (by kernel_rfl) (wpOp_of (by simp only [List.getElem?_toArray, List.getElem?_cons_zero, List.getElem?_cons_succ]; rfl) ?_)
        refine st_append rfl _ _ _ rfl (.slice sa j sc) (.slice (some ⟨b7, 0, none⟩) 1 1) rfl rfl (appendAt inferInstance inferInstance hL _ _ .here _ _ _ (fun r' => .here) rfl (by decide) rfl (by simp [go_sem, Value.oneCell']) (by omega) (by unfold maxLen; omega) (by omega) ?_)
        clear hL
        intro g cap8 w8 hL
        have hS : (fun w' : World => w'.cell? ⟨b3, 2, none⟩ = some (.slice sa j sc) ∧ w'.cell? ⟨b1, 2, none⟩ = some (.slice (some ⟨b, o, none⟩) R.rows.length xc) ∧ w'.cell? ⟨b1, 0, none⟩ = some (.int .i64 R.W) ∧ w'.cell? ⟨b, o + j, none⟩ = some (.slice va vn vc)) w8 := ⟨(hL.cell (by (repeat (first | with_reducible exact At.here | with_reducible apply At.there)))).trans rfl, (hL.cell (by (repeat (first | with_reducible exact At.here | with_reducible apply At.there)))).trans rfl, (hL.cell (by (repeat (first | with_reducible exact At.here | with_reducible apply At.there)))).trans rfl, hL.old hc⟩
        refine ⟨fun _ => hS, ?_⟩
        simp only [Act.put, List.setIfInBounds_toArray, List.set_cons_zero, List.set_cons_succ]
        refine wpM_take1 (i := 12) (by simp only [List.getElem?_toArray, List.getElem?_cons_zero, List.getElem?_cons_succ]; rfl) ?_
        refine ⟨.pointer (some ⟨b3, 2, none⟩), by kernel_rfl, by kernel_rfl, by kernel_rfl, by kernel_rfl, fun _ _ _ h => h, hS, rfl, (fun w' _ => by go_simp), ?_⟩
        simp only [Act.put, List.setIfInBounds_toArray, List.set_cons_zero, List.set_cons_succ]
        clear hS
        refine wpM_one (i := 13) (by kernel_rfl) (wpOp_of (by simp only [List.getElem?_toArray, List.getElem?_cons_zero, List.getElem?_cons_succ]; rfl) ?_)
        refine st_store rfl _ _ _ rfl ⟨b3, 2, none⟩ rfl (.slice (some ⟨g, 0, none⟩) (j + 1) cap8) rfl (storeAt_cell rfl rfl inferInstance hL _ _ _ (by (repeat (first | with_reducible exact Upd.here | with_reducible apply Upd.there))) (by simp) rfl ?_)
        clear hL
        intro w9 hL
        refine ⟨fun h => absurd rfl h, wpM_done (by kernel_rfl) ?_⟩
        simp only [Act.put, List.setIfInBounds_toArray, List.set_cons_zero, List.set_cons_succ]
        go_wp2
        go_roundw
        case rel =>
          refine ⟨j + 1, _, xs ++ [.slice ra rn rc], by omega, by go_num, by rw [List.length_append, Hxs.out]; rfl, hL.join fun w' h1 h2 y v hi => ?_⟩
          rw [List.getElem?_append] at hi
          split at hi
          · exact h2 y v hi
          · have hij : y = j := by
              have h3 := (List.getElem?_eq_some_iff.1 hi).1
              have := Hxs.out
              simp at h3; omega
            rw [hij, ← Hxs.out] at hi
            simp at hi
            subst hi
            rw [hij]
            exact h1
        case measure => simp [intOf]; omega
      · have e : j = R.rows.length := by omega
        have hjh : ¬ (j : Int) < R.H := by omega
        have He := Lib.hid e; clear e
        go_wp2_with (first | (first | (clear hL n1; with_reducible intro b1 w1 hL) | (clear hL n2; with_reducible intro b2 w2 hL) | (clear hL n3; with_reducible intro b3 w3 hL) | (clear hL; with_reducible intro _ _ hL)) | (with_reducible refine wpC_alloc rfl _ rfl _ _ inferInstance hL ?_) | (with_reducible first | refine wpB_agg rfl _ _ _ rfl rfl hL ?_ | refine wpB_one rfl _ _ (.int _ _) rfl rfl rfl hL ?_ | refine wpB_one rfl _ _ (.slice _ _ _) rfl rfl rfl hL ?_ | refine wpB_one rfl _ _ (.bool _) rfl rfl rfl hL ?_ | refine wpB_one rfl _ _ (.pointer _) rfl rfl rfl hL ?_ | refine wpB_one rfl _ _ (.func _ _ _) rfl rfl rfl hL ?_) | (with_reducible first | refine wpH_max rfl _ _ _ _ rfl _ _ rfl rfl ?_ | refine wpH_min rfl _ _ _ _ rfl _ _ rfl rfl ?_) | ((with_reducible refine wpA_load rfl _ _ rfl _ rfl ?_); first | refine loadA hL ?_ | refine loadR hL ?_ | refine loadC hL ?_ | refine loadD ?_ | refine loadE hL ?_ | refine loadF ?_) | ((with_reducible refine wpA_index rfl _ _ _ rfl _ rfl _ rfl ?_); first | (refine indexA ?_; try rw [Int.toNat_natCast]) | refine indexC ?_) | ((with_reducible refine wpA_store rfl _ _ _ rfl _ rfl (.agg _) rfl ?_); refine storeR hL ?_; clear hL; intro _ hL) | ((with_reducible first | refine wpA_store rfl _ _ _ rfl _ rfl (.int _ _) rfl ?_ | refine wpA_store rfl _ _ _ rfl _ rfl (.slice _ _ _) rfl ?_ | refine wpA_store rfl _ _ _ rfl _ rfl (.bool _) rfl ?_ | refine wpA_store rfl _ _ _ rfl _ rfl (.pointer _) rfl ?_ | refine wpA_store rfl _ _ _ rfl _ rfl (.func _ _ _) rfl ?_); (first | refine storeA hL ?_ | refine storeO hL ?_); (clear hL; intro _ hL)) | ((with_reducible refine wpA_lit rfl _ _ _ rfl ?_); first | refine litA1 hL ?_ | refine litA2 hL ?_) | ((with_reducible refine wpA_append rfl _ _ _ rfl (.slice _ _ _) rfl ?_); intro vq hvq; simp [go_sem] at hvq; subst hvq; refine appendA hL ?_; clear hL; intro _ _ _ hL; try dsimp only at hL) | ((with_reducible refine wpA_make rfl _ _ _ rfl _ rfl rfl ?_); refine makeA hL ?_))
        refine bodyPost_ret (results_row2 inferInstance rfl _ hL b2 rfl _ _ (.there (.there .here)) rfl) rfl ⟨_, ret_tup HE.out.symm, hL.below, ?_⟩
        rw [HR.out]
        exact ((hL.settle .here (φ := fun w' => (own w.heap.size 36 1 (.slice sa j sc) j xs).ok w') fun _ h => h).join fun w' h1 h2 => ⟨_, rfl, by rw [← He.out]; exact rows_own h1 Hxs.out h2⟩).fresh
end Go.Proofs.Ytjgnbmgdnfldeaa
