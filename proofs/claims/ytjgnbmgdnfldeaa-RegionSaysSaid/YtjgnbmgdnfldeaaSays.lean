/- RegionSays returns true. -/
import Derived.Test.YtjgnbmgdnfldeaaSaysG
namespace Go.Proofs.Ytjgnbmgdnfldeaa
open Go.RowKit

set_option maxRecDepth 100000 in
set_option maxHeartbeats 4000000 in
theorem says_calls (w : World) (v : Value) (R : Reg) (hv : RegAt w v R) (i j : Int) :
    Calls Try.prog 7 #[v, .int .i64 i, .int .i64 j] w fun e w' => e = .returned (.bool true) ∧ Below w.heap.size w w' := by
  have Hv := Lib.hid hv
  obtain ⟨xa, xn, xc, rfl, hsa⟩ := hv.shape
  clear hv
  obtain ⟨a, cap, hslice, _, _, _⟩ := hsa.parts
  cases hslice
  clear hsa
  obtain ⟨m, hm1, hm2⟩ := sgMask_calls (R := R)
  have HM1 := Lib.hid hm1
  have HM2 := Lib.hid hm2
  clear hm1 hm2
  have hL := Holds.start w
  have n1 : True := trivial; have n2 : True := trivial; have n3 : True := trivial; have n4 : True := trivial
  go_enter Try.func7, Try.ntmps7
  go_wp2_with (first | (go_at_call 13; (with_reducible refine (known_calls _).mono ?_); rintro e _ ⟨rfl, hb⟩; replace hL := hL.call hb; clear hb) | (first | (clear hL n1; with_reducible intro b1 w1 hL) | (clear hL n2; with_reducible intro b2 w2 hL) | (clear hL n3; with_reducible intro b3 w3 hL) | (clear hL n4; with_reducible intro b4 w4 hL) | (clear hL; with_reducible intro _ _ hL)) | (with_reducible refine wpC_alloc rfl _ rfl _ _ inferInstance hL ?_) | (with_reducible first | refine wpB_agg rfl _ _ _ rfl rfl hL ?_ | refine wpB_one rfl _ _ (.int _ _) rfl rfl rfl hL ?_ | refine wpB_one rfl _ _ (.slice _ _ _) rfl rfl rfl hL ?_ | refine wpB_one rfl _ _ (.bool _) rfl rfl rfl hL ?_ | refine wpB_one rfl _ _ (.pointer _) rfl rfl rfl hL ?_ | refine wpB_one rfl _ _ (.func _ _ _) rfl rfl rfl hL ?_) | (with_reducible first | refine wpH_max rfl _ _ _ _ rfl _ _ rfl rfl ?_ | refine wpH_min rfl _ _ _ _ rfl _ _ rfl rfl ?_) | ((with_reducible refine wpA_load rfl _ _ rfl _ rfl ?_); first | refine loadA hL ?_ | refine loadR hL ?_ | refine loadC hL ?_ | refine loadD ?_ | refine loadE hL ?_ | refine loadF ?_) | ((with_reducible refine wpA_index rfl _ _ _ rfl _ rfl _ rfl ?_); first | (refine indexA ?_; try rw [Int.toNat_natCast]) | refine indexC ?_) | ((with_reducible refine wpA_store rfl _ _ _ rfl _ rfl (.agg _) rfl ?_); refine storeR hL ?_; clear hL; intro _ hL) | ((with_reducible first | refine wpA_store rfl _ _ _ rfl _ rfl (.int _ _) rfl ?_ | refine wpA_store rfl _ _ _ rfl _ rfl (.slice _ _ _) rfl ?_ | refine wpA_store rfl _ _ _ rfl _ rfl (.bool _) rfl ?_ | refine wpA_store rfl _ _ _ rfl _ rfl (.pointer _) rfl ?_ | refine wpA_store rfl _ _ _ rfl _ rfl (.func _ _ _) rfl ?_); (first | refine storeA hL ?_ | refine storeO hL ?_); (clear hL; intro _ hL)) | ((with_reducible refine wpA_lit rfl _ _ _ rfl ?_); first | refine litA1 hL ?_ | refine litA2 hL ?_) | ((with_reducible refine wpA_append rfl _ _ _ rfl (.slice _ _ _) rfl ?_); intro vq hvq; simp [go_sem] at hvq; subst hvq; refine appendA hL ?_; clear hL; intro _ _ _ hL; try dsimp only at hL) | ((with_reducible refine wpA_make rfl _ _ _ rfl _ rfl rfl ?_); refine makeA hL ?_))
  go_at_call 37
  refine (few_calls _ _ R (Hv.out.hold hL)).mono ?_
  rintro e wr ⟨bf, rfl, hb⟩
  replace hL := hL.call hb
  clear hb
  cases bf with
  | false =>
    go_wp2_with (first | (first | (clear hL n1; with_reducible intro b1 w1 hL) | (clear hL n2; with_reducible intro b2 w2 hL) | (clear hL n3; with_reducible intro b3 w3 hL) | (clear hL n4; with_reducible intro b4 w4 hL) | (clear hL; with_reducible intro _ _ hL)) | (with_reducible refine wpC_alloc rfl _ rfl _ _ inferInstance hL ?_) | (with_reducible first | refine wpB_agg rfl _ _ _ rfl rfl hL ?_ | refine wpB_one rfl _ _ (.int _ _) rfl rfl rfl hL ?_ | refine wpB_one rfl _ _ (.slice _ _ _) rfl rfl rfl hL ?_ | refine wpB_one rfl _ _ (.bool _) rfl rfl rfl hL ?_ | refine wpB_one rfl _ _ (.pointer _) rfl rfl rfl hL ?_ | refine wpB_one rfl _ _ (.func _ _ _) rfl rfl rfl hL ?_) | (with_reducible first | refine wpH_max rfl _ _ _ _ rfl _ _ rfl rfl ?_ | refine wpH_min rfl _ _ _ _ rfl _ _ rfl rfl ?_) | ((with_reducible refine wpA_load rfl _ _ rfl _ rfl ?_); first | refine loadA hL ?_ | refine loadR hL ?_ | refine loadC hL ?_ | refine loadD ?_ | refine loadE hL ?_ | refine loadF ?_) | ((with_reducible refine wpA_index rfl _ _ _ rfl _ rfl _ rfl ?_); first | (refine indexA ?_; try rw [Int.toNat_natCast]) | refine indexC ?_) | ((with_reducible refine wpA_store rfl _ _ _ rfl _ rfl (.agg _) rfl ?_); refine storeR hL ?_; clear hL; intro _ hL) | ((with_reducible first | refine wpA_store rfl _ _ _ rfl _ rfl (.int _ _) rfl ?_ | refine wpA_store rfl _ _ _ rfl _ rfl (.slice _ _ _) rfl ?_ | refine wpA_store rfl _ _ _ rfl _ rfl (.bool _) rfl ?_ | refine wpA_store rfl _ _ _ rfl _ rfl (.pointer _) rfl ?_ | refine wpA_store rfl _ _ _ rfl _ rfl (.func _ _ _) rfl ?_); (first | refine storeA hL ?_ | refine storeO hL ?_); (clear hL; intro _ hL)) | ((with_reducible refine wpA_lit rfl _ _ _ rfl ?_); first | refine litA1 hL ?_ | refine litA2 hL ?_) | ((with_reducible refine wpA_append rfl _ _ _ rfl (.slice _ _ _) rfl ?_); intro vq hvq; simp [go_sem] at hvq; subst hvq; refine appendA hL ?_; clear hL; intro _ _ _ hL; try dsimp only at hL) | ((with_reducible refine wpA_make rfl _ _ _ rfl _ rfl rfl ?_); refine makeA hL ?_))
    go_ret
    exact ⟨rfl, hL.below⟩
  | true =>
    have hr0 : wr.rangeAt b1 0 [.int .i64 R.W, .int .i64 R.H, .slice xa R.rows.length xc] := hL.range .here
    have Hr0 := Lib.hid hr0; clear hr0
    go_wp2_with (first | (first | (clear hL n1; with_reducible intro b1 w1 hL) | (clear hL n2; with_reducible intro b2 w2 hL) | (clear hL n3; with_reducible intro b3 w3 hL) | (clear hL n4; with_reducible intro b4 w4 hL) | (clear hL; with_reducible intro _ _ hL)) | (with_reducible refine wpC_alloc rfl _ rfl _ _ inferInstance hL ?_) | (with_reducible first | refine wpB_agg rfl _ _ _ rfl rfl hL ?_ | refine wpB_one rfl _ _ (.int _ _) rfl rfl rfl hL ?_ | refine wpB_one rfl _ _ (.slice _ _ _) rfl rfl rfl hL ?_ | refine wpB_one rfl _ _ (.bool _) rfl rfl rfl hL ?_ | refine wpB_one rfl _ _ (.pointer _) rfl rfl rfl hL ?_ | refine wpB_one rfl _ _ (.func _ _ _) rfl rfl rfl hL ?_) | (with_reducible first | refine wpH_max rfl _ _ _ _ rfl _ _ rfl rfl ?_ | refine wpH_min rfl _ _ _ _ rfl _ _ rfl rfl ?_) | ((with_reducible refine wpA_load rfl _ _ rfl _ rfl ?_); first | refine loadA hL ?_ | refine loadR hL ?_ | refine loadC hL ?_ | refine loadD ?_ | refine loadE hL ?_ | refine loadF ?_) | ((with_reducible refine wpA_index rfl _ _ _ rfl _ rfl _ rfl ?_); first | (refine indexA ?_; try rw [Int.toNat_natCast]) | refine indexC ?_) | ((with_reducible refine wpA_store rfl _ _ _ rfl _ rfl (.agg _) rfl ?_); refine storeR hL ?_; clear hL; intro _ hL) | ((with_reducible first | refine wpA_store rfl _ _ _ rfl _ rfl (.int _ _) rfl ?_ | refine wpA_store rfl _ _ _ rfl _ rfl (.slice _ _ _) rfl ?_ | refine wpA_store rfl _ _ _ rfl _ rfl (.bool _) rfl ?_ | refine wpA_store rfl _ _ _ rfl _ rfl (.pointer _) rfl ?_ | refine wpA_store rfl _ _ _ rfl _ rfl (.func _ _ _) rfl ?_); (first | refine storeA hL ?_ | refine storeO hL ?_); (clear hL; intro _ hL)) | ((with_reducible refine wpA_lit rfl _ _ _ rfl ?_); first | refine litA1 hL ?_ | refine litA2 hL ?_) | ((with_reducible refine wpA_append rfl _ _ _ rfl (.slice _ _ _) rfl ?_); intro vq hvq; simp [go_sem] at hvq; subst hvq; refine appendA hL ?_; clear hL; intro _ _ _ hL; try dsimp only at hL) | ((with_reducible refine wpA_make rfl _ _ _ rfl _ rfl rfl ?_); refine makeA hL ?_))
    have Hw := Lib.hid (Hv.out.hold hL)
    have hr0 := Hr0.out
    have hK := (Holds.start wr).drew
    refine wpH_begin (by kernel_rfl) (fun w' => Below wr.heap.size wr w') ?_
    refine stH (i := 0) (.agg #[.int .i64 R.W, .int .i64 R.H, .slice xa R.rows.length xc]) hK.below ?_ ?_; (· exact fun w' hw => run_loadOp _ _ rfl _ rfl _ (load_range rfl (rangeAt_below hr0 hw))); simp only [Act.put, List.setIfInBounds_toArray, List.set_cons_zero, List.set_cons_succ]
    refine stH (i := 2) (.agg #[.int .i64 R.W, .int .i64 R.H, .slice xa R.rows.length xc]) hK.below ?_ ?_; (· exact fun w' hw => run_loadOp _ _ rfl _ rfl _ (load_range rfl (rangeAt_below hr0 hw))); simp only [Act.put, List.setIfInBounds_toArray, List.set_cons_zero, List.set_cons_succ]
    refine wpH_one (i := 1) (by kernel_rfl) (wpOp_of (by simp only [List.getElem?_toArray, List.getElem?_cons_zero, List.getElem?_cons_succ]; rfl) ?_)
    refine st_call rfl 38 #[.agg #[.int .i64 R.W, .int .i64 R.H, .slice xa R.rows.length xc]] (by go_simp) (regMay_calls _ _ R (Hw.out.hold hK)) ?_
    rintro e w' ⟨rfl, hb⟩
    replace hK := hK.call hb
    clear hb
    refine ⟨_, rfl, hK.below, ?_⟩
    simp only [Act.put, List.setIfInBounds_toArray, List.set_cons_zero, List.set_cons_succ]
    refine wpH_one (i := 3) (by kernel_rfl) (wpOp_of (by simp only [List.getElem?_toArray, List.getElem?_cons_zero, List.getElem?_cons_succ]; rfl) ?_)
    refine st_call rfl 39 #[.agg #[.int .i64 R.W, .int .i64 R.H, .slice xa R.rows.length xc]] (by go_simp) (refMayReg_calls _ _ R (Hw.out.hold hK)) ?_
    rintro e w' ⟨rfl, hb⟩
    replace hK := hK.call hb
    clear hb
    refine ⟨_, rfl, hK.below, ?_⟩
    simp only [Act.put, List.setIfInBounds_toArray, List.set_cons_zero, List.set_cons_succ]
    refine stH (i := 4) (.bool false) hK.below ?_ ?_; (· exact fun w' _ => (by go_simp)); simp only [Act.put, List.setIfInBounds_toArray, List.set_cons_zero, List.set_cons_succ]
    refine stH (i := 5) (.bool false) hK.below ?_ ?_; (· exact fun w' _ => (by go_simp)); simp only [Act.put, List.setIfInBounds_toArray, List.set_cons_zero, List.set_cons_succ]
    refine stH (i := 6) (.agg #[.int .i64 R.W, .int .i64 R.H, .slice xa R.rows.length xc]) hK.below ?_ ?_; (· exact fun w' hw => run_loadOp _ _ rfl _ rfl _ (load_range rfl (rangeAt_below hr0 hw))); simp only [Act.put, List.setIfInBounds_toArray, List.set_cons_zero, List.set_cons_succ]
    refine stH (i := 7) (.int .i64 i) hK.below ?_ ?_; (· exact fun w' _ => (by go_simp)); simp only [Act.put, List.setIfInBounds_toArray, List.set_cons_zero, List.set_cons_succ]
    refine stH (i := 8) (.int .i64 j) hK.below ?_ ?_; (· exact fun w' _ => (by go_simp)); simp only [Act.put, List.setIfInBounds_toArray, List.set_cons_zero, List.set_cons_succ]
    refine stH (i := 10) (.agg #[.int .i64 R.W, .int .i64 R.H, .slice xa R.rows.length xc]) hK.below ?_ ?_; (· exact fun w' hw => run_loadOp _ _ rfl _ rfl _ (load_range rfl (rangeAt_below hr0 hw))); simp only [Act.put, List.setIfInBounds_toArray, List.set_cons_zero, List.set_cons_succ]
    refine stH (i := 11) (.int .i64 i) hK.below ?_ ?_; (· exact fun w' _ => (by go_simp)); simp only [Act.put, List.setIfInBounds_toArray, List.set_cons_zero, List.set_cons_succ]
    refine stH (i := 12) (.int .i64 j) hK.below ?_ ?_; (· exact fun w' _ => (by go_simp)); simp only [Act.put, List.setIfInBounds_toArray, List.set_cons_zero, List.set_cons_succ]
    refine wpH_one (i := 9) (by kernel_rfl) (wpOp_of (by simp only [List.getElem?_toArray, List.getElem?_cons_zero, List.getElem?_cons_succ]; rfl) ?_)
    refine st_call rfl 40 #[.agg #[.int .i64 R.W, .int .i64 R.H, .slice xa R.rows.length xc], .int .i64 i, .int .i64 j] (by go_simp) (regHas_calls _ _ R (Hw.out.hold hK) _ _) ?_
    rintro e w' ⟨rfl, hb⟩
    replace hK := hK.call hb
    clear hb
    refine ⟨_, rfl, hK.below, ?_⟩
    simp only [Act.put, List.setIfInBounds_toArray, List.set_cons_zero, List.set_cons_succ]
    refine wpH_one (i := 13) (by kernel_rfl) (wpOp_of (by simp only [List.getElem?_toArray, List.getElem?_cons_zero, List.getElem?_cons_succ]; rfl) ?_)
    refine st_call rfl 41 #[.agg #[.int .i64 R.W, .int .i64 R.H, .slice xa R.rows.length xc], .int .i64 i, .int .i64 j] (by go_simp) (refHasPixel_calls _ _ R (Hw.out.hold hK) _ _) ?_
    rintro e w' ⟨rfl, hb⟩
    replace hK := hK.call hb
    clear hb
    refine ⟨_, rfl, hK.below, ?_⟩
    simp only [Act.put, List.setIfInBounds_toArray, List.set_cons_zero, List.set_cons_succ]
    refine stH (i := 14) (.bool false) hK.below ?_ ?_; (· exact fun w' _ => (by go_simp)); simp only [Act.put, List.setIfInBounds_toArray, List.set_cons_zero, List.set_cons_succ]
    refine stH (i := 15) (.bool false) hK.below ?_ ?_; (· exact fun w' _ => (by go_simp)); simp only [Act.put, List.setIfInBounds_toArray, List.set_cons_zero, List.set_cons_succ]
    refine stH (i := 16) (.bool false) hK.below ?_ ?_; (· exact fun w' _ => (by go_simp)); simp only [Act.put, List.setIfInBounds_toArray, List.set_cons_zero, List.set_cons_succ]
    refine stH (i := 17) (.agg #[.int .i64 R.W, .int .i64 R.H, .slice xa R.rows.length xc]) hK.below ?_ ?_; (· exact fun w' hw => run_loadOp _ _ rfl _ rfl _ (load_range rfl (rangeAt_below hr0 hw))); simp only [Act.put, List.setIfInBounds_toArray, List.set_cons_zero, List.set_cons_succ]
    refine stH (i := 19) (.agg #[.int .i64 R.W, .int .i64 R.H, .slice xa R.rows.length xc]) hK.below ?_ ?_; (· exact fun w' hw => run_loadOp _ _ rfl _ rfl _ (load_range rfl (rangeAt_below hr0 hw))); simp only [Act.put, List.setIfInBounds_toArray, List.set_cons_zero, List.set_cons_succ]
    refine wpH_one (i := 18) (by kernel_rfl) (wpOp_of (by simp only [List.getElem?_toArray, List.getElem?_cons_zero, List.getElem?_cons_succ]; rfl) ?_)
    refine st_call rfl 36 #[.agg #[.int .i64 R.W, .int .i64 R.H, .slice xa R.rows.length xc]] (by go_simp) (regCount_calls _ _ R (Hw.out.hold hK)) ?_
    rintro e w' ⟨rfl, hb⟩
    replace hK := hK.call hb
    clear hb
    refine ⟨_, rfl, hK.below, ?_⟩
    simp only [Act.put, List.setIfInBounds_toArray, List.set_cons_zero, List.set_cons_succ]
    refine wpH_one (i := 20) (by kernel_rfl) (wpOp_of (by simp only [List.getElem?_toArray, List.getElem?_cons_zero, List.getElem?_cons_succ]; rfl) ?_)
    refine st_call rfl 42 #[.agg #[.int .i64 R.W, .int .i64 R.H, .slice xa R.rows.length xc]] (by go_simp) (refCountReg_calls _ _ R (Hw.out.hold hK)) ?_
    rintro e w' ⟨rfl, hb⟩
    replace hK := hK.call hb
    clear hb
    refine ⟨_, rfl, hK.below, ?_⟩
    simp only [Act.put, List.setIfInBounds_toArray, List.set_cons_zero, List.set_cons_succ]
    refine stH (i := 21) (.bool false) hK.below ?_ ?_; (· exact fun w' _ => (by go_simp)); simp only [Act.put, List.setIfInBounds_toArray, List.set_cons_zero, List.set_cons_succ]
    refine stH (i := 22) (.bool false) hK.below ?_ ?_; (· exact fun w' _ => (by go_simp)); simp only [Act.put, List.setIfInBounds_toArray, List.set_cons_zero, List.set_cons_succ]
    refine wpAnyH_done (by kernel_rfl) ?_ _
    replace hL := hL.call hK.below
    clear hK hr0 Hr0
    go_wp2_with (first | (go_at_call 20; (with_reducible refine (sgNot_calls _ _ R (Hv.out.hold hL)).mono ?_); rintro e _ ⟨sa, sn, sc, rfl, hb, hf⟩; replace hL := hL.callF hb hf; clear hb hf) | (go_at_call 43; (with_reducible refine (sgRefNot_calls _ _ R (Hv.out.hold hL)).mono ?_); rintro e _ ⟨sa, sn, sc, rfl, hb, hf⟩; replace hL := hL.callF hb hf; clear hb hf) | (go_at_call 44; (with_reducible refine (sgShift_calls _ _ R (Hv.out.hold hL) _ _).mono ?_); rintro e _ ⟨sa, sn, sc, rfl, hb, hf⟩; replace hL := hL.callF hb hf; clear hb hf) | (go_at_call 45; (with_reducible refine (sgRefShift_calls _ _ R (Hv.out.hold hL) _ _).mono ?_); rintro e _ ⟨sa, sn, sc, rfl, hb, hf⟩; replace hL := hL.callF hb hf; clear hb hf) | (go_at_call 46; (with_reducible refine (sgBand_calls _ _ R (Hv.out.hold hL) _ _).mono ?_); rintro e _ ⟨sa, sn, sc, rfl, hb, hf⟩; replace hL := hL.callF hb hf; clear hb hf) | (go_at_call 47; (with_reducible refine (sgRefBand_calls _ _ R (Hv.out.hold hL) _ _).mono ?_); rintro e _ ⟨sa, sn, sc, rfl, hb, hf⟩; replace hL := hL.callF hb hf; clear hb hf) | (go_at_call 48; (with_reducible refine (HM1.out _ _ (Hv.out.hold hL)).mono ?_); rintro e _ ⟨sa, sn, sc, rfl, hb, hf⟩; replace hL := hL.callF hb hf; clear hb hf) | (go_at_call 49; (with_reducible refine (HM2.out _ _ (Hv.out.hold hL)).mono ?_); rintro e _ ⟨sa, sn, sc, rfl, hb, hf⟩; replace hL := hL.callF hb hf; clear hb hf) | (go_at_call 29; (with_reducible refine (sgSame_calls _ _ _ _ (hL.reg (by repeat (first | with_reducible exact FactAt.here | with_reducible apply FactAt.there))) (hL.reg (by repeat (first | with_reducible exact FactAt.here | with_reducible apply FactAt.there)))).mono ?_); rintro e _ ⟨rfl, hb⟩; replace hL := hL.call hb; clear hb) | (go_at_call 50; (with_reducible refine (helpMaskSame_calls _ _ _ m (hL.mask (by repeat (first | with_reducible exact FactAt.here | with_reducible apply FactAt.there))) (hL.mask (by repeat (first | with_reducible exact FactAt.here | with_reducible apply FactAt.there)))).mono ?_); rintro e _ ⟨rfl, hb⟩; replace hL := hL.call hb; clear hb) | (first | (clear hL n1; with_reducible intro b1 w1 hL) | (clear hL n2; with_reducible intro b2 w2 hL) | (clear hL n3; with_reducible intro b3 w3 hL) | (clear hL n4; with_reducible intro b4 w4 hL) | (clear hL; with_reducible intro _ _ hL)) | (with_reducible refine wpC_alloc rfl _ rfl _ _ inferInstance hL ?_) | (with_reducible first | refine wpB_agg rfl _ _ _ rfl rfl hL ?_ | refine wpB_one rfl _ _ (.int _ _) rfl rfl rfl hL ?_ | refine wpB_one rfl _ _ (.slice _ _ _) rfl rfl rfl hL ?_ | refine wpB_one rfl _ _ (.bool _) rfl rfl rfl hL ?_ | refine wpB_one rfl _ _ (.pointer _) rfl rfl rfl hL ?_ | refine wpB_one rfl _ _ (.func _ _ _) rfl rfl rfl hL ?_) | (with_reducible first | refine wpH_max rfl _ _ _ _ rfl _ _ rfl rfl ?_ | refine wpH_min rfl _ _ _ _ rfl _ _ rfl rfl ?_) | ((with_reducible refine wpA_load rfl _ _ rfl _ rfl ?_); first | refine loadA hL ?_ | refine loadR hL ?_ | refine loadC hL ?_ | refine loadD ?_ | refine loadE hL ?_ | refine loadF ?_) | ((with_reducible refine wpA_index rfl _ _ _ rfl _ rfl _ rfl ?_); first | (refine indexA ?_; try rw [Int.toNat_natCast]) | refine indexC ?_) | ((with_reducible refine wpA_store rfl _ _ _ rfl _ rfl (.agg _) rfl ?_); refine storeR hL ?_; clear hL; intro _ hL) | ((with_reducible first | refine wpA_store rfl _ _ _ rfl _ rfl (.int _ _) rfl ?_ | refine wpA_store rfl _ _ _ rfl _ rfl (.slice _ _ _) rfl ?_ | refine wpA_store rfl _ _ _ rfl _ rfl (.bool _) rfl ?_ | refine wpA_store rfl _ _ _ rfl _ rfl (.pointer _) rfl ?_ | refine wpA_store rfl _ _ _ rfl _ rfl (.func _ _ _) rfl ?_); (first | refine storeA hL ?_ | refine storeO hL ?_); (clear hL; intro _ hL)) | ((with_reducible refine wpA_lit rfl _ _ _ rfl ?_); first | refine litA1 hL ?_ | refine litA2 hL ?_) | ((with_reducible refine wpA_append rfl _ _ _ rfl (.slice _ _ _) rfl ?_); intro vq hvq; simp [go_sem] at hvq; subst hvq; refine appendA hL ?_; clear hL; intro _ _ _ hL; try dsimp only at hL) | ((with_reducible refine wpA_make rfl _ _ _ rfl _ rfl rfl ?_); refine makeA hL ?_))
    go_ret
    exact ⟨rfl, hL.below⟩
end Go.Proofs.Ytjgnbmgdnfldeaa
