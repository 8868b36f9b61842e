/- The document's strokes: In. -/
import Derived.Test.YtfnolaoohmecbaaRSe
import Derived.Test.YtfnolaoohmecbaaRefE
-- lit6
namespace Go.Proofs.Ytfnolaoohmecbaa
open Go.RowKit

theorem ct_edges_lenR {l : List Ct} (h : (l.map ctW).sum ≤ 300) : ∀ c ∈ l, c.edges.length ≤ 300 := by
  intro c hc
  have : ctW c ≤ (l.map ctW).sum := by
    induction l with
    | nil => cases hc
    | cons d l ih =>
      rw [List.map_cons, List.sum_cons] at h ⊢
      rcases List.mem_cons.1 hc with rfl | hc
      · omega
      · have := ih (by omega) hc; omega
  have e : ctW c = c.edges.length + 1 := rfl
  omega
set_option maxRecDepth 100000 in
set_option maxHeartbeats 8000000 in
theorem rIn33_calls (w : World) (v : Value) (l : List Sg) (hv : SegsAt w v l) (s : Sty) (x y : Int) : Calls Try.prog 13 #[v, .agg #[.int .i64 s.wide, .int .i64 s.cap, .int .i64 s.join], .int .i64 x, .int .i64 y] w fun e w' => e = .returned (.bool (inS l s x y)) ∧ Below w.heap.size w w' := by
  have Hv := Lib.hid hv
  obtain ⟨a, cap0, rfl, hlc, hcm, _⟩ := hv.parts
  clear hv
  unfold maxLen at hcm
  have hL := Holds.start w
  have HPl := Lib.hid (fun w' (hb : Below w.heap.size w w') => rStraight_calls w' (.slice a l.length cap0) l (SliceAt.below Hv.out hb))
  have HMy := Lib.hid (fun w => rMayY_calls s w)
  have HX := Lib.hid (fun w => refIsCoord_calls x w)
  have HY := Lib.hid (fun w => refIsCoord_calls y w)
  have hR : inS l s x y = ((straightS l && mayY s) && ((near1 x && near1 y) && covL (allS l s) x y)) := rfl
  have hAl : allS l s = (contoursS l).flatMap (shapesC s) := rfl
  have HCt := Lib.hid (fun w' (hb : Below w.heap.size w w') => rContours_calls w' (.slice a l.length cap0) l (SliceAt.below Hv.out hb))
  have hW := contours_weight l
  have hC := contours_len l
  have hGo : straightS l = true → ∀ c ∈ contoursS l, GoodC c := fun h => contours_good (by unfold straightS at h; simp at h; exact h.1)
  generalize inS l s x y = R at *
  obtain ⟨bs, hbs⟩ : ∃ b, straightS l = b := ⟨_, rfl⟩
  obtain ⟨bm, hbm⟩ : ∃ b, mayY s = b := ⟨_, rfl⟩
  obtain ⟨bx1, hbx⟩ : ∃ b, near1 x = b := ⟨_, rfl⟩
  obtain ⟨by1, hby⟩ : ∃ b, near1 y = b := ⟨_, rfl⟩
  rw [hbs] at HPl hR hGo
  rw [hbm] at HMy hR
  rw [hbx] at HX hR
  rw [hby] at HY hR
  rw [hAl] at hR
  generalize contoursS l = cts at *
  have Hmy := Lib.hid hbm
  have hx : bx1 = true → -8191 ≤ x ∧ x ≤ 8191 := fun h => (near_iff' x).1 (hbx.trans h)
  have hy : by1 = true → -8191 ≤ y ∧ y ≤ 8191 := fun h => (near_iff' y).1 (hby.trans h)
  clear hbs hbm hbx hby hAl
  obtain ⟨wd, cap, join⟩ := s
  dsimp only at *
  rcases (show ∀ b0 b1 b2 b3 : Bool, b0 = false ∨ (b0 = true ∧ b1 = false) ∨ (b0 = true ∧ b1 = true ∧ b2 = false) ∨ (b0 = true ∧ b1 = true ∧ b2 = true ∧ b3 = false) ∨ (b0 = true ∧ b1 = true ∧ b2 = true ∧ b3 = true) by decide) bs bm bx1 by1 with rfl | ⟨rfl, rfl⟩ | ⟨rfl, rfl, rfl⟩ | ⟨rfl, rfl, rfl, rfl⟩ | ⟨rfl, rfl, rfl, rfl⟩
  iterate 4
    · have HR := Lib.hid (show R = false by rw [hR]; simp)
      clear hR hGo hx hy
      have n1 : True := trivial
      go_enter Try.func13, Try.ntmps13
      go_wp2_with (first | (go_at_call 40; (with_reducible refine (HPl.out _ hL.below).mono ?_); rintro e _ ⟨rfl, hb⟩; replace hL := hL.call hb; clear hb) | (go_at_call 41; (with_reducible refine (HMy.out _).mono ?_); rintro e _ ⟨rfl, hb⟩; replace hL := hL.call hb; clear hb) | (go_at_call 42; (with_reducible first | refine (HX.out _).mono ?_ | refine (HY.out _).mono ?_); rintro e _ ⟨rfl, rfl⟩) | (first | (clear hL n1; with_reducible intro b1 w1 hL) | (clear hL; with_reducible intro _ _ hL)) | (with_reducible refine wpC_alloc rfl _ rfl _ _ inferInstance hL ?_) | (with_reducible first | refine wpB_agg rfl _ _ _ rfl rfl hL ?_ | refine wpB_one rfl _ _ (.int _ _) rfl rfl rfl hL ?_ | refine wpB_one rfl _ _ (.slice _ _ _) rfl rfl rfl hL ?_ | refine wpB_one rfl _ _ (.bool _) rfl rfl rfl hL ?_ | refine wpB_one rfl _ _ (.pointer _) rfl rfl rfl hL ?_ | refine wpB_one rfl _ _ (.func _ _ _) rfl rfl rfl hL ?_) | (with_reducible first | refine wpH_max rfl _ _ _ _ rfl _ _ rfl rfl ?_ | refine wpH_min rfl _ _ _ _ rfl _ _ rfl rfl ?_) | ((with_reducible refine wpA_load rfl _ _ rfl _ rfl ?_); first | refine loadA hL ?_ | refine loadR hL ?_ | refine loadC hL ?_ | refine loadD ?_ | refine loadE hL ?_ | refine loadF ?_) | ((with_reducible refine wpA_index rfl _ _ _ rfl _ rfl _ rfl ?_); first | (refine indexA ?_; try rw [Int.toNat_natCast]) | refine indexC ?_) | ((with_reducible refine wpA_store rfl _ _ _ rfl _ rfl (.agg _) rfl ?_); refine storeR hL ?_; clear hL; intro _ hL) | ((with_reducible first | refine wpA_store rfl _ _ _ rfl _ rfl (.int _ _) rfl ?_ | refine wpA_store rfl _ _ _ rfl _ rfl (.slice _ _ _) rfl ?_ | refine wpA_store rfl _ _ _ rfl _ rfl (.bool _) rfl ?_ | refine wpA_store rfl _ _ _ rfl _ rfl (.pointer _) rfl ?_ | refine wpA_store rfl _ _ _ rfl _ rfl (.func _ _ _) rfl ?_); (first | refine storeA hL ?_ | refine storeO hL ?_); (clear hL; intro _ hL)) | ((with_reducible refine wpA_lit rfl _ _ _ rfl ?_); first | refine litA1 hL ?_ | refine litA2 hL ?_ | refine litA3 hL ?_ | refine litA4 hL ?_ | refine litA6 hL ?_) | ((with_reducible refine wpA_append rfl _ _ _ rfl (.slice _ _ _) rfl ?_); intro vq hvq; simp [go_sem] at hvq; subst hvq; refine appendA hL ?_; clear hL; intro _ _ _ hL; try dsimp only at hL) | ((with_reducible refine wpA_make rfl _ _ _ rfl _ rfl rfl ?_); refine makeA hL ?_))
      go_ret
      exact ⟨ret_bool HR.out.symm, hL.below⟩
  rw [Bool.true_and, Bool.true_and, Bool.true_and] at hR
  have hx9 : -8191 ≤ x ∧ x ≤ 8191 := by first | exact hx rfl | exact hx trivial
  have hy9 : -8191 ≤ y ∧ y ≤ 8191 := by first | exact hy rfl | exact hy trivial
  clear hx hy
  have HG := Lib.hid (hGo rfl)
  have HW := Lib.hid (ct_edges_lenR hW)
  clear hGo hW
  obtain ⟨n, hn⟩ : ∃ n, cts.length = n := ⟨_, rfl⟩
  have HN := Lib.hid hn
  rw [hn] at hC
  clear hn
  have HYes := Lib.hid (show ∀ k, k < n → covL (shapesC ⟨wd, cap, join⟩ (cts.getD k default)) x y = true → R = true from fun k hk h => by
    rw [hR]
    unfold covL at h ⊢
    rw [List.any_flatMap, List.any_eq_true]
    have hk2 : k < cts.length := by rw [HN.out]; exact hk
    exact ⟨cts.getD k default, by rw [show cts.getD k default = cts[k] by simp [hk2]]; exact List.getElem_mem hk2, h⟩)
  have HNo := Lib.hid (show (∀ i, i < n → covL (shapesC ⟨wd, cap, join⟩ (cts.getD i default)) x y = false) → R = false from fun h => by
    rw [hR]
    unfold covL at h ⊢
    rw [List.any_flatMap, List.any_eq_false]
    intro c hc
    obtain ⟨i, hi, rfl⟩ := List.getElem_of_mem hc
    have := h i (by rw [← HN.out]; exact hi)
    rw [show cts.getD i default = cts[i] by simp [hi]] at this
    rw [this]; simp)
  clear hR
  have n1 : True := trivial
  go_enter Try.func13, Try.ntmps13
  go_wp2_with (first | (go_at_call 40; (with_reducible refine (HPl.out _ hL.below).mono ?_); rintro e _ ⟨rfl, hb⟩; replace hL := hL.call hb; clear hb) | (go_at_call 41; (with_reducible refine (HMy.out _).mono ?_); rintro e _ ⟨rfl, hb⟩; replace hL := hL.call hb; clear hb) | (go_at_call 42; (with_reducible first | refine (HX.out _).mono ?_ | refine (HY.out _).mono ?_); rintro e _ ⟨rfl, rfl⟩) | (go_at_call 43; (with_reducible refine (HCt.out _ hL.below).mono ?_); rintro e _ ⟨vc, vs, rfl, hvl, hb, hf⟩; obtain ⟨sa, sc, rfl⟩ : ∃ sa sc, vc = .slice sa n sc := (by obtain ⟨h1, _⟩ := hf.now; obtain ⟨a, c, h, _⟩ := h1; refine ⟨a, c, ?_⟩; rw [h, List.length_zipWith, hvl, Nat.min_self, HN.out]); replace hL := hL.callF hb hf; clear hb hf) | (first | (clear hL n1; with_reducible intro b1 w1 hL) | (clear hL; with_reducible intro _ _ hL)) | (with_reducible refine wpC_alloc rfl _ rfl _ _ inferInstance hL ?_) | (with_reducible first | refine wpB_agg rfl _ _ _ rfl rfl hL ?_ | refine wpB_one rfl _ _ (.int _ _) rfl rfl rfl hL ?_ | refine wpB_one rfl _ _ (.slice _ _ _) rfl rfl rfl hL ?_ | refine wpB_one rfl _ _ (.bool _) rfl rfl rfl hL ?_ | refine wpB_one rfl _ _ (.pointer _) rfl rfl rfl hL ?_ | refine wpB_one rfl _ _ (.func _ _ _) rfl rfl rfl hL ?_) | (with_reducible first | refine wpH_max rfl _ _ _ _ rfl _ _ rfl rfl ?_ | refine wpH_min rfl _ _ _ _ rfl _ _ rfl rfl ?_) | ((with_reducible refine wpA_load rfl _ _ rfl _ rfl ?_); first | refine loadA hL ?_ | refine loadR hL ?_ | refine loadC hL ?_ | refine loadD ?_ | refine loadE hL ?_ | refine loadF ?_) | ((with_reducible refine wpA_index rfl _ _ _ rfl _ rfl _ rfl ?_); first | (refine indexA ?_; try rw [Int.toNat_natCast]) | refine indexC ?_) | ((with_reducible refine wpA_store rfl _ _ _ rfl _ rfl (.agg _) rfl ?_); refine storeR hL ?_; clear hL; intro _ hL) | ((with_reducible first | refine wpA_store rfl _ _ _ rfl _ rfl (.int _ _) rfl ?_ | refine wpA_store rfl _ _ _ rfl _ rfl (.slice _ _ _) rfl ?_ | refine wpA_store rfl _ _ _ rfl _ rfl (.bool _) rfl ?_ | refine wpA_store rfl _ _ _ rfl _ rfl (.pointer _) rfl ?_ | refine wpA_store rfl _ _ _ rfl _ rfl (.func _ _ _) rfl ?_); (first | refine storeA hL ?_ | refine storeO hL ?_); (clear hL; intro _ hL)) | ((with_reducible refine wpA_lit rfl _ _ _ rfl ?_); first | refine litA1 hL ?_ | refine litA2 hL ?_ | refine litA3 hL ?_ | refine litA4 hL ?_ | refine litA6 hL ?_) | ((with_reducible refine wpA_append rfl _ _ _ rfl (.slice _ _ _) rfl ?_); intro vq hvq; simp [go_sem] at hvq; subst hvq; refine appendA hL ?_; clear hL; intro _ _ _ hL; try dsimp only at hL) | ((with_reducible refine wpA_make rfl _ _ _ rfl _ rfl rfl ?_); refine makeA hL ?_))
  go_loopw [10] (fun s10 wr => ∃ k : Nat, k ≤ n ∧ s10 = .int .i64 k ∧ (∀ i, i < k → covL (shapesC ⟨wd, cap, join⟩ (cts.getD i default)) x y = false) ∧ Holds w wr [blk b1 #[.int .i64 wd, .int .i64 cap, .int .i64 join] 24] [fun w => CtsAt w (.slice sa n sc) vs cts])
    (fun s10 wr => n - (intOf s10).toNat)
  case atStart => exact ⟨0, by omega, rfl, fun i hi => absurd hi (by omega), hL⟩
  case round =>
    clear hL
    obtain ⟨k, hk, rfl, hall, hL⟩ := hrel
    by_cases hkt : k < n
    · have hk2 : k < cts.length := by rw [HN.out]; exact hkt
      have hget : ∃ bx ox u, sa = some ⟨bx, ox, none⟩ ∧ vs[k]? = some u ∧ wr.rangeAt bx (ox + k * 4) (ctC u (cts.getD k default)) := by
        obtain ⟨⟨a', c', he, _, _, h5⟩, _⟩ := hL.fact0
        injection he with he _ _
        subst he
        have hzl : (List.zipWith ctC vs cts).length = cts.length := by rw [List.length_zipWith, hvl, Nat.min_self]
        obtain ⟨bx, ox, e, hr⟩ := h5 k (by omega)
        obtain ⟨u, hu, hz⟩ := zip_get vs cts hvl k hk2
        rw [hz (by omega)] at hr
        exact ⟨bx, ox, u, e, hu, hr⟩
      obtain ⟨bx, ox, u, rfl, hu, hc⟩ := hget
      have hkb : (k : Int) < (n : Int) := by omega
      have hk0 : (0 : Int) ≤ (k : Int) := by omega
      have hcl := HW.out (cts.getD k default) (by rw [show cts.getD k default = cts[k] by simp [hk2]]; exact List.getElem_mem hk2)
      have hcg := HG.out (cts.getD k default) (by rw [show cts.getD k default = cts[k] by simp [hk2]]; exact List.getElem_mem hk2)
      replace hL := (hL.dup).map (χ := fun w => EdgesAt w u (cts.getD k default).edges) fun w h => h.2 k u hu
      have HYk := Lib.hid (HYes.out k hkt)
      have HST := Lib.hid (show covL (shapesC ⟨wd, cap, join⟩ (cts.getD k default)) x y = false → ∀ i, i < k + 1 → covL (shapesC ⟨wd, cap, join⟩ (cts.getD i default)) x y = false from fun h i hi => by
        rcases (by omega : i < k ∨ i = k) with h2 | rfl
        · exact hall i h2
        · exact h)
      clear hall hu hk2
      have hco := fun w' (h : EdgesAt w' u (cts.getD k default).edges) => rCoversL_calls w' u (cts.getD k default) h hcl hcg ⟨wd, cap, join⟩ Hmy.out x y hx9 hy9
      clear hcl hcg
      generalize covL (shapesC ⟨wd, cap, join⟩ (cts.getD k default)) x y = cv at *
      generalize cts.getD k default = c at *
      obtain ⟨cx, cy, ces, sh⟩ := c
      unfold ctC at hc
      dsimp only at hc hL hco
      have HCo := Lib.hid hco
      clear hco
      obtain ⟨ea, ec, rfl, _⟩ := EdgesAt.parts hL.fact0
      generalize ces.length = em at *
      have Hc := Lib.hid hc
      have Ks := Lib.hid (hL.range .here)
      clear hc
      go_wp2_with (first | (first | (clear hL n1; with_reducible intro b1 w1 hL) | (clear hL; with_reducible intro _ _ hL)) | (with_reducible refine wpC_alloc rfl _ rfl _ _ inferInstance hL ?_) | (with_reducible first | refine wpB_agg rfl _ _ _ rfl rfl hL ?_ | refine wpB_one rfl _ _ (.int _ _) rfl rfl rfl hL ?_ | refine wpB_one rfl _ _ (.slice _ _ _) rfl rfl rfl hL ?_ | refine wpB_one rfl _ _ (.bool _) rfl rfl rfl hL ?_ | refine wpB_one rfl _ _ (.pointer _) rfl rfl rfl hL ?_ | refine wpB_one rfl _ _ (.func _ _ _) rfl rfl rfl hL ?_) | (with_reducible first | refine wpH_max rfl _ _ _ _ rfl _ _ rfl rfl ?_ | refine wpH_min rfl _ _ _ _ rfl _ _ rfl rfl ?_) | ((with_reducible refine wpA_load rfl _ _ rfl _ rfl ?_); first | refine loadA hL ?_ | refine loadR hL ?_ | refine loadC hL ?_ | refine loadD ?_ | refine loadE hL ?_ | refine loadF ?_) | ((with_reducible refine wpA_index rfl _ _ _ rfl _ rfl _ rfl ?_); first | (refine indexA ?_; try rw [Int.toNat_natCast]) | refine indexC ?_) | ((with_reducible refine wpA_store rfl _ _ _ rfl _ rfl (.agg _) rfl ?_); refine storeR hL ?_; clear hL; intro _ hL) | ((with_reducible first | refine wpA_store rfl _ _ _ rfl _ rfl (.int _ _) rfl ?_ | refine wpA_store rfl _ _ _ rfl _ rfl (.slice _ _ _) rfl ?_ | refine wpA_store rfl _ _ _ rfl _ rfl (.bool _) rfl ?_ | refine wpA_store rfl _ _ _ rfl _ rfl (.pointer _) rfl ?_ | refine wpA_store rfl _ _ _ rfl _ rfl (.func _ _ _) rfl ?_); (first | refine storeA hL ?_ | refine storeO hL ?_); (clear hL; intro _ hL)) | ((with_reducible refine wpA_lit rfl _ _ _ rfl ?_); first | refine litA1 hL ?_ | refine litA2 hL ?_ | refine litA3 hL ?_ | refine litA4 hL ?_ | refine litA6 hL ?_) | ((with_reducible refine wpA_append rfl _ _ _ rfl (.slice _ _ _) rfl ?_); intro vq hvq; simp [go_sem] at hvq; subst hvq; refine appendA hL ?_; clear hL; intro _ _ _ hL; try dsimp only at hL) | ((with_reducible refine wpA_make rfl _ _ _ rfl _ rfl rfl ?_); refine makeA hL ?_))
      refine wpH_laterN (by kernel_rfl) fun hS => ?_
      replace hL := hL.drew
      refine stH (i := 0) (.slice (some ⟨bx, ox, none⟩) n sc) hS ?_ ?_; (· exact fun w' _ => (by go_simp)); simp only [Act.put, List.setIfInBounds_toArray, List.set_cons_zero, List.set_cons_succ]
      refine stH (i := 1) (.int .i64 (k : Int)) hS ?_ ?_; (· exact fun w' _ => (by go_simp)); simp only [Act.put, List.setIfInBounds_toArray, List.set_cons_zero, List.set_cons_succ]
      refine stH (i := 2) (.pointer (some ⟨bx, ox + k * 4, none⟩)) hS ?_ ?_; (· exact fun w' _ => (by go_simp)); simp only [Act.put, List.setIfInBounds_toArray, List.set_cons_zero, List.set_cons_succ]
      refine stH (i := 3) (.agg #[.int .i64 cx, .int .i64 cy, .slice ea em ec, .bool sh]) hS ?_ ?_; (· exact fun w' hw => run_loadOp _ _ rfl _ rfl _ (load_rangeO (cs := #[.int .i64 cx, .int .i64 cy, .slice ea em ec, .bool sh]) rfl (rangeAt_below Hc.out hw))); simp only [Act.put, List.setIfInBounds_toArray, List.set_cons_zero, List.set_cons_succ]
      refine stH (i := 4) (.agg #[.int .i64 wd, .int .i64 cap, .int .i64 join]) hS ?_ ?_; (· exact fun w' hw => run_loadOp _ _ rfl _ rfl _ (load_range (cs := #[.int .i64 wd, .int .i64 cap, .int .i64 join]) rfl (rangeAt_below Ks.out hw))); simp only [Act.put, List.setIfInBounds_toArray, List.set_cons_zero, List.set_cons_succ]
      refine stH (i := 5) (.int .i64 x) hS ?_ ?_; (· exact fun w' _ => (by go_simp)); simp only [Act.put, List.setIfInBounds_toArray, List.set_cons_zero, List.set_cons_succ]
      refine stH (i := 6) (.int .i64 y) hS ?_ ?_; (· exact fun w' _ => (by go_simp)); simp only [Act.put, List.setIfInBounds_toArray, List.set_cons_zero, List.set_cons_succ]
      refine wpH_one (i := 7) (by kernel_rfl) (wpOp_of (by simp only [List.getElem?_toArray, List.getElem?_cons_zero, List.getElem?_cons_succ]; rfl) ?_)
      refine st_call rfl 44 #[.agg #[.int .i64 cx, .int .i64 cy, .slice ea em ec, .bool sh], .agg #[.int .i64 wd, .int .i64 cap, .int .i64 join], .int .i64 x, .int .i64 y] (by go_simp) (HCo.out _ hL.fact0) ?_
      rintro e _ ⟨rfl, hb⟩
      replace hL := hL.call hb
      replace hS := hS.trans (hb.mono hS.size)
      clear hb
      refine ⟨_, rfl, hS, ?_⟩
      simp only [Act.put, List.setIfInBounds_toArray, List.set_cons_zero, List.set_cons_succ]
      refine wpAnyH_done (by kernel_rfl) ?_ _
      clear hS
      cases cv
      · have HN2 := Lib.hid (HST.out rfl)
        go_wp2_with (first | (first | (clear hL n1; with_reducible intro b1 w1 hL) | (clear hL; with_reducible intro _ _ hL)) | (with_reducible refine wpC_alloc rfl _ rfl _ _ inferInstance hL ?_) | (with_reducible first | refine wpB_agg rfl _ _ _ rfl rfl hL ?_ | refine wpB_one rfl _ _ (.int _ _) rfl rfl rfl hL ?_ | refine wpB_one rfl _ _ (.slice _ _ _) rfl rfl rfl hL ?_ | refine wpB_one rfl _ _ (.bool _) rfl rfl rfl hL ?_ | refine wpB_one rfl _ _ (.pointer _) rfl rfl rfl hL ?_ | refine wpB_one rfl _ _ (.func _ _ _) rfl rfl rfl hL ?_) | (with_reducible first | refine wpH_max rfl _ _ _ _ rfl _ _ rfl rfl ?_ | refine wpH_min rfl _ _ _ _ rfl _ _ rfl rfl ?_) | ((with_reducible refine wpA_load rfl _ _ rfl _ rfl ?_); first | refine loadA hL ?_ | refine loadR hL ?_ | refine loadC hL ?_ | refine loadD ?_ | refine loadE hL ?_ | refine loadF ?_) | ((with_reducible refine wpA_index rfl _ _ _ rfl _ rfl _ rfl ?_); first | (refine indexA ?_; try rw [Int.toNat_natCast]) | refine indexC ?_) | ((with_reducible refine wpA_store rfl _ _ _ rfl _ rfl (.agg _) rfl ?_); refine storeR hL ?_; clear hL; intro _ hL) | ((with_reducible first | refine wpA_store rfl _ _ _ rfl _ rfl (.int _ _) rfl ?_ | refine wpA_store rfl _ _ _ rfl _ rfl (.slice _ _ _) rfl ?_ | refine wpA_store rfl _ _ _ rfl _ rfl (.bool _) rfl ?_ | refine wpA_store rfl _ _ _ rfl _ rfl (.pointer _) rfl ?_ | refine wpA_store rfl _ _ _ rfl _ rfl (.func _ _ _) rfl ?_); (first | refine storeA hL ?_ | refine storeO hL ?_); (clear hL; intro _ hL)) | ((with_reducible refine wpA_lit rfl _ _ _ rfl ?_); first | refine litA1 hL ?_ | refine litA2 hL ?_ | refine litA3 hL ?_ | refine litA4 hL ?_ | refine litA6 hL ?_) | ((with_reducible refine wpA_append rfl _ _ _ rfl (.slice _ _ _) rfl ?_); intro vq hvq; simp [go_sem] at hvq; subst hvq; refine appendA hL ?_; clear hL; intro _ _ _ hL; try dsimp only at hL) | ((with_reducible refine wpA_make rfl _ _ _ rfl _ rfl rfl ?_); refine makeA hL ?_))
        go_roundw
        case rel => exact ⟨k + 1, by omega, by go_num, HN2.out, hL.forget⟩
        case measure => simp [intOf]; omega
      · have HT := Lib.hid (HYk.out rfl)
        go_wp2_with (first | (first | (clear hL n1; with_reducible intro b1 w1 hL) | (clear hL; with_reducible intro _ _ hL)) | (with_reducible refine wpC_alloc rfl _ rfl _ _ inferInstance hL ?_) | (with_reducible first | refine wpB_agg rfl _ _ _ rfl rfl hL ?_ | refine wpB_one rfl _ _ (.int _ _) rfl rfl rfl hL ?_ | refine wpB_one rfl _ _ (.slice _ _ _) rfl rfl rfl hL ?_ | refine wpB_one rfl _ _ (.bool _) rfl rfl rfl hL ?_ | refine wpB_one rfl _ _ (.pointer _) rfl rfl rfl hL ?_ | refine wpB_one rfl _ _ (.func _ _ _) rfl rfl rfl hL ?_) | (with_reducible first | refine wpH_max rfl _ _ _ _ rfl _ _ rfl rfl ?_ | refine wpH_min rfl _ _ _ _ rfl _ _ rfl rfl ?_) | ((with_reducible refine wpA_load rfl _ _ rfl _ rfl ?_); first | refine loadA hL ?_ | refine loadR hL ?_ | refine loadC hL ?_ | refine loadD ?_ | refine loadE hL ?_ | refine loadF ?_) | ((with_reducible refine wpA_index rfl _ _ _ rfl _ rfl _ rfl ?_); first | (refine indexA ?_; try rw [Int.toNat_natCast]) | refine indexC ?_) | ((with_reducible refine wpA_store rfl _ _ _ rfl _ rfl (.agg _) rfl ?_); refine storeR hL ?_; clear hL; intro _ hL) | ((with_reducible first | refine wpA_store rfl _ _ _ rfl _ rfl (.int _ _) rfl ?_ | refine wpA_store rfl _ _ _ rfl _ rfl (.slice _ _ _) rfl ?_ | refine wpA_store rfl _ _ _ rfl _ rfl (.bool _) rfl ?_ | refine wpA_store rfl _ _ _ rfl _ rfl (.pointer _) rfl ?_ | refine wpA_store rfl _ _ _ rfl _ rfl (.func _ _ _) rfl ?_); (first | refine storeA hL ?_ | refine storeO hL ?_); (clear hL; intro _ hL)) | ((with_reducible refine wpA_lit rfl _ _ _ rfl ?_); first | refine litA1 hL ?_ | refine litA2 hL ?_ | refine litA3 hL ?_ | refine litA4 hL ?_ | refine litA6 hL ?_) | ((with_reducible refine wpA_append rfl _ _ _ rfl (.slice _ _ _) rfl ?_); intro vq hvq; simp [go_sem] at hvq; subst hvq; refine appendA hL ?_; clear hL; intro _ _ _ hL; try dsimp only at hL) | ((with_reducible refine wpA_make rfl _ _ _ rfl _ rfl rfl ?_); refine makeA hL ?_))
        go_ret
        exact ⟨ret_bool HT.out.symm, hL.below⟩
    · have e : n = k := by omega
      subst e
      have HF := Lib.hid (HNo.out hall)
      clear hall
      go_wp2_with (first | (first | (clear hL n1; with_reducible intro b1 w1 hL) | (clear hL; with_reducible intro _ _ hL)) | (with_reducible refine wpC_alloc rfl _ rfl _ _ inferInstance hL ?_) | (with_reducible first | refine wpB_agg rfl _ _ _ rfl rfl hL ?_ | refine wpB_one rfl _ _ (.int _ _) rfl rfl rfl hL ?_ | refine wpB_one rfl _ _ (.slice _ _ _) rfl rfl rfl hL ?_ | refine wpB_one rfl _ _ (.bool _) rfl rfl rfl hL ?_ | refine wpB_one rfl _ _ (.pointer _) rfl rfl rfl hL ?_ | refine wpB_one rfl _ _ (.func _ _ _) rfl rfl rfl hL ?_) | (with_reducible first | refine wpH_max rfl _ _ _ _ rfl _ _ rfl rfl ?_ | refine wpH_min rfl _ _ _ _ rfl _ _ rfl rfl ?_) | ((with_reducible refine wpA_load rfl _ _ rfl _ rfl ?_); first | refine loadA hL ?_ | refine loadR hL ?_ | refine loadC hL ?_ | refine loadD ?_ | refine loadE hL ?_ | refine loadF ?_) | ((with_reducible refine wpA_index rfl _ _ _ rfl _ rfl _ rfl ?_); first | (refine indexA ?_; try rw [Int.toNat_natCast]) | refine indexC ?_) | ((with_reducible refine wpA_store rfl _ _ _ rfl _ rfl (.agg _) rfl ?_); refine storeR hL ?_; clear hL; intro _ hL) | ((with_reducible first | refine wpA_store rfl _ _ _ rfl _ rfl (.int _ _) rfl ?_ | refine wpA_store rfl _ _ _ rfl _ rfl (.slice _ _ _) rfl ?_ | refine wpA_store rfl _ _ _ rfl _ rfl (.bool _) rfl ?_ | refine wpA_store rfl _ _ _ rfl _ rfl (.pointer _) rfl ?_ | refine wpA_store rfl _ _ _ rfl _ rfl (.func _ _ _) rfl ?_); (first | refine storeA hL ?_ | refine storeO hL ?_); (clear hL; intro _ hL)) | ((with_reducible refine wpA_lit rfl _ _ _ rfl ?_); first | refine litA1 hL ?_ | refine litA2 hL ?_ | refine litA3 hL ?_ | refine litA4 hL ?_ | refine litA6 hL ?_) | ((with_reducible refine wpA_append rfl _ _ _ rfl (.slice _ _ _) rfl ?_); intro vq hvq; simp [go_sem] at hvq; subst hvq; refine appendA hL ?_; clear hL; intro _ _ _ hL; try dsimp only at hL) | ((with_reducible refine wpA_make rfl _ _ _ rfl _ rfl rfl ?_); refine makeA hL ?_))
      go_ret
      exact ⟨ret_bool HF.out.symm, hL.below⟩
end Go.Proofs.Ytfnolaoohmecbaa
