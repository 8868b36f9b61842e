/- Package hem: shapes of any contour, all. -/
import Derived.Test.YtfnolaoohmecbaaHmN
import Derived.Test.YtfnolaoohmecbaaHmE
-- lit6
namespace Go.Proofs.Ytfnolaoohmecbaa
open Go.RowKit

theorem hemShapes_calls (w : World) (v : Value) (c : Ct) (hv : EdgesAt w v c.edges) (hlen : c.edges.length ≤ 300) (s : Sty) (hs : mayY s = true) :
    Calls Try.prog 79 #[.agg #[.int .i64 c.x, .int .i64 c.y, v, .bool c.shut], .agg #[.int .i64 s.wide, .int .i64 s.cap, .int .i64 s.join]] w (ShpsOut (shapesC s c) w) := by
  obtain ⟨h1, h2, h3, h4, h5, h6⟩ := mayY_bd hs
  obtain ⟨cx, cy, es, sh⟩ := c
  obtain ⟨wd, cap, join⟩ := s
  dsimp only at *
  unfold shapesC
  by_cases h0 : (piecesC ⟨cx, cy, es, sh⟩).length = 0
  · rw [if_pos h0, h0, show shapesL sh ⟨wd, cap, join⟩ (piecesC ⟨cx, cy, es, sh⟩) 0 = [] from rfl, List.append_nil]
    exact shapesD w v cx cy es sh hv hlen wd cap join (by omega) h0
  · rw [if_neg h0, List.nil_append]
    exact hemShapes1 w v cx cy es sh hv hlen wd cap join h0
theorem appendSh {P : Program} {w0 w : World} {M : List Res} {Φ : List (World → Prop)} {K2 : Value → World → Prop} {t ty e bytes : Nat} {z v u : Value} [ht : SliceT P t e] [hi : ElemT P e 11 bytes z] {l : List Shp} (hs : ShpsAt w u l)
    (hL : Holds w0 w M Φ) {n : Nat} {xs : List Value} {f : Res → List Res}
    (h : ∀ v' w', Holds w0 w' (f (own w0.heap.size e 11 v' (n + l.length) (xs ++ (l.map shpC).flatten))) Φ → K2 v' w')
    (hu : ∀ r', Upd M (own w0.heap.size e 11 v n xs) r' (f r') := by intro _; (repeat (first | with_reducible exact Upd.here | with_reducible apply Upd.there)))
    (hz : z.cells.size = 11 := by rfl) (h63 : n + l.length ≤ maxLen := by (unfold maxLen; omega)) (hbytes : (n + l.length) * bytes ≤ 140737488355328 := by omega) : AppendAt P t ty v u w K2 :=
  appendOld hs (shpC_len l) (by intro x hx y hy; obtain ⟨e, _, rfl⟩ := List.mem_map.1 hx; unfold shpC at hy; simp only [List.mem_cons, List.not_mem_nil, or_false] at hy; rcases hy with h | h | h | h | h | h | h | h | h | h | h <;> subst h <;> rfl) hL hu hz (by decide) (by rw [List.length_map]; exact h63) (by rw [List.length_map]; exact hbytes) (by intro v' w' h'; rw [List.length_map] at h'; exact h v' w' h')
theorem take_shapes (s : Sty) (l : List Ct) (k : Nat) (h : k < l.length) : (l.take (k + 1)).flatMap (shapesC s) = (l.take k).flatMap (shapesC s) ++ shapesC s (l.getD k default) := by
  rw [List.take_succ_eq_append_getElem h, List.flatMap_append]
  simp [h]
theorem ct_edges_len {l : List Ct} (h : (l.map ctW).sum ≤ 300) : ∀ c ∈ l, c.edges.length ≤ 300 := by
  intro c hc
  have : ctW c ≤ (l.map ctW).sum := by
    induction l with
    | nil => cases hc
    | cons d l ih =>
      rw [List.map_cons, List.sum_cons] at h ⊢
      rcases List.mem_cons.1 hc with rfl | hc
      · omega
      · have := ih (by omega) hc; omega
  have e : ctW c = c.edges.length + 1 := rfl
  omega
set_option maxRecDepth 100000 in
set_option maxHeartbeats 4000000 in
theorem hemAll_calls (w : World) (v : Value) (l : List Sg) (hv : SegsAt w v l) (s : Sty) (hs : mayY s = true) : Calls Try.prog 47 #[v, .agg #[.int .i64 s.wide, .int .i64 s.cap, .int .i64 s.join]] w (ShpsOut (allS l s) w) := by
  have Hv := Lib.hid hv
  obtain ⟨a, cap, rfl, hlc, hcm, hel⟩ := hv.parts
  clear hv hel
  unfold maxLen at hcm
  have hL := Holds.start w
  have HR := Lib.hid (show allS l s = ((contoursS l).take (contoursS l).length).flatMap (shapesC s) by rw [List.take_length]; rfl)
  have hlS := allS_len l s
  have hW := contours_weight l
  have hC := contours_len l
  have Hc : ∀ w' : World, Below w.heap.size w w' → Calls Try.prog 60 #[.slice a l.length cap] w' (CtsOut (contoursS l) w') := fun w' hb => contours_calls w' _ l (SliceAt.below Hv.out hb)
  have HC := Lib.hid Hc
  clear Hc
  have HPre := Lib.hid (show ∀ k, (((contoursS l).take k).flatMap (shapesC s)).length ≤ 900 from fun k => by
    have h1 := shapes_weight s ((contoursS l).take k)
    have h2 : ((contoursS l).map ctW).sum = (((contoursS l).take k).map ctW).sum + (((contoursS l).drop k).map ctW).sum := by
      rw [← List.sum_append, ← List.map_append, List.take_append_drop]
    omega)
  generalize allS l s = L at *
  generalize contoursS l = cts at *
  have HW := Lib.hid (ct_edges_len hW)
  clear hW
  have HSh := Lib.hid (fun w v c hv hlen => hemShapes_calls w v c hv hlen s hs)
  have n1 : True := trivial
  go_enter Try.func47, Try.ntmps47
  go_wp2_with (first | (go_at_call 60; (with_reducible refine (HC.out _ hL.below).mono ?_); rintro e _ ⟨vc, vs, rfl, hvl, hb, hf⟩; obtain ⟨sa, sc, rfl⟩ : ∃ sa sc, vc = .slice sa cts.length sc := (by obtain ⟨h1, _⟩ := hf.now; obtain ⟨a, c, h, _⟩ := h1; refine ⟨a, c, ?_⟩; rw [h, List.length_zipWith, hvl, Nat.min_self]); replace hL := hL.callF hb hf; clear hb hf) | (first | (clear hL n1; with_reducible intro b1 w1 hL) | (clear hL; with_reducible intro _ _ hL)) | (with_reducible refine wpC_alloc rfl _ rfl _ _ inferInstance hL ?_) | (with_reducible first | refine wpB_agg rfl _ _ _ rfl rfl hL ?_ | refine wpB_one rfl _ _ (.int _ _) rfl rfl rfl hL ?_ | refine wpB_one rfl _ _ (.slice _ _ _) rfl rfl rfl hL ?_ | refine wpB_one rfl _ _ (.bool _) rfl rfl rfl hL ?_ | refine wpB_one rfl _ _ (.pointer _) rfl rfl rfl hL ?_ | refine wpB_one rfl _ _ (.func _ _ _) rfl rfl rfl hL ?_) | (with_reducible first | refine wpH_max rfl _ _ _ _ rfl _ _ rfl rfl ?_ | refine wpH_min rfl _ _ _ _ rfl _ _ rfl rfl ?_) | ((with_reducible refine wpA_load rfl _ _ rfl _ rfl ?_); first | refine loadA hL ?_ | refine loadR hL ?_ | refine loadC hL ?_ | refine loadD ?_ | refine loadE hL ?_ | refine loadF ?_) | ((with_reducible refine wpA_index rfl _ _ _ rfl _ rfl _ rfl ?_); first | (refine indexA ?_; try rw [Int.toNat_natCast]) | refine indexC ?_) | ((with_reducible refine wpA_store rfl _ _ _ rfl _ rfl (.agg _) rfl ?_); refine storeR hL ?_; clear hL; intro _ hL) | ((with_reducible first | refine wpA_store rfl _ _ _ rfl _ rfl (.int _ _) rfl ?_ | refine wpA_store rfl _ _ _ rfl _ rfl (.slice _ _ _) rfl ?_ | refine wpA_store rfl _ _ _ rfl _ rfl (.bool _) rfl ?_ | refine wpA_store rfl _ _ _ rfl _ rfl (.pointer _) rfl ?_ | refine wpA_store rfl _ _ _ rfl _ rfl (.func _ _ _) rfl ?_); (first | refine storeA hL ?_ | refine storeO hL ?_); (clear hL; intro _ hL)) | ((with_reducible refine wpA_lit rfl _ _ _ rfl ?_); first | refine litA1 hL ?_ | refine litA2 hL ?_ | refine litA3 hL ?_ | refine litA4 hL ?_ | refine litA6 hL ?_) | ((with_reducible refine wpA_append rfl _ _ _ rfl (.slice _ _ _) rfl ?_); intro vq hvq; simp [go_sem] at hvq; subst hvq; refine appendA hL ?_; clear hL; intro _ _ _ hL; try dsimp only at hL) | ((with_reducible refine wpA_make rfl _ _ _ rfl _ rfl rfl ?_); refine makeA hL ?_))
  go_loopw [5, 11] (fun s5 s11 wr => ∃ (k : Nat) (acc : List Shp), k ≤ cts.length ∧ s11 = .int .i64 k ∧ acc = (cts.take k).flatMap (shapesC s) ∧ Holds w wr [own w.heap.size 125 11 s5 acc.length (acc.map shpC).flatten, blk b1 #[.int .i64 s.wide, .int .i64 s.cap, .int .i64 s.join] 24] [fun w => CtsAt w (.slice sa cts.length sc) vs cts])
    (fun s5 s11 wr => cts.length - (intOf s11).toNat)
  case atStart => exact ⟨0, [], by omega, rfl, by simp, hL.newOwn⟩
  case round =>
    clear hL
    obtain ⟨k, acc, hk, rfl, hacc, hL⟩ := hrel
    have hal : acc.length ≤ 900 := by rw [hacc]; exact HPre.out k
    by_cases hkt : k < cts.length
    · have hnext := take_shapes s cts k hkt
      rw [← hacc] at hnext
      have hcl := HW.out (cts.getD k default) (by rw [show cts.getD k default = cts[k] by simp [hkt]]; exact List.getElem_mem hkt)
      have hsl : (shapesC s (cts.getD k default)).length ≤ 903 := by
        have := shapesC_len s (cts.getD k default)
        unfold ctW at this
        omega
      have hget : ∃ bx ox u, sa = some ⟨bx, ox, none⟩ ∧ vs[k]? = some u ∧ wr.rangeAt bx (ox + k * 4) (ctC u (cts.getD k default)) := by
        obtain ⟨⟨a', c', he, _, _, h5⟩, _⟩ := hL.fact0
        injection he with he _ _
        subst he
        have hzl : (List.zipWith ctC vs cts).length = cts.length := by rw [List.length_zipWith, hvl, Nat.min_self]
        obtain ⟨bx, ox, e, hr⟩ := h5 k (by omega)
        obtain ⟨u, hu, hz⟩ := zip_get vs cts hvl k hkt
        rw [hz (by omega)] at hr
        exact ⟨bx, ox, u, e, hu, hr⟩
      obtain ⟨bx, ox, u, rfl, hu, hc⟩ := hget
      have hkb : (k : Int) < (cts.length : Int) := by omega
      replace hL := (hL.dup).map (χ := fun w => EdgesAt w u (cts.getD k default).edges) fun w h => h.2 k u hu
      have HN := Lib.hid hnext
      clear hnext hu hacc
      generalize cts.getD k default = c at *
      have HSc := Lib.hid (fun w hv => HSh.out w u c hv hcl)
      clear hcl
      generalize shapesC s c = SC at *
      obtain ⟨cx, cy, ces, csh⟩ := c
      unfold ctC at hc
      dsimp only at hc hL HSc
      obtain ⟨ea, ec, rfl, _⟩ := EdgesAt.parts hL.fact0
      obtain ⟨g3, c3, rfl⟩ := own_slice hL .here
      have n1 : True := trivial; have n2 : True := trivial; have n3 : True := trivial
      clear n1
      go_wp2_with (first | (go_at_call 79; (with_reducible refine (HSc.out _ hL.fact0).mono ?_); rintro e _ ⟨vsh, rfl, hb, hf⟩; replace hL := hL.callF hb hf; clear hb hf) | ((with_reducible refine wpA_append rfl _ _ _ rfl vsh rfl ?_); intro vq hvq; simp [go_sem] at hvq; subst hvq; refine appendSh hL.fact0 hL ?_; clear hL; intro ve2 _ hL) | (first | (clear hL n1; with_reducible intro b1 w1 hL) | (clear hL n2; with_reducible intro b2 w2 hL) | (clear hL n3; with_reducible intro b3 w3 hL) | (clear hL; with_reducible intro _ _ hL)) | (with_reducible refine wpC_alloc rfl _ rfl _ _ inferInstance hL ?_) | (with_reducible first | refine wpB_agg rfl _ _ _ rfl rfl hL ?_ | refine wpB_one rfl _ _ (.int _ _) rfl rfl rfl hL ?_ | refine wpB_one rfl _ _ (.slice _ _ _) rfl rfl rfl hL ?_ | refine wpB_one rfl _ _ (.bool _) rfl rfl rfl hL ?_ | refine wpB_one rfl _ _ (.pointer _) rfl rfl rfl hL ?_ | refine wpB_one rfl _ _ (.func _ _ _) rfl rfl rfl hL ?_) | (with_reducible first | refine wpH_max rfl _ _ _ _ rfl _ _ rfl rfl ?_ | refine wpH_min rfl _ _ _ _ rfl _ _ rfl rfl ?_) | ((with_reducible refine wpA_load rfl _ _ rfl _ rfl ?_); first | refine loadA hL ?_ | refine loadR hL ?_ | refine loadC hL ?_ | refine loadD ?_ | refine loadE hL ?_ | refine loadF ?_) | ((with_reducible refine wpA_index rfl _ _ _ rfl _ rfl _ rfl ?_); first | (refine indexA ?_; try rw [Int.toNat_natCast]) | refine indexC ?_) | ((with_reducible refine wpA_store rfl _ _ _ rfl _ rfl (.agg _) rfl ?_); refine storeR hL ?_; clear hL; intro _ hL) | ((with_reducible first | refine wpA_store rfl _ _ _ rfl _ rfl (.int _ _) rfl ?_ | refine wpA_store rfl _ _ _ rfl _ rfl (.slice _ _ _) rfl ?_ | refine wpA_store rfl _ _ _ rfl _ rfl (.bool _) rfl ?_ | refine wpA_store rfl _ _ _ rfl _ rfl (.pointer _) rfl ?_ | refine wpA_store rfl _ _ _ rfl _ rfl (.func _ _ _) rfl ?_); (first | refine storeA hL ?_ | refine storeO hL ?_); (clear hL; intro _ hL)) | ((with_reducible refine wpA_lit rfl _ _ _ rfl ?_); first | refine litA1 hL ?_ | refine litA2 hL ?_ | refine litA3 hL ?_ | refine litA4 hL ?_ | refine litA6 hL ?_) | ((with_reducible refine wpA_append rfl _ _ _ rfl (.slice _ _ _) rfl ?_); intro vq hvq; simp [go_sem] at hvq; subst hvq; refine appendA hL ?_; clear hL; intro _ _ _ hL; try dsimp only at hL) | ((with_reducible refine wpA_make rfl _ _ _ rfl _ rfl rfl ?_); refine makeA hL ?_))
      go_roundw
      case rel =>
        refine ⟨k + 1, acc ++ SC, by omega, by go_num, HN.out.symm, ?_⟩
        rw [List.length_append, List.map_append, List.flatten_append]
        exact ((hL.drop .here).forget).forget
      case measure => simp [intOf]; omega
    · have e : k = cts.length := by omega
      subst e
      have HA := Lib.hid (show L = acc by rw [hacc, HR.out])
      clear hacc
      obtain ⟨g, oc, rfl⟩ := own_slice hL .here
      go_wp2_with (first | (first | (clear hL n1; with_reducible intro b1 w1 hL) | (clear hL n2; with_reducible intro b2 w2 hL) | (clear hL n3; with_reducible intro b3 w3 hL) | (clear hL; with_reducible intro _ _ hL)) | (with_reducible refine wpC_alloc rfl _ rfl _ _ inferInstance hL ?_) | (with_reducible first | refine wpB_agg rfl _ _ _ rfl rfl hL ?_ | refine wpB_one rfl _ _ (.int _ _) rfl rfl rfl hL ?_ | refine wpB_one rfl _ _ (.slice _ _ _) rfl rfl rfl hL ?_ | refine wpB_one rfl _ _ (.bool _) rfl rfl rfl hL ?_ | refine wpB_one rfl _ _ (.pointer _) rfl rfl rfl hL ?_ | refine wpB_one rfl _ _ (.func _ _ _) rfl rfl rfl hL ?_) | (with_reducible first | refine wpH_max rfl _ _ _ _ rfl _ _ rfl rfl ?_ | refine wpH_min rfl _ _ _ _ rfl _ _ rfl rfl ?_) | ((with_reducible refine wpA_load rfl _ _ rfl _ rfl ?_); first | refine loadA hL ?_ | refine loadR hL ?_ | refine loadC hL ?_ | refine loadD ?_ | refine loadE hL ?_ | refine loadF ?_) | ((with_reducible refine wpA_index rfl _ _ _ rfl _ rfl _ rfl ?_); first | (refine indexA ?_; try rw [Int.toNat_natCast]) | refine indexC ?_) | ((with_reducible refine wpA_store rfl _ _ _ rfl _ rfl (.agg _) rfl ?_); refine storeR hL ?_; clear hL; intro _ hL) | ((with_reducible first | refine wpA_store rfl _ _ _ rfl _ rfl (.int _ _) rfl ?_ | refine wpA_store rfl _ _ _ rfl _ rfl (.slice _ _ _) rfl ?_ | refine wpA_store rfl _ _ _ rfl _ rfl (.bool _) rfl ?_ | refine wpA_store rfl _ _ _ rfl _ rfl (.pointer _) rfl ?_ | refine wpA_store rfl _ _ _ rfl _ rfl (.func _ _ _) rfl ?_); (first | refine storeA hL ?_ | refine storeO hL ?_); (clear hL; intro _ hL)) | ((with_reducible refine wpA_lit rfl _ _ _ rfl ?_); first | refine litA1 hL ?_ | refine litA2 hL ?_ | refine litA3 hL ?_ | refine litA4 hL ?_ | refine litA6 hL ?_) | ((with_reducible refine wpA_append rfl _ _ _ rfl (.slice _ _ _) rfl ?_); intro vq hvq; simp [go_sem] at hvq; subst hvq; refine appendA hL ?_; clear hL; intro _ _ _ hL; try dsimp only at hL) | ((with_reducible refine wpA_make rfl _ _ _ rfl _ rfl rfl ?_); refine makeA hL ?_))
      go_ret
      rw [HA.out]
      exact ⟨_, rfl, hL.below, (hL.settle .here (φ := fun w => ShpsAt w (.slice g acc.length oc) acc) fun w h => own_sliceAt h (by rw [List.length_map]) rfl (shpC_len _)).fresh⟩
end Go.Proofs.Ytfnolaoohmecbaa
