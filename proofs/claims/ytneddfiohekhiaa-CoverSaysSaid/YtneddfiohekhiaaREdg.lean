/- The document's edges: the walk. -/
import Derived.Test.YtneddfiohekhiaaRCtr
import Derived.Test.YtneddfiohekhiaaCtrM
namespace Go.Proofs.Ytneddfiohekhiaa
open Go.RowKit

def lastX (c : Ct) : Int := if c.edges.length = 0 then c.x else (endE c).x1
def lastY (c : Ct) : Int := if c.edges.length = 0 then c.y else (endE c).y1
theorem edgesC_last (c : Ct) : (lastX c = c.x ∧ lastY c = c.y ∧ edgesC c = c.edges) ∨ (¬ lastX c = c.x ∧ edgesC c = c.edges ++ [⟨lastX c, lastY c, false, 0, 0, c.x, c.y⟩]) ∨ (lastX c = c.x ∧ ¬ lastY c = c.y ∧ edgesC c = c.edges ++ [⟨lastX c, lastY c, false, 0, 0, c.x, c.y⟩]) := by
  unfold lastX lastY
  by_cases h0 : c.edges.length = 0
  · rw [if_pos h0, if_pos h0, edgesC_nil h0]
    exact .inl ⟨rfl, rfl, (List.length_eq_zero_iff.1 h0).symm⟩
  · rw [if_neg h0, if_neg h0]
    by_cases h1 : (endE c).x1 = c.x
    · by_cases h2 : (endE c).y1 = c.y
      · exact .inl ⟨h1, h2, edgesC_shut h0 ⟨h1, h2⟩⟩
      · exact .inr (.inr ⟨h1, h2, edgesC_open h0 (fun h => h2 h.2)⟩)
    · exact .inr (.inl ⟨h1, edgesC_open h0 (fun h => h1 h.1)⟩)
/-- a contour in its list: its edges and its cells -/
def CtHere (w : World) (b o : Nat) (u : Value) (x y : Int) (es : List Edg) (sh : Bool) : Prop := EdgesAt w u es ∧ w.rangeAt b o [.int .i64 x, .int .i64 y, u, .bool sh]
theorem CtHere.cells {w : World} {b o : Nat} {u : Value} {x y : Int} {es : List Edg} {sh : Bool} (h : CtHere w b o u x y es sh) : w.cell? ⟨b, o, none⟩ = some (.int .i64 x) ∧ w.cell? ⟨b, o + 1, none⟩ = some (.int .i64 y) ∧ w.cell? ⟨b, o + 2, none⟩ = some u ∧ w.rangeAt b o [.int .i64 x, .int .i64 y, u, .bool sh] :=
  ⟨h.2 0 _ rfl, h.2 1 _ rfl, h.2 2 _ rfl, h.2⟩
theorem CtHere.edges {w : World} {b o : Nat} {u : Value} {x y : Int} {es : List Edg} {sh : Bool} (h : CtHere w b o u x y es sh) : EdgesAt w u es := h.1
set_option maxRecDepth 100000 in
set_option maxHeartbeats 8000000 in
theorem rLast_calls (w : World) (u : Value) (c : Ct) (hu : EdgesAt w u c.edges) : Calls Try.prog 64 #[.agg #[.int .i64 c.x, .int .i64 c.y, u, .bool c.shut]] w fun e w' => e = .returned (.tuple #[.int .i64 (lastX c), .int .i64 (lastY c)]) ∧ Below w.heap.size w w' := by
  obtain ⟨cx, cy, ces, csh⟩ := c
  dsimp only at hu ⊢
  obtain ⟨ea, ec, rfl, hec1, hec2, hel⟩ := EdgesAt.parts hu
  clear hu
  unfold maxLen at hec2
  have hL := Holds.start w
  by_cases h0 : ces.length = 0
  · have HX := Lib.hid (show lastX ⟨cx, cy, ces, csh⟩ = cx by unfold lastX; rw [if_pos h0])
    have HY := Lib.hid (show lastY ⟨cx, cy, ces, csh⟩ = cy by unfold lastY; rw [if_pos h0])
    generalize lastX ⟨cx, cy, ces, csh⟩ = X at *
    generalize lastY ⟨cx, cy, ces, csh⟩ = Y at *
    rw [h0]
    clear hel
    go_enter Try.func64, Try.ntmps64
    have n1 : True := trivial
    go_wp2_with (first | (first | (clear hL n1; with_reducible intro b1 w1 hL) | (clear hL; with_reducible intro _ _ hL)) | (with_reducible refine wpC_alloc rfl _ rfl _ _ inferInstance hL ?_) | (with_reducible first | refine wpB_agg rfl _ _ _ rfl rfl hL ?_ | refine wpB_one rfl _ _ (.int _ _) rfl rfl rfl hL ?_ | refine wpB_one rfl _ _ (.slice _ _ _) rfl rfl rfl hL ?_ | refine wpB_one rfl _ _ (.bool _) rfl rfl rfl hL ?_ | refine wpB_one rfl _ _ (.pointer _) rfl rfl rfl hL ?_ | refine wpB_one rfl _ _ (.func _ _ _) rfl rfl rfl hL ?_) | (with_reducible first | refine wpH_max rfl _ _ _ _ rfl _ _ rfl rfl ?_ | refine wpH_min rfl _ _ _ _ rfl _ _ rfl rfl ?_) | ((with_reducible refine wpA_load rfl _ _ rfl _ rfl ?_); first | refine loadA hL ?_ | refine loadR hL ?_ | refine loadC hL ?_ | refine loadD ?_ | refine loadE hL ?_ | refine loadF ?_) | ((with_reducible refine wpA_index rfl _ _ _ rfl _ rfl _ rfl ?_); first | (refine indexA ?_; try rw [Int.toNat_natCast]) | refine indexC ?_) | ((with_reducible refine wpA_store rfl _ _ _ rfl _ rfl (.agg _) rfl ?_); refine storeR hL ?_; clear hL; intro _ hL) | ((with_reducible first | refine wpA_store rfl _ _ _ rfl _ rfl (.int _ _) rfl ?_ | refine wpA_store rfl _ _ _ rfl _ rfl (.slice _ _ _) rfl ?_ | refine wpA_store rfl _ _ _ rfl _ rfl (.bool _) rfl ?_ | refine wpA_store rfl _ _ _ rfl _ rfl (.pointer _) rfl ?_ | refine wpA_store rfl _ _ _ rfl _ rfl (.func _ _ _) rfl ?_); (first | refine storeA hL ?_ | refine storeO hL ?_); (clear hL; intro _ hL)) | ((with_reducible refine wpA_lit rfl _ _ _ rfl ?_); first | refine litA1 hL ?_ | refine litA2 hL ?_) | ((with_reducible refine wpA_append rfl _ _ _ rfl (.slice _ _ _) rfl ?_); intro vq hvq; simp [go_sem] at hvq; subst hvq; refine appendA hL ?_; clear hL; intro _ _ _ hL; try dsimp only at hL) | ((with_reducible refine wpA_make rfl _ _ _ rfl _ rfl rfl ?_); refine makeA hL ?_))
    replace hL := hL.drew
    have hS : (fun w' : World => w'.cell? ⟨b1, 0, none⟩ = some (.int .i64 cx) ∧ w'.cell? ⟨b1, 1, none⟩ = some (.int .i64 cy)) _ := ⟨(hL.cell .here).trans rfl, (hL.cell .here).trans rfl⟩
    refine wpH_begin (by kernel_rfl) (fun w' : World => w'.cell? ⟨b1, 0, none⟩ = some (.int .i64 cx) ∧ w'.cell? ⟨b1, 1, none⟩ = some (.int .i64 cy)) ?_
    refine stH (i := 0) (.pointer (some ⟨b1, 0, none⟩)) hS ?_ ?_; (· exact fun w' _ => (by go_simp)); simp only [Act.put, List.setIfInBounds_toArray, List.set_cons_zero, List.set_cons_succ]
    refine stH (i := 1) (.int .i64 cx) hS ?_ ?_; (· exact fun w' hw => run_loadOp _ _ rfl _ rfl _ (load_cell hw.1)); simp only [Act.put, List.setIfInBounds_toArray, List.set_cons_zero, List.set_cons_succ]
    refine stH (i := 2) (.pointer (some ⟨b1, 1, none⟩)) hS ?_ ?_; (· exact fun w' _ => (by go_simp)); simp only [Act.put, List.setIfInBounds_toArray, List.set_cons_zero, List.set_cons_succ]
    refine stH (i := 3) (.int .i64 cy) hS ?_ ?_; (· exact fun w' hw => run_loadOp _ _ rfl _ rfl _ (load_cell hw.2)); simp only [Act.put, List.setIfInBounds_toArray, List.set_cons_zero, List.set_cons_succ]
    refine stH (i := 4) (.int .i64 cx) hS ?_ ?_; (· exact fun w' _ => (by go_simp)); simp only [Act.put, List.setIfInBounds_toArray, List.set_cons_zero, List.set_cons_succ]
    refine stH (i := 5) (.int .i64 cy) hS ?_ ?_; (· exact fun w' _ => (by go_simp)); simp only [Act.put, List.setIfInBounds_toArray, List.set_cons_zero, List.set_cons_succ]
    refine wpAnyH_done (by kernel_rfl) ?_ _
    clear hS
    go_wp2
    go_ret2
    exact ⟨by rw [HX.out, HY.out]; rfl, hL.below⟩
  · obtain ⟨m, hm⟩ : ∃ m, ces.length = m + 1 := ⟨ces.length - 1, by omega⟩
    obtain ⟨be, oe, rfl, hr⟩ := hel m (by omega)
    have hE : endE ⟨cx, cy, ces, csh⟩ = ces.getD m default := by unfold endE; dsimp only; rw [hm]; rfl
    have HX := Lib.hid (show lastX ⟨cx, cy, ces, csh⟩ = (ces.getD m default).x1 by unfold lastX; rw [if_neg h0, hE])
    have HY := Lib.hid (show lastY ⟨cx, cy, ces, csh⟩ = (ces.getD m default).y1 by unfold lastY; rw [if_neg h0, hE])
    clear hE hel
    generalize lastX ⟨cx, cy, ces, csh⟩ = X at *
    generalize lastY ⟨cx, cy, ces, csh⟩ = Y at *
    generalize ces.getD m default = ed at *
    obtain ⟨ex0, ey0, eb, ecx, ecy, ex1, ey1⟩ := ed
    unfold edgeC at hr
    dsimp only at hr HX HY
    rw [hm] at hec1 ⊢
    clear hm h0
    go_enter Try.func64, Try.ntmps64
    have n1 : True := trivial; have n2 : True := trivial
    go_wp2_with (first | (first | (clear hL n1; with_reducible intro b1 w1 hL) | (clear hL n2; with_reducible intro b2 w2 hL) | (clear hL; with_reducible intro _ _ hL)) | (with_reducible refine wpC_alloc rfl _ rfl _ _ inferInstance hL ?_) | (with_reducible first | refine wpB_agg rfl _ _ _ rfl rfl hL ?_ | refine wpB_one rfl _ _ (.int _ _) rfl rfl rfl hL ?_ | refine wpB_one rfl _ _ (.slice _ _ _) rfl rfl rfl hL ?_ | refine wpB_one rfl _ _ (.bool _) rfl rfl rfl hL ?_ | refine wpB_one rfl _ _ (.pointer _) rfl rfl rfl hL ?_ | refine wpB_one rfl _ _ (.func _ _ _) rfl rfl rfl hL ?_) | (with_reducible first | refine wpH_max rfl _ _ _ _ rfl _ _ rfl rfl ?_ | refine wpH_min rfl _ _ _ _ rfl _ _ rfl rfl ?_) | ((with_reducible refine wpA_load rfl _ _ rfl _ rfl ?_); first | refine loadA hL ?_ | refine loadR hL ?_ | refine loadC hL ?_ | refine loadD ?_ | refine loadE hL ?_ | refine loadF ?_) | ((with_reducible refine wpA_index rfl _ _ _ rfl _ rfl _ rfl ?_); first | (refine indexA ?_; try rw [Int.toNat_natCast]) | refine indexC ?_) | ((with_reducible refine wpA_store rfl _ _ _ rfl _ rfl (.agg _) rfl ?_); refine storeR hL ?_; clear hL; intro _ hL) | ((with_reducible first | refine wpA_store rfl _ _ _ rfl _ rfl (.int _ _) rfl ?_ | refine wpA_store rfl _ _ _ rfl _ rfl (.slice _ _ _) rfl ?_ | refine wpA_store rfl _ _ _ rfl _ rfl (.bool _) rfl ?_ | refine wpA_store rfl _ _ _ rfl _ rfl (.pointer _) rfl ?_ | refine wpA_store rfl _ _ _ rfl _ rfl (.func _ _ _) rfl ?_); (first | refine storeA hL ?_ | refine storeO hL ?_); (clear hL; intro _ hL)) | ((with_reducible refine wpA_lit rfl _ _ _ rfl ?_); first | refine litA1 hL ?_ | refine litA2 hL ?_) | ((with_reducible refine wpA_append rfl _ _ _ rfl (.slice _ _ _) rfl ?_); intro vq hvq; simp [go_sem] at hvq; subst hvq; refine appendA hL ?_; clear hL; intro _ _ _ hL; try dsimp only at hL) | ((with_reducible refine wpA_make rfl _ _ _ rfl _ rfl rfl ?_); refine makeA hL ?_))
    replace hL := hL.drew
    have hS : (fun w' : World => w'.cell? ⟨b2, 5, none⟩ = some (.int .i64 ex1) ∧ w'.cell? ⟨b2, 6, none⟩ = some (.int .i64 ey1)) _ := ⟨(hL.cell .here).trans rfl, (hL.cell .here).trans rfl⟩
    refine wpH_begin (by kernel_rfl) (fun w' : World => w'.cell? ⟨b2, 5, none⟩ = some (.int .i64 ex1) ∧ w'.cell? ⟨b2, 6, none⟩ = some (.int .i64 ey1)) ?_
    refine stH (i := 0) (.pointer (some ⟨b2, 5, none⟩)) hS ?_ ?_; (· exact fun w' _ => (by go_simp)); simp only [Act.put, List.setIfInBounds_toArray, List.set_cons_zero, List.set_cons_succ]
    refine stH (i := 1) (.int .i64 ex1) hS ?_ ?_; (· exact fun w' hw => run_loadOp _ _ rfl _ rfl _ (load_cell hw.1)); simp only [Act.put, List.setIfInBounds_toArray, List.set_cons_zero, List.set_cons_succ]
    refine stH (i := 2) (.pointer (some ⟨b2, 6, none⟩)) hS ?_ ?_; (· exact fun w' _ => (by go_simp)); simp only [Act.put, List.setIfInBounds_toArray, List.set_cons_zero, List.set_cons_succ]
    refine stH (i := 3) (.int .i64 ey1) hS ?_ ?_; (· exact fun w' hw => run_loadOp _ _ rfl _ rfl _ (load_cell hw.2)); simp only [Act.put, List.setIfInBounds_toArray, List.set_cons_zero, List.set_cons_succ]
    refine stH (i := 4) (.int .i64 ex1) hS ?_ ?_; (· exact fun w' _ => (by go_simp)); simp only [Act.put, List.setIfInBounds_toArray, List.set_cons_zero, List.set_cons_succ]
    refine stH (i := 5) (.int .i64 ey1) hS ?_ ?_; (· exact fun w' _ => (by go_simp)); simp only [Act.put, List.setIfInBounds_toArray, List.set_cons_zero, List.set_cons_succ]
    refine wpAnyH_done (by kernel_rfl) ?_ _
    clear hS
    go_wp2
    go_ret2
    exact ⟨by rw [HX.out, HY.out]; rfl, hL.below⟩
set_option maxRecDepth 100000 in
set_option maxHeartbeats 8000000 in
theorem rEdges_calls (w : World) (v : Value) (l : List Sg) (hv : SegsAt w v l) : Calls Try.prog 43 #[v] w (EdgesOut (edgesS l) w) := by
  have Hv := Lib.hid hv
  obtain ⟨a, cap, rfl, hlc, hcm, hel⟩ := hv.parts
  clear hv hel
  unfold maxLen at hcm
  have hL := Holds.start w
  have HR := Lib.hid (show edgesS l = ((contoursS l).take (contoursS l).length).flatMap edgesC by rw [List.take_length]; rfl)
  have hW := contours_weight l
  have hC := contours_len l
  generalize edgesS l = L at *
  have Hc : ∀ w' : World, Below w.heap.size w w' → Calls Try.prog 63 #[.slice a l.length cap] w' (CtsOut (contoursS l) w') := fun w' hb => rContours_calls w' _ l (SliceAt.below Hv.out hb)
  have HC := Lib.hid Hc
  clear Hc
  generalize contoursS l = cts at *
  have HW := Lib.hid hW
  clear hW
  go_enter Try.func43, Try.ntmps43
  go_wp2_with (first | (go_at_call 63; (with_reducible refine (HC.out _ hL.below).mono ?_); rintro e _ ⟨vc, vs, rfl, hvl, hb, hf⟩; obtain ⟨sa, sc, rfl⟩ : ∃ sa sc, vc = .slice sa cts.length sc := (by obtain ⟨h1, _⟩ := hf.now; obtain ⟨a, c, h, _⟩ := h1; refine ⟨a, c, ?_⟩; rw [h, List.length_zipWith, hvl, Nat.min_self]); replace hL := hL.callF hb hf; clear hb hf) | ((clear hL; with_reducible intro _ _ hL)) | (with_reducible refine wpC_alloc rfl _ rfl _ _ inferInstance hL ?_) | (with_reducible first | refine wpB_agg rfl _ _ _ rfl rfl hL ?_ | refine wpB_one rfl _ _ (.int _ _) rfl rfl rfl hL ?_ | refine wpB_one rfl _ _ (.slice _ _ _) rfl rfl rfl hL ?_ | refine wpB_one rfl _ _ (.bool _) rfl rfl rfl hL ?_ | refine wpB_one rfl _ _ (.pointer _) rfl rfl rfl hL ?_ | refine wpB_one rfl _ _ (.func _ _ _) rfl rfl rfl hL ?_) | (with_reducible first | refine wpH_max rfl _ _ _ _ rfl _ _ rfl rfl ?_ | refine wpH_min rfl _ _ _ _ rfl _ _ rfl rfl ?_) | ((with_reducible refine wpA_load rfl _ _ rfl _ rfl ?_); first | refine loadA hL ?_ | refine loadR hL ?_ | refine loadC hL ?_ | refine loadD ?_ | refine loadE hL ?_ | refine loadF ?_) | ((with_reducible refine wpA_index rfl _ _ _ rfl _ rfl _ rfl ?_); first | (refine indexA ?_; try rw [Int.toNat_natCast]) | refine indexC ?_) | ((with_reducible refine wpA_store rfl _ _ _ rfl _ rfl (.agg _) rfl ?_); refine storeR hL ?_; clear hL; intro _ hL) | ((with_reducible first | refine wpA_store rfl _ _ _ rfl _ rfl (.int _ _) rfl ?_ | refine wpA_store rfl _ _ _ rfl _ rfl (.slice _ _ _) rfl ?_ | refine wpA_store rfl _ _ _ rfl _ rfl (.bool _) rfl ?_ | refine wpA_store rfl _ _ _ rfl _ rfl (.pointer _) rfl ?_ | refine wpA_store rfl _ _ _ rfl _ rfl (.func _ _ _) rfl ?_); (first | refine storeA hL ?_ | refine storeO hL ?_); (clear hL; intro _ hL)) | ((with_reducible refine wpA_lit rfl _ _ _ rfl ?_); first | refine litA1 hL ?_ | refine litA2 hL ?_) | ((with_reducible refine wpA_append rfl _ _ _ rfl (.slice _ _ _) rfl ?_); intro vq hvq; simp [go_sem] at hvq; subst hvq; refine appendA hL ?_; clear hL; intro _ _ _ hL; try dsimp only at hL) | ((with_reducible refine wpA_make rfl _ _ _ rfl _ rfl rfl ?_); refine makeA hL ?_))
  go_loopw [3, 5] (fun s3 s5 wr => ∃ (k : Nat) (acc : List Edg), k ≤ cts.length ∧ s5 = .int .i64 k ∧ acc = (cts.take k).flatMap edgesC ∧ Holds w wr [own w.heap.size 47 7 s3 acc.length (acc.map edgeC).flatten] [fun w => CtsAt w (.slice sa cts.length sc) vs cts])
    (fun s3 s5 wr => cts.length - (intOf s5).toNat)
  case atStart => exact ⟨0, [], by omega, rfl, by simp, hL.newOwn⟩
  case round =>
    clear hL
    obtain ⟨k, acc, hk, rfl, hacc, hL⟩ := hrel
    by_cases hkt : k < cts.length
    · have hwt := Nat.le_trans (take_weight cts k hkt) HW.out
      rw [← hacc] at hwt
      have hnext := take_flat cts k hkt
      rw [← hacc] at hnext
      have hget : ∃ bx ox u, sa = some ⟨bx, ox, none⟩ ∧ vs[k]? = some u ∧ wr.rangeAt bx (ox + k * 4) (ctC u (cts.getD k default)) := by
        obtain ⟨⟨a', c', he, _, _, h5⟩, _⟩ := hL.fact0
        injection he with he _ _
        subst he
        have hzl : (List.zipWith ctC vs cts).length = cts.length := by rw [List.length_zipWith, hvl, Nat.min_self]
        obtain ⟨bx, ox, e, hr⟩ := h5 k (by omega)
        obtain ⟨u, hu, hz⟩ := zip_get vs cts hvl k hkt
        rw [hz (by omega)] at hr
        exact ⟨bx, ox, u, e, hu, hr⟩
      obtain ⟨bx, ox, u, rfl, hu, hc⟩ := hget
      have hkb : (k : Int) < (cts.length : Int) := by omega
      replace hL := (hL.dup).map (χ := fun w => CtHere w bx (ox + k * 4) u (cts.getD k default).x (cts.getD k default).y (cts.getD k default).edges (cts.getD k default).shut) fun w h => by
        refine ⟨h.2 k u hu, ?_⟩
        obtain ⟨⟨a', c', he, _, _, h5⟩, _⟩ := h
        injection he with he _ _
        subst he
        have hzl : (List.zipWith ctC vs cts).length = cts.length := by rw [List.length_zipWith, hvl, Nat.min_self]
        obtain ⟨b', o', e, hr⟩ := h5 k (by omega)
        cases e
        obtain ⟨u', hu', hz⟩ := zip_get vs cts hvl k hkt
        rw [hz (by omega)] at hr
        have e1 : u' = u := by rw [hu] at hu'; injection hu' with h; exact h.symm
        subst e1
        exact hr
      have HN := Lib.hid hnext
      have HACC := Lib.hid hacc
      clear hnext hu hacc hc
      have hls := fun w' h => rLast_calls w' u (cts.getD k default) h
      have hcs := edgesC_last (cts.getD k default)
      generalize lastX (cts.getD k default) = lx at *
      generalize lastY (cts.getD k default) = ly at *
      generalize edgesC (cts.getD k default) = NE at *
      generalize cts.getD k default = c at *
      obtain ⟨cx, cy, ces, csh⟩ := c
      unfold ctW at hwt
      dsimp only at hwt hL hls hcs
      have HLs := Lib.hid hls
      clear hls
      obtain ⟨ea, ec, rfl, hec1, hec2, _⟩ := EdgesAt.parts hL.fact0.1
      unfold maxLen at hec2
      obtain ⟨g3, c3, rfl⟩ := own_slice hL .here
      obtain ⟨_, _, _, _⟩ := CtHere.cells hL.fact0
      rcases hcs with ⟨hx, hy, hE⟩ | ⟨hx, hE⟩ | ⟨hx, hy, hE⟩
      · subst hx; subst hy
        have HE := Lib.hid hE
        clear hE
        have n1 : True := trivial; have n2 : True := trivial; have n3 : True := trivial
        go_wp2_with (first | ((with_reducible refine wpA_append rfl _ _ _ rfl (.slice _ _ _) rfl ?_); intro vq hvq; simp [go_sem] at hvq; subst hvq; refine appendE hL.fact0.1 hL ?_; clear hL; intro ve2 _ hL; obtain ⟨_, _, _, _⟩ := CtHere.cells hL.fact0) | (go_at_call 64; (with_reducible refine (HLs.out _ (CtHere.edges hL.fact0)).mono ?_); rintro e _ ⟨rfl, hb⟩; replace hL := hL.call hb; clear hb; obtain ⟨_, _, _, _⟩ := CtHere.cells hL.fact0) | (first | (clear hL n1; with_reducible intro b1 w1 hL) | (clear hL n2; with_reducible intro b2 w2 hL) | (clear hL n3; with_reducible intro b3 w3 hL) | (clear hL; with_reducible intro _ _ hL)) | (with_reducible refine wpC_alloc rfl _ rfl _ _ inferInstance hL ?_) | (with_reducible first | refine wpB_agg rfl _ _ _ rfl rfl hL ?_ | refine wpB_one rfl _ _ (.int _ _) rfl rfl rfl hL ?_ | refine wpB_one rfl _ _ (.slice _ _ _) rfl rfl rfl hL ?_ | refine wpB_one rfl _ _ (.bool _) rfl rfl rfl hL ?_ | refine wpB_one rfl _ _ (.pointer _) rfl rfl rfl hL ?_ | refine wpB_one rfl _ _ (.func _ _ _) rfl rfl rfl hL ?_) | (with_reducible first | refine wpH_max rfl _ _ _ _ rfl _ _ rfl rfl ?_ | refine wpH_min rfl _ _ _ _ rfl _ _ rfl rfl ?_) | ((with_reducible refine wpA_load rfl _ _ rfl _ rfl ?_); first | refine loadA hL ?_ | refine loadR hL ?_ | refine loadC hL ?_ | refine loadD ?_ | refine loadE hL ?_ | refine loadF ?_) | ((with_reducible refine wpA_index rfl _ _ _ rfl _ rfl _ rfl ?_); first | (refine indexA ?_; try rw [Int.toNat_natCast]) | refine indexC ?_) | ((with_reducible refine wpA_store rfl _ _ _ rfl _ rfl (.agg _) rfl ?_); refine storeR hL ?_; clear hL; intro _ hL) | ((with_reducible first | refine wpA_store rfl _ _ _ rfl _ rfl (.int _ _) rfl ?_ | refine wpA_store rfl _ _ _ rfl _ rfl (.slice _ _ _) rfl ?_ | refine wpA_store rfl _ _ _ rfl _ rfl (.bool _) rfl ?_ | refine wpA_store rfl _ _ _ rfl _ rfl (.pointer _) rfl ?_ | refine wpA_store rfl _ _ _ rfl _ rfl (.func _ _ _) rfl ?_); (first | refine storeA hL ?_ | refine storeO hL ?_); (clear hL; intro _ hL)) | ((with_reducible refine wpA_lit rfl _ _ _ rfl ?_); first | refine litA1 hL ?_ | refine litA2 hL ?_) | ((with_reducible refine wpA_append rfl _ _ _ rfl (.slice _ _ _) rfl ?_); intro vq hvq; simp [go_sem] at hvq; subst hvq; refine appendA hL ?_; clear hL; intro _ _ _ hL; try dsimp only at hL) | ((with_reducible refine wpA_make rfl _ _ _ rfl _ rfl rfl ?_); refine makeA hL ?_))
        go_roundw
        case rel =>
          refine ⟨k + 1, acc ++ ces, by omega, by go_num, by rw [HN.out, HE.out], ?_⟩
          rw [List.length_append, List.map_append, List.flatten_append]
          exact hL.forget
        case measure => simp [intOf]; omega
      · have HE := Lib.hid hE
        clear hE
        have n1 : True := trivial; have n2 : True := trivial; have n3 : True := trivial
        go_wp2_with (first | ((with_reducible refine wpA_append rfl _ _ _ rfl (.slice _ _ _) rfl ?_); intro vq hvq; simp [go_sem] at hvq; subst hvq; refine appendE hL.fact0.1 hL ?_; clear hL; intro ve2 _ hL; obtain ⟨_, _, _, _⟩ := CtHere.cells hL.fact0) | (go_at_call 64; (with_reducible refine (HLs.out _ (CtHere.edges hL.fact0)).mono ?_); rintro e _ ⟨rfl, hb⟩; replace hL := hL.call hb; clear hb; obtain ⟨_, _, _, _⟩ := CtHere.cells hL.fact0) | (first | (clear hL n1; with_reducible intro b1 w1 hL) | (clear hL n2; with_reducible intro b2 w2 hL) | (clear hL n3; with_reducible intro b3 w3 hL) | (clear hL; with_reducible intro _ _ hL)) | (with_reducible refine wpC_alloc rfl _ rfl _ _ inferInstance hL ?_) | (with_reducible first | refine wpB_agg rfl _ _ _ rfl rfl hL ?_ | refine wpB_one rfl _ _ (.int _ _) rfl rfl rfl hL ?_ | refine wpB_one rfl _ _ (.slice _ _ _) rfl rfl rfl hL ?_ | refine wpB_one rfl _ _ (.bool _) rfl rfl rfl hL ?_ | refine wpB_one rfl _ _ (.pointer _) rfl rfl rfl hL ?_ | refine wpB_one rfl _ _ (.func _ _ _) rfl rfl rfl hL ?_) | (with_reducible first | refine wpH_max rfl _ _ _ _ rfl _ _ rfl rfl ?_ | refine wpH_min rfl _ _ _ _ rfl _ _ rfl rfl ?_) | ((with_reducible refine wpA_load rfl _ _ rfl _ rfl ?_); first | refine loadA hL ?_ | refine loadR hL ?_ | refine loadC hL ?_ | refine loadD ?_ | refine loadE hL ?_ | refine loadF ?_) | ((with_reducible refine wpA_index rfl _ _ _ rfl _ rfl _ rfl ?_); first | (refine indexA ?_; try rw [Int.toNat_natCast]) | refine indexC ?_) | ((with_reducible refine wpA_store rfl _ _ _ rfl _ rfl (.agg _) rfl ?_); refine storeR hL ?_; clear hL; intro _ hL) | ((with_reducible first | refine wpA_store rfl _ _ _ rfl _ rfl (.int _ _) rfl ?_ | refine wpA_store rfl _ _ _ rfl _ rfl (.slice _ _ _) rfl ?_ | refine wpA_store rfl _ _ _ rfl _ rfl (.bool _) rfl ?_ | refine wpA_store rfl _ _ _ rfl _ rfl (.pointer _) rfl ?_ | refine wpA_store rfl _ _ _ rfl _ rfl (.func _ _ _) rfl ?_); (first | refine storeA hL ?_ | refine storeO hL ?_); (clear hL; intro _ hL)) | ((with_reducible refine wpA_lit rfl _ _ _ rfl ?_); first | refine litA1 hL ?_ | refine litA2 hL ?_) | ((with_reducible refine wpA_append rfl _ _ _ rfl (.slice _ _ _) rfl ?_); intro vq hvq; simp [go_sem] at hvq; subst hvq; refine appendA hL ?_; clear hL; intro _ _ _ hL; try dsimp only at hL) | ((with_reducible refine wpA_make rfl _ _ _ rfl _ rfl rfl ?_); refine makeA hL ?_))
        replace hL := hL.drew
        obtain ⟨g4, c4, rfl⟩ := own_slice hL .here
        have hS := (show (fun w' : World => w'.cell? ⟨bx, ox + k * 4, none⟩ = some (.int .i64 cx) ∧ w'.cell? ⟨bx, ox + k * 4 + 1, none⟩ = some (.int .i64 cy)) _ from ⟨(CtHere.cells hL.fact0).1, (CtHere.cells hL.fact0).2.1⟩)
        refine wpH_begin (by kernel_rfl) (fun w' : World => w'.cell? ⟨bx, ox + k * 4, none⟩ = some (.int .i64 cx) ∧ w'.cell? ⟨bx, ox + k * 4 + 1, none⟩ = some (.int .i64 cy)) ?_
        refine stH (i := 0) (.slice g4 (acc.length + ces.length) c4) hS ?_ ?_; (· exact fun w' _ => (by go_simp)); simp only [Act.put, List.setIfInBounds_toArray, List.set_cons_zero, List.set_cons_succ]
        refine stH (i := 1) (.int .i64 lx) hS ?_ ?_; (· exact fun w' _ => (by go_simp)); simp only [Act.put, List.setIfInBounds_toArray, List.set_cons_zero, List.set_cons_succ]
        refine stH (i := 2) (.int .i64 ly) hS ?_ ?_; (· exact fun w' _ => (by go_simp)); simp only [Act.put, List.setIfInBounds_toArray, List.set_cons_zero, List.set_cons_succ]
        refine stH (i := 3) (.slice (some ⟨bx, ox, none⟩) cts.length sc) hS ?_ ?_; (· exact fun w' _ => (by go_simp)); simp only [Act.put, List.setIfInBounds_toArray, List.set_cons_zero, List.set_cons_succ]
        refine stH (i := 4) (.int .i64 (k : Int)) hS ?_ ?_; (· exact fun w' _ => (by go_simp)); simp only [Act.put, List.setIfInBounds_toArray, List.set_cons_zero, List.set_cons_succ]
        refine stH (i := 5) (.pointer (some ⟨bx, ox + k * 4, none⟩)) hS ?_ ?_; (· exact fun w' _ => (by go_simp)); simp only [Act.put, List.setIfInBounds_toArray, List.set_cons_zero, List.set_cons_succ]
        refine stH (i := 6) (.pointer (some ⟨bx, ox + k * 4, none⟩)) hS ?_ ?_; (· exact fun w' _ => (by go_simp)); simp only [Act.put, List.setIfInBounds_toArray, List.set_cons_zero, List.set_cons_succ]
        refine stH (i := 7) (.int .i64 cx) hS ?_ ?_; (· exact fun w' hw => run_loadOp _ _ rfl _ rfl _ (load_cell hw.1)); simp only [Act.put, List.setIfInBounds_toArray, List.set_cons_zero, List.set_cons_succ]
        refine stH (i := 8) (.slice (some ⟨bx, ox, none⟩) cts.length sc) hS ?_ ?_; (· exact fun w' _ => (by go_simp)); simp only [Act.put, List.setIfInBounds_toArray, List.set_cons_zero, List.set_cons_succ]
        refine stH (i := 9) (.int .i64 (k : Int)) hS ?_ ?_; (· exact fun w' _ => (by go_simp)); simp only [Act.put, List.setIfInBounds_toArray, List.set_cons_zero, List.set_cons_succ]
        refine stH (i := 10) (.pointer (some ⟨bx, ox + k * 4, none⟩)) hS ?_ ?_; (· exact fun w' _ => (by go_simp)); simp only [Act.put, List.setIfInBounds_toArray, List.set_cons_zero, List.set_cons_succ]
        refine stH (i := 11) (.pointer (some ⟨bx, ox + k * 4 + 1, none⟩)) hS ?_ ?_; (· exact fun w' _ => (by go_simp)); simp only [Act.put, List.setIfInBounds_toArray, List.set_cons_zero, List.set_cons_succ]
        refine stH (i := 12) (.int .i64 cy) hS ?_ ?_; (· exact fun w' hw => run_loadOp _ _ rfl _ rfl _ (load_cell hw.2)); simp only [Act.put, List.setIfInBounds_toArray, List.set_cons_zero, List.set_cons_succ]
        refine stH (i := 13) (.agg #[.int .i64 lx, .int .i64 ly, .bool false, .int .i64 0, .int .i64 0, .int .i64 cx, .int .i64 cy]) hS ?_ ?_; (· exact fun w' _ => (by go_simp)); simp only [Act.put, List.setIfInBounds_toArray, List.set_cons_zero, List.set_cons_succ]
        clear hS
        refine wpH_one (i := 14) (by kernel_rfl) (wpOp_of (by simp only [List.getElem?_toArray, List.getElem?_cons_zero, List.getElem?_cons_succ]; rfl) ?_)
        refine st_lit rfl _ _ _ rfl (litA1 hL ?_)
        clear hL
        intro b7 w7 hL
        have hS := (show (fun w' : World => w'.cell? ⟨bx, ox + k * 4, none⟩ = some (.int .i64 cx) ∧ w'.cell? ⟨bx, ox + k * 4 + 1, none⟩ = some (.int .i64 cy)) _ from ⟨(CtHere.cells hL.fact0).1, (CtHere.cells hL.fact0).2.1⟩)
        refine ⟨hS, ?_⟩
        clear hS
        simp only [Act.put, List.setIfInBounds_toArray, List.set_cons_zero, List.set_cons_succ]
        refine wpH_one (i := 15) (by kernel_rfl) (wpOp_of (by simp only [List.getElem?_toArray, List.getElem?_cons_zero, List.getElem?_cons_succ]; rfl) ?_)
        refine st_append rfl _ _ _ rfl (.slice g4 (acc.length + ces.length) c4) (.slice (some ⟨b7, 0, none⟩) 1 1) rfl rfl (appendA hL ?_)
        clear hL
        intro ng ncap w8 hL
        have hS := (show (fun w' : World => w'.cell? ⟨bx, ox + k * 4, none⟩ = some (.int .i64 cx) ∧ w'.cell? ⟨bx, ox + k * 4 + 1, none⟩ = some (.int .i64 cy)) _ from ⟨(CtHere.cells hL.fact0).1, (CtHere.cells hL.fact0).2.1⟩)
        refine ⟨hS, ?_⟩
        simp only [Act.put, List.setIfInBounds_toArray, List.set_cons_zero, List.set_cons_succ]
        refine stH (i := 16) (.slice (some ⟨ng, 0, none⟩) (acc.length + ces.length + 1) ncap) hS ?_ ?_; (· exact fun w' _ => (by go_simp)); simp only [Act.put, List.setIfInBounds_toArray, List.set_cons_zero, List.set_cons_succ]
        refine wpAnyH_done (by kernel_rfl) ?_ _
        clear hS
        go_wp2
        go_roundw
        case rel =>
          refine ⟨k + 1, acc ++ (ces ++ [⟨lx, ly, false, 0, 0, cx, cy⟩]), by omega, by go_num, by rw [HN.out, HE.out], ?_⟩
          have hL2 := hL.forget
          rw [List.length_append, List.length_append, List.map_append, List.flatten_append, List.map_append, List.flatten_append, ← List.append_assoc, ← Nat.add_assoc]
          exact hL2
        case measure => simp [intOf]; omega
      · subst hx
        have HE := Lib.hid hE
        clear hE
        have n1 : True := trivial; have n2 : True := trivial; have n3 : True := trivial
        go_wp2_with (first | ((with_reducible refine wpA_append rfl _ _ _ rfl (.slice _ _ _) rfl ?_); intro vq hvq; simp [go_sem] at hvq; subst hvq; refine appendE hL.fact0.1 hL ?_; clear hL; intro ve2 _ hL; obtain ⟨_, _, _, _⟩ := CtHere.cells hL.fact0) | (go_at_call 64; (with_reducible refine (HLs.out _ (CtHere.edges hL.fact0)).mono ?_); rintro e _ ⟨rfl, hb⟩; replace hL := hL.call hb; clear hb; obtain ⟨_, _, _, _⟩ := CtHere.cells hL.fact0) | (first | (clear hL n1; with_reducible intro b1 w1 hL) | (clear hL n2; with_reducible intro b2 w2 hL) | (clear hL n3; with_reducible intro b3 w3 hL) | (clear hL; with_reducible intro _ _ hL)) | (with_reducible refine wpC_alloc rfl _ rfl _ _ inferInstance hL ?_) | (with_reducible first | refine wpB_agg rfl _ _ _ rfl rfl hL ?_ | refine wpB_one rfl _ _ (.int _ _) rfl rfl rfl hL ?_ | refine wpB_one rfl _ _ (.slice _ _ _) rfl rfl rfl hL ?_ | refine wpB_one rfl _ _ (.bool _) rfl rfl rfl hL ?_ | refine wpB_one rfl _ _ (.pointer _) rfl rfl rfl hL ?_ | refine wpB_one rfl _ _ (.func _ _ _) rfl rfl rfl hL ?_) | (with_reducible first | refine wpH_max rfl _ _ _ _ rfl _ _ rfl rfl ?_ | refine wpH_min rfl _ _ _ _ rfl _ _ rfl rfl ?_) | ((with_reducible refine wpA_load rfl _ _ rfl _ rfl ?_); first | refine loadA hL ?_ | refine loadR hL ?_ | refine loadC hL ?_ | refine loadD ?_ | refine loadE hL ?_ | refine loadF ?_) | ((with_reducible refine wpA_index rfl _ _ _ rfl _ rfl _ rfl ?_); first | (refine indexA ?_; try rw [Int.toNat_natCast]) | refine indexC ?_) | ((with_reducible refine wpA_store rfl _ _ _ rfl _ rfl (.agg _) rfl ?_); refine storeR hL ?_; clear hL; intro _ hL) | ((with_reducible first | refine wpA_store rfl _ _ _ rfl _ rfl (.int _ _) rfl ?_ | refine wpA_store rfl _ _ _ rfl _ rfl (.slice _ _ _) rfl ?_ | refine wpA_store rfl _ _ _ rfl _ rfl (.bool _) rfl ?_ | refine wpA_store rfl _ _ _ rfl _ rfl (.pointer _) rfl ?_ | refine wpA_store rfl _ _ _ rfl _ rfl (.func _ _ _) rfl ?_); (first | refine storeA hL ?_ | refine storeO hL ?_); (clear hL; intro _ hL)) | ((with_reducible refine wpA_lit rfl _ _ _ rfl ?_); first | refine litA1 hL ?_ | refine litA2 hL ?_) | ((with_reducible refine wpA_append rfl _ _ _ rfl (.slice _ _ _) rfl ?_); intro vq hvq; simp [go_sem] at hvq; subst hvq; refine appendA hL ?_; clear hL; intro _ _ _ hL; try dsimp only at hL) | ((with_reducible refine wpA_make rfl _ _ _ rfl _ rfl rfl ?_); refine makeA hL ?_))
        replace hL := hL.drew
        obtain ⟨g4, c4, rfl⟩ := own_slice hL .here
        have hS := (show (fun w' : World => w'.cell? ⟨bx, ox + k * 4, none⟩ = some (.int .i64 lx) ∧ w'.cell? ⟨bx, ox + k * 4 + 1, none⟩ = some (.int .i64 cy)) _ from ⟨(CtHere.cells hL.fact0).1, (CtHere.cells hL.fact0).2.1⟩)
        refine wpH_begin (by kernel_rfl) (fun w' : World => w'.cell? ⟨bx, ox + k * 4, none⟩ = some (.int .i64 lx) ∧ w'.cell? ⟨bx, ox + k * 4 + 1, none⟩ = some (.int .i64 cy)) ?_
        refine stH (i := 0) (.slice g4 (acc.length + ces.length) c4) hS ?_ ?_; (· exact fun w' _ => (by go_simp)); simp only [Act.put, List.setIfInBounds_toArray, List.set_cons_zero, List.set_cons_succ]
        refine stH (i := 1) (.int .i64 lx) hS ?_ ?_; (· exact fun w' _ => (by go_simp)); simp only [Act.put, List.setIfInBounds_toArray, List.set_cons_zero, List.set_cons_succ]
        refine stH (i := 2) (.int .i64 ly) hS ?_ ?_; (· exact fun w' _ => (by go_simp)); simp only [Act.put, List.setIfInBounds_toArray, List.set_cons_zero, List.set_cons_succ]
        refine stH (i := 3) (.slice (some ⟨bx, ox, none⟩) cts.length sc) hS ?_ ?_; (· exact fun w' _ => (by go_simp)); simp only [Act.put, List.setIfInBounds_toArray, List.set_cons_zero, List.set_cons_succ]
        refine stH (i := 4) (.int .i64 (k : Int)) hS ?_ ?_; (· exact fun w' _ => (by go_simp)); simp only [Act.put, List.setIfInBounds_toArray, List.set_cons_zero, List.set_cons_succ]
        refine stH (i := 5) (.pointer (some ⟨bx, ox + k * 4, none⟩)) hS ?_ ?_; (· exact fun w' _ => (by go_simp)); simp only [Act.put, List.setIfInBounds_toArray, List.set_cons_zero, List.set_cons_succ]
        refine stH (i := 6) (.pointer (some ⟨bx, ox + k * 4, none⟩)) hS ?_ ?_; (· exact fun w' _ => (by go_simp)); simp only [Act.put, List.setIfInBounds_toArray, List.set_cons_zero, List.set_cons_succ]
        refine stH (i := 7) (.int .i64 lx) hS ?_ ?_; (· exact fun w' hw => run_loadOp _ _ rfl _ rfl _ (load_cell hw.1)); simp only [Act.put, List.setIfInBounds_toArray, List.set_cons_zero, List.set_cons_succ]
        refine stH (i := 8) (.slice (some ⟨bx, ox, none⟩) cts.length sc) hS ?_ ?_; (· exact fun w' _ => (by go_simp)); simp only [Act.put, List.setIfInBounds_toArray, List.set_cons_zero, List.set_cons_succ]
        refine stH (i := 9) (.int .i64 (k : Int)) hS ?_ ?_; (· exact fun w' _ => (by go_simp)); simp only [Act.put, List.setIfInBounds_toArray, List.set_cons_zero, List.set_cons_succ]
        refine stH (i := 10) (.pointer (some ⟨bx, ox + k * 4, none⟩)) hS ?_ ?_; (· exact fun w' _ => (by go_simp)); simp only [Act.put, List.setIfInBounds_toArray, List.set_cons_zero, List.set_cons_succ]
        refine stH (i := 11) (.pointer (some ⟨bx, ox + k * 4 + 1, none⟩)) hS ?_ ?_; (· exact fun w' _ => (by go_simp)); simp only [Act.put, List.setIfInBounds_toArray, List.set_cons_zero, List.set_cons_succ]
        refine stH (i := 12) (.int .i64 cy) hS ?_ ?_; (· exact fun w' hw => run_loadOp _ _ rfl _ rfl _ (load_cell hw.2)); simp only [Act.put, List.setIfInBounds_toArray, List.set_cons_zero, List.set_cons_succ]
        refine stH (i := 13) (.agg #[.int .i64 lx, .int .i64 ly, .bool false, .int .i64 0, .int .i64 0, .int .i64 lx, .int .i64 cy]) hS ?_ ?_; (· exact fun w' _ => (by go_simp)); simp only [Act.put, List.setIfInBounds_toArray, List.set_cons_zero, List.set_cons_succ]
        clear hS
        refine wpH_one (i := 14) (by kernel_rfl) (wpOp_of (by simp only [List.getElem?_toArray, List.getElem?_cons_zero, List.getElem?_cons_succ]; rfl) ?_)
        refine st_lit rfl _ _ _ rfl (litA1 hL ?_)
        clear hL
        intro b7 w7 hL
        have hS := (show (fun w' : World => w'.cell? ⟨bx, ox + k * 4, none⟩ = some (.int .i64 lx) ∧ w'.cell? ⟨bx, ox + k * 4 + 1, none⟩ = some (.int .i64 cy)) _ from ⟨(CtHere.cells hL.fact0).1, (CtHere.cells hL.fact0).2.1⟩)
        refine ⟨hS, ?_⟩
        clear hS
        simp only [Act.put, List.setIfInBounds_toArray, List.set_cons_zero, List.set_cons_succ]
        refine wpH_one (i := 15) (by kernel_rfl) (wpOp_of (by simp only [List.getElem?_toArray, List.getElem?_cons_zero, List.getElem?_cons_succ]; rfl) ?_)
        refine st_append rfl _ _ _ rfl (.slice g4 (acc.length + ces.length) c4) (.slice (some ⟨b7, 0, none⟩) 1 1) rfl rfl (appendA hL ?_)
        clear hL
        intro ng ncap w8 hL
        have hS := (show (fun w' : World => w'.cell? ⟨bx, ox + k * 4, none⟩ = some (.int .i64 lx) ∧ w'.cell? ⟨bx, ox + k * 4 + 1, none⟩ = some (.int .i64 cy)) _ from ⟨(CtHere.cells hL.fact0).1, (CtHere.cells hL.fact0).2.1⟩)
        refine ⟨hS, ?_⟩
        simp only [Act.put, List.setIfInBounds_toArray, List.set_cons_zero, List.set_cons_succ]
        refine stH (i := 16) (.slice (some ⟨ng, 0, none⟩) (acc.length + ces.length + 1) ncap) hS ?_ ?_; (· exact fun w' _ => (by go_simp)); simp only [Act.put, List.setIfInBounds_toArray, List.set_cons_zero, List.set_cons_succ]
        refine wpAnyH_done (by kernel_rfl) ?_ _
        clear hS
        go_wp2
        go_roundw
        case rel =>
          refine ⟨k + 1, acc ++ (ces ++ [⟨lx, ly, false, 0, 0, lx, cy⟩]), by omega, by go_num, by rw [HN.out, HE.out], ?_⟩
          have hL2 := hL.forget
          rw [List.length_append, List.length_append, List.map_append, List.flatten_append, List.map_append, List.flatten_append, ← List.append_assoc, ← Nat.add_assoc]
          exact hL2
        case measure => simp [intOf]; omega
    · have e : k = cts.length := by omega
      subst e
      have HA := Lib.hid (show L = acc by rw [hacc, HR.out])
      clear hacc
      obtain ⟨g, oc, rfl⟩ := own_slice hL .here
      have n1 : True := trivial; have n2 : True := trivial; have n3 : True := trivial
      go_wp2_with (first | (first | (clear hL n1; with_reducible intro b1 w1 hL) | (clear hL n2; with_reducible intro b2 w2 hL) | (clear hL n3; with_reducible intro b3 w3 hL) | (clear hL; with_reducible intro _ _ hL)) | (with_reducible refine wpC_alloc rfl _ rfl _ _ inferInstance hL ?_) | (with_reducible first | refine wpB_agg rfl _ _ _ rfl rfl hL ?_ | refine wpB_one rfl _ _ (.int _ _) rfl rfl rfl hL ?_ | refine wpB_one rfl _ _ (.slice _ _ _) rfl rfl rfl hL ?_ | refine wpB_one rfl _ _ (.bool _) rfl rfl rfl hL ?_ | refine wpB_one rfl _ _ (.pointer _) rfl rfl rfl hL ?_ | refine wpB_one rfl _ _ (.func _ _ _) rfl rfl rfl hL ?_) | (with_reducible first | refine wpH_max rfl _ _ _ _ rfl _ _ rfl rfl ?_ | refine wpH_min rfl _ _ _ _ rfl _ _ rfl rfl ?_) | ((with_reducible refine wpA_load rfl _ _ rfl _ rfl ?_); first | refine loadA hL ?_ | refine loadR hL ?_ | refine loadC hL ?_ | refine loadD ?_ | refine loadE hL ?_ | refine loadF ?_) | ((with_reducible refine wpA_index rfl _ _ _ rfl _ rfl _ rfl ?_); first | (refine indexA ?_; try rw [Int.toNat_natCast]) | refine indexC ?_) | ((with_reducible refine wpA_store rfl _ _ _ rfl _ rfl (.agg _) rfl ?_); refine storeR hL ?_; clear hL; intro _ hL) | ((with_reducible first | refine wpA_store rfl _ _ _ rfl _ rfl (.int _ _) rfl ?_ | refine wpA_store rfl _ _ _ rfl _ rfl (.slice _ _ _) rfl ?_ | refine wpA_store rfl _ _ _ rfl _ rfl (.bool _) rfl ?_ | refine wpA_store rfl _ _ _ rfl _ rfl (.pointer _) rfl ?_ | refine wpA_store rfl _ _ _ rfl _ rfl (.func _ _ _) rfl ?_); (first | refine storeA hL ?_ | refine storeO hL ?_); (clear hL; intro _ hL)) | ((with_reducible refine wpA_lit rfl _ _ _ rfl ?_); first | refine litA1 hL ?_ | refine litA2 hL ?_) | ((with_reducible refine wpA_append rfl _ _ _ rfl (.slice _ _ _) rfl ?_); intro vq hvq; simp [go_sem] at hvq; subst hvq; refine appendA hL ?_; clear hL; intro _ _ _ hL; try dsimp only at hL) | ((with_reducible refine wpA_make rfl _ _ _ rfl _ rfl rfl ?_); refine makeA hL ?_))
      go_ret
      rw [HA.out]
      exact ⟨_, rfl, hL.below, (hL.settle .here (φ := fun w => EdgesAt w (.slice g acc.length oc) acc) fun w h => own_sliceAt h (by rw [List.length_map]) rfl (edgeC_len _)).fresh⟩
end Go.Proofs.Ytneddfiohekhiaa
