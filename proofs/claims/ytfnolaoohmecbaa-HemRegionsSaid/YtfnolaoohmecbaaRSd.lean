/- The document's strokes: what a contour's stroke covers. -/
import Derived.Test.YtfnolaoohmecbaaRSc
-- lit6
namespace Go.Proofs.Ytfnolaoohmecbaa
open Go.RowKit

theorem laterQ {w w' : World} {p : Addr} {v : Value} (h : Below w.heap.size w w') (hc : w.cell? p = some v) : w'.cell? p = some v := (Holds.start w).call h |>.old hc
theorem edge_at {w : World} {be oe n pc : Nat} {P : List Edg} (h : EdgesAt w (.slice (some ⟨be, oe, none⟩) n pc) P) {k : Nat} (hk : k < P.length) : w.rangeAt be (oe + k * 7) (edgeC (P.getD k default)) := by
  obtain ⟨a', c', he, _, _, hel⟩ := EdgesAt.parts h
  injection he with he _ _
  subst he
  obtain ⟨b', o', e', hr⟩ := hel k hk
  injection e' with e'
  injection e' with e1 e2
  subst e1; subst e2
  exact hr
def onB (sh : Bool) (s : Sty) (P : List Edg) (x y : Int) (k : Nat) : Bool :=
  onA (armU (P.getD k default) x y) (armK (P.getD k default) x y) (armL (P.getD k default)) s.wide || ((decide (s.join = 1) && (decide (0 < k) || sh)) && discIn (P.getD k default).x0 (P.getD k default).y0 s.wide x y)
def coversR (c : Ct) (s : Sty) (x y : Int) : Bool := if isDot c then dotIn c s x y else if (piecesC c).length = 0 then false else (List.range (piecesC c).length).any (onB c.shut s (piecesC c) x y) || (!c.shut && endsIn (piecesC c) s x y)
set_option maxRecDepth 100000 in
set_option maxHeartbeats 8000000 in
theorem rCovers_calls (w : World) (v : Value) (c : Ct) (hv : EdgesAt w v c.edges) (hlen : c.edges.length ≤ 300) (hg : GoodC c) (s : Sty) (hs : mayY s = true) (x y : Int) (hx : -8191 ≤ x ∧ x ≤ 8191) (hy : -8191 ≤ y ∧ y ≤ 8191) :
    Calls Try.prog 44 #[.agg #[.int .i64 c.x, .int .i64 c.y, v, .bool c.shut], .agg #[.int .i64 s.wide, .int .i64 s.cap, .int .i64 s.join], .int .i64 x, .int .i64 y] w fun e w' => e = .returned (.bool (coversR c s x y)) ∧ Below w.heap.size w w' := by
  obtain ⟨k1, k2, k3, k4, k5, k6⟩ := mayY_bd hs
  have hw : 0 ≤ s.wide ∧ s.wide ≤ 2048 := ⟨k1, k2⟩
  have hcap : s.cap = 0 ∨ s.cap = 1 ∨ s.cap = 2 := by omega
  have Hv := Lib.hid hv
  obtain ⟨ea, ec, rfl, hlc, hcm, _⟩ := EdgesAt.parts hv
  clear hv
  have hL := Holds.start w
  have HPi := Lib.hid (fun w' (hb : Below w.heap.size w w') => rPieces_calls w' (.slice ea c.edges.length ec) c (SliceAt.below Hv.out hb) hlen)
  have hgp := pieces_near hg
  have hpl := pieces_len c
  have hR : coversR c s x y = if isDot c then dotIn c s x y else if (piecesC c).length = 0 then false else (List.range (piecesC c).length).any (onB c.shut s (piecesC c) x y) || (!c.shut && endsIn (piecesC c) s x y) := rfl
  generalize coversR c s x y = R at *
  unfold PiecesOut at HPi
  obtain ⟨cx, cy, es, sh⟩ := c
  obtain ⟨wd, cap, join⟩ := s
  dsimp only at *
  have HDo := Lib.hid (fun w => rDot_calls (.slice ea es.length ec) cx cy es sh hg.1.1 hg.1.2 wd cap join hw hcap x y hx hy w)
  generalize dotIn ⟨cx, cy, es, sh⟩ ⟨wd, cap, join⟩ x y = dv at *
  generalize isDot ⟨cx, cy, es, sh⟩ = dt at *
  generalize piecesC ⟨cx, cy, es, sh⟩ = P at *
  obtain ⟨m, hm⟩ : ∃ m, es.length = m := ⟨_, rfl⟩
  rw [hm] at hlc hpl HPi HDo hlen
  have HEn := Lib.hid (fun w v hv h0 => rEnds_calls w v P hv h0 hgp wd cap join hw hcap x y hx hy)
  have HGp := Lib.hid hgp
  rw [hm]
  clear hgp hg hcap k3 k4 k5 k6 hm
  obtain ⟨n, hn⟩ : ∃ n, P.length = n := ⟨_, rfl⟩
  have HN := Lib.hid hn
  rw [hn] at hR hpl
  clear hn
  cases dt
  rotate_left
  · rw [if_pos rfl] at hR
    have HR := Lib.hid hR
    clear hR HEn HGp
    have n1 : True := trivial; have n2 : True := trivial
    go_enter Try.func44, Try.ntmps44
    go_wp2_with (first | (go_at_call 72; (with_reducible refine (HPi.out _ hL.below).mono ?_); rintro e _ ⟨vp, rfl, hb, hf⟩; obtain ⟨pa, pc, hvp, _⟩ := EdgesAt.parts hf.now; rw [HN.out] at hvp; subst hvp; replace hL := hL.callF hb hf; clear hb hf) | (go_at_call 73; (with_reducible refine (HDo.out _).mono ?_); rintro e _ ⟨rfl, hb⟩; replace hL := hL.call hb; clear hb) | (first | (clear hL n1; with_reducible intro b1 w1 hL) | (clear hL n2; with_reducible intro b2 w2 hL) | (clear hL; with_reducible intro _ _ hL)) | (with_reducible refine wpC_alloc rfl _ rfl _ _ inferInstance hL ?_) | (with_reducible first | refine wpB_agg rfl _ _ _ rfl rfl hL ?_ | refine wpB_one rfl _ _ (.int _ _) rfl rfl rfl hL ?_ | refine wpB_one rfl _ _ (.slice _ _ _) rfl rfl rfl hL ?_ | refine wpB_one rfl _ _ (.bool _) rfl rfl rfl hL ?_ | refine wpB_one rfl _ _ (.pointer _) rfl rfl rfl hL ?_ | refine wpB_one rfl _ _ (.func _ _ _) rfl rfl rfl hL ?_) | (with_reducible first | refine wpH_max rfl _ _ _ _ rfl _ _ rfl rfl ?_ | refine wpH_min rfl _ _ _ _ rfl _ _ rfl rfl ?_) | ((with_reducible refine wpA_load rfl _ _ rfl _ rfl ?_); first | refine loadA hL ?_ | refine loadR hL ?_ | refine loadC hL ?_ | refine loadD ?_ | refine loadE hL ?_ | refine loadF ?_) | ((with_reducible refine wpA_index rfl _ _ _ rfl _ rfl _ rfl ?_); first | (refine indexA ?_; try rw [Int.toNat_natCast]) | refine indexC ?_) | ((with_reducible refine wpA_store rfl _ _ _ rfl _ rfl (.agg _) rfl ?_); refine storeR hL ?_; clear hL; intro _ hL) | ((with_reducible first | refine wpA_store rfl _ _ _ rfl _ rfl (.int _ _) rfl ?_ | refine wpA_store rfl _ _ _ rfl _ rfl (.slice _ _ _) rfl ?_ | refine wpA_store rfl _ _ _ rfl _ rfl (.bool _) rfl ?_ | refine wpA_store rfl _ _ _ rfl _ rfl (.pointer _) rfl ?_ | refine wpA_store rfl _ _ _ rfl _ rfl (.func _ _ _) rfl ?_); (first | refine storeA hL ?_ | refine storeO hL ?_); (clear hL; intro _ hL)) | ((with_reducible refine wpA_lit rfl _ _ _ rfl ?_); first | refine litA1 hL ?_ | refine litA2 hL ?_ | refine litA3 hL ?_ | refine litA4 hL ?_ | refine litA6 hL ?_) | ((with_reducible refine wpA_append rfl _ _ _ rfl (.slice _ _ _) rfl ?_); intro vq hvq; simp [go_sem] at hvq; subst hvq; refine appendA hL ?_; clear hL; intro _ _ _ hL; try dsimp only at hL) | ((with_reducible refine wpA_make rfl _ _ _ rfl _ rfl rfl ?_); refine makeA hL ?_))
    go_ret
    exact ⟨ret_bool HR.out.symm, hL.below⟩
  rw [if_neg (by simp)] at hR
  clear HDo
  by_cases h0 : n = 0
  · rw [if_pos h0] at hR
    have HR := Lib.hid hR
    have e0 : ((n : Int) == 0) = true := by rw [h0]; rfl
    clear hR HEn HGp h0
    have n1 : True := trivial; have n2 : True := trivial
    go_enter Try.func44, Try.ntmps44
    go_wp2_with (first | (go_at_call 72; (with_reducible refine (HPi.out _ hL.below).mono ?_); rintro e _ ⟨vp, rfl, hb, hf⟩; obtain ⟨pa, pc, hvp, _⟩ := EdgesAt.parts hf.now; rw [HN.out] at hvp; subst hvp; replace hL := hL.callF hb hf; clear hb hf) | (first | (clear hL n1; with_reducible intro b1 w1 hL) | (clear hL n2; with_reducible intro b2 w2 hL) | (clear hL; with_reducible intro _ _ hL)) | (with_reducible refine wpC_alloc rfl _ rfl _ _ inferInstance hL ?_) | (with_reducible first | refine wpB_agg rfl _ _ _ rfl rfl hL ?_ | refine wpB_one rfl _ _ (.int _ _) rfl rfl rfl hL ?_ | refine wpB_one rfl _ _ (.slice _ _ _) rfl rfl rfl hL ?_ | refine wpB_one rfl _ _ (.bool _) rfl rfl rfl hL ?_ | refine wpB_one rfl _ _ (.pointer _) rfl rfl rfl hL ?_ | refine wpB_one rfl _ _ (.func _ _ _) rfl rfl rfl hL ?_) | (with_reducible first | refine wpH_max rfl _ _ _ _ rfl _ _ rfl rfl ?_ | refine wpH_min rfl _ _ _ _ rfl _ _ rfl rfl ?_) | ((with_reducible refine wpA_load rfl _ _ rfl _ rfl ?_); first | refine loadA hL ?_ | refine loadR hL ?_ | refine loadC hL ?_ | refine loadD ?_ | refine loadE hL ?_ | refine loadF ?_) | ((with_reducible refine wpA_index rfl _ _ _ rfl _ rfl _ rfl ?_); first | (refine indexA ?_; try rw [Int.toNat_natCast]) | refine indexC ?_) | ((with_reducible refine wpA_store rfl _ _ _ rfl _ rfl (.agg _) rfl ?_); refine storeR hL ?_; clear hL; intro _ hL) | ((with_reducible first | refine wpA_store rfl _ _ _ rfl _ rfl (.int _ _) rfl ?_ | refine wpA_store rfl _ _ _ rfl _ rfl (.slice _ _ _) rfl ?_ | refine wpA_store rfl _ _ _ rfl _ rfl (.bool _) rfl ?_ | refine wpA_store rfl _ _ _ rfl _ rfl (.pointer _) rfl ?_ | refine wpA_store rfl _ _ _ rfl _ rfl (.func _ _ _) rfl ?_); (first | refine storeA hL ?_ | refine storeO hL ?_); (clear hL; intro _ hL)) | ((with_reducible refine wpA_lit rfl _ _ _ rfl ?_); first | refine litA1 hL ?_ | refine litA2 hL ?_ | refine litA3 hL ?_ | refine litA4 hL ?_ | refine litA6 hL ?_) | ((with_reducible refine wpA_append rfl _ _ _ rfl (.slice _ _ _) rfl ?_); intro vq hvq; simp [go_sem] at hvq; subst hvq; refine appendA hL ?_; clear hL; intro _ _ _ hL; try dsimp only at hL) | ((with_reducible refine wpA_make rfl _ _ _ rfl _ rfl rfl ?_); refine makeA hL ?_))
    go_ret
    exact ⟨ret_bool HR.out.symm, hL.below⟩
  rw [if_neg h0] at hR
  have e0 : ((n : Int) == 0) = false := beq_eq_false_iff_ne.2 (by omega)
  have HZ := Lib.hid (show P.length ≠ 0 by rw [HN.out]; exact h0)
  clear h0
  have HYes := Lib.hid (show ∀ k, k < n → onB sh ⟨wd, cap, join⟩ P x y k = true → R = true from fun k hk h => by
    rw [hR, List.any_eq_true.2 ⟨k, List.mem_range.2 hk, h⟩]; rfl)
  have HNo := Lib.hid (show (∀ i, i < n → onB sh ⟨wd, cap, join⟩ P x y i = false) → R = (!sh && endsIn P ⟨wd, cap, join⟩ x y) from fun h => by
    rw [hR, List.any_eq_false.2 (fun i hi => by rw [h i (List.mem_range.1 hi)]; simp)]; rfl)
  clear hR
  generalize endsIn P ⟨wd, cap, join⟩ x y = ev at *
  have n1 : True := trivial; have n2 : True := trivial
  go_enter Try.func44, Try.ntmps44
  go_wp2_with (first | (go_at_call 72; (with_reducible refine (HPi.out _ hL.below).mono ?_); rintro e _ ⟨vp, rfl, hb, hf⟩; obtain ⟨pa, pc, hvp, _⟩ := EdgesAt.parts hf.now; rw [HN.out] at hvp; subst hvp; replace hL := hL.callF hb hf; clear hb hf) | (first | (clear hL n1; with_reducible intro b1 w1 hL) | (clear hL n2; with_reducible intro b2 w2 hL) | (clear hL; with_reducible intro _ _ hL)) | (with_reducible refine wpC_alloc rfl _ rfl _ _ inferInstance hL ?_) | (with_reducible first | refine wpB_agg rfl _ _ _ rfl rfl hL ?_ | refine wpB_one rfl _ _ (.int _ _) rfl rfl rfl hL ?_ | refine wpB_one rfl _ _ (.slice _ _ _) rfl rfl rfl hL ?_ | refine wpB_one rfl _ _ (.bool _) rfl rfl rfl hL ?_ | refine wpB_one rfl _ _ (.pointer _) rfl rfl rfl hL ?_ | refine wpB_one rfl _ _ (.func _ _ _) rfl rfl rfl hL ?_) | (with_reducible first | refine wpH_max rfl _ _ _ _ rfl _ _ rfl rfl ?_ | refine wpH_min rfl _ _ _ _ rfl _ _ rfl rfl ?_) | ((with_reducible refine wpA_load rfl _ _ rfl _ rfl ?_); first | refine loadA hL ?_ | refine loadR hL ?_ | refine loadC hL ?_ | refine loadD ?_ | refine loadE hL ?_ | refine loadF ?_) | ((with_reducible refine wpA_index rfl _ _ _ rfl _ rfl _ rfl ?_); first | (refine indexA ?_; try rw [Int.toNat_natCast]) | refine indexC ?_) | ((with_reducible refine wpA_store rfl _ _ _ rfl _ rfl (.agg _) rfl ?_); refine storeR hL ?_; clear hL; intro _ hL) | ((with_reducible first | refine wpA_store rfl _ _ _ rfl _ rfl (.int _ _) rfl ?_ | refine wpA_store rfl _ _ _ rfl _ rfl (.slice _ _ _) rfl ?_ | refine wpA_store rfl _ _ _ rfl _ rfl (.bool _) rfl ?_ | refine wpA_store rfl _ _ _ rfl _ rfl (.pointer _) rfl ?_ | refine wpA_store rfl _ _ _ rfl _ rfl (.func _ _ _) rfl ?_); (first | refine storeA hL ?_ | refine storeO hL ?_); (clear hL; intro _ hL)) | ((with_reducible refine wpA_lit rfl _ _ _ rfl ?_); first | refine litA1 hL ?_ | refine litA2 hL ?_ | refine litA3 hL ?_ | refine litA4 hL ?_ | refine litA6 hL ?_) | ((with_reducible refine wpA_append rfl _ _ _ rfl (.slice _ _ _) rfl ?_); intro vq hvq; simp [go_sem] at hvq; subst hvq; refine appendA hL ?_; clear hL; intro _ _ _ hL; try dsimp only at hL) | ((with_reducible refine wpA_make rfl _ _ _ rfl _ rfl rfl ?_); refine makeA hL ?_))
  go_loopw [11] (fun s11 wr => ∃ k : Nat, k ≤ n ∧ s11 = .int .i64 k ∧ (∀ i, i < k → onB sh ⟨wd, cap, join⟩ P x y i = false) ∧ Holds w wr [blk b2 #[.int .i64 wd, .int .i64 cap, .int .i64 join] 24, blk b1 #[.int .i64 cx, .int .i64 cy, .slice ea m ec, .bool sh] 85] [fun w => EdgesAt w (.slice pa n pc) P])
    (fun s11 wr => n - (intOf s11).toNat)
  case atStart => exact ⟨0, by omega, rfl, fun i hi => absurd hi (by omega), hL⟩
  case round =>
    clear hL
    obtain ⟨k, hk, rfl, hall, hL⟩ := hrel
    by_cases hkt : k < n
    · obtain ⟨be, oe, rfl, hc⟩ : ∃ be oe, pa = some ⟨be, oe, none⟩ ∧ World.rangeAt _ be (oe + k * 7) (edgeC (P.getD k default)) := by
        obtain ⟨a', c', he, _, _, hel⟩ := EdgesAt.parts hL.fact0
        injection he with he _ _
        subst he
        exact hel k (by rw [HN.out]; exact hkt)
      have hkb : (k : Int) < (n : Int) := by omega
      have hk0 : (0 : Int) ≤ (k : Int) := by omega
      have hge := HGp.out (P.getD k default) (by
        have hk2 : k < P.length := by rw [HN.out]; exact hkt
        rw [show P.getD k default = P[k] by simp [hk2]]; exact List.getElem_mem hk2)
      have HY := Lib.hid (HYes.out k hkt)
      have HST := Lib.hid (show onB sh ⟨wd, cap, join⟩ P x y k = false → ∀ i, i < k + 1 → onB sh ⟨wd, cap, join⟩ P x y i = false from fun h i hi => by
        rcases (by omega : i < k ∨ i = k) with h2 | rfl
        · exact hall i h2
        · exact h)
      have hB : onB sh ⟨wd, cap, join⟩ P x y k = (onA (armU (P.getD k default) x y) (armK (P.getD k default) x y) (armL (P.getD k default)) wd || (((join == 1) && (decide (0 < k) || sh)) && discIn (P.getD k default).x0 (P.getD k default).y0 wd x y)) := rfl
      generalize onB sh ⟨wd, cap, join⟩ P x y k = bv at *
      clear hall
      obtain ⟨eg, heg⟩ : ∃ eg, P.getD k default = eg := ⟨_, rfl⟩
      rw [heg] at hc hge hB
      have HEg := Lib.hid heg
      clear heg
      have HAr := Lib.hid (fun w => rArm_calls eg hge x y hx hy w)
      have HOn := Lib.hid (fun w => armOn_calls _ _ _ (arm_bd hge hx hy) wd hw w)
      have HDi := Lib.hid (fun w => rDisc_calls eg.x0 eg.y0 wd x y hge.1.1 hge.1.2 hw hx hy w)
      clear hge
      generalize armU eg x y = U at *
      generalize armK eg x y = K at *
      generalize armL eg = L at *
      generalize onA U K L wd = ov at *
      obtain ⟨x0, y0, bt, dx, dy, x1, y1⟩ := eg
      unfold edgeC at hc HAr
      dsimp only at hc HAr HDi hB
      generalize discIn x0 y0 wd x y = dd at *
      have Hc := Lib.hid hc
      have Kc := Lib.hid (hL.range (.there .here))
      have Ks := Lib.hid (hL.range .here)
      clear hc
      obtain ⟨j1, hj1⟩ : ∃ j, (join == 1) = j := ⟨_, rfl⟩
      rw [hj1] at hB
      have HB := Lib.hid hB
      clear hB
      go_wp2_with (first | (first | (clear hL n1; with_reducible intro b1 w1 hL) | (clear hL n2; with_reducible intro b2 w2 hL) | (clear hL; with_reducible intro _ _ hL)) | (with_reducible refine wpC_alloc rfl _ rfl _ _ inferInstance hL ?_) | (with_reducible first | refine wpB_agg rfl _ _ _ rfl rfl hL ?_ | refine wpB_one rfl _ _ (.int _ _) rfl rfl rfl hL ?_ | refine wpB_one rfl _ _ (.slice _ _ _) rfl rfl rfl hL ?_ | refine wpB_one rfl _ _ (.bool _) rfl rfl rfl hL ?_ | refine wpB_one rfl _ _ (.pointer _) rfl rfl rfl hL ?_ | refine wpB_one rfl _ _ (.func _ _ _) rfl rfl rfl hL ?_) | (with_reducible first | refine wpH_max rfl _ _ _ _ rfl _ _ rfl rfl ?_ | refine wpH_min rfl _ _ _ _ rfl _ _ rfl rfl ?_) | ((with_reducible refine wpA_load rfl _ _ rfl _ rfl ?_); first | refine loadA hL ?_ | refine loadR hL ?_ | refine loadC hL ?_ | refine loadD ?_ | refine loadE hL ?_ | refine loadF ?_) | ((with_reducible refine wpA_index rfl _ _ _ rfl _ rfl _ rfl ?_); first | (refine indexA ?_; try rw [Int.toNat_natCast]) | refine indexC ?_) | ((with_reducible refine wpA_store rfl _ _ _ rfl _ rfl (.agg _) rfl ?_); refine storeR hL ?_; clear hL; intro _ hL) | ((with_reducible first | refine wpA_store rfl _ _ _ rfl _ rfl (.int _ _) rfl ?_ | refine wpA_store rfl _ _ _ rfl _ rfl (.slice _ _ _) rfl ?_ | refine wpA_store rfl _ _ _ rfl _ rfl (.bool _) rfl ?_ | refine wpA_store rfl _ _ _ rfl _ rfl (.pointer _) rfl ?_ | refine wpA_store rfl _ _ _ rfl _ rfl (.func _ _ _) rfl ?_); (first | refine storeA hL ?_ | refine storeO hL ?_); (clear hL; intro _ hL)) | ((with_reducible refine wpA_lit rfl _ _ _ rfl ?_); first | refine litA1 hL ?_ | refine litA2 hL ?_ | refine litA3 hL ?_ | refine litA4 hL ?_ | refine litA6 hL ?_) | ((with_reducible refine wpA_append rfl _ _ _ rfl (.slice _ _ _) rfl ?_); intro vq hvq; simp [go_sem] at hvq; subst hvq; refine appendA hL ?_; clear hL; intro _ _ _ hL; try dsimp only at hL) | ((with_reducible refine wpA_make rfl _ _ _ rfl _ rfl rfl ?_); refine makeA hL ?_))
      refine wpH_laterN (by kernel_rfl) fun hS => ?_
      replace hL := hL.drew
      refine stH (i := 0) (.slice (some ⟨be, oe, none⟩) n pc) hS ?_ ?_; (· exact fun w' _ => (by go_simp)); simp only [Act.put, List.setIfInBounds_toArray, List.set_cons_zero, List.set_cons_succ]
      refine stH (i := 1) (.int .i64 (k : Int)) hS ?_ ?_; (· exact fun w' _ => (by go_simp)); simp only [Act.put, List.setIfInBounds_toArray, List.set_cons_zero, List.set_cons_succ]
      refine stH (i := 2) (.pointer (some ⟨be, oe + k * 7, none⟩)) hS ?_ ?_; (· exact fun w' _ => (by go_simp)); simp only [Act.put, List.setIfInBounds_toArray, List.set_cons_zero, List.set_cons_succ]
      refine stH (i := 3) (.agg #[.int .i64 x0, .int .i64 y0, .bool bt, .int .i64 dx, .int .i64 dy, .int .i64 x1, .int .i64 y1]) hS ?_ ?_; (· exact fun w' hw => run_loadOp _ _ rfl _ rfl _ (load_rangeO (cs := #[.int .i64 x0, .int .i64 y0, .bool bt, .int .i64 dx, .int .i64 dy, .int .i64 x1, .int .i64 y1]) rfl (rangeAt_below Hc.out hw))); simp only [Act.put, List.setIfInBounds_toArray, List.set_cons_zero, List.set_cons_succ]
      refine stH (i := 4) (.int .i64 x) hS ?_ ?_; (· exact fun w' _ => (by go_simp)); simp only [Act.put, List.setIfInBounds_toArray, List.set_cons_zero, List.set_cons_succ]
      refine stH (i := 5) (.int .i64 y) hS ?_ ?_; (· exact fun w' _ => (by go_simp)); simp only [Act.put, List.setIfInBounds_toArray, List.set_cons_zero, List.set_cons_succ]
      refine stH (i := 7) (.pointer (some ⟨b2, 0, none⟩)) hS ?_ ?_; (· exact fun w' _ => (by go_simp)); simp only [Act.put, List.setIfInBounds_toArray, List.set_cons_zero, List.set_cons_succ]
      refine stH (i := 8) (.int .i64 wd) hS ?_ ?_; (· exact fun w' hw => run_loadOp _ _ rfl _ rfl _ (load_cell (laterQ hw (Ks.out 0 _ rfl)))); simp only [Act.put, List.setIfInBounds_toArray, List.set_cons_zero, List.set_cons_succ]
      refine wpH_one (i := 6) (by kernel_rfl) (wpOp_of (by simp only [List.getElem?_toArray, List.getElem?_cons_zero, List.getElem?_cons_succ]; rfl) ?_)
      refine st_call rfl 74 #[.agg #[.int .i64 x0, .int .i64 y0, .bool bt, .int .i64 dx, .int .i64 dy, .int .i64 x1, .int .i64 y1], .int .i64 x, .int .i64 y] (by go_simp) (HAr.out _) ?_
      rintro e _ ⟨rfl, hb⟩
      replace hL := hL.call hb
      replace hS := hS.trans (hb.mono hS.size)
      clear hb
      refine ⟨_, rfl, hS, ?_⟩
      simp only [Act.put, List.setIfInBounds_toArray, List.set_cons_zero, List.set_cons_succ]
      refine wpH_one (i := 9) (by kernel_rfl) (wpOp_of (by simp only [List.getElem?_toArray, List.getElem?_cons_zero, List.getElem?_cons_succ]; rfl) ?_)
      refine st_call rfl 75 #[.agg #[.int .i64 U, .int .i64 K, .int .i64 L], .int .i64 wd] (by go_simp) (HOn.out _) ?_
      rintro e _ ⟨rfl, hb⟩
      replace hL := hL.call hb
      replace hS := hS.trans (hb.mono hS.size)
      clear hb
      refine ⟨_, rfl, hS, ?_⟩
      simp only [Act.put, List.setIfInBounds_toArray, List.set_cons_zero, List.set_cons_succ]
      refine wpAnyH_done (by kernel_rfl) ?_ _
      clear hS
      cases ov
      rotate_left
      · go_wp2
        go_ret
        exact ⟨ret_bool (HY.out (by rw [HB.out]; rfl)).symm, hL.below⟩
      obtain ⟨gb, hgb⟩ : ∃ g, ((j1 && (decide (0 < k) || sh)) && dd) = g := ⟨_, rfl⟩
      rw [Bool.false_or, hgb] at HB
      have HGb := Lib.hid hgb
      clear hgb
      go_upto_region 11 with (fail)
      go_cut [69] from 42 to 69 (fun s69 wc => s69 = .bool gb ∧ Holds w wc [blk b2 #[.int .i64 wd, .int .i64 cap, .int .i64 join] 24, blk b1 #[.int .i64 cx, .int .i64 cy, .slice ea m ec, .bool sh] 85] [fun w => EdgesAt w (.slice (some ⟨be, oe, none⟩) n pc) P])
      case first =>
        have Kc := Lib.hid (hL.range (.there .here))
        have Ks := Lib.hid (hL.range .here)
        have hc := edge_at hL.fact0 (show k < P.length by rw [HN.out]; exact hkt)
        rw [HEg.out] at hc
        unfold edgeC at hc
        dsimp only at hc
        have Hc2 := Lib.hid hc
        clear hc
        cases j1
        · refine wpH_laterN (by kernel_rfl) fun hS => ?_
          replace hL := hL.drew
          refine stH (i := 0) (.pointer (some ⟨b2, 2, none⟩)) hS ?_ ?_; (· exact fun w' _ => (by go_simp)); simp only [Act.put, List.setIfInBounds_toArray, List.set_cons_zero, List.set_cons_succ]
          refine stH (i := 1) (.int .i64 join) hS ?_ ?_; (· exact fun w' hw => run_loadOp _ _ rfl _ rfl _ (load_cell (laterQ hw (Ks.out 2 _ rfl)))); simp only [Act.put, List.setIfInBounds_toArray, List.set_cons_zero, List.set_cons_succ]
          refine stH (i := 2) (.bool false) hS ?_ ?_; (· exact fun w' _ => (by go_simp)); simp only [Act.put, List.setIfInBounds_toArray, List.set_cons_zero, List.set_cons_succ]
          refine stH (i := 3) (.bool false) hS ?_ ?_; (· exact fun w' _ => (by go_simp)); simp only [Act.put, List.setIfInBounds_toArray, List.set_cons_zero, List.set_cons_succ]
          refine skH (i := 4) hS ?_
          simp only [Act.put, List.setIfInBounds_toArray, List.set_cons_zero, List.set_cons_succ]
          refine skH (i := 5) hS ?_
          simp only [Act.put, List.setIfInBounds_toArray, List.set_cons_zero, List.set_cons_succ]
          refine skH (i := 6) hS ?_
          simp only [Act.put, List.setIfInBounds_toArray, List.set_cons_zero, List.set_cons_succ]
          refine skH (i := 7) hS ?_
          simp only [Act.put, List.setIfInBounds_toArray, List.set_cons_zero, List.set_cons_succ]
          refine skH (i := 8) hS ?_
          simp only [Act.put, List.setIfInBounds_toArray, List.set_cons_zero, List.set_cons_succ]
          refine skH (i := 9) hS ?_
          simp only [Act.put, List.setIfInBounds_toArray, List.set_cons_zero, List.set_cons_succ]
          refine stH (i := 10) (.bool false) hS ?_ ?_; (· exact fun w' _ => (by go_simp)); simp only [Act.put, List.setIfInBounds_toArray, List.set_cons_zero, List.set_cons_succ]
          refine stH (i := 11) (.bool false) hS ?_ ?_; (· exact fun w' _ => (by go_simp)); simp only [Act.put, List.setIfInBounds_toArray, List.set_cons_zero, List.set_cons_succ]
          refine skH (i := 12) hS ?_
          simp only [Act.put, List.setIfInBounds_toArray, List.set_cons_zero, List.set_cons_succ]
          refine skH (i := 13) hS ?_
          simp only [Act.put, List.setIfInBounds_toArray, List.set_cons_zero, List.set_cons_succ]
          refine skH (i := 14) hS ?_
          simp only [Act.put, List.setIfInBounds_toArray, List.set_cons_zero, List.set_cons_succ]
          refine skH (i := 15) hS ?_
          simp only [Act.put, List.setIfInBounds_toArray, List.set_cons_zero, List.set_cons_succ]
          refine skH (i := 16) hS ?_
          simp only [Act.put, List.setIfInBounds_toArray, List.set_cons_zero, List.set_cons_succ]
          refine skH (i := 17) hS ?_
          simp only [Act.put, List.setIfInBounds_toArray, List.set_cons_zero, List.set_cons_succ]
          refine skH (i := 18) hS ?_
          simp only [Act.put, List.setIfInBounds_toArray, List.set_cons_zero, List.set_cons_succ]
          refine skH (i := 19) hS ?_
          simp only [Act.put, List.setIfInBounds_toArray, List.set_cons_zero, List.set_cons_succ]
          refine skH (i := 20) hS ?_
          simp only [Act.put, List.setIfInBounds_toArray, List.set_cons_zero, List.set_cons_succ]
          refine skH (i := 21) hS ?_
          simp only [Act.put, List.setIfInBounds_toArray, List.set_cons_zero, List.set_cons_succ]
          refine skH (i := 22) hS ?_
          simp only [Act.put, List.setIfInBounds_toArray, List.set_cons_zero, List.set_cons_succ]
          refine skH (i := 23) hS ?_
          simp only [Act.put, List.setIfInBounds_toArray, List.set_cons_zero, List.set_cons_succ]
          refine skH (i := 24) hS ?_
          simp only [Act.put, List.setIfInBounds_toArray, List.set_cons_zero, List.set_cons_succ]
          refine skH (i := 25) hS ?_
          simp only [Act.put, List.setIfInBounds_toArray, List.set_cons_zero, List.set_cons_succ]
          refine skH (i := 26) hS ?_
          simp only [Act.put, List.setIfInBounds_toArray, List.set_cons_zero, List.set_cons_succ]
          refine stH (i := 27) (.bool false) hS ?_ ?_; (· exact fun w' _ => (by go_simp)); simp only [Act.put, List.setIfInBounds_toArray, List.set_cons_zero, List.set_cons_succ]
          refine wpAnyH_done (by kernel_rfl) ?_ _
          clear hS
          go_wp2
          go_meet
          case rel => exact ⟨by rw [← HGb.out]; first | rfl | (simp; done) | (simp [hk1]; done) | (simp [hk2]; done), hL⟩
        · rcases (by omega : 0 < k ∨ k = 0) with hk1 | hk1
          · have ek : (0 : Int) < (k : Int) := by omega
            refine wpH_laterN (by kernel_rfl) fun hS => ?_
            replace hL := hL.drew
            refine stH (i := 0) (.pointer (some ⟨b2, 2, none⟩)) hS ?_ ?_; (· exact fun w' _ => (by go_simp)); simp only [Act.put, List.setIfInBounds_toArray, List.set_cons_zero, List.set_cons_succ]
            refine stH (i := 1) (.int .i64 join) hS ?_ ?_; (· exact fun w' hw => run_loadOp _ _ rfl _ rfl _ (load_cell (laterQ hw (Ks.out 2 _ rfl)))); simp only [Act.put, List.setIfInBounds_toArray, List.set_cons_zero, List.set_cons_succ]
            refine stH (i := 2) (.bool true) hS ?_ ?_; (· exact fun w' _ => (by go_simp)); simp only [Act.put, List.setIfInBounds_toArray, List.set_cons_zero, List.set_cons_succ]
            refine stH (i := 3) (.bool true) hS ?_ ?_; (· exact fun w' _ => (by go_simp)); simp only [Act.put, List.setIfInBounds_toArray, List.set_cons_zero, List.set_cons_succ]
            refine stH (i := 4) (.int .i64 (k : Int)) hS ?_ ?_; (· exact fun w' _ => (by go_simp)); simp only [Act.put, List.setIfInBounds_toArray, List.set_cons_zero, List.set_cons_succ]
            refine stH (i := 5) (.bool true) hS ?_ ?_; (· exact fun w' _ => (by go_simp)); simp only [Act.put, List.setIfInBounds_toArray, List.set_cons_zero, List.set_cons_succ]
            refine stH (i := 6) (.bool true) hS ?_ ?_; (· exact fun w' _ => (by go_simp)); simp only [Act.put, List.setIfInBounds_toArray, List.set_cons_zero, List.set_cons_succ]
            refine skH (i := 7) hS ?_
            simp only [Act.put, List.setIfInBounds_toArray, List.set_cons_zero, List.set_cons_succ]
            refine skH (i := 8) hS ?_
            simp only [Act.put, List.setIfInBounds_toArray, List.set_cons_zero, List.set_cons_succ]
            refine stH (i := 9) (.bool true) hS ?_ ?_; (· exact fun w' _ => (by go_simp)); simp only [Act.put, List.setIfInBounds_toArray, List.set_cons_zero, List.set_cons_succ]
            refine stH (i := 10) (.bool true) hS ?_ ?_; (· exact fun w' _ => (by go_simp)); simp only [Act.put, List.setIfInBounds_toArray, List.set_cons_zero, List.set_cons_succ]
            refine stH (i := 11) (.bool true) hS ?_ ?_; (· exact fun w' _ => (by go_simp)); simp only [Act.put, List.setIfInBounds_toArray, List.set_cons_zero, List.set_cons_succ]
            refine stH (i := 12) (.slice (some ⟨be, oe, none⟩) n pc) hS ?_ ?_; (· exact fun w' _ => (by go_simp)); simp only [Act.put, List.setIfInBounds_toArray, List.set_cons_zero, List.set_cons_succ]
            refine stH (i := 13) (.int .i64 (k : Int)) hS ?_ ?_; (· exact fun w' _ => (by go_simp)); simp only [Act.put, List.setIfInBounds_toArray, List.set_cons_zero, List.set_cons_succ]
            refine stH (i := 14) (.pointer (some ⟨be, oe + k * 7, none⟩)) hS ?_ ?_; (· exact fun w' _ => (by go_simp)); simp only [Act.put, List.setIfInBounds_toArray, List.set_cons_zero, List.set_cons_succ]
            refine stH (i := 15) (.pointer (some ⟨be, oe + k * 7, none⟩)) hS ?_ ?_; (· exact fun w' _ => (by go_simp)); simp only [Act.put, List.setIfInBounds_toArray, List.set_cons_zero, List.set_cons_succ]
            refine stH (i := 16) (.int .i64 x0) hS ?_ ?_; (· exact fun w' hw => run_loadOp _ _ rfl _ rfl _ (load_cell (laterQ hw (Hc2.out 0 _ rfl)))); simp only [Act.put, List.setIfInBounds_toArray, List.set_cons_zero, List.set_cons_succ]
            refine stH (i := 17) (.slice (some ⟨be, oe, none⟩) n pc) hS ?_ ?_; (· exact fun w' _ => (by go_simp)); simp only [Act.put, List.setIfInBounds_toArray, List.set_cons_zero, List.set_cons_succ]
            refine stH (i := 18) (.int .i64 (k : Int)) hS ?_ ?_; (· exact fun w' _ => (by go_simp)); simp only [Act.put, List.setIfInBounds_toArray, List.set_cons_zero, List.set_cons_succ]
            refine stH (i := 19) (.pointer (some ⟨be, oe + k * 7, none⟩)) hS ?_ ?_; (· exact fun w' _ => (by go_simp)); simp only [Act.put, List.setIfInBounds_toArray, List.set_cons_zero, List.set_cons_succ]
            refine stH (i := 20) (.pointer (some ⟨be, oe + k * 7 + 1, none⟩)) hS ?_ ?_; (· exact fun w' _ => (by go_simp)); simp only [Act.put, List.setIfInBounds_toArray, List.set_cons_zero, List.set_cons_succ]
            refine stH (i := 21) (.int .i64 y0) hS ?_ ?_; (· exact fun w' hw => run_loadOp _ _ rfl _ rfl _ (load_cell (laterQ hw (Hc2.out 1 _ rfl)))); simp only [Act.put, List.setIfInBounds_toArray, List.set_cons_zero, List.set_cons_succ]
            refine stH (i := 22) (.pointer (some ⟨b2, 0, none⟩)) hS ?_ ?_; (· exact fun w' _ => (by go_simp)); simp only [Act.put, List.setIfInBounds_toArray, List.set_cons_zero, List.set_cons_succ]
            refine stH (i := 23) (.int .i64 wd) hS ?_ ?_; (· exact fun w' hw => run_loadOp _ _ rfl _ rfl _ (load_cell (laterQ hw (Ks.out 0 _ rfl)))); simp only [Act.put, List.setIfInBounds_toArray, List.set_cons_zero, List.set_cons_succ]
            refine stH (i := 24) (.int .i64 x) hS ?_ ?_; (· exact fun w' _ => (by go_simp)); simp only [Act.put, List.setIfInBounds_toArray, List.set_cons_zero, List.set_cons_succ]
            refine stH (i := 25) (.int .i64 y) hS ?_ ?_; (· exact fun w' _ => (by go_simp)); simp only [Act.put, List.setIfInBounds_toArray, List.set_cons_zero, List.set_cons_succ]
            refine wpH_one (i := 26) (by kernel_rfl) (wpOp_of (by simp only [List.getElem?_toArray, List.getElem?_cons_zero, List.getElem?_cons_succ]; rfl) ?_)
            refine st_call rfl 76 #[.int .i64 x0, .int .i64 y0, .int .i64 wd, .int .i64 x, .int .i64 y] (by go_simp) (HDi.out _) ?_
            rintro e _ ⟨rfl, hb⟩
            replace hL := hL.call hb
            replace hS := hS.trans (hb.mono hS.size)
            clear hb
            refine ⟨_, rfl, hS, ?_⟩
            simp only [Act.put, List.setIfInBounds_toArray, List.set_cons_zero, List.set_cons_succ]
            refine stH (i := 27) (.bool dd) hS ?_ ?_; (· exact fun w' _ => (by go_simp)); simp only [Act.put, List.setIfInBounds_toArray, List.set_cons_zero, List.set_cons_succ]
            refine wpAnyH_done (by kernel_rfl) ?_ _
            clear hS
            go_wp2
            go_meet
            case rel => exact ⟨by rw [← HGb.out]; first | rfl | (simp; done) | (simp [hk1]; done) | (simp [hk2]; done), hL⟩
          · have ek : ¬ (0 : Int) < (k : Int) := by omega
            have hk2 : ¬ 0 < k := by omega
            clear hk1
            cases sh
            · refine wpH_laterN (by kernel_rfl) fun hS => ?_
              replace hL := hL.drew
              refine stH (i := 0) (.pointer (some ⟨b2, 2, none⟩)) hS ?_ ?_; (· exact fun w' _ => (by go_simp)); simp only [Act.put, List.setIfInBounds_toArray, List.set_cons_zero, List.set_cons_succ]
              refine stH (i := 1) (.int .i64 join) hS ?_ ?_; (· exact fun w' hw => run_loadOp _ _ rfl _ rfl _ (load_cell (laterQ hw (Ks.out 2 _ rfl)))); simp only [Act.put, List.setIfInBounds_toArray, List.set_cons_zero, List.set_cons_succ]
              refine stH (i := 2) (.bool true) hS ?_ ?_; (· exact fun w' _ => (by go_simp)); simp only [Act.put, List.setIfInBounds_toArray, List.set_cons_zero, List.set_cons_succ]
              refine stH (i := 3) (.bool true) hS ?_ ?_; (· exact fun w' _ => (by go_simp)); simp only [Act.put, List.setIfInBounds_toArray, List.set_cons_zero, List.set_cons_succ]
              refine stH (i := 4) (.int .i64 (k : Int)) hS ?_ ?_; (· exact fun w' _ => (by go_simp)); simp only [Act.put, List.setIfInBounds_toArray, List.set_cons_zero, List.set_cons_succ]
              refine stH (i := 5) (.bool false) hS ?_ ?_; (· exact fun w' _ => (by go_simp)); simp only [Act.put, List.setIfInBounds_toArray, List.set_cons_zero, List.set_cons_succ]
              refine stH (i := 6) (.bool false) hS ?_ ?_; (· exact fun w' _ => (by go_simp)); simp only [Act.put, List.setIfInBounds_toArray, List.set_cons_zero, List.set_cons_succ]
              refine stH (i := 7) (.pointer (some ⟨b1, 3, none⟩)) hS ?_ ?_; (· exact fun w' _ => (by go_simp)); simp only [Act.put, List.setIfInBounds_toArray, List.set_cons_zero, List.set_cons_succ]
              refine stH (i := 8) (.bool false) hS ?_ ?_; (· exact fun w' hw => run_loadOp _ _ rfl _ rfl _ (load_cell (laterQ hw (Kc.out 3 _ rfl)))); simp only [Act.put, List.setIfInBounds_toArray, List.set_cons_zero, List.set_cons_succ]
              refine stH (i := 9) (.bool false) hS ?_ ?_; (· exact fun w' _ => (by go_simp)); simp only [Act.put, List.setIfInBounds_toArray, List.set_cons_zero, List.set_cons_succ]
              refine stH (i := 10) (.bool false) hS ?_ ?_; (· exact fun w' _ => (by go_simp)); simp only [Act.put, List.setIfInBounds_toArray, List.set_cons_zero, List.set_cons_succ]
              refine stH (i := 11) (.bool false) hS ?_ ?_; (· exact fun w' _ => (by go_simp)); simp only [Act.put, List.setIfInBounds_toArray, List.set_cons_zero, List.set_cons_succ]
              refine skH (i := 12) hS ?_
              simp only [Act.put, List.setIfInBounds_toArray, List.set_cons_zero, List.set_cons_succ]
              refine skH (i := 13) hS ?_
              simp only [Act.put, List.setIfInBounds_toArray, List.set_cons_zero, List.set_cons_succ]
              refine skH (i := 14) hS ?_
              simp only [Act.put, List.setIfInBounds_toArray, List.set_cons_zero, List.set_cons_succ]
              refine skH (i := 15) hS ?_
              simp only [Act.put, List.setIfInBounds_toArray, List.set_cons_zero, List.set_cons_succ]
              refine skH (i := 16) hS ?_
              simp only [Act.put, List.setIfInBounds_toArray, List.set_cons_zero, List.set_cons_succ]
              refine skH (i := 17) hS ?_
              simp only [Act.put, List.setIfInBounds_toArray, List.set_cons_zero, List.set_cons_succ]
              refine skH (i := 18) hS ?_
              simp only [Act.put, List.setIfInBounds_toArray, List.set_cons_zero, List.set_cons_succ]
              refine skH (i := 19) hS ?_
              simp only [Act.put, List.setIfInBounds_toArray, List.set_cons_zero, List.set_cons_succ]
              refine skH (i := 20) hS ?_
              simp only [Act.put, List.setIfInBounds_toArray, List.set_cons_zero, List.set_cons_succ]
              refine skH (i := 21) hS ?_
              simp only [Act.put, List.setIfInBounds_toArray, List.set_cons_zero, List.set_cons_succ]
              refine skH (i := 22) hS ?_
              simp only [Act.put, List.setIfInBounds_toArray, List.set_cons_zero, List.set_cons_succ]
              refine skH (i := 23) hS ?_
              simp only [Act.put, List.setIfInBounds_toArray, List.set_cons_zero, List.set_cons_succ]
              refine skH (i := 24) hS ?_
              simp only [Act.put, List.setIfInBounds_toArray, List.set_cons_zero, List.set_cons_succ]
              refine skH (i := 25) hS ?_
              simp only [Act.put, List.setIfInBounds_toArray, List.set_cons_zero, List.set_cons_succ]
              refine skH (i := 26) hS ?_
              simp only [Act.put, List.setIfInBounds_toArray, List.set_cons_zero, List.set_cons_succ]
              refine stH (i := 27) (.bool false) hS ?_ ?_; (· exact fun w' _ => (by go_simp)); simp only [Act.put, List.setIfInBounds_toArray, List.set_cons_zero, List.set_cons_succ]
              refine wpAnyH_done (by kernel_rfl) ?_ _
              clear hS
              go_wp2
              go_meet
              case rel => exact ⟨by rw [← HGb.out]; first | rfl | (simp; done) | (simp [hk1]; done) | (simp [hk2]; done), hL⟩
            · refine wpH_laterN (by kernel_rfl) fun hS => ?_
              replace hL := hL.drew
              refine stH (i := 0) (.pointer (some ⟨b2, 2, none⟩)) hS ?_ ?_; (· exact fun w' _ => (by go_simp)); simp only [Act.put, List.setIfInBounds_toArray, List.set_cons_zero, List.set_cons_succ]
              refine stH (i := 1) (.int .i64 join) hS ?_ ?_; (· exact fun w' hw => run_loadOp _ _ rfl _ rfl _ (load_cell (laterQ hw (Ks.out 2 _ rfl)))); simp only [Act.put, List.setIfInBounds_toArray, List.set_cons_zero, List.set_cons_succ]
              refine stH (i := 2) (.bool true) hS ?_ ?_; (· exact fun w' _ => (by go_simp)); simp only [Act.put, List.setIfInBounds_toArray, List.set_cons_zero, List.set_cons_succ]
              refine stH (i := 3) (.bool true) hS ?_ ?_; (· exact fun w' _ => (by go_simp)); simp only [Act.put, List.setIfInBounds_toArray, List.set_cons_zero, List.set_cons_succ]
              refine stH (i := 4) (.int .i64 (k : Int)) hS ?_ ?_; (· exact fun w' _ => (by go_simp)); simp only [Act.put, List.setIfInBounds_toArray, List.set_cons_zero, List.set_cons_succ]
              refine stH (i := 5) (.bool false) hS ?_ ?_; (· exact fun w' _ => (by go_simp)); simp only [Act.put, List.setIfInBounds_toArray, List.set_cons_zero, List.set_cons_succ]
              refine stH (i := 6) (.bool false) hS ?_ ?_; (· exact fun w' _ => (by go_simp)); simp only [Act.put, List.setIfInBounds_toArray, List.set_cons_zero, List.set_cons_succ]
              refine stH (i := 7) (.pointer (some ⟨b1, 3, none⟩)) hS ?_ ?_; (· exact fun w' _ => (by go_simp)); simp only [Act.put, List.setIfInBounds_toArray, List.set_cons_zero, List.set_cons_succ]
              refine stH (i := 8) (.bool true) hS ?_ ?_; (· exact fun w' hw => run_loadOp _ _ rfl _ rfl _ (load_cell (laterQ hw (Kc.out 3 _ rfl)))); simp only [Act.put, List.setIfInBounds_toArray, List.set_cons_zero, List.set_cons_succ]
              refine stH (i := 9) (.bool true) hS ?_ ?_; (· exact fun w' _ => (by go_simp)); simp only [Act.put, List.setIfInBounds_toArray, List.set_cons_zero, List.set_cons_succ]
              refine stH (i := 10) (.bool true) hS ?_ ?_; (· exact fun w' _ => (by go_simp)); simp only [Act.put, List.setIfInBounds_toArray, List.set_cons_zero, List.set_cons_succ]
              refine stH (i := 11) (.bool true) hS ?_ ?_; (· exact fun w' _ => (by go_simp)); simp only [Act.put, List.setIfInBounds_toArray, List.set_cons_zero, List.set_cons_succ]
              refine stH (i := 12) (.slice (some ⟨be, oe, none⟩) n pc) hS ?_ ?_; (· exact fun w' _ => (by go_simp)); simp only [Act.put, List.setIfInBounds_toArray, List.set_cons_zero, List.set_cons_succ]
              refine stH (i := 13) (.int .i64 (k : Int)) hS ?_ ?_; (· exact fun w' _ => (by go_simp)); simp only [Act.put, List.setIfInBounds_toArray, List.set_cons_zero, List.set_cons_succ]
              refine stH (i := 14) (.pointer (some ⟨be, oe + k * 7, none⟩)) hS ?_ ?_; (· exact fun w' _ => (by go_simp)); simp only [Act.put, List.setIfInBounds_toArray, List.set_cons_zero, List.set_cons_succ]
              refine stH (i := 15) (.pointer (some ⟨be, oe + k * 7, none⟩)) hS ?_ ?_; (· exact fun w' _ => (by go_simp)); simp only [Act.put, List.setIfInBounds_toArray, List.set_cons_zero, List.set_cons_succ]
              refine stH (i := 16) (.int .i64 x0) hS ?_ ?_; (· exact fun w' hw => run_loadOp _ _ rfl _ rfl _ (load_cell (laterQ hw (Hc2.out 0 _ rfl)))); simp only [Act.put, List.setIfInBounds_toArray, List.set_cons_zero, List.set_cons_succ]
              refine stH (i := 17) (.slice (some ⟨be, oe, none⟩) n pc) hS ?_ ?_; (· exact fun w' _ => (by go_simp)); simp only [Act.put, List.setIfInBounds_toArray, List.set_cons_zero, List.set_cons_succ]
              refine stH (i := 18) (.int .i64 (k : Int)) hS ?_ ?_; (· exact fun w' _ => (by go_simp)); simp only [Act.put, List.setIfInBounds_toArray, List.set_cons_zero, List.set_cons_succ]
              refine stH (i := 19) (.pointer (some ⟨be, oe + k * 7, none⟩)) hS ?_ ?_; (· exact fun w' _ => (by go_simp)); simp only [Act.put, List.setIfInBounds_toArray, List.set_cons_zero, List.set_cons_succ]
              refine stH (i := 20) (.pointer (some ⟨be, oe + k * 7 + 1, none⟩)) hS ?_ ?_; (· exact fun w' _ => (by go_simp)); simp only [Act.put, List.setIfInBounds_toArray, List.set_cons_zero, List.set_cons_succ]
              refine stH (i := 21) (.int .i64 y0) hS ?_ ?_; (· exact fun w' hw => run_loadOp _ _ rfl _ rfl _ (load_cell (laterQ hw (Hc2.out 1 _ rfl)))); simp only [Act.put, List.setIfInBounds_toArray, List.set_cons_zero, List.set_cons_succ]
              refine stH (i := 22) (.pointer (some ⟨b2, 0, none⟩)) hS ?_ ?_; (· exact fun w' _ => (by go_simp)); simp only [Act.put, List.setIfInBounds_toArray, List.set_cons_zero, List.set_cons_succ]
              refine stH (i := 23) (.int .i64 wd) hS ?_ ?_; (· exact fun w' hw => run_loadOp _ _ rfl _ rfl _ (load_cell (laterQ hw (Ks.out 0 _ rfl)))); simp only [Act.put, List.setIfInBounds_toArray, List.set_cons_zero, List.set_cons_succ]
              refine stH (i := 24) (.int .i64 x) hS ?_ ?_; (· exact fun w' _ => (by go_simp)); simp only [Act.put, List.setIfInBounds_toArray, List.set_cons_zero, List.set_cons_succ]
              refine stH (i := 25) (.int .i64 y) hS ?_ ?_; (· exact fun w' _ => (by go_simp)); simp only [Act.put, List.setIfInBounds_toArray, List.set_cons_zero, List.set_cons_succ]
              refine wpH_one (i := 26) (by kernel_rfl) (wpOp_of (by simp only [List.getElem?_toArray, List.getElem?_cons_zero, List.getElem?_cons_succ]; rfl) ?_)
              refine st_call rfl 76 #[.int .i64 x0, .int .i64 y0, .int .i64 wd, .int .i64 x, .int .i64 y] (by go_simp) (HDi.out _) ?_
              rintro e _ ⟨rfl, hb⟩
              replace hL := hL.call hb
              replace hS := hS.trans (hb.mono hS.size)
              clear hb
              refine ⟨_, rfl, hS, ?_⟩
              simp only [Act.put, List.setIfInBounds_toArray, List.set_cons_zero, List.set_cons_succ]
              refine stH (i := 27) (.bool dd) hS ?_ ?_; (· exact fun w' _ => (by go_simp)); simp only [Act.put, List.setIfInBounds_toArray, List.set_cons_zero, List.set_cons_succ]
              refine wpAnyH_done (by kernel_rfl) ?_ _
              clear hS
              go_wp2
              go_meet
              case rel => exact ⟨by rw [← HGb.out]; first | rfl | (simp; done) | (simp [hk1]; done) | (simp [hk2]; done), hL⟩
      case rest =>
        clear hL HGb
        obtain ⟨rfl, hL⟩ := hcut
        cases gb
        · have HN2 := Lib.hid (HST.out HB.out)
          go_wp2_with (first | (first | (clear hL n1; with_reducible intro b1 w1 hL) | (clear hL n2; with_reducible intro b2 w2 hL) | (clear hL; with_reducible intro _ _ hL)) | (with_reducible refine wpC_alloc rfl _ rfl _ _ inferInstance hL ?_) | (with_reducible first | refine wpB_agg rfl _ _ _ rfl rfl hL ?_ | refine wpB_one rfl _ _ (.int _ _) rfl rfl rfl hL ?_ | refine wpB_one rfl _ _ (.slice _ _ _) rfl rfl rfl hL ?_ | refine wpB_one rfl _ _ (.bool _) rfl rfl rfl hL ?_ | refine wpB_one rfl _ _ (.pointer _) rfl rfl rfl hL ?_ | refine wpB_one rfl _ _ (.func _ _ _) rfl rfl rfl hL ?_) | (with_reducible first | refine wpH_max rfl _ _ _ _ rfl _ _ rfl rfl ?_ | refine wpH_min rfl _ _ _ _ rfl _ _ rfl rfl ?_) | ((with_reducible refine wpA_load rfl _ _ rfl _ rfl ?_); first | refine loadA hL ?_ | refine loadR hL ?_ | refine loadC hL ?_ | refine loadD ?_ | refine loadE hL ?_ | refine loadF ?_) | ((with_reducible refine wpA_index rfl _ _ _ rfl _ rfl _ rfl ?_); first | (refine indexA ?_; try rw [Int.toNat_natCast]) | refine indexC ?_) | ((with_reducible refine wpA_store rfl _ _ _ rfl _ rfl (.agg _) rfl ?_); refine storeR hL ?_; clear hL; intro _ hL) | ((with_reducible first | refine wpA_store rfl _ _ _ rfl _ rfl (.int _ _) rfl ?_ | refine wpA_store rfl _ _ _ rfl _ rfl (.slice _ _ _) rfl ?_ | refine wpA_store rfl _ _ _ rfl _ rfl (.bool _) rfl ?_ | refine wpA_store rfl _ _ _ rfl _ rfl (.pointer _) rfl ?_ | refine wpA_store rfl _ _ _ rfl _ rfl (.func _ _ _) rfl ?_); (first | refine storeA hL ?_ | refine storeO hL ?_); (clear hL; intro _ hL)) | ((with_reducible refine wpA_lit rfl _ _ _ rfl ?_); first | refine litA1 hL ?_ | refine litA2 hL ?_ | refine litA3 hL ?_ | refine litA4 hL ?_ | refine litA6 hL ?_) | ((with_reducible refine wpA_append rfl _ _ _ rfl (.slice _ _ _) rfl ?_); intro vq hvq; simp [go_sem] at hvq; subst hvq; refine appendA hL ?_; clear hL; intro _ _ _ hL; try dsimp only at hL) | ((with_reducible refine wpA_make rfl _ _ _ rfl _ rfl rfl ?_); refine makeA hL ?_))
          go_roundw
          case rel => exact ⟨k + 1, by omega, by go_num, HN2.out, hL⟩
          case measure => simp [intOf]; omega
        · have HT := Lib.hid (HY.out HB.out)
          go_wp2_with (first | (first | (clear hL n1; with_reducible intro b1 w1 hL) | (clear hL n2; with_reducible intro b2 w2 hL) | (clear hL; with_reducible intro _ _ hL)) | (with_reducible refine wpC_alloc rfl _ rfl _ _ inferInstance hL ?_) | (with_reducible first | refine wpB_agg rfl _ _ _ rfl rfl hL ?_ | refine wpB_one rfl _ _ (.int _ _) rfl rfl rfl hL ?_ | refine wpB_one rfl _ _ (.slice _ _ _) rfl rfl rfl hL ?_ | refine wpB_one rfl _ _ (.bool _) rfl rfl rfl hL ?_ | refine wpB_one rfl _ _ (.pointer _) rfl rfl rfl hL ?_ | refine wpB_one rfl _ _ (.func _ _ _) rfl rfl rfl hL ?_) | (with_reducible first | refine wpH_max rfl _ _ _ _ rfl _ _ rfl rfl ?_ | refine wpH_min rfl _ _ _ _ rfl _ _ rfl rfl ?_) | ((with_reducible refine wpA_load rfl _ _ rfl _ rfl ?_); first | refine loadA hL ?_ | refine loadR hL ?_ | refine loadC hL ?_ | refine loadD ?_ | refine loadE hL ?_ | refine loadF ?_) | ((with_reducible refine wpA_index rfl _ _ _ rfl _ rfl _ rfl ?_); first | (refine indexA ?_; try rw [Int.toNat_natCast]) | refine indexC ?_) | ((with_reducible refine wpA_store rfl _ _ _ rfl _ rfl (.agg _) rfl ?_); refine storeR hL ?_; clear hL; intro _ hL) | ((with_reducible first | refine wpA_store rfl _ _ _ rfl _ rfl (.int _ _) rfl ?_ | refine wpA_store rfl _ _ _ rfl _ rfl (.slice _ _ _) rfl ?_ | refine wpA_store rfl _ _ _ rfl _ rfl (.bool _) rfl ?_ | refine wpA_store rfl _ _ _ rfl _ rfl (.pointer _) rfl ?_ | refine wpA_store rfl _ _ _ rfl _ rfl (.func _ _ _) rfl ?_); (first | refine storeA hL ?_ | refine storeO hL ?_); (clear hL; intro _ hL)) | ((with_reducible refine wpA_lit rfl _ _ _ rfl ?_); first | refine litA1 hL ?_ | refine litA2 hL ?_ | refine litA3 hL ?_ | refine litA4 hL ?_ | refine litA6 hL ?_) | ((with_reducible refine wpA_append rfl _ _ _ rfl (.slice _ _ _) rfl ?_); intro vq hvq; simp [go_sem] at hvq; subst hvq; refine appendA hL ?_; clear hL; intro _ _ _ hL; try dsimp only at hL) | ((with_reducible refine wpA_make rfl _ _ _ rfl _ rfl rfl ?_); refine makeA hL ?_))
          go_ret
          exact ⟨ret_bool HT.out.symm, hL.below⟩
    · have e : n = k := by omega
      subst e
      have HF := Lib.hid (HNo.out hall)
      clear hall
      cases sh
      · go_wp2_with (first | (go_at_call 77; (with_reducible refine (HEn.out _ _ hL.fact0 HZ.out).mono ?_); rintro e _ ⟨rfl, hb⟩; replace hL := hL.call hb; clear hb) | (first | (clear hL n1; with_reducible intro b1 w1 hL) | (clear hL n2; with_reducible intro b2 w2 hL) | (clear hL; with_reducible intro _ _ hL)) | (with_reducible refine wpC_alloc rfl _ rfl _ _ inferInstance hL ?_) | (with_reducible first | refine wpB_agg rfl _ _ _ rfl rfl hL ?_ | refine wpB_one rfl _ _ (.int _ _) rfl rfl rfl hL ?_ | refine wpB_one rfl _ _ (.slice _ _ _) rfl rfl rfl hL ?_ | refine wpB_one rfl _ _ (.bool _) rfl rfl rfl hL ?_ | refine wpB_one rfl _ _ (.pointer _) rfl rfl rfl hL ?_ | refine wpB_one rfl _ _ (.func _ _ _) rfl rfl rfl hL ?_) | (with_reducible first | refine wpH_max rfl _ _ _ _ rfl _ _ rfl rfl ?_ | refine wpH_min rfl _ _ _ _ rfl _ _ rfl rfl ?_) | ((with_reducible refine wpA_load rfl _ _ rfl _ rfl ?_); first | refine loadA hL ?_ | refine loadR hL ?_ | refine loadC hL ?_ | refine loadD ?_ | refine loadE hL ?_ | refine loadF ?_) | ((with_reducible refine wpA_index rfl _ _ _ rfl _ rfl _ rfl ?_); first | (refine indexA ?_; try rw [Int.toNat_natCast]) | refine indexC ?_) | ((with_reducible refine wpA_store rfl _ _ _ rfl _ rfl (.agg _) rfl ?_); refine storeR hL ?_; clear hL; intro _ hL) | ((with_reducible first | refine wpA_store rfl _ _ _ rfl _ rfl (.int _ _) rfl ?_ | refine wpA_store rfl _ _ _ rfl _ rfl (.slice _ _ _) rfl ?_ | refine wpA_store rfl _ _ _ rfl _ rfl (.bool _) rfl ?_ | refine wpA_store rfl _ _ _ rfl _ rfl (.pointer _) rfl ?_ | refine wpA_store rfl _ _ _ rfl _ rfl (.func _ _ _) rfl ?_); (first | refine storeA hL ?_ | refine storeO hL ?_); (clear hL; intro _ hL)) | ((with_reducible refine wpA_lit rfl _ _ _ rfl ?_); first | refine litA1 hL ?_ | refine litA2 hL ?_ | refine litA3 hL ?_ | refine litA4 hL ?_ | refine litA6 hL ?_) | ((with_reducible refine wpA_append rfl _ _ _ rfl (.slice _ _ _) rfl ?_); intro vq hvq; simp [go_sem] at hvq; subst hvq; refine appendA hL ?_; clear hL; intro _ _ _ hL; try dsimp only at hL) | ((with_reducible refine wpA_make rfl _ _ _ rfl _ rfl rfl ?_); refine makeA hL ?_))
        go_ret
        exact ⟨ret_bool (by rw [HF.out]; rfl), hL.below⟩
      · go_wp2_with (first | (first | (clear hL n1; with_reducible intro b1 w1 hL) | (clear hL n2; with_reducible intro b2 w2 hL) | (clear hL; with_reducible intro _ _ hL)) | (with_reducible refine wpC_alloc rfl _ rfl _ _ inferInstance hL ?_) | (with_reducible first | refine wpB_agg rfl _ _ _ rfl rfl hL ?_ | refine wpB_one rfl _ _ (.int _ _) rfl rfl rfl hL ?_ | refine wpB_one rfl _ _ (.slice _ _ _) rfl rfl rfl hL ?_ | refine wpB_one rfl _ _ (.bool _) rfl rfl rfl hL ?_ | refine wpB_one rfl _ _ (.pointer _) rfl rfl rfl hL ?_ | refine wpB_one rfl _ _ (.func _ _ _) rfl rfl rfl hL ?_) | (with_reducible first | refine wpH_max rfl _ _ _ _ rfl _ _ rfl rfl ?_ | refine wpH_min rfl _ _ _ _ rfl _ _ rfl rfl ?_) | ((with_reducible refine wpA_load rfl _ _ rfl _ rfl ?_); first | refine loadA hL ?_ | refine loadR hL ?_ | refine loadC hL ?_ | refine loadD ?_ | refine loadE hL ?_ | refine loadF ?_) | ((with_reducible refine wpA_index rfl _ _ _ rfl _ rfl _ rfl ?_); first | (refine indexA ?_; try rw [Int.toNat_natCast]) | refine indexC ?_) | ((with_reducible refine wpA_store rfl _ _ _ rfl _ rfl (.agg _) rfl ?_); refine storeR hL ?_; clear hL; intro _ hL) | ((with_reducible first | refine wpA_store rfl _ _ _ rfl _ rfl (.int _ _) rfl ?_ | refine wpA_store rfl _ _ _ rfl _ rfl (.slice _ _ _) rfl ?_ | refine wpA_store rfl _ _ _ rfl _ rfl (.bool _) rfl ?_ | refine wpA_store rfl _ _ _ rfl _ rfl (.pointer _) rfl ?_ | refine wpA_store rfl _ _ _ rfl _ rfl (.func _ _ _) rfl ?_); (first | refine storeA hL ?_ | refine storeO hL ?_); (clear hL; intro _ hL)) | ((with_reducible refine wpA_lit rfl _ _ _ rfl ?_); first | refine litA1 hL ?_ | refine litA2 hL ?_ | refine litA3 hL ?_ | refine litA4 hL ?_ | refine litA6 hL ?_) | ((with_reducible refine wpA_append rfl _ _ _ rfl (.slice _ _ _) rfl ?_); intro vq hvq; simp [go_sem] at hvq; subst hvq; refine appendA hL ?_; clear hL; intro _ _ _ hL; try dsimp only at hL) | ((with_reducible refine wpA_make rfl _ _ _ rfl _ rfl rfl ?_); refine makeA hL ?_))
        go_ret
        exact ⟨ret_bool (by rw [HF.out]; rfl), hL.below⟩
end Go.Proofs.Ytfnolaoohmecbaa
