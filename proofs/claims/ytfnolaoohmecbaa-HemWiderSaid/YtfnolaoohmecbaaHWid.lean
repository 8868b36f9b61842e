/- HemWider returns true. -/
import Derived.Test.YtfnolaoohmecbaaHmM
import Derived.Test.YtfnolaoohmecbaaHmV4
import Derived.Test.YtfnolaoohmecbaaBak
-- lit6
namespace Go.Proofs.Ytfnolaoohmecbaa
open Go.RowKit

theorem straightS_back {l : List Sg} (h : straightS l = true) : straightS (backS l) = true := by
  unfold straightS at *
  simp only [Bool.and_eq_true, List.all_eq_true, decide_eq_true_eq] at h ⊢
  obtain ⟨h, h3⟩ := h
  refine ⟨(back_contours h).1, ?_⟩
  have hb : ∀ c ∈ contoursS l, CtAll (fun e => e.bent = false) (fun _ _ => True) c := by
    unfold contoursS
    rw [if_pos h]
    exact ctFold_all _ _ l [] none 0 0 (fun _ _ _ => trivial) (fun s hs _ _ x y _ => by unfold segE; simp [h3 s hs]) (by simp) (by intro c h; cases h)
  intro s hs
  unfold backS at hs
  obtain ⟨c, hc, hs⟩ := List.mem_flatMap.1 hs
  unfold backC at hs
  rcases List.mem_cons.1 hs with rfl | hs
  · unfold backM; split <;> simp
  · rcases List.mem_append.1 hs with hs | hs
    · obtain ⟨e, he, rfl⟩ := List.mem_map.1 hs
      have := ((hb c hc).2 e (by simpa using he)).1
      unfold backSg
      rw [this]
      simp
    · split at hs
      · rw [List.mem_singleton.1 hs]; simp
      · cases hs
set_option maxRecDepth 100000 in
set_option maxHeartbeats 8000000 in
theorem wider_calls (w : World) (va : Value) (na : List Int) (ha : NumsAt w va na) (vsn vm vl : Int) : Calls Try.prog 8 #[va, .int .i64 vsn, .int .i64 vm, .int .i64 vl] w fun e w' => e = .returned (.bool true) ∧ Below w.heap.size w w' := by
  have hL := Holds.start w
  obtain ⟨a, ac, rfl, _⟩ := ha.parts
  have HMa := Lib.hid (fun w' hb => made_calls w' _ na (SliceAt.below ha hb) false)
  clear ha
  have m1 := made_may na false
  have k1 := (made_good na false).2
  have t1 := made_straight na
  generalize madeS na false = S at *
  have q1a := Int.emod_nonneg vm (show (200 : Int) ≠ 0 by omega)
  have q1b := Int.emod_lt_of_pos vm (show (0 : Int) < 200 by omega)
  have HP1 := Lib.hid (fun w => place_calls vm 200 (by omega) (by omega) w)
  generalize vm % 200 = d at *
  have q4a := Int.emod_nonneg vl (show (480 : Int) ≠ 0 by omega)
  have q4b := Int.emod_lt_of_pos vl (show (0 : Int) < 480 by omega)
  have HP4 := Lib.hid (fun w => place_calls vl 480 (by omega) (by omega) w)
  generalize vl % 480 = t0 at *
  have hy : -8191 ≤ t0 - 100 ∧ t0 - 100 ≤ 8191 := by omega
  have hsm := styN_may vsn
  have hsb := styN_bd vsn
  have HSt := Lib.hid (fun w => style_calls vsn w)
  generalize styN vsn = sty at *
  obtain ⟨wd, cap, join⟩ := sty
  dsimp only at *
  have hsm2 : mayY ⟨wd + d, cap, join⟩ = true := by unfold mayY; simp; omega
  have HA := Lib.hid (fun w v hv => lnLine_calls w v S hv ⟨wd, cap, join⟩ (t0 - 100) 24 24 rfl t1 hsm hy (by decide))
  have HB := Lib.hid (fun w v hv => lnLine_calls w v S hv ⟨wd + d, cap, join⟩ (t0 - 100) 24 24 rfl t1 hsm2 hy (by decide))
  have HR := Lib.hid (fun w v hv => lnLine_calls w v (backS S) hv ⟨wd, cap, join⟩ (t0 - 100) 24 24 rfl (straightS_back t1) hsm hy (by decide))
  have HPR := Lib.hid (show ∀ i, lineB (backS S) ⟨wd, cap, join⟩ (t0 - 100) i = lineB S ⟨wd, cap, join⟩ (t0 - 100) i from fun i => back_cov m1 _ _ _)
  have hAB : ∀ i, lineB S ⟨wd, cap, join⟩ (t0 - 100) i = true → lineB S ⟨wd + d, cap, join⟩ (t0 - 100) i = true := fun i h => allS_wider S (s := ⟨wd, cap, join⟩) (w := wd + d) (by dsimp only; omega) (by dsimp only; omega) _ _ h
  have HBk := Lib.hid (fun w' v hv => back_calls w' v S hv)
  clear m1 k1 t1 hsm hsm2
  generalize lineB S ⟨wd, cap, join⟩ (t0 - 100) = PA at *
  generalize lineB S ⟨wd + d, cap, join⟩ (t0 - 100) = PB at *
  generalize lineB (backS S) ⟨wd, cap, join⟩ (t0 - 100) = PR at *
  have HLs := Lib.hid (show ∀ w v u, LnF v PA 24 w → LnF u PB 24 w → Calls Try.prog 28 #[v, u] w fun e w' => ∃ za zc, e = .returned (.slice za 0 zc) ∧ Below w.heap.size w w' from fun w v u h1 h2 => by
    refine (lnLess_calls w (by decide) h1 h2).mono ?_
    rintro e w' ⟨v', rfl, hb, hf⟩
    obtain ⟨za, zc, rfl, _⟩ := hf.now
    refine ⟨za, zc, ?_, hb⟩
    have e0 : runsTo (fun i => PA i && !PB i) 24 = [] := by
      rw [runsTo_congr (q := fun _ => false) (fun i _ => by
        cases h : PA i with
        | false => rfl
        | true => rw [hAB i h]; rfl)]
      rfl
    rw [e0]
    rfl)
  clear hAB
  generalize backS S = SB at *
  generalize ht : t0 - 100 = t at *
  have wwd : IntKind.i64.wrap (wd + d) = wd + d := by rw [IntKind.wrap_i64]; omega
  have n1 : True := trivial; have n2 : True := trivial
  go_enter Try.func8, Try.ntmps8
  go_wp2_with (first | (go_at_call 12; (with_reducible refine (known_calls _).mono ?_); rintro e _ ⟨rfl, hb⟩; replace hL := hL.call hb; clear hb) | (go_at_call 25; (with_reducible refine (HMa.out _ hL.below).mono ?_); rintro e _ ⟨vs, rfl, hb, hf⟩; replace hL := hL.callF hb hf; clear hb hf) | (go_at_call 24; (with_reducible refine (HSt.out _).mono ?_); rintro e _ ⟨rfl, hb⟩; replace hL := hL.call hb; clear hb) | (first | (clear hL n1; with_reducible intro b1 w1 hL) | (clear hL n2; with_reducible intro b2 w2 hL) | (clear hL; with_reducible intro _ _ hL)) | (with_reducible refine wpC_alloc rfl _ rfl _ _ inferInstance hL ?_) | (with_reducible first | refine wpB_agg rfl _ _ _ rfl rfl hL ?_ | refine wpB_one rfl _ _ (.int _ _) rfl rfl rfl hL ?_ | refine wpB_one rfl _ _ (.slice _ _ _) rfl rfl rfl hL ?_ | refine wpB_one rfl _ _ (.bool _) rfl rfl rfl hL ?_ | refine wpB_one rfl _ _ (.pointer _) rfl rfl rfl hL ?_ | refine wpB_one rfl _ _ (.func _ _ _) rfl rfl rfl hL ?_) | (with_reducible first | refine wpH_max rfl _ _ _ _ rfl _ _ rfl rfl ?_ | refine wpH_min rfl _ _ _ _ rfl _ _ rfl rfl ?_) | ((with_reducible refine wpA_load rfl _ _ rfl _ rfl ?_); first | refine loadA hL ?_ | refine loadR hL ?_ | refine loadC hL ?_ | refine loadD ?_ | refine loadE hL ?_ | refine loadF ?_) | ((with_reducible refine wpA_index rfl _ _ _ rfl _ rfl _ rfl ?_); first | (refine indexA ?_; try rw [Int.toNat_natCast]) | refine indexC ?_) | ((with_reducible refine wpA_store rfl _ _ _ rfl _ rfl (.agg _) rfl ?_); refine storeR hL ?_; clear hL; intro _ hL) | ((with_reducible first | refine wpA_store rfl _ _ _ rfl _ rfl (.int _ _) rfl ?_ | refine wpA_store rfl _ _ _ rfl _ rfl (.slice _ _ _) rfl ?_ | refine wpA_store rfl _ _ _ rfl _ rfl (.bool _) rfl ?_ | refine wpA_store rfl _ _ _ rfl _ rfl (.pointer _) rfl ?_ | refine wpA_store rfl _ _ _ rfl _ rfl (.func _ _ _) rfl ?_); (first | refine storeA hL ?_ | refine storeO hL ?_); (clear hL; intro _ hL)) | ((with_reducible refine wpA_lit rfl _ _ _ rfl ?_); first | refine litA1 hL ?_ | refine litA2 hL ?_ | refine litA3 hL ?_ | refine litA4 hL ?_ | refine litA6 hL ?_) | ((with_reducible refine wpA_append rfl _ _ _ rfl (.slice _ _ _) rfl ?_); intro vq hvq; simp [go_sem] at hvq; subst hvq; refine appendA hL ?_; clear hL; intro _ _ _ hL; try dsimp only at hL) | ((with_reducible refine wpA_make rfl _ _ _ rfl _ rfl rfl ?_); refine makeA hL ?_))
  replace hL := hL.drew
  have hS : (fun w' : World => w'.rangeAt b1 0 #[.int .i64 wd, .int .i64 cap, .int .i64 join].toList) _ := hL.range (by (repeat (first | with_reducible exact At.here | with_reducible apply At.there)))
  refine wpM_begin (by kernel_rfl) (fun w' : World => w'.rangeAt b1 0 #[.int .i64 wd, .int .i64 cap, .int .i64 join].toList) 6 ?_
  refine stM (i := 0) (.pointer (some ⟨b1, 0, none⟩)) hS ?_ ?_; (· exact fun w' _ => (by go_simp)); simp only [Act.put, List.setIfInBounds_toArray, List.set_cons_zero, List.set_cons_succ]
  refine stM (i := 1) (.int .i64 wd) hS ?_ ?_; (· exact fun w' hw => run_loadOp _ _ rfl _ rfl _ (load_cell (hw 0 _ rfl))); simp only [Act.put, List.setIfInBounds_toArray, List.set_cons_zero, List.set_cons_succ]
  refine stM (i := 2) (.int .i64 vm) hS ?_ ?_; (· exact fun w' _ => (by go_simp)); simp only [Act.put, List.setIfInBounds_toArray, List.set_cons_zero, List.set_cons_succ]
  refine wpM_one (i := 3) (by kernel_rfl) (wpOp_of (by simp only [List.getElem?_toArray, List.getElem?_cons_zero, List.getElem?_cons_succ]; rfl) ?_)
  refine st_call rfl 21 #[.int .i64 vm, .int .i64 200] (by go_simp) (HP1.out _) ?_
  rintro e _ ⟨rfl, rfl⟩
  refine ⟨_, rfl, fun _ => hS, ?_⟩
  simp only [Act.put, List.setIfInBounds_toArray, List.set_cons_zero, List.set_cons_succ]
  refine stM (i := 4) (.int .i64 (wd + d)) hS ?_ ?_; (· exact fun w' _ => (by go_simp)); simp only [Act.put, List.setIfInBounds_toArray, List.set_cons_zero, List.set_cons_succ]
  refine stM (i := 5) (.pointer (some ⟨b2, 0, none⟩)) hS ?_ ?_; (· exact fun w' _ => (by go_simp)); simp only [Act.put, List.setIfInBounds_toArray, List.set_cons_zero, List.set_cons_succ]
  refine wpM_one (i := 6) (by kernel_rfl) (wpOp_of (by simp only [List.getElem?_toArray, List.getElem?_cons_zero, List.getElem?_cons_succ]; rfl) ?_)
  refine st_store rfl _ _ _ rfl ⟨b2, 0, none⟩ rfl (.int .i64 (wd + d)) rfl (storeA hL ?_)
  clear hL
  intro w9 hL
  refine ⟨fun h => absurd rfl h, ?_⟩
  simp only [Act.put]
  refine wpM_done (by kernel_rfl) ?_
  clear hS
  go_wp2_with (first | (go_at_call 21; (with_reducible refine (HP4.out _).mono ?_); rintro e _ ⟨rfl, rfl⟩) | (first | (clear hL n1; with_reducible intro b1 w1 hL) | (clear hL n2; with_reducible intro b2 w2 hL) | (clear hL; with_reducible intro _ _ hL)) | (with_reducible refine wpC_alloc rfl _ rfl _ _ inferInstance hL ?_) | (with_reducible first | refine wpB_agg rfl _ _ _ rfl rfl hL ?_ | refine wpB_one rfl _ _ (.int _ _) rfl rfl rfl hL ?_ | refine wpB_one rfl _ _ (.slice _ _ _) rfl rfl rfl hL ?_ | refine wpB_one rfl _ _ (.bool _) rfl rfl rfl hL ?_ | refine wpB_one rfl _ _ (.pointer _) rfl rfl rfl hL ?_ | refine wpB_one rfl _ _ (.func _ _ _) rfl rfl rfl hL ?_) | (with_reducible first | refine wpH_max rfl _ _ _ _ rfl _ _ rfl rfl ?_ | refine wpH_min rfl _ _ _ _ rfl _ _ rfl rfl ?_) | ((with_reducible refine wpA_load rfl _ _ rfl _ rfl ?_); first | refine loadA hL ?_ | refine loadR hL ?_ | refine loadC hL ?_ | refine loadD ?_ | refine loadE hL ?_ | refine loadF ?_) | ((with_reducible refine wpA_index rfl _ _ _ rfl _ rfl _ rfl ?_); first | (refine indexA ?_; try rw [Int.toNat_natCast]) | refine indexC ?_) | ((with_reducible refine wpA_store rfl _ _ _ rfl _ rfl (.agg _) rfl ?_); refine storeR hL ?_; clear hL; intro _ hL) | ((with_reducible first | refine wpA_store rfl _ _ _ rfl _ rfl (.int _ _) rfl ?_ | refine wpA_store rfl _ _ _ rfl _ rfl (.slice _ _ _) rfl ?_ | refine wpA_store rfl _ _ _ rfl _ rfl (.bool _) rfl ?_ | refine wpA_store rfl _ _ _ rfl _ rfl (.pointer _) rfl ?_ | refine wpA_store rfl _ _ _ rfl _ rfl (.func _ _ _) rfl ?_); (first | refine storeA hL ?_ | refine storeO hL ?_); (clear hL; intro _ hL)) | ((with_reducible refine wpA_lit rfl _ _ _ rfl ?_); first | refine litA1 hL ?_ | refine litA2 hL ?_ | refine litA3 hL ?_ | refine litA4 hL ?_ | refine litA6 hL ?_) | ((with_reducible refine wpA_append rfl _ _ _ rfl (.slice _ _ _) rfl ?_); intro vq hvq; simp [go_sem] at hvq; subst hvq; refine appendA hL ?_; clear hL; intro _ _ _ hL; try dsimp only at hL) | ((with_reducible refine wpA_make rfl _ _ _ rfl _ rfl rfl ?_); refine makeA hL ?_))
  replace hL := hL.drew
  have hS := (show (fun w' : World => w'.rangeAt b1 0 #[.int .i64 wd, .int .i64 cap, .int .i64 join].toList ∧ w'.rangeAt b2 0 #[.int .i64 (wd + d), .int .i64 cap, .int .i64 join].toList) _ from ⟨hL.range (by (repeat (first | with_reducible exact At.here | with_reducible apply At.there))), hL.range (by (repeat (first | with_reducible exact At.here | with_reducible apply At.there)))⟩)
  refine wpH_begin (by kernel_rfl) (fun w' : World => w'.rangeAt b1 0 #[.int .i64 wd, .int .i64 cap, .int .i64 join].toList ∧ w'.rangeAt b2 0 #[.int .i64 (wd + d), .int .i64 cap, .int .i64 join].toList) ?_
  refine stH (i := 0) (vs) hS ?_ ?_; (· exact fun w' _ => (by go_simp)); simp only [Act.put, List.setIfInBounds_toArray, List.set_cons_zero, List.set_cons_succ]
  refine stH (i := 1) (.agg #[.int .i64 wd, .int .i64 cap, .int .i64 join]) hS ?_ ?_; (· exact fun w' hw => run_loadOp _ _ rfl _ rfl _ (load_range (cs := #[.int .i64 wd, .int .i64 cap, .int .i64 join]) rfl hw.1)); simp only [Act.put, List.setIfInBounds_toArray, List.set_cons_zero, List.set_cons_succ]
  refine stH (i := 2) (.int .i64 t) hS ?_ ?_; (· exact fun w' _ => (by go_simp)); simp only [Act.put, List.setIfInBounds_toArray, List.set_cons_zero, List.set_cons_succ]
  refine stH (i := 4) (vs) hS ?_ ?_; (· exact fun w' _ => (by go_simp)); simp only [Act.put, List.setIfInBounds_toArray, List.set_cons_zero, List.set_cons_succ]
  refine stH (i := 5) (.agg #[.int .i64 (wd + d), .int .i64 cap, .int .i64 join]) hS ?_ ?_; (· exact fun w' hw => run_loadOp _ _ rfl _ rfl _ (load_range (cs := #[.int .i64 (wd + d), .int .i64 cap, .int .i64 join]) rfl hw.2)); simp only [Act.put, List.setIfInBounds_toArray, List.set_cons_zero, List.set_cons_succ]
  refine stH (i := 6) (.int .i64 t) hS ?_ ?_; (· exact fun w' _ => (by go_simp)); simp only [Act.put, List.setIfInBounds_toArray, List.set_cons_zero, List.set_cons_succ]
  refine wpH_one (i := 3) (by kernel_rfl) (wpOp_of (by simp only [List.getElem?_toArray, List.getElem?_cons_zero, List.getElem?_cons_succ]; rfl) ?_)
  refine st_call rfl 14 #[vs, .agg #[.int .i64 wd, .int .i64 cap, .int .i64 join], .int .i64 t, .int .i64 24] (by go_simp) (HA.out _ _ (hL.fact (.head _))) ?_
  rintro e w' ⟨ua, rfl, hb, hf⟩
  replace hL := hL.callF hb hf
  clear hb hf hS
  have hS := (show (fun w' : World => w'.rangeAt b1 0 #[.int .i64 wd, .int .i64 cap, .int .i64 join].toList ∧ w'.rangeAt b2 0 #[.int .i64 (wd + d), .int .i64 cap, .int .i64 join].toList) _ from ⟨hL.range (by (repeat (first | with_reducible exact At.here | with_reducible apply At.there))), hL.range (by (repeat (first | with_reducible exact At.here | with_reducible apply At.there)))⟩)
  refine ⟨_, rfl, hS, ?_⟩
  simp only [Act.put, List.setIfInBounds_toArray, List.set_cons_zero, List.set_cons_succ]
  refine wpH_one (i := 7) (by kernel_rfl) (wpOp_of (by simp only [List.getElem?_toArray, List.getElem?_cons_zero, List.getElem?_cons_succ]; rfl) ?_)
  refine st_call rfl 14 #[vs, .agg #[.int .i64 (wd + d), .int .i64 cap, .int .i64 join], .int .i64 t, .int .i64 24] (by go_simp) (HB.out _ _ (hL.fact (.tail _ (.head _)))) ?_
  rintro e w' ⟨ub, rfl, hb, hf⟩
  replace hL := hL.callF hb hf
  clear hb hf hS
  have hS := (show (fun w' : World => w'.rangeAt b1 0 #[.int .i64 wd, .int .i64 cap, .int .i64 join].toList ∧ w'.rangeAt b2 0 #[.int .i64 (wd + d), .int .i64 cap, .int .i64 join].toList) _ from ⟨hL.range (by (repeat (first | with_reducible exact At.here | with_reducible apply At.there))), hL.range (by (repeat (first | with_reducible exact At.here | with_reducible apply At.there)))⟩)
  refine ⟨_, rfl, hS, ?_⟩
  simp only [Act.put, List.setIfInBounds_toArray, List.set_cons_zero, List.set_cons_succ]
  refine stH (i := 8) (ua) hS ?_ ?_; (· exact fun w' _ => (by go_simp)); simp only [Act.put, List.setIfInBounds_toArray, List.set_cons_zero, List.set_cons_succ]
  refine stH (i := 9) (ub) hS ?_ ?_; (· exact fun w' _ => (by go_simp)); simp only [Act.put, List.setIfInBounds_toArray, List.set_cons_zero, List.set_cons_succ]
  refine wpAnyH_done (by kernel_rfl) ?_ _
  clear hS
  go_wp2
  replace hL := hL.drew
  have hS := (show (fun w' : World => w'.rangeAt b1 0 #[.int .i64 wd, .int .i64 cap, .int .i64 join].toList ∧ w'.rangeAt b2 0 #[.int .i64 (wd + d), .int .i64 cap, .int .i64 join].toList) _ from ⟨hL.range (by (repeat (first | with_reducible exact At.here | with_reducible apply At.there))), hL.range (by (repeat (first | with_reducible exact At.here | with_reducible apply At.there)))⟩)
  refine wpH_begin (by kernel_rfl) (fun w' : World => w'.rangeAt b1 0 #[.int .i64 wd, .int .i64 cap, .int .i64 join].toList ∧ w'.rangeAt b2 0 #[.int .i64 (wd + d), .int .i64 cap, .int .i64 join].toList) ?_
  refine stH (i := 0) (ua) hS ?_ ?_; (· exact fun w' _ => (by go_simp)); simp only [Act.put, List.setIfInBounds_toArray, List.set_cons_zero, List.set_cons_succ]
  refine stH (i := 1) (ub) hS ?_ ?_; (· exact fun w' _ => (by go_simp)); simp only [Act.put, List.setIfInBounds_toArray, List.set_cons_zero, List.set_cons_succ]
  refine wpH_one (i := 2) (by kernel_rfl) (wpOp_of (by simp only [List.getElem?_toArray, List.getElem?_cons_zero, List.getElem?_cons_succ]; rfl) ?_)
  refine st_call rfl 28 #[ua, ub] (by go_simp) (HLs.out _ _ _ (hL.fact (.tail _ (.head _))) (hL.fact (.head _))) ?_
  rintro e w' ⟨za, zc, rfl, hb⟩
  replace hL := hL.call hb
  clear hb hS
  have hS := (show (fun w' : World => w'.rangeAt b1 0 #[.int .i64 wd, .int .i64 cap, .int .i64 join].toList ∧ w'.rangeAt b2 0 #[.int .i64 (wd + d), .int .i64 cap, .int .i64 join].toList) _ from ⟨hL.range (by (repeat (first | with_reducible exact At.here | with_reducible apply At.there))), hL.range (by (repeat (first | with_reducible exact At.here | with_reducible apply At.there)))⟩)
  refine ⟨_, rfl, hS, ?_⟩
  simp only [Act.put, List.setIfInBounds_toArray, List.set_cons_zero, List.set_cons_succ]
  refine stH (i := 3) (.int .i64 0) hS ?_ ?_; (· exact fun w' _ => (by go_simp)); simp only [Act.put, List.setIfInBounds_toArray, List.set_cons_zero, List.set_cons_succ]
  refine stH (i := 4) (.bool true) hS ?_ ?_; (· exact fun w' _ => (by go_simp)); simp only [Act.put, List.setIfInBounds_toArray, List.set_cons_zero, List.set_cons_succ]
  refine stH (i := 5) (.bool true) hS ?_ ?_; (· exact fun w' _ => (by go_simp)); simp only [Act.put, List.setIfInBounds_toArray, List.set_cons_zero, List.set_cons_succ]
  refine stH (i := 6) (vs) hS ?_ ?_; (· exact fun w' _ => (by go_simp)); simp only [Act.put, List.setIfInBounds_toArray, List.set_cons_zero, List.set_cons_succ]
  refine stH (i := 8) (.agg #[.int .i64 wd, .int .i64 cap, .int .i64 join]) hS ?_ ?_; (· exact fun w' hw => run_loadOp _ _ rfl _ rfl _ (load_range (cs := #[.int .i64 wd, .int .i64 cap, .int .i64 join]) rfl hw.1)); simp only [Act.put, List.setIfInBounds_toArray, List.set_cons_zero, List.set_cons_succ]
  refine stH (i := 9) (.int .i64 t) hS ?_ ?_; (· exact fun w' _ => (by go_simp)); simp only [Act.put, List.setIfInBounds_toArray, List.set_cons_zero, List.set_cons_succ]
  refine stH (i := 11) (ua) hS ?_ ?_; (· exact fun w' _ => (by go_simp)); simp only [Act.put, List.setIfInBounds_toArray, List.set_cons_zero, List.set_cons_succ]
  refine wpH_one (i := 7) (by kernel_rfl) (wpOp_of (by simp only [List.getElem?_toArray, List.getElem?_cons_zero, List.getElem?_cons_succ]; rfl) ?_)
  refine st_call rfl 29 #[vs] (by go_simp) (HBk.out _ _ (hL.fact (.tail _ (.tail _ (.head _))))) ?_
  rintro e w' ⟨vb, rfl, hb, hf⟩
  replace hL := hL.callF hb hf
  clear hb hf hS
  have hS := (show (fun w' : World => w'.rangeAt b1 0 #[.int .i64 wd, .int .i64 cap, .int .i64 join].toList ∧ w'.rangeAt b2 0 #[.int .i64 (wd + d), .int .i64 cap, .int .i64 join].toList) _ from ⟨hL.range (by (repeat (first | with_reducible exact At.here | with_reducible apply At.there))), hL.range (by (repeat (first | with_reducible exact At.here | with_reducible apply At.there)))⟩)
  refine ⟨_, rfl, hS, ?_⟩
  simp only [Act.put, List.setIfInBounds_toArray, List.set_cons_zero, List.set_cons_succ]
  refine wpH_one (i := 10) (by kernel_rfl) (wpOp_of (by simp only [List.getElem?_toArray, List.getElem?_cons_zero, List.getElem?_cons_succ]; rfl) ?_)
  refine st_call rfl 14 #[vb, .agg #[.int .i64 wd, .int .i64 cap, .int .i64 join], .int .i64 t, .int .i64 24] (by go_simp) (HR.out _ _ (hL.fact (.head _))) ?_
  rintro e w' ⟨ur, rfl, hb, hf⟩
  replace hL := hL.callF hb hf
  clear hb hf hS
  have hS := (show (fun w' : World => w'.rangeAt b1 0 #[.int .i64 wd, .int .i64 cap, .int .i64 join].toList ∧ w'.rangeAt b2 0 #[.int .i64 (wd + d), .int .i64 cap, .int .i64 join].toList) _ from ⟨hL.range (by (repeat (first | with_reducible exact At.here | with_reducible apply At.there))), hL.range (by (repeat (first | with_reducible exact At.here | with_reducible apply At.there)))⟩)
  refine ⟨_, rfl, hS, ?_⟩
  simp only [Act.put, List.setIfInBounds_toArray, List.set_cons_zero, List.set_cons_succ]
  refine wpH_one (i := 12) (by kernel_rfl) (wpOp_of (by simp only [List.getElem?_toArray, List.getElem?_cons_zero, List.getElem?_cons_succ]; rfl) ?_)
  refine st_call rfl 15 #[ur, ua] (by go_simp) (lnSame_calls _ (n := 24) (P := PR) (Q := PA) (hL.fact (.head _)) (hL.fact (.tail _ (.tail _ (.tail _ (.head _))))) (fun i _ => HPR.out i)) ?_
  rintro e w' ⟨rfl, hb⟩
  replace hL := hL.call hb
  clear hb hS
  have hS := (show (fun w' : World => w'.rangeAt b1 0 #[.int .i64 wd, .int .i64 cap, .int .i64 join].toList ∧ w'.rangeAt b2 0 #[.int .i64 (wd + d), .int .i64 cap, .int .i64 join].toList) _ from ⟨hL.range (by (repeat (first | with_reducible exact At.here | with_reducible apply At.there))), hL.range (by (repeat (first | with_reducible exact At.here | with_reducible apply At.there)))⟩)
  refine ⟨_, rfl, hS, ?_⟩
  simp only [Act.put, List.setIfInBounds_toArray, List.set_cons_zero, List.set_cons_succ]
  refine stH (i := 13) (.bool true) hS ?_ ?_; (· exact fun w' _ => (by go_simp)); simp only [Act.put, List.setIfInBounds_toArray, List.set_cons_zero, List.set_cons_succ]
  refine stH (i := 14) (.bool true) hS ?_ ?_; (· exact fun w' _ => (by go_simp)); simp only [Act.put, List.setIfInBounds_toArray, List.set_cons_zero, List.set_cons_succ]
  refine wpAnyH_done (by kernel_rfl) ?_ _
  clear hS
  go_wp2
  go_ret
  exact ⟨rfl, hL.below⟩
end Go.Proofs.Ytfnolaoohmecbaa
