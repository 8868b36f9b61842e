/- ScanHalves returns true. -/
import Derived.Test.YtkgblkaihblgeaaHlv
import Derived.Test.YtkgblkaihblgeaaScnM
-- lit6
namespace Go.Proofs.Ytkgblkaihblgeaa
open Go.RowKit

def halvesE (l : List Edg) : List Edg := l.flatMap fun e => [halfA e, halfB e]
theorem small_quad {e : Edg} (hs : SmallE e) (hm : mayE e = true) : mayE (quadE e) = true ∧ mayE (halfA e) = true ∧ mayE (halfB e) = true := by
  obtain ⟨x0, y0, bt, cx, cy, x1, y1⟩ := e
  obtain ⟨⟨h1, h2⟩, ⟨h3, h4⟩, h5, h6⟩ := hs
  unfold smallI at *
  dsimp only at *
  have hz : bt = false → cx = 0 ∧ cy = 0 := by
    intro hb
    subst hb
    unfold mayE at hm
    simp only [Bool.and_eq_true, Bool.false_or, decide_eq_true_eq] at hm
    exact hm.2.2.2.2.2.2
  unfold mayE quadE halfA halfB near1
  cases bt with
  | true => simp; omega
  | false => obtain ⟨rfl, rfl⟩ := hz rfl; simp; omega
theorem wind_halves (x y : Int) : ∀ l : List Edg, (∀ e ∈ l, SmallE e ∧ mayE e = true) → windG (halvesE l) x y = windG (l.map quadE) x y
  | [], _ => rfl
  | e :: l, h => by
    obtain ⟨h1, h2⟩ := h e List.mem_cons_self
    obtain ⟨m1, m2, m3⟩ := small_quad h1 h2
    have ih := wind_halves x y l fun a ha => h a (List.mem_cons_of_mem _ ha)
    unfold halvesE at ih ⊢
    rw [List.flatMap_cons, windG_append, ih]
    have := turnG_halves m1 m2 m3 x y
    unfold windG
    simp only [List.map_cons, List.map_nil, List.sum_cons, List.sum_nil]
    omega
theorem halves_len : ∀ l : List Edg, (halvesE l).length = 2 * l.length
  | [] => rfl
  | e :: l => by
    have := halves_len l
    unfold halvesE at *
    rw [List.flatMap_cons, List.length_append, this, List.length_cons, List.length_cons, List.length_cons, List.length_nil]
    omega
set_option maxRecDepth 100000 in
set_option maxHeartbeats 8000000 in
theorem scanHalves_calls (w : World) (va : Value) (na : List Int) (ha : NumsAt w va na) (rule : Int) : Calls Try.prog 8 #[va, .int .i64 rule] w fun e w' => e = .returned (.bool true) ∧ Below w.heap.size w w' := by
  have hL := Holds.start w
  obtain ⟨a, cap, rfl, _⟩ := ha.parts
  have HM := Lib.hid (fun w' hb => made_calls w' _ na (SliceAt.below ha hb) true)
  clear ha
  have hgood := (made_good na true).1.small
  have hmay := made_may na true
  generalize madeS na true = S at *
  have hall : ∀ e ∈ edgesS S, SmallE e ∧ mayE e = true := fun e he => ⟨edges_small hgood e he, edges_may hmay e he⟩
  clear hgood hmay
  have hlen := edgesS_len S
  have HE := Lib.hid (fun w' v => edges_calls w' v S)
  have q1a := Int.emod_nonneg rule (show (2 : Int) ≠ 0 by omega)
  have q1b := Int.emod_lt_of_pos rule (show (0 : Int) < 2 by omega)
  have HP1 := Lib.hid (fun w => place_calls rule 2 (by omega) (by omega) w)
  generalize rule % 2 = r at *
  have hB : ∀ w' ve (y : Int), EdgesAt w' ve (halvesE (edgesS S)) → Calls Try.prog 15 #[ve, .int .i64 r, .int .i64 y, .int .i64 64] w' (RunsOut (lineS ((edgesS S).map quadE) r y 64) w') := fun w' ve y hv => by
    have h := scanLine_calls w' ve (halvesE (edgesS S)) hv (by rw [halves_len]; omega) r y 64
    rwa [lineS_congr (m := (edgesS S).map quadE) fun x => by rw [wind_halves _ _ _ hall]] at h
  have HB := Lib.hid hB
  have HC := Lib.hid (fun w' ve y hv => scanLine_calls w' ve ((edgesS S).map quadE) hv (by rw [List.length_map]; omega) r y 64)
  clear hB
  generalize hF : (fun y => lineS ((edgesS S).map quadE) r y 64) = F at *
  have hF2 : ∀ y, lineS ((edgesS S).map quadE) r y 64 = F y := fun y => congrFun hF y
  simp only [hF2] at HB HC
  clear hF hF2
  have HBl := Lib.hid (halves_len (edgesS S))
  have HAll := Lib.hid hall
  clear hall
  generalize edgesS S = E at *
  have hXB : ∃ XB : Nat → List Value, XB 0 = [] ∧ XB E.length = ((halvesE E).map edgeC).flatten ∧ ∀ k, k < E.length → XB (k + 1) = XB k ++ (edgeC (halfA (E.getD k default)) ++ edgeC (halfB (E.getD k default))) := by
    refine ⟨fun k => ((halvesE (E.take k)).map edgeC).flatten, rfl, by dsimp only; rw [List.take_length], fun k hk => ?_⟩
    dsimp only
    rw [List.take_succ_eq_append_getElem hk, show E.getD k default = E[k] by simp [hk]]
    unfold halvesE
    rw [List.flatMap_append, List.map_append, List.flatten_append]
    simp only [List.flatMap_cons, List.flatMap_nil, List.append_nil, List.map_cons, List.map_nil, List.flatten_cons, List.flatten_nil]
  have hXC : ∃ XC : Nat → List Value, XC 0 = [] ∧ XC E.length = ((E.map quadE).map edgeC).flatten ∧ ∀ k, k < E.length → XC (k + 1) = XC k ++ edgeC (quadE (E.getD k default)) := by
    refine ⟨fun k => (((E.take k).map quadE).map edgeC).flatten, rfl, by dsimp only; rw [List.take_length], fun k hk => ?_⟩
    dsimp only
    rw [List.take_succ_eq_append_getElem hk, show E.getD k default = E[k] by simp [hk], List.map_append, List.map_append, List.flatten_append]
    simp only [List.append_nil, List.map_cons, List.map_nil, List.flatten_cons, List.flatten_nil]
  obtain ⟨XB, hb0, hbn, hbs⟩ := hXB
  obtain ⟨XC, hc0, hcn, hcs⟩ := hXC
  have HB0 := Lib.hid hb0; have HBN := Lib.hid hbn; have HBS := Lib.hid hbs
  have HC0 := Lib.hid hc0; have HCN := Lib.hid hcn; have HCS := Lib.hid hcs
  clear hb0 hbn hbs hc0 hcn hcs
  generalize halvesE E = EB at *
  generalize hEC : E.map quadE = EC at *
  have hECl : EC.length = E.length := by rw [← hEC, List.length_map]
  have HECl := Lib.hid hECl
  clear hEC hECl
  go_enter Try.func8, Try.ntmps8
  go_wp2_with (first | (go_at_call 13; (with_reducible refine (known_calls _).mono ?_); rintro e _ ⟨rfl, hb⟩; replace hL := hL.call hb; clear hb) | (go_at_call 21; (with_reducible refine (HM.out _ hL.below).mono ?_); rintro e _ ⟨vs, rfl, hb, hf⟩; replace hL := hL.callF hb hf; clear hb hf) | (go_at_call 25; (with_reducible refine (HE.out _ _ hL.fact0).mono ?_); rintro e _ ⟨ve, rfl, hb, hf⟩; obtain ⟨ea, ec, rfl, _⟩ := EdgesAt.parts hf.now; replace hL := hL.callF hb hf; clear hb hf) | ((clear hL; with_reducible intro _ _ hL)) | (with_reducible refine wpC_alloc rfl _ rfl _ _ inferInstance hL ?_) | (with_reducible first | refine wpB_agg rfl _ _ _ rfl rfl hL ?_ | refine wpB_one rfl _ _ (.int _ _) rfl rfl rfl hL ?_ | refine wpB_one rfl _ _ (.slice _ _ _) rfl rfl rfl hL ?_ | refine wpB_one rfl _ _ (.bool _) rfl rfl rfl hL ?_ | refine wpB_one rfl _ _ (.pointer _) rfl rfl rfl hL ?_ | refine wpB_one rfl _ _ (.func _ _ _) rfl rfl rfl hL ?_) | (with_reducible first | refine wpH_max rfl _ _ _ _ rfl _ _ rfl rfl ?_ | refine wpH_min rfl _ _ _ _ rfl _ _ rfl rfl ?_) | ((with_reducible refine wpA_load rfl _ _ rfl _ rfl ?_); first | refine loadA hL ?_ | refine loadR hL ?_ | refine loadC hL ?_ | refine loadD ?_ | refine loadE hL ?_ | refine loadF ?_) | ((with_reducible refine wpA_index rfl _ _ _ rfl _ rfl _ rfl ?_); first | (refine indexA ?_; try rw [Int.toNat_natCast]) | refine indexC ?_) | ((with_reducible refine wpA_store rfl _ _ _ rfl _ rfl (.agg _) rfl ?_); refine storeR hL ?_; clear hL; intro _ hL) | ((with_reducible first | refine wpA_store rfl _ _ _ rfl _ rfl (.int _ _) rfl ?_ | refine wpA_store rfl _ _ _ rfl _ rfl (.slice _ _ _) rfl ?_ | refine wpA_store rfl _ _ _ rfl _ rfl (.bool _) rfl ?_ | refine wpA_store rfl _ _ _ rfl _ rfl (.pointer _) rfl ?_ | refine wpA_store rfl _ _ _ rfl _ rfl (.func _ _ _) rfl ?_); (first | refine storeA hL ?_ | refine storeO hL ?_); (clear hL; intro _ hL)) | ((with_reducible refine wpA_lit rfl _ _ _ rfl ?_); first | refine litA1 hL ?_ | refine litA2 hL ?_ | refine litA3 hL ?_ | refine litA4 hL ?_ | refine litA6 hL ?_) | ((with_reducible refine wpA_append rfl _ _ _ rfl (.slice _ _ _) rfl ?_); intro vq hvq; simp [go_sem] at hvq; subst hvq; refine appendA hL ?_; clear hL; intro _ _ _ hL; try dsimp only at hL) | ((with_reducible refine wpA_make rfl _ _ _ rfl _ rfl rfl ?_); refine makeA hL ?_))
  go_loopw [6, 7, 8] (fun s8 s9 s10 wr => ∃ k : Nat, k ≤ E.length ∧ s10 = .int .i64 k ∧ Holds w wr [own w.heap.size 55 7 s9 k (XC k), own w.heap.size 55 7 s8 (2 * k) (XB k)] [fun w => EdgesAt w (.slice ea E.length ec) E])
    (fun s8 s9 s10 wr => E.length - (intOf s10).toNat)
  case atStart => exact ⟨0, by omega, rfl, by rw [HB0.out, HC0.out]; exact (hL.facts fun θ hθ => hL.firm θ (by simp only [List.mem_cons, List.not_mem_nil, or_false] at hθ ⊢; exact .inl hθ)).newOwn.newOwn⟩
  case round =>
    clear hL
    obtain ⟨k, hk, rfl, hL⟩ := hrel
    obtain ⟨gc, cc, rfl⟩ := own_slice hL .here
    obtain ⟨gb, cb, rfl⟩ := own_slice hL (.there .here)
    by_cases hkt : k < E.length
    · have hkb : (k : Int) < (E.length : Int) := by omega
      have hk0 : (0 : Int) ≤ (k : Int) := by omega
      have hmem : E.getD k default ∈ E := by rw [show E.getD k default = E[k] by simp [hkt]]; exact List.getElem_mem hkt
      obtain ⟨hsm, hmy⟩ := HAll.out _ hmem
      clear hmem
      have hsb := HBS.out k hkt
      have hsc := HCS.out k hkt
      obtain ⟨be, oe, hea, hc⟩ : ∃ be oe, ea = some ⟨be, oe, none⟩ ∧ World.rangeAt _ be (oe + k * 7) (edgeC (E.getD k default)) := by
        obtain ⟨a', c', he, _, _, hel⟩ := EdgesAt.parts hL.fact0
        injection he with he _ _
        subst he
        exact hel k hkt
      subst hea
      generalize E.getD k default = e at *
      have HV := Lib.hid (fun w => halve_calls e hsm (small_quad hsm hmy).1 w)
      obtain ⟨x0, y0, bt, cx, cy, x1, y1⟩ := e
      obtain ⟨⟨⟨z1, z2⟩, z3, z4⟩, ⟨⟨z5, z6⟩, z7, z8⟩, ⟨z9, z10⟩, z11, z12⟩ := hsm
      dsimp only at z1 z2 z3 z4 z5 z6 z7 z8 z9 z10 z11 z12
      clear hmy
      generalize halfA ⟨x0, y0, bt, cx, cy, x1, y1⟩ = p at *
      generalize halfB ⟨x0, y0, bt, cx, cy, x1, y1⟩ = q at *
      obtain ⟨px0, py0, pb, pcx, pcy, px1, py1⟩ := p
      obtain ⟨qx0, qy0, qb, qcx, qcy, qx1, qy1⟩ := q
      unfold quadE at hsc HV
      unfold edgeC at hsb hsc hc
      unfold edgeV at HV
      dsimp only at hsb hsc hc HV
      have HSB := Lib.hid hsb; have HSC := Lib.hid hsc
      clear hsb hsc
      have n1 : True := trivial; have n2 : True := trivial; have n3 : True := trivial
      go_wp2_with (first | (go_at_call 30; (with_reducible refine (HV.out _).mono ?_); rintro e _ ⟨rfl, hb⟩; replace hL := hL.call hb; clear hb) | (first | (clear hL n1; with_reducible intro b1 w1 hL) | (clear hL n2; with_reducible intro b2 w2 hL) | (clear hL n3; with_reducible intro b3 w3 hL) | (clear hL; with_reducible intro _ _ hL)) | (with_reducible refine wpC_alloc rfl _ rfl _ _ inferInstance hL ?_) | (with_reducible first | refine wpB_agg rfl _ _ _ rfl rfl hL ?_ | refine wpB_one rfl _ _ (.int _ _) rfl rfl rfl hL ?_ | refine wpB_one rfl _ _ (.slice _ _ _) rfl rfl rfl hL ?_ | refine wpB_one rfl _ _ (.bool _) rfl rfl rfl hL ?_ | refine wpB_one rfl _ _ (.pointer _) rfl rfl rfl hL ?_ | refine wpB_one rfl _ _ (.func _ _ _) rfl rfl rfl hL ?_) | (with_reducible first | refine wpH_max rfl _ _ _ _ rfl _ _ rfl rfl ?_ | refine wpH_min rfl _ _ _ _ rfl _ _ rfl rfl ?_) | ((with_reducible refine wpA_load rfl _ _ rfl _ rfl ?_); first | refine loadA hL ?_ | refine loadR hL ?_ | refine loadC hL ?_ | refine loadD ?_ | refine loadE hL ?_ | refine loadF ?_) | ((with_reducible refine wpA_index rfl _ _ _ rfl _ rfl _ rfl ?_); first | (refine indexA ?_; try rw [Int.toNat_natCast]) | refine indexC ?_) | ((with_reducible refine wpA_store rfl _ _ _ rfl _ rfl (.agg _) rfl ?_); refine storeR hL ?_; clear hL; intro _ hL) | ((with_reducible first | refine wpA_store rfl _ _ _ rfl _ rfl (.int _ _) rfl ?_ | refine wpA_store rfl _ _ _ rfl _ rfl (.slice _ _ _) rfl ?_ | refine wpA_store rfl _ _ _ rfl _ rfl (.bool _) rfl ?_ | refine wpA_store rfl _ _ _ rfl _ rfl (.pointer _) rfl ?_ | refine wpA_store rfl _ _ _ rfl _ rfl (.func _ _ _) rfl ?_); (first | refine storeA hL ?_ | refine storeO hL ?_); (clear hL; intro _ hL)) | ((with_reducible refine wpA_lit rfl _ _ _ rfl ?_); first | refine litA1 hL ?_ | refine litA2 hL ?_ | refine litA3 hL ?_ | refine litA4 hL ?_ | refine litA6 hL ?_) | ((with_reducible refine wpA_append rfl _ _ _ rfl (.slice _ _ _) rfl ?_); intro vq hvq; simp [go_sem] at hvq; subst hvq; refine appendA hL ?_; clear hL; intro _ _ _ hL; try dsimp only at hL) | ((with_reducible refine wpA_make rfl _ _ _ rfl _ rfl rfl ?_); refine makeA hL ?_))
      replace hL := hL.drew
      have hS := (show (fun w' : World => w'.rangeAt b1 0 [.int .i64 (4 * x0), .int .i64 (4 * y0), .bool bt, .int .i64 (4 * cx), .int .i64 (4 * cy), .int .i64 (4 * x1), .int .i64 (4 * y1)] ∧ w'.rangeAt b2 0 [.int .i64 px0, .int .i64 py0, .bool pb, .int .i64 pcx, .int .i64 pcy, .int .i64 px1, .int .i64 py1] ∧ w'.rangeAt b3 0 [.int .i64 qx0, .int .i64 qy0, .bool qb, .int .i64 qcx, .int .i64 qcy, .int .i64 qx1, .int .i64 qy1]) _ from ⟨hL.range (by (repeat (first | with_reducible exact At.here | with_reducible apply At.there))), hL.range (by (repeat (first | with_reducible exact At.here | with_reducible apply At.there))), hL.range (by (repeat (first | with_reducible exact At.here | with_reducible apply At.there)))⟩)
      refine wpH_begin (by kernel_rfl) (fun w' : World => w'.rangeAt b1 0 [.int .i64 (4 * x0), .int .i64 (4 * y0), .bool bt, .int .i64 (4 * cx), .int .i64 (4 * cy), .int .i64 (4 * x1), .int .i64 (4 * y1)] ∧ w'.rangeAt b2 0 [.int .i64 px0, .int .i64 py0, .bool pb, .int .i64 pcx, .int .i64 pcy, .int .i64 px1, .int .i64 py1] ∧ w'.rangeAt b3 0 [.int .i64 qx0, .int .i64 qy0, .bool qb, .int .i64 qcx, .int .i64 qcy, .int .i64 qx1, .int .i64 qy1]) ?_
      refine stH (i := 0) (.slice gb (2 * k) cb) hS ?_ ?_; (· exact fun w' _ => (by go_simp)); simp only [Act.put, List.setIfInBounds_toArray, List.set_cons_zero, List.set_cons_succ]
      refine stH (i := 1) (.agg #[.int .i64 px0, .int .i64 py0, .bool pb, .int .i64 pcx, .int .i64 pcy, .int .i64 px1, .int .i64 py1]) hS ?_ ?_; (· exact fun w' hw => run_loadOp _ _ rfl _ rfl _ (load_range rfl hw.2.1)); simp only [Act.put, List.setIfInBounds_toArray, List.set_cons_zero, List.set_cons_succ]
      refine stH (i := 2) (.agg #[.int .i64 qx0, .int .i64 qy0, .bool qb, .int .i64 qcx, .int .i64 qcy, .int .i64 qx1, .int .i64 qy1]) hS ?_ ?_; (· exact fun w' hw => run_loadOp _ _ rfl _ rfl _ (load_range rfl hw.2.2)); simp only [Act.put, List.setIfInBounds_toArray, List.set_cons_zero, List.set_cons_succ]
      refine stH (i := 5) (.slice gc k cc) hS ?_ ?_; (· exact fun w' _ => (by go_simp)); simp only [Act.put, List.setIfInBounds_toArray, List.set_cons_zero, List.set_cons_succ]
      refine stH (i := 6) (.agg #[.int .i64 (4 * x0), .int .i64 (4 * y0), .bool bt, .int .i64 (4 * cx), .int .i64 (4 * cy), .int .i64 (4 * x1), .int .i64 (4 * y1)]) hS ?_ ?_; (· exact fun w' hw => run_loadOp _ _ rfl _ rfl _ (load_range rfl hw.1)); simp only [Act.put, List.setIfInBounds_toArray, List.set_cons_zero, List.set_cons_succ]
      refine wpH_two (i := 3) (j := 7) (by kernel_rfl) (wpOp_of (by simp only [List.getElem?_toArray, List.getElem?_cons_zero, List.getElem?_cons_succ]; rfl) ?_) (wpOp_of (by simp only [List.getElem?_toArray, List.getElem?_cons_zero, List.getElem?_cons_succ]; rfl) ?_)
      · refine st_lit rfl _ _ _ rfl (litA2 hL ?_)
        clear hL hS
        intro bl2 wl2 hL
        have hS := (show (fun w' : World => w'.rangeAt b1 0 [.int .i64 (4 * x0), .int .i64 (4 * y0), .bool bt, .int .i64 (4 * cx), .int .i64 (4 * cy), .int .i64 (4 * x1), .int .i64 (4 * y1)] ∧ w'.rangeAt b2 0 [.int .i64 px0, .int .i64 py0, .bool pb, .int .i64 pcx, .int .i64 pcy, .int .i64 px1, .int .i64 py1] ∧ w'.rangeAt b3 0 [.int .i64 qx0, .int .i64 qy0, .bool qb, .int .i64 qcx, .int .i64 qcy, .int .i64 qx1, .int .i64 qy1]) _ from ⟨hL.range (by (repeat (first | with_reducible exact At.here | with_reducible apply At.there))), hL.range (by (repeat (first | with_reducible exact At.here | with_reducible apply At.there))), hL.range (by (repeat (first | with_reducible exact At.here | with_reducible apply At.there)))⟩)
        refine ⟨hS, ?_⟩
        simp only [Act.put, List.setIfInBounds_toArray, List.set_cons_zero, List.set_cons_succ]
        refine wpH_two (i := 4) (j := 7) (by kernel_rfl) (wpOp_of (by simp only [List.getElem?_toArray, List.getElem?_cons_zero, List.getElem?_cons_succ]; rfl) ?_) (wpOp_of (by simp only [List.getElem?_toArray, List.getElem?_cons_zero, List.getElem?_cons_succ]; rfl) ?_)
        · refine st_append rfl _ _ _ rfl (.slice gb (2 * k) cb) (.slice (some ⟨bl2, 0, none⟩) 2 2) rfl rfl (appendA hL ?_)
          clear hL hS
          intro g2 c2 wa2 hL
          have hS := (show (fun w' : World => w'.rangeAt b1 0 [.int .i64 (4 * x0), .int .i64 (4 * y0), .bool bt, .int .i64 (4 * cx), .int .i64 (4 * cy), .int .i64 (4 * x1), .int .i64 (4 * y1)] ∧ w'.rangeAt b2 0 [.int .i64 px0, .int .i64 py0, .bool pb, .int .i64 pcx, .int .i64 pcy, .int .i64 px1, .int .i64 py1] ∧ w'.rangeAt b3 0 [.int .i64 qx0, .int .i64 qy0, .bool qb, .int .i64 qcx, .int .i64 qcy, .int .i64 qx1, .int .i64 qy1]) _ from ⟨hL.range (by (repeat (first | with_reducible exact At.here | with_reducible apply At.there))), hL.range (by (repeat (first | with_reducible exact At.here | with_reducible apply At.there))), hL.range (by (repeat (first | with_reducible exact At.here | with_reducible apply At.there)))⟩)
          refine ⟨hS, ?_⟩
          simp only [Act.put, List.setIfInBounds_toArray, List.set_cons_zero, List.set_cons_succ]
          refine wpH_one (i := 7) (by kernel_rfl) (wpOp_of (by simp only [List.getElem?_toArray, List.getElem?_cons_zero, List.getElem?_cons_succ]; rfl) ?_)
          refine st_lit rfl _ _ _ rfl (litA1 hL ?_)
          clear hL hS
          intro bl1 wl1 hL
          have hS := (show (fun w' : World => w'.rangeAt b1 0 [.int .i64 (4 * x0), .int .i64 (4 * y0), .bool bt, .int .i64 (4 * cx), .int .i64 (4 * cy), .int .i64 (4 * x1), .int .i64 (4 * y1)] ∧ w'.rangeAt b2 0 [.int .i64 px0, .int .i64 py0, .bool pb, .int .i64 pcx, .int .i64 pcy, .int .i64 px1, .int .i64 py1] ∧ w'.rangeAt b3 0 [.int .i64 qx0, .int .i64 qy0, .bool qb, .int .i64 qcx, .int .i64 qcy, .int .i64 qx1, .int .i64 qy1]) _ from ⟨hL.range (by (repeat (first | with_reducible exact At.here | with_reducible apply At.there))), hL.range (by (repeat (first | with_reducible exact At.here | with_reducible apply At.there))), hL.range (by (repeat (first | with_reducible exact At.here | with_reducible apply At.there)))⟩)
          refine ⟨hS, ?_⟩
          simp only [Act.put, List.setIfInBounds_toArray, List.set_cons_zero, List.set_cons_succ]
          refine wpH_one (i := 8) (by kernel_rfl) (wpOp_of (by simp only [List.getElem?_toArray, List.getElem?_cons_zero, List.getElem?_cons_succ]; rfl) ?_)
          refine st_append rfl _ _ _ rfl (.slice gc k cc) (.slice (some ⟨bl1, 0, none⟩) 1 1) rfl rfl (appendA hL ?_)
          clear hL hS
          intro g1 c1 wa1 hL
          have hS := (show (fun w' : World => w'.rangeAt b1 0 [.int .i64 (4 * x0), .int .i64 (4 * y0), .bool bt, .int .i64 (4 * cx), .int .i64 (4 * cy), .int .i64 (4 * x1), .int .i64 (4 * y1)] ∧ w'.rangeAt b2 0 [.int .i64 px0, .int .i64 py0, .bool pb, .int .i64 pcx, .int .i64 pcy, .int .i64 px1, .int .i64 py1] ∧ w'.rangeAt b3 0 [.int .i64 qx0, .int .i64 qy0, .bool qb, .int .i64 qcx, .int .i64 qcy, .int .i64 qx1, .int .i64 qy1]) _ from ⟨hL.range (by (repeat (first | with_reducible exact At.here | with_reducible apply At.there))), hL.range (by (repeat (first | with_reducible exact At.here | with_reducible apply At.there))), hL.range (by (repeat (first | with_reducible exact At.here | with_reducible apply At.there)))⟩)
          refine ⟨hS, ?_⟩
          simp only [Act.put, List.setIfInBounds_toArray, List.set_cons_zero, List.set_cons_succ]
          refine stH (i := 9) (.slice (some ⟨g2, 0, none⟩) (2 * k + 2) c2) hS ?_ ?_; (· exact fun w' _ => (by go_simp)); simp only [Act.put, List.setIfInBounds_toArray, List.set_cons_zero, List.set_cons_succ]
          refine stH (i := 10) (.slice (some ⟨g1, 0, none⟩) (k + 1) c1) hS ?_ ?_; (· exact fun w' _ => (by go_simp)); simp only [Act.put, List.setIfInBounds_toArray, List.set_cons_zero, List.set_cons_succ]
          refine wpAnyH_done (by kernel_rfl) ?_ _
          clear hS
          go_wp2
          go_roundw
          case rel =>
            refine ⟨k + 1, by omega, by go_num, ?_⟩
            rw [HSB.out, HSC.out]
            exact ((hL.drop .here).drop .here).drop .here
          case measure => simp [intOf]; omega
        · refine st_lit rfl _ _ _ rfl (litA1 hL ?_)
          clear hL hS
          intro bl1 wl1 hL
          have hS := (show (fun w' : World => w'.rangeAt b1 0 [.int .i64 (4 * x0), .int .i64 (4 * y0), .bool bt, .int .i64 (4 * cx), .int .i64 (4 * cy), .int .i64 (4 * x1), .int .i64 (4 * y1)] ∧ w'.rangeAt b2 0 [.int .i64 px0, .int .i64 py0, .bool pb, .int .i64 pcx, .int .i64 pcy, .int .i64 px1, .int .i64 py1] ∧ w'.rangeAt b3 0 [.int .i64 qx0, .int .i64 qy0, .bool qb, .int .i64 qcx, .int .i64 qcy, .int .i64 qx1, .int .i64 qy1]) _ from ⟨hL.range (by (repeat (first | with_reducible exact At.here | with_reducible apply At.there))), hL.range (by (repeat (first | with_reducible exact At.here | with_reducible apply At.there))), hL.range (by (repeat (first | with_reducible exact At.here | with_reducible apply At.there)))⟩)
          refine ⟨hS, ?_⟩
          simp only [Act.put, List.setIfInBounds_toArray, List.set_cons_zero, List.set_cons_succ]
          refine wpH_one (i := 4) (by kernel_rfl) (wpOp_of (by simp only [List.getElem?_toArray, List.getElem?_cons_zero, List.getElem?_cons_succ]; rfl) ?_)
          refine st_append rfl _ _ _ rfl (.slice gb (2 * k) cb) (.slice (some ⟨bl2, 0, none⟩) 2 2) rfl rfl (appendA hL ?_)
          clear hL hS
          intro g2 c2 wa2 hL
          have hS := (show (fun w' : World => w'.rangeAt b1 0 [.int .i64 (4 * x0), .int .i64 (4 * y0), .bool bt, .int .i64 (4 * cx), .int .i64 (4 * cy), .int .i64 (4 * x1), .int .i64 (4 * y1)] ∧ w'.rangeAt b2 0 [.int .i64 px0, .int .i64 py0, .bool pb, .int .i64 pcx, .int .i64 pcy, .int .i64 px1, .int .i64 py1] ∧ w'.rangeAt b3 0 [.int .i64 qx0, .int .i64 qy0, .bool qb, .int .i64 qcx, .int .i64 qcy, .int .i64 qx1, .int .i64 qy1]) _ from ⟨hL.range (by (repeat (first | with_reducible exact At.here | with_reducible apply At.there))), hL.range (by (repeat (first | with_reducible exact At.here | with_reducible apply At.there))), hL.range (by (repeat (first | with_reducible exact At.here | with_reducible apply At.there)))⟩)
          refine ⟨hS, ?_⟩
          simp only [Act.put, List.setIfInBounds_toArray, List.set_cons_zero, List.set_cons_succ]
          refine wpH_one (i := 8) (by kernel_rfl) (wpOp_of (by simp only [List.getElem?_toArray, List.getElem?_cons_zero, List.getElem?_cons_succ]; rfl) ?_)
          refine st_append rfl _ _ _ rfl (.slice gc k cc) (.slice (some ⟨bl1, 0, none⟩) 1 1) rfl rfl (appendA hL ?_)
          clear hL hS
          intro g1 c1 wa1 hL
          have hS := (show (fun w' : World => w'.rangeAt b1 0 [.int .i64 (4 * x0), .int .i64 (4 * y0), .bool bt, .int .i64 (4 * cx), .int .i64 (4 * cy), .int .i64 (4 * x1), .int .i64 (4 * y1)] ∧ w'.rangeAt b2 0 [.int .i64 px0, .int .i64 py0, .bool pb, .int .i64 pcx, .int .i64 pcy, .int .i64 px1, .int .i64 py1] ∧ w'.rangeAt b3 0 [.int .i64 qx0, .int .i64 qy0, .bool qb, .int .i64 qcx, .int .i64 qcy, .int .i64 qx1, .int .i64 qy1]) _ from ⟨hL.range (by (repeat (first | with_reducible exact At.here | with_reducible apply At.there))), hL.range (by (repeat (first | with_reducible exact At.here | with_reducible apply At.there))), hL.range (by (repeat (first | with_reducible exact At.here | with_reducible apply At.there)))⟩)
          refine ⟨hS, ?_⟩
          simp only [Act.put, List.setIfInBounds_toArray, List.set_cons_zero, List.set_cons_succ]
          refine stH (i := 9) (.slice (some ⟨g2, 0, none⟩) (2 * k + 2) c2) hS ?_ ?_; (· exact fun w' _ => (by go_simp)); simp only [Act.put, List.setIfInBounds_toArray, List.set_cons_zero, List.set_cons_succ]
          refine stH (i := 10) (.slice (some ⟨g1, 0, none⟩) (k + 1) c1) hS ?_ ?_; (· exact fun w' _ => (by go_simp)); simp only [Act.put, List.setIfInBounds_toArray, List.set_cons_zero, List.set_cons_succ]
          refine wpAnyH_done (by kernel_rfl) ?_ _
          clear hS
          go_wp2
          go_roundw
          case rel =>
            refine ⟨k + 1, by omega, by go_num, ?_⟩
            rw [HSB.out, HSC.out]
            exact ((hL.drop .here).drop .here).drop .here
          case measure => simp [intOf]; omega
      · refine st_lit rfl _ _ _ rfl (litA1 hL ?_)
        clear hL hS
        intro bl1 wl1 hL
        have hS := (show (fun w' : World => w'.rangeAt b1 0 [.int .i64 (4 * x0), .int .i64 (4 * y0), .bool bt, .int .i64 (4 * cx), .int .i64 (4 * cy), .int .i64 (4 * x1), .int .i64 (4 * y1)] ∧ w'.rangeAt b2 0 [.int .i64 px0, .int .i64 py0, .bool pb, .int .i64 pcx, .int .i64 pcy, .int .i64 px1, .int .i64 py1] ∧ w'.rangeAt b3 0 [.int .i64 qx0, .int .i64 qy0, .bool qb, .int .i64 qcx, .int .i64 qcy, .int .i64 qx1, .int .i64 qy1]) _ from ⟨hL.range (by (repeat (first | with_reducible exact At.here | with_reducible apply At.there))), hL.range (by (repeat (first | with_reducible exact At.here | with_reducible apply At.there))), hL.range (by (repeat (first | with_reducible exact At.here | with_reducible apply At.there)))⟩)
        refine ⟨hS, ?_⟩
        simp only [Act.put, List.setIfInBounds_toArray, List.set_cons_zero, List.set_cons_succ]
        refine wpH_one (i := 3) (by kernel_rfl) (wpOp_of (by simp only [List.getElem?_toArray, List.getElem?_cons_zero, List.getElem?_cons_succ]; rfl) ?_)
        refine st_lit rfl _ _ _ rfl (litA2 hL ?_)
        clear hL hS
        intro bl2 wl2 hL
        have hS := (show (fun w' : World => w'.rangeAt b1 0 [.int .i64 (4 * x0), .int .i64 (4 * y0), .bool bt, .int .i64 (4 * cx), .int .i64 (4 * cy), .int .i64 (4 * x1), .int .i64 (4 * y1)] ∧ w'.rangeAt b2 0 [.int .i64 px0, .int .i64 py0, .bool pb, .int .i64 pcx, .int .i64 pcy, .int .i64 px1, .int .i64 py1] ∧ w'.rangeAt b3 0 [.int .i64 qx0, .int .i64 qy0, .bool qb, .int .i64 qcx, .int .i64 qcy, .int .i64 qx1, .int .i64 qy1]) _ from ⟨hL.range (by (repeat (first | with_reducible exact At.here | with_reducible apply At.there))), hL.range (by (repeat (first | with_reducible exact At.here | with_reducible apply At.there))), hL.range (by (repeat (first | with_reducible exact At.here | with_reducible apply At.there)))⟩)
        refine ⟨hS, ?_⟩
        simp only [Act.put, List.setIfInBounds_toArray, List.set_cons_zero, List.set_cons_succ]
        refine wpH_one (i := 4) (by kernel_rfl) (wpOp_of (by simp only [List.getElem?_toArray, List.getElem?_cons_zero, List.getElem?_cons_succ]; rfl) ?_)
        refine st_append rfl _ _ _ rfl (.slice gb (2 * k) cb) (.slice (some ⟨bl2, 0, none⟩) 2 2) rfl rfl (appendA hL ?_)
        clear hL hS
        intro g2 c2 wa2 hL
        have hS := (show (fun w' : World => w'.rangeAt b1 0 [.int .i64 (4 * x0), .int .i64 (4 * y0), .bool bt, .int .i64 (4 * cx), .int .i64 (4 * cy), .int .i64 (4 * x1), .int .i64 (4 * y1)] ∧ w'.rangeAt b2 0 [.int .i64 px0, .int .i64 py0, .bool pb, .int .i64 pcx, .int .i64 pcy, .int .i64 px1, .int .i64 py1] ∧ w'.rangeAt b3 0 [.int .i64 qx0, .int .i64 qy0, .bool qb, .int .i64 qcx, .int .i64 qcy, .int .i64 qx1, .int .i64 qy1]) _ from ⟨hL.range (by (repeat (first | with_reducible exact At.here | with_reducible apply At.there))), hL.range (by (repeat (first | with_reducible exact At.here | with_reducible apply At.there))), hL.range (by (repeat (first | with_reducible exact At.here | with_reducible apply At.there)))⟩)
        refine ⟨hS, ?_⟩
        simp only [Act.put, List.setIfInBounds_toArray, List.set_cons_zero, List.set_cons_succ]
        refine wpH_one (i := 8) (by kernel_rfl) (wpOp_of (by simp only [List.getElem?_toArray, List.getElem?_cons_zero, List.getElem?_cons_succ]; rfl) ?_)
        refine st_append rfl _ _ _ rfl (.slice gc k cc) (.slice (some ⟨bl1, 0, none⟩) 1 1) rfl rfl (appendA hL ?_)
        clear hL hS
        intro g1 c1 wa1 hL
        have hS := (show (fun w' : World => w'.rangeAt b1 0 [.int .i64 (4 * x0), .int .i64 (4 * y0), .bool bt, .int .i64 (4 * cx), .int .i64 (4 * cy), .int .i64 (4 * x1), .int .i64 (4 * y1)] ∧ w'.rangeAt b2 0 [.int .i64 px0, .int .i64 py0, .bool pb, .int .i64 pcx, .int .i64 pcy, .int .i64 px1, .int .i64 py1] ∧ w'.rangeAt b3 0 [.int .i64 qx0, .int .i64 qy0, .bool qb, .int .i64 qcx, .int .i64 qcy, .int .i64 qx1, .int .i64 qy1]) _ from ⟨hL.range (by (repeat (first | with_reducible exact At.here | with_reducible apply At.there))), hL.range (by (repeat (first | with_reducible exact At.here | with_reducible apply At.there))), hL.range (by (repeat (first | with_reducible exact At.here | with_reducible apply At.there)))⟩)
        refine ⟨hS, ?_⟩
        simp only [Act.put, List.setIfInBounds_toArray, List.set_cons_zero, List.set_cons_succ]
        refine stH (i := 9) (.slice (some ⟨g2, 0, none⟩) (2 * k + 2) c2) hS ?_ ?_; (· exact fun w' _ => (by go_simp)); simp only [Act.put, List.setIfInBounds_toArray, List.set_cons_zero, List.set_cons_succ]
        refine stH (i := 10) (.slice (some ⟨g1, 0, none⟩) (k + 1) c1) hS ?_ ?_; (· exact fun w' _ => (by go_simp)); simp only [Act.put, List.setIfInBounds_toArray, List.set_cons_zero, List.set_cons_succ]
        refine wpAnyH_done (by kernel_rfl) ?_ _
        clear hS
        go_wp2
        go_roundw
        case rel =>
          refine ⟨k + 1, by omega, by go_num, ?_⟩
          rw [HSB.out, HSC.out]
          exact ((hL.drop .here).drop .here).drop .here
        case measure => simp [intOf]; omega
    · have e : k = E.length := by omega
      subst e
      rw [HBN.out, HCN.out] at hL
      replace hL := (hL.settle .here (φ := fun w => EdgesAt w (.slice gc E.length cc) EC) fun w h => own_sliceAt h (by rw [List.length_map, HECl.out]) rfl (edgeC_len _)).settle .here (φ := fun w => EdgesAt w (.slice gb (2 * E.length) cb) EB) fun w h => own_sliceAt h (by rw [List.length_map, HBl.out]) rfl (edgeC_len _)
      go_wp2_with (first | (go_at_call 22; (with_reducible first | refine (HP1.out _).mono ?_); rintro e _ ⟨rfl, rfl⟩) | (first | (clear hL n1; with_reducible intro b1 w1 hL) | (clear hL n2; with_reducible intro b2 w2 hL) | (clear hL n3; with_reducible intro b3 w3 hL) | (clear hL; with_reducible intro _ _ hL)) | (with_reducible refine wpC_alloc rfl _ rfl _ _ inferInstance hL ?_) | (with_reducible first | refine wpB_agg rfl _ _ _ rfl rfl hL ?_ | refine wpB_one rfl _ _ (.int _ _) rfl rfl rfl hL ?_ | refine wpB_one rfl _ _ (.slice _ _ _) rfl rfl rfl hL ?_ | refine wpB_one rfl _ _ (.bool _) rfl rfl rfl hL ?_ | refine wpB_one rfl _ _ (.pointer _) rfl rfl rfl hL ?_ | refine wpB_one rfl _ _ (.func _ _ _) rfl rfl rfl hL ?_) | (with_reducible first | refine wpH_max rfl _ _ _ _ rfl _ _ rfl rfl ?_ | refine wpH_min rfl _ _ _ _ rfl _ _ rfl rfl ?_) | ((with_reducible refine wpA_load rfl _ _ rfl _ rfl ?_); first | refine loadA hL ?_ | refine loadR hL ?_ | refine loadC hL ?_ | refine loadD ?_ | refine loadE hL ?_ | refine loadF ?_) | ((with_reducible refine wpA_index rfl _ _ _ rfl _ rfl _ rfl ?_); first | (refine indexA ?_; try rw [Int.toNat_natCast]) | refine indexC ?_) | ((with_reducible refine wpA_store rfl _ _ _ rfl _ rfl (.agg _) rfl ?_); refine storeR hL ?_; clear hL; intro _ hL) | ((with_reducible first | refine wpA_store rfl _ _ _ rfl _ rfl (.int _ _) rfl ?_ | refine wpA_store rfl _ _ _ rfl _ rfl (.slice _ _ _) rfl ?_ | refine wpA_store rfl _ _ _ rfl _ rfl (.bool _) rfl ?_ | refine wpA_store rfl _ _ _ rfl _ rfl (.pointer _) rfl ?_ | refine wpA_store rfl _ _ _ rfl _ rfl (.func _ _ _) rfl ?_); (first | refine storeA hL ?_ | refine storeO hL ?_); (clear hL; intro _ hL)) | ((with_reducible refine wpA_lit rfl _ _ _ rfl ?_); first | refine litA1 hL ?_ | refine litA2 hL ?_ | refine litA3 hL ?_ | refine litA4 hL ?_ | refine litA6 hL ?_) | ((with_reducible refine wpA_append rfl _ _ _ rfl (.slice _ _ _) rfl ?_); intro vq hvq; simp [go_sem] at hvq; subst hvq; refine appendA hL ?_; clear hL; intro _ _ _ hL; try dsimp only at hL) | ((with_reducible refine wpA_make rfl _ _ _ rfl _ rfl rfl ?_); refine makeA hL ?_))
      go_loopw [14] (fun s14 wr => ∃ j : Nat, j ≤ 78 ∧ s14 = .int .i64 (16 * (j : Int) - 40) ∧ Holds w wr [] [fun w => EdgesAt w (.slice gb (2 * E.length) cb) EB, fun w => EdgesAt w (.slice gc E.length cc) EC])
        (fun s14 wr => (1240 - intOf s14).toNat)
      case atStart => exact ⟨0, by omega, rfl, hL.facts fun θ hθ => by
        simp only [List.mem_cons, List.not_mem_nil, or_false] at hθ
        rcases hθ with h | h
        · rw [h]; exact hL.firm _ List.mem_cons_self
        · rw [h]; exact hL.firm _ (List.mem_cons_of_mem _ List.mem_cons_self)⟩
      case round =>
        clear hL
        obtain ⟨j, hj, rfl, hL⟩ := hrel
        by_cases hjt : 16 * (j : Int) - 40 < 1200
        · have HBj := Lib.hid (fun w' ve hv => HB.out w' ve (16 * (j : Int) - 40) hv)
          have HCj := Lib.hid (fun w' ve hv => HC.out w' ve (16 * (j : Int) - 40) hv)
          generalize F (16 * (j : Int) - 40) = R at *
          go_wp2_with (first | (go_at_call 15; (first | ((with_reducible refine (HBj.out _ _ hL.fact0).mono ?_); rintro e _ ⟨v1, rfl, hb, hf⟩) | ((with_reducible refine (HCj.out _ _ hL.fact2).mono ?_); rintro e _ ⟨v2, rfl, hb, hf⟩)); replace hf := runsFresh hf; replace hL := hL.callF hb hf; clear hb hf) | (go_at_call 14; (with_reducible refine (sameR_calls _ _ _ R hL.fact1 hL.fact0).mono ?_); rintro e _ ⟨rfl, hb⟩; replace hL := hL.call hb; clear hb) | (first | (clear hL n1; with_reducible intro b1 w1 hL) | (clear hL n2; with_reducible intro b2 w2 hL) | (clear hL n3; with_reducible intro b3 w3 hL) | (clear hL; with_reducible intro _ _ hL)) | (with_reducible refine wpC_alloc rfl _ rfl _ _ inferInstance hL ?_) | (with_reducible first | refine wpB_agg rfl _ _ _ rfl rfl hL ?_ | refine wpB_one rfl _ _ (.int _ _) rfl rfl rfl hL ?_ | refine wpB_one rfl _ _ (.slice _ _ _) rfl rfl rfl hL ?_ | refine wpB_one rfl _ _ (.bool _) rfl rfl rfl hL ?_ | refine wpB_one rfl _ _ (.pointer _) rfl rfl rfl hL ?_ | refine wpB_one rfl _ _ (.func _ _ _) rfl rfl rfl hL ?_) | (with_reducible first | refine wpH_max rfl _ _ _ _ rfl _ _ rfl rfl ?_ | refine wpH_min rfl _ _ _ _ rfl _ _ rfl rfl ?_) | ((with_reducible refine wpA_load rfl _ _ rfl _ rfl ?_); first | refine loadA hL ?_ | refine loadR hL ?_ | refine loadC hL ?_ | refine loadD ?_ | refine loadE hL ?_ | refine loadF ?_) | ((with_reducible refine wpA_index rfl _ _ _ rfl _ rfl _ rfl ?_); first | (refine indexA ?_; try rw [Int.toNat_natCast]) | refine indexC ?_) | ((with_reducible refine wpA_store rfl _ _ _ rfl _ rfl (.agg _) rfl ?_); refine storeR hL ?_; clear hL; intro _ hL) | ((with_reducible first | refine wpA_store rfl _ _ _ rfl _ rfl (.int _ _) rfl ?_ | refine wpA_store rfl _ _ _ rfl _ rfl (.slice _ _ _) rfl ?_ | refine wpA_store rfl _ _ _ rfl _ rfl (.bool _) rfl ?_ | refine wpA_store rfl _ _ _ rfl _ rfl (.pointer _) rfl ?_ | refine wpA_store rfl _ _ _ rfl _ rfl (.func _ _ _) rfl ?_); (first | refine storeA hL ?_ | refine storeO hL ?_); (clear hL; intro _ hL)) | ((with_reducible refine wpA_lit rfl _ _ _ rfl ?_); first | refine litA1 hL ?_ | refine litA2 hL ?_ | refine litA3 hL ?_ | refine litA4 hL ?_ | refine litA6 hL ?_) | ((with_reducible refine wpA_append rfl _ _ _ rfl (.slice _ _ _) rfl ?_); intro vq hvq; simp [go_sem] at hvq; subst hvq; refine appendA hL ?_; clear hL; intro _ _ _ hL; try dsimp only at hL) | ((with_reducible refine wpA_make rfl _ _ _ rfl _ rfl rfl ?_); refine makeA hL ?_))
          go_roundw
          case rel => exact ⟨j + 1, by omega, by first | go_num | (congr 1; omega), hL.forget.forget⟩
          case measure => simp [intOf]; omega
        · go_wp2_with (first | (first | (clear hL n1; with_reducible intro b1 w1 hL) | (clear hL n2; with_reducible intro b2 w2 hL) | (clear hL n3; with_reducible intro b3 w3 hL) | (clear hL; with_reducible intro _ _ hL)) | (with_reducible refine wpC_alloc rfl _ rfl _ _ inferInstance hL ?_) | (with_reducible first | refine wpB_agg rfl _ _ _ rfl rfl hL ?_ | refine wpB_one rfl _ _ (.int _ _) rfl rfl rfl hL ?_ | refine wpB_one rfl _ _ (.slice _ _ _) rfl rfl rfl hL ?_ | refine wpB_one rfl _ _ (.bool _) rfl rfl rfl hL ?_ | refine wpB_one rfl _ _ (.pointer _) rfl rfl rfl hL ?_ | refine wpB_one rfl _ _ (.func _ _ _) rfl rfl rfl hL ?_) | (with_reducible first | refine wpH_max rfl _ _ _ _ rfl _ _ rfl rfl ?_ | refine wpH_min rfl _ _ _ _ rfl _ _ rfl rfl ?_) | ((with_reducible refine wpA_load rfl _ _ rfl _ rfl ?_); first | refine loadA hL ?_ | refine loadR hL ?_ | refine loadC hL ?_ | refine loadD ?_ | refine loadE hL ?_ | refine loadF ?_) | ((with_reducible refine wpA_index rfl _ _ _ rfl _ rfl _ rfl ?_); first | (refine indexA ?_; try rw [Int.toNat_natCast]) | refine indexC ?_) | ((with_reducible refine wpA_store rfl _ _ _ rfl _ rfl (.agg _) rfl ?_); refine storeR hL ?_; clear hL; intro _ hL) | ((with_reducible first | refine wpA_store rfl _ _ _ rfl _ rfl (.int _ _) rfl ?_ | refine wpA_store rfl _ _ _ rfl _ rfl (.slice _ _ _) rfl ?_ | refine wpA_store rfl _ _ _ rfl _ rfl (.bool _) rfl ?_ | refine wpA_store rfl _ _ _ rfl _ rfl (.pointer _) rfl ?_ | refine wpA_store rfl _ _ _ rfl _ rfl (.func _ _ _) rfl ?_); (first | refine storeA hL ?_ | refine storeO hL ?_); (clear hL; intro _ hL)) | ((with_reducible refine wpA_lit rfl _ _ _ rfl ?_); first | refine litA1 hL ?_ | refine litA2 hL ?_ | refine litA3 hL ?_ | refine litA4 hL ?_ | refine litA6 hL ?_) | ((with_reducible refine wpA_append rfl _ _ _ rfl (.slice _ _ _) rfl ?_); intro vq hvq; simp [go_sem] at hvq; subst hvq; refine appendA hL ?_; clear hL; intro _ _ _ hL; try dsimp only at hL) | ((with_reducible refine wpA_make rfl _ _ _ rfl _ rfl rfl ?_); refine makeA hL ?_))
          go_ret
          exact ⟨rfl, hL.below⟩
end Go.Proofs.Ytkgblkaihblgeaa
