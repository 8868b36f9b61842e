/- HemStrokes returns true. -/
import Derived.Test.YtfnolaoohmecbaaHPnt
import Derived.Test.YtfnolaoohmecbaaStD
import Derived.Test.YtfnolaoohmecbaaMskM
-- uses arrU
-- lit6
namespace Go.Proofs.Ytfnolaoohmecbaa
open Go.RowKit

section
variable {P : Program} {w0 w : World} {M : List Res} {Φ : List (World → Prop)} {ops : Array Oper} {o : Oper} {a : Act} {Q : Exit → Act → World → Prop} {K : Act → World → Prop}
theorem st_allocS (hgd : Region.wanted o (yielded ops a.tmps) = true) (T : TypeId) (ho : o.op = .alloc T) {z : Value} {cs : Array Value} [hz : ZeroT P T z cs]
    (hL : Holds w0 w M Φ) (h : ∀ b w', Holds w0 w' (blk b cs T :: M) Φ → K (a.put o.dst (.pointer (some ⟨b, 0, none⟩))) w') : wpStep P ops Q o K a w := by
  obtain ⟨hz1, hz2⟩ := hz
  subst hz2
  refine st_run hgd (.pointer (some ⟨w.heap.size, 0, none⟩)) (w.alloc (.cells z.cells T)) ?_ (h _ _ (hL.alloc _ _))
  unfold execOp
  have : (Instr.alloc T true (.tuple #[])).run P w = .ok (.pointer (some ⟨w.heap.size, 0, none⟩)) (w.alloc (.cells z.cells T)) := by
    unfold Instr.alloc
    rw [Sem.run_bind, hz1]
    rfl
  simp only [ho, Sem.run_bind, this, Result.andThen_ok]
  rfl
end
theorem exContA {G : Prop} {H P : Option Addr → Nat → Nat → World → Prop} (h1 : (∀ a b c w, H a b c w → P a b c w) → G) (h2 : ∀ a b c w, H a b c w → P a b c w) : G := h1 h2
theorem exContB {G : Prop} {H P : Option Addr → Nat → World → Prop} (h1 : (∀ a b w, H a b w → P a b w) → G) (h2 : ∀ a b w, H a b w → P a b w) : G := h1 h2
theorem laterS {w w' : World} {p : Addr} {v : Value} (h : Below w.heap.size w w') (hc : w.cell? p = some v) : w'.cell? p = some v := (Holds.start w).call h |>.old hc
def RowsH (sa : Option Addr) (c : Nat) (H : Nat) (F : Nat → List (Int × Int)) (w : World) : Prop := RowsAt w (.slice sa H c) ((List.range H).map F)
theorem RowsH.get {w : World} {a : Option Addr} {H c : Nat} {F : Nat → List (Int × Int)} (h : RowsH a c H F w) {j : Nat} (hj : j < H) : ∃ b o u, a = some ⟨b, o, none⟩ ∧ w.cell? ⟨b, o + j, none⟩ = some u ∧ RunsAt w u (F j) := by
  obtain ⟨vs, hlen, ⟨a', cap, e, _, _, hel⟩, hr⟩ := h
  injection e with e1 e2 e3
  subst e1
  simp only [List.length_map] at e2 hel
  obtain ⟨b, o, e, hc⟩ := hel j (by omega)
  subst e
  have hv := hc 0 (vs[j]'(by omega)) (by simp)
  simp only [Nat.mul_one, Nat.add_zero] at hv
  refine ⟨b, o, vs[j]'(by omega), rfl, hv, ?_⟩
  have := hr j (vs[j]'(by omega)) (by simp)
  simpa [hj] using this
theorem hemRegionH_calls {W H : Nat} (hw0 : 0 < W) (hw1 : W ≤ 64) (hh0 : 0 < H) (hh1 : H ≤ 64) (w : World) (v : Value) (l : List Sg) (hv : SegsAt w v l) (s : Sty) (hst : straightS l = true) (hmy : mayY s = true) :
    Calls Try.prog 17 #[v, .agg #[.int .i64 s.wide, .int .i64 s.cap, .int .i64 s.join], .int .i64 W, .int .i64 H] w fun e w' => ∃ sa c, e = .returned (.tuple #[.agg #[.int .i64 W, .int .i64 H, .slice sa H c], .int .i64 0]) ∧ Below w.heap.size w w' ∧ Fresh w w' (RowsH sa c H fun j => runsTo (strokeP l s j) W) := by
  refine (hemRegion_ok hw0 hw1 hh0 hh1 w v l hv s hst hmy).mono ?_
  rintro e w' ⟨v', rfl, hb, hf⟩
  obtain ⟨s2, rfl, h1, h2, ⟨a, c, rfl, _⟩, _⟩ := hf.now
  have hl : (h1.map fun v => [v]).length = H := by rw [List.length_map, h2]; simp [strokeReg]
  refine ⟨a, c, by rw [hl]; rfl, hb, hf.mono fun w2 h => ?_⟩
  obtain ⟨s3, e2, h3⟩ := h
  injection e2 with e2
  have e3 : s3 = .slice a H c := by
    have := congrArg (fun x : Array Value => x[2]?) e2
    simp at this
    rw [← this]
    simpa using hl
  rw [e3] at h3
  exact h3
theorem sideS_calls (v : Int) (w : World) : Calls Try.prog 32 #[.int .i64 v] w fun e w' => e = .returned (.int .i64 (1 + v % 14)) ∧ w = w' := by
  have HP := Lib.hid (fun w => place_calls v 14 (by omega) (by omega) w)
  have q1 := Int.emod_nonneg v (show (14 : Int) ≠ 0 by omega)
  have q2 := Int.emod_lt_of_pos v (show (0 : Int) < 14 by omega)
  generalize v % 14 = k at *
  go_enter Try.func32, Try.ntmps32
  go_wp2_with (first | (go_at_call 21; (with_reducible refine (HP.out _).mono ?_); rintro e _ ⟨rfl, rfl⟩) | ((clear hL; with_reducible intro _ _ hL)) | (with_reducible refine wpC_alloc rfl _ rfl _ _ inferInstance hL ?_) | (with_reducible first | refine wpB_agg rfl _ _ _ rfl rfl hL ?_ | refine wpB_one rfl _ _ (.int _ _) rfl rfl rfl hL ?_ | refine wpB_one rfl _ _ (.slice _ _ _) rfl rfl rfl hL ?_ | refine wpB_one rfl _ _ (.bool _) rfl rfl rfl hL ?_ | refine wpB_one rfl _ _ (.pointer _) rfl rfl rfl hL ?_ | refine wpB_one rfl _ _ (.func _ _ _) rfl rfl rfl hL ?_) | (with_reducible first | refine wpH_max rfl _ _ _ _ rfl _ _ rfl rfl ?_ | refine wpH_min rfl _ _ _ _ rfl _ _ rfl rfl ?_) | ((with_reducible refine wpA_load rfl _ _ rfl _ rfl ?_); first | refine loadA hL ?_ | refine loadR hL ?_ | refine loadC hL ?_ | refine loadD ?_ | refine loadE hL ?_ | refine loadF ?_) | ((with_reducible refine wpA_index rfl _ _ _ rfl _ rfl _ rfl ?_); first | (refine indexA ?_; try rw [Int.toNat_natCast]) | refine indexC ?_) | ((with_reducible refine wpA_store rfl _ _ _ rfl _ rfl (.agg _) rfl ?_); refine storeR hL ?_; clear hL; intro _ hL) | ((with_reducible first | refine wpA_store rfl _ _ _ rfl _ rfl (.int _ _) rfl ?_ | refine wpA_store rfl _ _ _ rfl _ rfl (.slice _ _ _) rfl ?_ | refine wpA_store rfl _ _ _ rfl _ rfl (.bool _) rfl ?_ | refine wpA_store rfl _ _ _ rfl _ rfl (.pointer _) rfl ?_ | refine wpA_store rfl _ _ _ rfl _ rfl (.func _ _ _) rfl ?_); (first | refine storeA hL ?_ | refine storeO hL ?_); (clear hL; intro _ hL)) | ((with_reducible refine wpA_lit rfl _ _ _ rfl ?_); first | refine litA1 hL ?_ | refine litA2 hL ?_ | refine litA3 hL ?_ | refine litA4 hL ?_ | refine litA6 hL ?_) | ((with_reducible refine wpA_append rfl _ _ _ rfl (.slice _ _ _) rfl ?_); intro vq hvq; simp [go_sem] at hvq; subst hvq; refine appendA hL ?_; clear hL; intro _ _ _ hL; try dsimp only at hL) | ((with_reducible refine wpA_make rfl _ _ _ rfl _ rfl rfl ?_); refine makeA hL ?_))
  go_ret
  exact ⟨rfl, rfl⟩
theorem atPix_natH {W H : Nat} (q : Nat → Nat → Bool) {i j : Nat} (hi : i < W) (hj : j < H) : atPix W H q (i : Int) (j : Int) = q j i := by
  unfold atPix
  rw [decide_eq_true (show (0 : Int) ≤ (i : Int) by omega), decide_eq_true (show (i : Int) < (W : Int) by omega), decide_eq_true (show (0 : Int) ≤ (j : Int) by omega), decide_eq_true (show (j : Int) < (H : Int) by omega), Int.toNat_natCast, Int.toNat_natCast]
  rfl
set_option maxRecDepth 100000 in
set_option maxHeartbeats 8000000 in
theorem hemStrokes_calls (w : World) (va : Value) (na : List Int) (ha : NumsAt w va na) (vsn vw vh : Int) : Calls Try.prog 11 #[va, .int .i64 vsn, .int .i64 vw, .int .i64 vh] w fun e w' => e = .returned (.bool true) ∧ Below w.heap.size w w' := by
  have hL := Holds.start w
  obtain ⟨a, ac, rfl, _⟩ := ha.parts
  have HMa := Lib.hid (fun w' hb => made_calls w' _ na (SliceAt.below ha hb) false)
  clear ha
  have t1 := made_straight na
  generalize madeS na false = S at *
  have hsm := styN_may vsn
  have HSt := Lib.hid (fun w => style_calls vsn w)
  generalize styN vsn = sty at *
  have q8a := Int.emod_nonneg vw (show (14 : Int) ≠ 0 by omega)
  have q8b := Int.emod_lt_of_pos vw (show (0 : Int) < 14 by omega)
  have q9a := Int.emod_nonneg vh (show (14 : Int) ≠ 0 by omega)
  have q9b := Int.emod_lt_of_pos vh (show (0 : Int) < 14 by omega)
  have HSw := Lib.hid (fun w => sideS_calls vw w)
  have HSh := Lib.hid (fun w => sideS_calls vh w)
  obtain ⟨W, hW⟩ : ∃ W : Nat, 1 + vw % 14 = (W : Int) := ⟨(1 + vw % 14).toNat, by omega⟩
  obtain ⟨H, hH⟩ : ∃ H : Nat, 1 + vh % 14 = (H : Int) := ⟨(1 + vh % 14).toNat, by omega⟩
  rw [hW] at HSw
  rw [hH] at HSh
  have hW0 : 0 < W := by omega
  have hW1 : W ≤ 14 := by omega
  have hH0 : 0 < H := by omega
  have hH1 : H ≤ 14 := by omega
  clear hW hH q8a q8b q9a q9b
  have hsM : Sides W H := ⟨by omega, by omega, by omega, by omega⟩
  have HA := Lib.hid (fun w' v hv => hemRegionH_calls hW0 (by omega) hH0 (by omega) w' v S hv sty t1 hsm)
  have HB := Lib.hid (fun w' v hv => strokeMask_calls hsM w' v S hv t1 sty hsm)
  clear t1 hsm
  generalize strokeP S sty = P at *
  have HH := Lib.hid (show ∀ w' v (j i : Nat), i < W → RunsAt w' v (runsTo (P j) W) → Calls Try.prog 35 #[v, .int .i64 i] w' fun r' w'' => r' = .returned (.bool (P j i)) ∧ Below w'.heap.size w' w'' from
    fun w' v j i hi hv => by
      have h := spanHas_calls w' v _ hv (i : Int)
      rwa [hasP_runsTo (P j) (by omega) hi] at h)
  have HY := Lib.hid (show ∀ w' v (j : Nat), RunsAt w' v (runsTo (P j) W) → Calls Try.prog 37 #[v, .int .i64 W] w' fun r' w'' => r' = .returned (.bool true) ∧ Below w'.heap.size w' w'' from
    fun w' v j hv => by
      have h := spanMay_calls w' v _ hv W
      rwa [mayRuns_runsTo _ (by omega)] at h)
  have HC := Lib.hid (show ∀ w' ma (j i : Nat), i < W → j < H → MaskF (.agg #[.int .i64 W, .int .i64 H, .slice ma (W * H) (W * H)]) (pixMask W H P) w' → Calls Try.prog 39 #[.agg #[.int .i64 W, .int .i64 H, .slice ma (W * H) (W * H)], .int .i64 i, .int .i64 j] w' fun r' w'' => r' = .returned (.bool (P j i)) ∧ Below w'.heap.size w' w'' from
    fun w' ma j i hi hj h => by
      have k := hasK_calls (W := W) (H := H) (n := W * H) rfl rfl rfl hsM w' ma P h (i : Int) (j : Int)
      rwa [atPix_natH P hi hj] at k)
  clear hsM
  obtain ⟨wd, cap, join⟩ := sty
  dsimp only at *
  have n1 : True := trivial
  go_enter Try.func11, Try.ntmps11
  go_wp2_with (first | (go_at_call 12; (with_reducible refine (known_calls _).mono ?_); rintro e _ ⟨rfl, hb⟩; replace hL := hL.call hb; clear hb) | (go_at_call 25; (with_reducible refine (HMa.out _ hL.below).mono ?_); rintro e _ ⟨vs, rfl, hb, hf⟩; replace hL := hL.callF hb hf; clear hb hf) | (go_at_call 24; (with_reducible refine (HSt.out _).mono ?_); rintro e _ ⟨rfl, hb⟩; replace hL := hL.call hb; clear hb) | (first | (clear hL n1; with_reducible intro b1 w1 hL) | (clear hL; with_reducible intro _ _ hL)) | (with_reducible refine wpC_alloc rfl _ rfl _ _ inferInstance hL ?_) | (with_reducible first | refine wpB_agg rfl _ _ _ rfl rfl hL ?_ | refine wpB_one rfl _ _ (.int _ _) rfl rfl rfl hL ?_ | refine wpB_one rfl _ _ (.slice _ _ _) rfl rfl rfl hL ?_ | refine wpB_one rfl _ _ (.bool _) rfl rfl rfl hL ?_ | refine wpB_one rfl _ _ (.pointer _) rfl rfl rfl hL ?_ | refine wpB_one rfl _ _ (.func _ _ _) rfl rfl rfl hL ?_) | (with_reducible first | refine wpH_max rfl _ _ _ _ rfl _ _ rfl rfl ?_ | refine wpH_min rfl _ _ _ _ rfl _ _ rfl rfl ?_) | ((with_reducible refine wpA_load rfl _ _ rfl _ rfl ?_); first | refine loadA hL ?_ | refine loadR hL ?_ | refine loadC hL ?_ | refine loadD ?_ | refine loadE hL ?_ | refine loadF ?_) | ((with_reducible refine wpA_index rfl _ _ _ rfl _ rfl _ rfl ?_); first | (refine indexA ?_; try rw [Int.toNat_natCast]) | refine indexC ?_) | ((with_reducible refine wpA_store rfl _ _ _ rfl _ rfl (.agg _) rfl ?_); refine storeR hL ?_; clear hL; intro _ hL) | ((with_reducible first | refine wpA_store rfl _ _ _ rfl _ rfl (.int _ _) rfl ?_ | refine wpA_store rfl _ _ _ rfl _ rfl (.slice _ _ _) rfl ?_ | refine wpA_store rfl _ _ _ rfl _ rfl (.bool _) rfl ?_ | refine wpA_store rfl _ _ _ rfl _ rfl (.pointer _) rfl ?_ | refine wpA_store rfl _ _ _ rfl _ rfl (.func _ _ _) rfl ?_); (first | refine storeA hL ?_ | refine storeO hL ?_); (clear hL; intro _ hL)) | ((with_reducible refine wpA_lit rfl _ _ _ rfl ?_); first | refine litA1 hL ?_ | refine litA2 hL ?_ | refine litA3 hL ?_ | refine litA4 hL ?_ | refine litA6 hL ?_) | ((with_reducible refine wpA_append rfl _ _ _ rfl (.slice _ _ _) rfl ?_); intro vq hvq; simp [go_sem] at hvq; subst hvq; refine appendA hL ?_; clear hL; intro _ _ _ hL; try dsimp only at hL) | ((with_reducible refine wpA_make rfl _ _ _ rfl _ rfl rfl ?_); refine makeA hL ?_))
  replace hL := hL.drew
  apply exContA (H := fun sa ca b2 w8 => Holds w w8 [blk b2 #[.int .i64 W, .int .i64 H, .slice sa H ca] 37, blk b1 #[.int .i64 wd, .int .i64 cap, .int .i64 join] 24] [RowsH sa ca H (fun j => runsTo (P j) W), fun w => SegsAt w vs S])
  · intro hcont
    have hS := (show (fun w' : World => w'.rangeAt b1 0 #[.int .i64 wd, .int .i64 cap, .int .i64 join].toList) _ from hL.range (by (repeat (first | with_reducible exact At.here | with_reducible apply At.there))))
    refine wpH_begin (by kernel_rfl) (fun w' : World => w'.rangeAt b1 0 #[.int .i64 wd, .int .i64 cap, .int .i64 join].toList) ?_
    refine stH (i := 0) (vs) hS ?_ ?_; (· exact fun w' _ => (by go_simp)); simp only [Act.put, List.setIfInBounds_toArray, List.set_cons_zero, List.set_cons_succ]
    refine stH (i := 1) (.agg #[.int .i64 wd, .int .i64 cap, .int .i64 join]) hS ?_ ?_; (· exact fun w' hw => run_loadOp _ _ rfl _ rfl _ (load_range (cs := #[.int .i64 wd, .int .i64 cap, .int .i64 join]) rfl hw)); simp only [Act.put, List.setIfInBounds_toArray, List.set_cons_zero, List.set_cons_succ]
    refine stH (i := 2) (.int .i64 vw) hS ?_ ?_; (· exact fun w' _ => (by go_simp)); simp only [Act.put, List.setIfInBounds_toArray, List.set_cons_zero, List.set_cons_succ]
    refine stH (i := 4) (.int .i64 vh) hS ?_ ?_; (· exact fun w' _ => (by go_simp)); simp only [Act.put, List.setIfInBounds_toArray, List.set_cons_zero, List.set_cons_succ]
    refine wpH_two (i := 3) (j := 10) (by kernel_rfl) (wpOp_of (by simp only [List.getElem?_toArray, List.getElem?_cons_zero, List.getElem?_cons_succ]; rfl) ?_) (wpOp_of (by simp only [List.getElem?_toArray, List.getElem?_cons_zero, List.getElem?_cons_succ]; rfl) ?_)
    · refine st_call rfl 32 #[.int .i64 vw] (by go_simp) (HSw.out _) ?_
      rintro e _ ⟨rfl, rfl⟩
      refine ⟨_, rfl, hS, ?_⟩
      simp only [Act.put, List.setIfInBounds_toArray, List.set_cons_zero, List.set_cons_succ]
      refine wpH_two (i := 5) (j := 10) (by kernel_rfl) (wpOp_of (by simp only [List.getElem?_toArray, List.getElem?_cons_zero, List.getElem?_cons_succ]; rfl) ?_) (wpOp_of (by simp only [List.getElem?_toArray, List.getElem?_cons_zero, List.getElem?_cons_succ]; rfl) ?_)
      · refine st_call rfl 32 #[.int .i64 vh] (by go_simp) (HSh.out _) ?_
        rintro e _ ⟨rfl, rfl⟩
        refine ⟨_, rfl, hS, ?_⟩
        simp only [Act.put, List.setIfInBounds_toArray, List.set_cons_zero, List.set_cons_succ]
        refine wpH_two (i := 6) (j := 10) (by kernel_rfl) (wpOp_of (by simp only [List.getElem?_toArray, List.getElem?_cons_zero, List.getElem?_cons_succ]; rfl) ?_) (wpOp_of (by simp only [List.getElem?_toArray, List.getElem?_cons_zero, List.getElem?_cons_succ]; rfl) ?_)
        · refine st_call rfl 17 #[vs, .agg #[.int .i64 wd, .int .i64 cap, .int .i64 join], .int .i64 W, .int .i64 H] (by go_simp) (HA.out _ vs hL.fact0) ?_
          rintro e w' ⟨sa, ca, rfl, hb, hf⟩
          replace hL := hL.callF hb hf
          clear hb hf
          have hS := (show (fun w' : World => w'.rangeAt b1 0 #[.int .i64 wd, .int .i64 cap, .int .i64 join].toList) _ from hL.range (by (repeat (first | with_reducible exact At.here | with_reducible apply At.there))))
          refine ⟨_, rfl, hS, ?_⟩
          simp only [Act.put, List.setIfInBounds_toArray, List.set_cons_zero, List.set_cons_succ]
          refine stH (i := 7) (.tuple #[.agg #[.int .i64 W, .int .i64 H, .slice sa H ca], .int .i64 0]) hS ?_ ?_; (· exact fun w' _ => (by go_simp)); simp only [Act.put, List.setIfInBounds_toArray, List.set_cons_zero, List.set_cons_succ]
          refine stH (i := 8) (.agg #[.int .i64 W, .int .i64 H, .slice sa H ca]) hS ?_ ?_; (· exact fun w' _ => (by go_simp)); simp only [Act.put, List.setIfInBounds_toArray, List.set_cons_zero, List.set_cons_succ]
          refine stH (i := 9) (.int .i64 0) hS ?_ ?_; (· exact fun w' _ => (by go_simp)); simp only [Act.put, List.setIfInBounds_toArray, List.set_cons_zero, List.set_cons_succ]
          refine wpH_one (i := 10) (by kernel_rfl) (wpOp_of (by simp only [List.getElem?_toArray, List.getElem?_cons_zero, List.getElem?_cons_succ]; rfl) ?_)
          refine st_allocS rfl _ rfl hL ?_
          intro b2 w5 hL
          have hS := (show (fun w' : World => w'.rangeAt b1 0 #[.int .i64 wd, .int .i64 cap, .int .i64 join].toList) _ from hL.range (by (repeat (first | with_reducible exact At.here | with_reducible apply At.there))))
          refine ⟨hS, ?_⟩
          simp only [Act.put, List.setIfInBounds_toArray, List.set_cons_zero, List.set_cons_succ]
          refine wpH_one (i := 11) (by kernel_rfl) (wpOp_of (by simp only [List.getElem?_toArray, List.getElem?_cons_zero, List.getElem?_cons_succ]; rfl) ?_)
          refine st_store rfl _ _ _ rfl ⟨b2, 0, none⟩ rfl (.agg #[.int .i64 W, .int .i64 H, .slice sa H ca]) rfl (storeR hL ?_)
          intro w9 hL
          have hS := (show (fun w' : World => w'.rangeAt b1 0 #[.int .i64 wd, .int .i64 cap, .int .i64 join].toList) _ from hL.range (by (repeat (first | with_reducible exact At.here | with_reducible apply At.there))))
          refine ⟨hS, ?_⟩
          simp only [Act.put]
          refine stH (i := 12) (.int .i64 0) hS ?_ ?_; (· exact fun w' _ => (by go_simp)); simp only [Act.put, List.setIfInBounds_toArray, List.set_cons_zero, List.set_cons_succ]
          refine wpAnyH_done (by kernel_rfl) ?_ _
          exact hcont sa ca b2 _ hL
        · refine st_allocS rfl _ rfl hL ?_
          intro b2 w5 hL
          have hS := (show (fun w' : World => w'.rangeAt b1 0 #[.int .i64 wd, .int .i64 cap, .int .i64 join].toList) _ from hL.range (by (repeat (first | with_reducible exact At.here | with_reducible apply At.there))))
          refine ⟨hS, ?_⟩
          simp only [Act.put, List.setIfInBounds_toArray, List.set_cons_zero, List.set_cons_succ]
          refine wpH_one (i := 6) (by kernel_rfl) (wpOp_of (by simp only [List.getElem?_toArray, List.getElem?_cons_zero, List.getElem?_cons_succ]; rfl) ?_)
          refine st_call rfl 17 #[vs, .agg #[.int .i64 wd, .int .i64 cap, .int .i64 join], .int .i64 W, .int .i64 H] (by go_simp) (HA.out _ vs hL.fact0) ?_
          rintro e w' ⟨sa, ca, rfl, hb, hf⟩
          replace hL := hL.callF hb hf
          clear hb hf
          have hS := (show (fun w' : World => w'.rangeAt b1 0 #[.int .i64 wd, .int .i64 cap, .int .i64 join].toList) _ from hL.range (by (repeat (first | with_reducible exact At.here | with_reducible apply At.there))))
          refine ⟨_, rfl, hS, ?_⟩
          simp only [Act.put, List.setIfInBounds_toArray, List.set_cons_zero, List.set_cons_succ]
          refine stH (i := 7) (.tuple #[.agg #[.int .i64 W, .int .i64 H, .slice sa H ca], .int .i64 0]) hS ?_ ?_; (· exact fun w' _ => (by go_simp)); simp only [Act.put, List.setIfInBounds_toArray, List.set_cons_zero, List.set_cons_succ]
          refine stH (i := 8) (.agg #[.int .i64 W, .int .i64 H, .slice sa H ca]) hS ?_ ?_; (· exact fun w' _ => (by go_simp)); simp only [Act.put, List.setIfInBounds_toArray, List.set_cons_zero, List.set_cons_succ]
          refine stH (i := 9) (.int .i64 0) hS ?_ ?_; (· exact fun w' _ => (by go_simp)); simp only [Act.put, List.setIfInBounds_toArray, List.set_cons_zero, List.set_cons_succ]
          refine wpH_one (i := 11) (by kernel_rfl) (wpOp_of (by simp only [List.getElem?_toArray, List.getElem?_cons_zero, List.getElem?_cons_succ]; rfl) ?_)
          refine st_store rfl _ _ _ rfl ⟨b2, 0, none⟩ rfl (.agg #[.int .i64 W, .int .i64 H, .slice sa H ca]) rfl (storeR hL ?_)
          intro w9 hL
          have hS := (show (fun w' : World => w'.rangeAt b1 0 #[.int .i64 wd, .int .i64 cap, .int .i64 join].toList) _ from hL.range (by (repeat (first | with_reducible exact At.here | with_reducible apply At.there))))
          refine ⟨hS, ?_⟩
          simp only [Act.put]
          refine stH (i := 12) (.int .i64 0) hS ?_ ?_; (· exact fun w' _ => (by go_simp)); simp only [Act.put, List.setIfInBounds_toArray, List.set_cons_zero, List.set_cons_succ]
          refine wpAnyH_done (by kernel_rfl) ?_ _
          exact hcont sa ca b2 _ hL
      · refine st_allocS rfl _ rfl hL ?_
        intro b2 w5 hL
        have hS := (show (fun w' : World => w'.rangeAt b1 0 #[.int .i64 wd, .int .i64 cap, .int .i64 join].toList) _ from hL.range (by (repeat (first | with_reducible exact At.here | with_reducible apply At.there))))
        refine ⟨hS, ?_⟩
        simp only [Act.put, List.setIfInBounds_toArray, List.set_cons_zero, List.set_cons_succ]
        refine wpH_one (i := 5) (by kernel_rfl) (wpOp_of (by simp only [List.getElem?_toArray, List.getElem?_cons_zero, List.getElem?_cons_succ]; rfl) ?_)
        refine st_call rfl 32 #[.int .i64 vh] (by go_simp) (HSh.out _) ?_
        rintro e _ ⟨rfl, rfl⟩
        refine ⟨_, rfl, hS, ?_⟩
        simp only [Act.put, List.setIfInBounds_toArray, List.set_cons_zero, List.set_cons_succ]
        refine wpH_one (i := 6) (by kernel_rfl) (wpOp_of (by simp only [List.getElem?_toArray, List.getElem?_cons_zero, List.getElem?_cons_succ]; rfl) ?_)
        refine st_call rfl 17 #[vs, .agg #[.int .i64 wd, .int .i64 cap, .int .i64 join], .int .i64 W, .int .i64 H] (by go_simp) (HA.out _ vs hL.fact0) ?_
        rintro e w' ⟨sa, ca, rfl, hb, hf⟩
        replace hL := hL.callF hb hf
        clear hb hf
        have hS := (show (fun w' : World => w'.rangeAt b1 0 #[.int .i64 wd, .int .i64 cap, .int .i64 join].toList) _ from hL.range (by (repeat (first | with_reducible exact At.here | with_reducible apply At.there))))
        refine ⟨_, rfl, hS, ?_⟩
        simp only [Act.put, List.setIfInBounds_toArray, List.set_cons_zero, List.set_cons_succ]
        refine stH (i := 7) (.tuple #[.agg #[.int .i64 W, .int .i64 H, .slice sa H ca], .int .i64 0]) hS ?_ ?_; (· exact fun w' _ => (by go_simp)); simp only [Act.put, List.setIfInBounds_toArray, List.set_cons_zero, List.set_cons_succ]
        refine stH (i := 8) (.agg #[.int .i64 W, .int .i64 H, .slice sa H ca]) hS ?_ ?_; (· exact fun w' _ => (by go_simp)); simp only [Act.put, List.setIfInBounds_toArray, List.set_cons_zero, List.set_cons_succ]
        refine stH (i := 9) (.int .i64 0) hS ?_ ?_; (· exact fun w' _ => (by go_simp)); simp only [Act.put, List.setIfInBounds_toArray, List.set_cons_zero, List.set_cons_succ]
        refine wpH_one (i := 11) (by kernel_rfl) (wpOp_of (by simp only [List.getElem?_toArray, List.getElem?_cons_zero, List.getElem?_cons_succ]; rfl) ?_)
        refine st_store rfl _ _ _ rfl ⟨b2, 0, none⟩ rfl (.agg #[.int .i64 W, .int .i64 H, .slice sa H ca]) rfl (storeR hL ?_)
        intro w9 hL
        have hS := (show (fun w' : World => w'.rangeAt b1 0 #[.int .i64 wd, .int .i64 cap, .int .i64 join].toList) _ from hL.range (by (repeat (first | with_reducible exact At.here | with_reducible apply At.there))))
        refine ⟨hS, ?_⟩
        simp only [Act.put]
        refine stH (i := 12) (.int .i64 0) hS ?_ ?_; (· exact fun w' _ => (by go_simp)); simp only [Act.put, List.setIfInBounds_toArray, List.set_cons_zero, List.set_cons_succ]
        refine wpAnyH_done (by kernel_rfl) ?_ _
        exact hcont sa ca b2 _ hL
    · refine st_allocS rfl _ rfl hL ?_
      intro b2 w5 hL
      have hS := (show (fun w' : World => w'.rangeAt b1 0 #[.int .i64 wd, .int .i64 cap, .int .i64 join].toList) _ from hL.range (by (repeat (first | with_reducible exact At.here | with_reducible apply At.there))))
      refine ⟨hS, ?_⟩
      simp only [Act.put, List.setIfInBounds_toArray, List.set_cons_zero, List.set_cons_succ]
      refine wpH_one (i := 3) (by kernel_rfl) (wpOp_of (by simp only [List.getElem?_toArray, List.getElem?_cons_zero, List.getElem?_cons_succ]; rfl) ?_)
      refine st_call rfl 32 #[.int .i64 vw] (by go_simp) (HSw.out _) ?_
      rintro e _ ⟨rfl, rfl⟩
      refine ⟨_, rfl, hS, ?_⟩
      simp only [Act.put, List.setIfInBounds_toArray, List.set_cons_zero, List.set_cons_succ]
      refine wpH_one (i := 5) (by kernel_rfl) (wpOp_of (by simp only [List.getElem?_toArray, List.getElem?_cons_zero, List.getElem?_cons_succ]; rfl) ?_)
      refine st_call rfl 32 #[.int .i64 vh] (by go_simp) (HSh.out _) ?_
      rintro e _ ⟨rfl, rfl⟩
      refine ⟨_, rfl, hS, ?_⟩
      simp only [Act.put, List.setIfInBounds_toArray, List.set_cons_zero, List.set_cons_succ]
      refine wpH_one (i := 6) (by kernel_rfl) (wpOp_of (by simp only [List.getElem?_toArray, List.getElem?_cons_zero, List.getElem?_cons_succ]; rfl) ?_)
      refine st_call rfl 17 #[vs, .agg #[.int .i64 wd, .int .i64 cap, .int .i64 join], .int .i64 W, .int .i64 H] (by go_simp) (HA.out _ vs hL.fact0) ?_
      rintro e w' ⟨sa, ca, rfl, hb, hf⟩
      replace hL := hL.callF hb hf
      clear hb hf
      have hS := (show (fun w' : World => w'.rangeAt b1 0 #[.int .i64 wd, .int .i64 cap, .int .i64 join].toList) _ from hL.range (by (repeat (first | with_reducible exact At.here | with_reducible apply At.there))))
      refine ⟨_, rfl, hS, ?_⟩
      simp only [Act.put, List.setIfInBounds_toArray, List.set_cons_zero, List.set_cons_succ]
      refine stH (i := 7) (.tuple #[.agg #[.int .i64 W, .int .i64 H, .slice sa H ca], .int .i64 0]) hS ?_ ?_; (· exact fun w' _ => (by go_simp)); simp only [Act.put, List.setIfInBounds_toArray, List.set_cons_zero, List.set_cons_succ]
      refine stH (i := 8) (.agg #[.int .i64 W, .int .i64 H, .slice sa H ca]) hS ?_ ?_; (· exact fun w' _ => (by go_simp)); simp only [Act.put, List.setIfInBounds_toArray, List.set_cons_zero, List.set_cons_succ]
      refine stH (i := 9) (.int .i64 0) hS ?_ ?_; (· exact fun w' _ => (by go_simp)); simp only [Act.put, List.setIfInBounds_toArray, List.set_cons_zero, List.set_cons_succ]
      refine wpH_one (i := 11) (by kernel_rfl) (wpOp_of (by simp only [List.getElem?_toArray, List.getElem?_cons_zero, List.getElem?_cons_succ]; rfl) ?_)
      refine st_store rfl _ _ _ rfl ⟨b2, 0, none⟩ rfl (.agg #[.int .i64 W, .int .i64 H, .slice sa H ca]) rfl (storeR hL ?_)
      intro w9 hL
      have hS := (show (fun w' : World => w'.rangeAt b1 0 #[.int .i64 wd, .int .i64 cap, .int .i64 join].toList) _ from hL.range (by (repeat (first | with_reducible exact At.here | with_reducible apply At.there))))
      refine ⟨hS, ?_⟩
      simp only [Act.put]
      refine stH (i := 12) (.int .i64 0) hS ?_ ?_; (· exact fun w' _ => (by go_simp)); simp only [Act.put, List.setIfInBounds_toArray, List.set_cons_zero, List.set_cons_succ]
      refine wpAnyH_done (by kernel_rfl) ?_ _
      exact hcont sa ca b2 _ hL
  intro sa ca b2 w8 hL
  go_wp2
  replace hL := hL.drew
  apply exContB (H := fun ma b3 w8 => Holds w w8 [blk b3 #[.int .i64 W, .int .i64 H, .slice ma (W * H) (W * H)] 43, blk b2 #[.int .i64 W, .int .i64 H, .slice sa H ca] 37, blk b1 #[.int .i64 wd, .int .i64 cap, .int .i64 join] 24] [MaskF (.agg #[.int .i64 W, .int .i64 H, .slice ma (W * H) (W * H)]) (pixMask W H P), RowsH sa ca H (fun j => runsTo (P j) W), fun w => SegsAt w vs S])
  · intro hcont
    have hS := (show (fun w' : World => w'.rangeAt b1 0 #[.int .i64 wd, .int .i64 cap, .int .i64 join].toList) _ from hL.range (by (repeat (first | with_reducible exact At.here | with_reducible apply At.there))))
    refine wpH_begin (by kernel_rfl) (fun w' : World => w'.rangeAt b1 0 #[.int .i64 wd, .int .i64 cap, .int .i64 join].toList) ?_
    refine stH (i := 0) (vs) hS ?_ ?_; (· exact fun w' _ => (by go_simp)); simp only [Act.put, List.setIfInBounds_toArray, List.set_cons_zero, List.set_cons_succ]
    refine stH (i := 1) (.agg #[.int .i64 wd, .int .i64 cap, .int .i64 join]) hS ?_ ?_; (· exact fun w' hw => run_loadOp _ _ rfl _ rfl _ (load_range (cs := #[.int .i64 wd, .int .i64 cap, .int .i64 join]) rfl hw)); simp only [Act.put, List.setIfInBounds_toArray, List.set_cons_zero, List.set_cons_succ]
    refine stH (i := 2) (.int .i64 vw) hS ?_ ?_; (· exact fun w' _ => (by go_simp)); simp only [Act.put, List.setIfInBounds_toArray, List.set_cons_zero, List.set_cons_succ]
    refine stH (i := 4) (.int .i64 vh) hS ?_ ?_; (· exact fun w' _ => (by go_simp)); simp only [Act.put, List.setIfInBounds_toArray, List.set_cons_zero, List.set_cons_succ]
    refine wpH_two (i := 3) (j := 10) (by kernel_rfl) (wpOp_of (by simp only [List.getElem?_toArray, List.getElem?_cons_zero, List.getElem?_cons_succ]; rfl) ?_) (wpOp_of (by simp only [List.getElem?_toArray, List.getElem?_cons_zero, List.getElem?_cons_succ]; rfl) ?_)
    · refine st_call rfl 32 #[.int .i64 vw] (by go_simp) (HSw.out _) ?_
      rintro e _ ⟨rfl, rfl⟩
      refine ⟨_, rfl, hS, ?_⟩
      simp only [Act.put, List.setIfInBounds_toArray, List.set_cons_zero, List.set_cons_succ]
      refine wpH_two (i := 5) (j := 10) (by kernel_rfl) (wpOp_of (by simp only [List.getElem?_toArray, List.getElem?_cons_zero, List.getElem?_cons_succ]; rfl) ?_) (wpOp_of (by simp only [List.getElem?_toArray, List.getElem?_cons_zero, List.getElem?_cons_succ]; rfl) ?_)
      · refine st_call rfl 32 #[.int .i64 vh] (by go_simp) (HSh.out _) ?_
        rintro e _ ⟨rfl, rfl⟩
        refine ⟨_, rfl, hS, ?_⟩
        simp only [Act.put, List.setIfInBounds_toArray, List.set_cons_zero, List.set_cons_succ]
        refine wpH_two (i := 6) (j := 10) (by kernel_rfl) (wpOp_of (by simp only [List.getElem?_toArray, List.getElem?_cons_zero, List.getElem?_cons_succ]; rfl) ?_) (wpOp_of (by simp only [List.getElem?_toArray, List.getElem?_cons_zero, List.getElem?_cons_succ]; rfl) ?_)
        · refine st_call rfl 38 #[vs, .agg #[.int .i64 wd, .int .i64 cap, .int .i64 join], .int .i64 W, .int .i64 H] (by go_simp) (HB.out _ vs hL.fact1) ?_
          rintro e w' ⟨ma, rfl, hb, hf⟩
          replace hL := hL.callF hb hf
          clear hb hf
          have hS := (show (fun w' : World => w'.rangeAt b1 0 #[.int .i64 wd, .int .i64 cap, .int .i64 join].toList) _ from hL.range (by (repeat (first | with_reducible exact At.here | with_reducible apply At.there))))
          refine ⟨_, rfl, hS, ?_⟩
          simp only [Act.put, List.setIfInBounds_toArray, List.set_cons_zero, List.set_cons_succ]
          refine stH (i := 7) (.tuple #[.agg #[.int .i64 W, .int .i64 H, .slice ma (W * H) (W * H)], .int .i64 0]) hS ?_ ?_; (· exact fun w' _ => (by go_simp)); simp only [Act.put, List.setIfInBounds_toArray, List.set_cons_zero, List.set_cons_succ]
          refine stH (i := 8) (.agg #[.int .i64 W, .int .i64 H, .slice ma (W * H) (W * H)]) hS ?_ ?_; (· exact fun w' _ => (by go_simp)); simp only [Act.put, List.setIfInBounds_toArray, List.set_cons_zero, List.set_cons_succ]
          refine stH (i := 9) (.int .i64 0) hS ?_ ?_; (· exact fun w' _ => (by go_simp)); simp only [Act.put, List.setIfInBounds_toArray, List.set_cons_zero, List.set_cons_succ]
          refine wpH_one (i := 10) (by kernel_rfl) (wpOp_of (by simp only [List.getElem?_toArray, List.getElem?_cons_zero, List.getElem?_cons_succ]; rfl) ?_)
          refine st_allocS rfl _ rfl hL ?_
          intro b3 w5 hL
          have hS := (show (fun w' : World => w'.rangeAt b1 0 #[.int .i64 wd, .int .i64 cap, .int .i64 join].toList) _ from hL.range (by (repeat (first | with_reducible exact At.here | with_reducible apply At.there))))
          refine ⟨hS, ?_⟩
          simp only [Act.put, List.setIfInBounds_toArray, List.set_cons_zero, List.set_cons_succ]
          refine wpH_one (i := 11) (by kernel_rfl) (wpOp_of (by simp only [List.getElem?_toArray, List.getElem?_cons_zero, List.getElem?_cons_succ]; rfl) ?_)
          refine st_store rfl _ _ _ rfl ⟨b3, 0, none⟩ rfl (.agg #[.int .i64 W, .int .i64 H, .slice ma (W * H) (W * H)]) rfl (storeR hL ?_)
          intro w9 hL
          have hS := (show (fun w' : World => w'.rangeAt b1 0 #[.int .i64 wd, .int .i64 cap, .int .i64 join].toList) _ from hL.range (by (repeat (first | with_reducible exact At.here | with_reducible apply At.there))))
          refine ⟨hS, ?_⟩
          simp only [Act.put]
          refine stH (i := 12) (.int .i64 0) hS ?_ ?_; (· exact fun w' _ => (by go_simp)); simp only [Act.put, List.setIfInBounds_toArray, List.set_cons_zero, List.set_cons_succ]
          refine wpAnyH_done (by kernel_rfl) ?_ _
          exact hcont ma b3 _ hL
        · refine st_allocS rfl _ rfl hL ?_
          intro b3 w5 hL
          have hS := (show (fun w' : World => w'.rangeAt b1 0 #[.int .i64 wd, .int .i64 cap, .int .i64 join].toList) _ from hL.range (by (repeat (first | with_reducible exact At.here | with_reducible apply At.there))))
          refine ⟨hS, ?_⟩
          simp only [Act.put, List.setIfInBounds_toArray, List.set_cons_zero, List.set_cons_succ]
          refine wpH_one (i := 6) (by kernel_rfl) (wpOp_of (by simp only [List.getElem?_toArray, List.getElem?_cons_zero, List.getElem?_cons_succ]; rfl) ?_)
          refine st_call rfl 38 #[vs, .agg #[.int .i64 wd, .int .i64 cap, .int .i64 join], .int .i64 W, .int .i64 H] (by go_simp) (HB.out _ vs hL.fact1) ?_
          rintro e w' ⟨ma, rfl, hb, hf⟩
          replace hL := hL.callF hb hf
          clear hb hf
          have hS := (show (fun w' : World => w'.rangeAt b1 0 #[.int .i64 wd, .int .i64 cap, .int .i64 join].toList) _ from hL.range (by (repeat (first | with_reducible exact At.here | with_reducible apply At.there))))
          refine ⟨_, rfl, hS, ?_⟩
          simp only [Act.put, List.setIfInBounds_toArray, List.set_cons_zero, List.set_cons_succ]
          refine stH (i := 7) (.tuple #[.agg #[.int .i64 W, .int .i64 H, .slice ma (W * H) (W * H)], .int .i64 0]) hS ?_ ?_; (· exact fun w' _ => (by go_simp)); simp only [Act.put, List.setIfInBounds_toArray, List.set_cons_zero, List.set_cons_succ]
          refine stH (i := 8) (.agg #[.int .i64 W, .int .i64 H, .slice ma (W * H) (W * H)]) hS ?_ ?_; (· exact fun w' _ => (by go_simp)); simp only [Act.put, List.setIfInBounds_toArray, List.set_cons_zero, List.set_cons_succ]
          refine stH (i := 9) (.int .i64 0) hS ?_ ?_; (· exact fun w' _ => (by go_simp)); simp only [Act.put, List.setIfInBounds_toArray, List.set_cons_zero, List.set_cons_succ]
          refine wpH_one (i := 11) (by kernel_rfl) (wpOp_of (by simp only [List.getElem?_toArray, List.getElem?_cons_zero, List.getElem?_cons_succ]; rfl) ?_)
          refine st_store rfl _ _ _ rfl ⟨b3, 0, none⟩ rfl (.agg #[.int .i64 W, .int .i64 H, .slice ma (W * H) (W * H)]) rfl (storeR hL ?_)
          intro w9 hL
          have hS := (show (fun w' : World => w'.rangeAt b1 0 #[.int .i64 wd, .int .i64 cap, .int .i64 join].toList) _ from hL.range (by (repeat (first | with_reducible exact At.here | with_reducible apply At.there))))
          refine ⟨hS, ?_⟩
          simp only [Act.put]
          refine stH (i := 12) (.int .i64 0) hS ?_ ?_; (· exact fun w' _ => (by go_simp)); simp only [Act.put, List.setIfInBounds_toArray, List.set_cons_zero, List.set_cons_succ]
          refine wpAnyH_done (by kernel_rfl) ?_ _
          exact hcont ma b3 _ hL
      · refine st_allocS rfl _ rfl hL ?_
        intro b3 w5 hL
        have hS := (show (fun w' : World => w'.rangeAt b1 0 #[.int .i64 wd, .int .i64 cap, .int .i64 join].toList) _ from hL.range (by (repeat (first | with_reducible exact At.here | with_reducible apply At.there))))
        refine ⟨hS, ?_⟩
        simp only [Act.put, List.setIfInBounds_toArray, List.set_cons_zero, List.set_cons_succ]
        refine wpH_one (i := 5) (by kernel_rfl) (wpOp_of (by simp only [List.getElem?_toArray, List.getElem?_cons_zero, List.getElem?_cons_succ]; rfl) ?_)
        refine st_call rfl 32 #[.int .i64 vh] (by go_simp) (HSh.out _) ?_
        rintro e _ ⟨rfl, rfl⟩
        refine ⟨_, rfl, hS, ?_⟩
        simp only [Act.put, List.setIfInBounds_toArray, List.set_cons_zero, List.set_cons_succ]
        refine wpH_one (i := 6) (by kernel_rfl) (wpOp_of (by simp only [List.getElem?_toArray, List.getElem?_cons_zero, List.getElem?_cons_succ]; rfl) ?_)
        refine st_call rfl 38 #[vs, .agg #[.int .i64 wd, .int .i64 cap, .int .i64 join], .int .i64 W, .int .i64 H] (by go_simp) (HB.out _ vs hL.fact1) ?_
        rintro e w' ⟨ma, rfl, hb, hf⟩
        replace hL := hL.callF hb hf
        clear hb hf
        have hS := (show (fun w' : World => w'.rangeAt b1 0 #[.int .i64 wd, .int .i64 cap, .int .i64 join].toList) _ from hL.range (by (repeat (first | with_reducible exact At.here | with_reducible apply At.there))))
        refine ⟨_, rfl, hS, ?_⟩
        simp only [Act.put, List.setIfInBounds_toArray, List.set_cons_zero, List.set_cons_succ]
        refine stH (i := 7) (.tuple #[.agg #[.int .i64 W, .int .i64 H, .slice ma (W * H) (W * H)], .int .i64 0]) hS ?_ ?_; (· exact fun w' _ => (by go_simp)); simp only [Act.put, List.setIfInBounds_toArray, List.set_cons_zero, List.set_cons_succ]
        refine stH (i := 8) (.agg #[.int .i64 W, .int .i64 H, .slice ma (W * H) (W * H)]) hS ?_ ?_; (· exact fun w' _ => (by go_simp)); simp only [Act.put, List.setIfInBounds_toArray, List.set_cons_zero, List.set_cons_succ]
        refine stH (i := 9) (.int .i64 0) hS ?_ ?_; (· exact fun w' _ => (by go_simp)); simp only [Act.put, List.setIfInBounds_toArray, List.set_cons_zero, List.set_cons_succ]
        refine wpH_one (i := 11) (by kernel_rfl) (wpOp_of (by simp only [List.getElem?_toArray, List.getElem?_cons_zero, List.getElem?_cons_succ]; rfl) ?_)
        refine st_store rfl _ _ _ rfl ⟨b3, 0, none⟩ rfl (.agg #[.int .i64 W, .int .i64 H, .slice ma (W * H) (W * H)]) rfl (storeR hL ?_)
        intro w9 hL
        have hS := (show (fun w' : World => w'.rangeAt b1 0 #[.int .i64 wd, .int .i64 cap, .int .i64 join].toList) _ from hL.range (by (repeat (first | with_reducible exact At.here | with_reducible apply At.there))))
        refine ⟨hS, ?_⟩
        simp only [Act.put]
        refine stH (i := 12) (.int .i64 0) hS ?_ ?_; (· exact fun w' _ => (by go_simp)); simp only [Act.put, List.setIfInBounds_toArray, List.set_cons_zero, List.set_cons_succ]
        refine wpAnyH_done (by kernel_rfl) ?_ _
        exact hcont ma b3 _ hL
    · refine st_allocS rfl _ rfl hL ?_
      intro b3 w5 hL
      have hS := (show (fun w' : World => w'.rangeAt b1 0 #[.int .i64 wd, .int .i64 cap, .int .i64 join].toList) _ from hL.range (by (repeat (first | with_reducible exact At.here | with_reducible apply At.there))))
      refine ⟨hS, ?_⟩
      simp only [Act.put, List.setIfInBounds_toArray, List.set_cons_zero, List.set_cons_succ]
      refine wpH_one (i := 3) (by kernel_rfl) (wpOp_of (by simp only [List.getElem?_toArray, List.getElem?_cons_zero, List.getElem?_cons_succ]; rfl) ?_)
      refine st_call rfl 32 #[.int .i64 vw] (by go_simp) (HSw.out _) ?_
      rintro e _ ⟨rfl, rfl⟩
      refine ⟨_, rfl, hS, ?_⟩
      simp only [Act.put, List.setIfInBounds_toArray, List.set_cons_zero, List.set_cons_succ]
      refine wpH_one (i := 5) (by kernel_rfl) (wpOp_of (by simp only [List.getElem?_toArray, List.getElem?_cons_zero, List.getElem?_cons_succ]; rfl) ?_)
      refine st_call rfl 32 #[.int .i64 vh] (by go_simp) (HSh.out _) ?_
      rintro e _ ⟨rfl, rfl⟩
      refine ⟨_, rfl, hS, ?_⟩
      simp only [Act.put, List.setIfInBounds_toArray, List.set_cons_zero, List.set_cons_succ]
      refine wpH_one (i := 6) (by kernel_rfl) (wpOp_of (by simp only [List.getElem?_toArray, List.getElem?_cons_zero, List.getElem?_cons_succ]; rfl) ?_)
      refine st_call rfl 38 #[vs, .agg #[.int .i64 wd, .int .i64 cap, .int .i64 join], .int .i64 W, .int .i64 H] (by go_simp) (HB.out _ vs hL.fact1) ?_
      rintro e w' ⟨ma, rfl, hb, hf⟩
      replace hL := hL.callF hb hf
      clear hb hf
      have hS := (show (fun w' : World => w'.rangeAt b1 0 #[.int .i64 wd, .int .i64 cap, .int .i64 join].toList) _ from hL.range (by (repeat (first | with_reducible exact At.here | with_reducible apply At.there))))
      refine ⟨_, rfl, hS, ?_⟩
      simp only [Act.put, List.setIfInBounds_toArray, List.set_cons_zero, List.set_cons_succ]
      refine stH (i := 7) (.tuple #[.agg #[.int .i64 W, .int .i64 H, .slice ma (W * H) (W * H)], .int .i64 0]) hS ?_ ?_; (· exact fun w' _ => (by go_simp)); simp only [Act.put, List.setIfInBounds_toArray, List.set_cons_zero, List.set_cons_succ]
      refine stH (i := 8) (.agg #[.int .i64 W, .int .i64 H, .slice ma (W * H) (W * H)]) hS ?_ ?_; (· exact fun w' _ => (by go_simp)); simp only [Act.put, List.setIfInBounds_toArray, List.set_cons_zero, List.set_cons_succ]
      refine stH (i := 9) (.int .i64 0) hS ?_ ?_; (· exact fun w' _ => (by go_simp)); simp only [Act.put, List.setIfInBounds_toArray, List.set_cons_zero, List.set_cons_succ]
      refine wpH_one (i := 11) (by kernel_rfl) (wpOp_of (by simp only [List.getElem?_toArray, List.getElem?_cons_zero, List.getElem?_cons_succ]; rfl) ?_)
      refine st_store rfl _ _ _ rfl ⟨b3, 0, none⟩ rfl (.agg #[.int .i64 W, .int .i64 H, .slice ma (W * H) (W * H)]) rfl (storeR hL ?_)
      intro w9 hL
      have hS := (show (fun w' : World => w'.rangeAt b1 0 #[.int .i64 wd, .int .i64 cap, .int .i64 join].toList) _ from hL.range (by (repeat (first | with_reducible exact At.here | with_reducible apply At.there))))
      refine ⟨hS, ?_⟩
      simp only [Act.put]
      refine stH (i := 12) (.int .i64 0) hS ?_ ?_; (· exact fun w' _ => (by go_simp)); simp only [Act.put, List.setIfInBounds_toArray, List.set_cons_zero, List.set_cons_succ]
      refine wpAnyH_done (by kernel_rfl) ?_ _
      exact hcont ma b3 _ hL
  intro ma b3 w9 hL
  go_wp2_with (first | (first | (clear hL n1; with_reducible intro b1 w1 hL) | (clear hL; with_reducible intro _ _ hL)) | (with_reducible refine wpC_alloc rfl _ rfl _ _ inferInstance hL ?_) | (with_reducible first | refine wpB_agg rfl _ _ _ rfl rfl hL ?_ | refine wpB_one rfl _ _ (.int _ _) rfl rfl rfl hL ?_ | refine wpB_one rfl _ _ (.slice _ _ _) rfl rfl rfl hL ?_ | refine wpB_one rfl _ _ (.bool _) rfl rfl rfl hL ?_ | refine wpB_one rfl _ _ (.pointer _) rfl rfl rfl hL ?_ | refine wpB_one rfl _ _ (.func _ _ _) rfl rfl rfl hL ?_) | (with_reducible first | refine wpH_max rfl _ _ _ _ rfl _ _ rfl rfl ?_ | refine wpH_min rfl _ _ _ _ rfl _ _ rfl rfl ?_) | ((with_reducible refine wpA_load rfl _ _ rfl _ rfl ?_); first | refine loadA hL ?_ | refine loadR hL ?_ | refine loadC hL ?_ | refine loadD ?_ | refine loadE hL ?_ | refine loadF ?_) | ((with_reducible refine wpA_index rfl _ _ _ rfl _ rfl _ rfl ?_); first | (refine indexA ?_; try rw [Int.toNat_natCast]) | refine indexC ?_) | ((with_reducible refine wpA_store rfl _ _ _ rfl _ rfl (.agg _) rfl ?_); refine storeR hL ?_; clear hL; intro _ hL) | ((with_reducible first | refine wpA_store rfl _ _ _ rfl _ rfl (.int _ _) rfl ?_ | refine wpA_store rfl _ _ _ rfl _ rfl (.slice _ _ _) rfl ?_ | refine wpA_store rfl _ _ _ rfl _ rfl (.bool _) rfl ?_ | refine wpA_store rfl _ _ _ rfl _ rfl (.pointer _) rfl ?_ | refine wpA_store rfl _ _ _ rfl _ rfl (.func _ _ _) rfl ?_); (first | refine storeA hL ?_ | refine storeO hL ?_); (clear hL; intro _ hL)) | ((with_reducible refine wpA_lit rfl _ _ _ rfl ?_); first | refine litA1 hL ?_ | refine litA2 hL ?_ | refine litA3 hL ?_ | refine litA4 hL ?_ | refine litA6 hL ?_) | ((with_reducible refine wpA_append rfl _ _ _ rfl (.slice _ _ _) rfl ?_); intro vq hvq; simp [go_sem] at hvq; subst hvq; refine appendA hL ?_; clear hL; intro _ _ _ hL; try dsimp only at hL) | ((with_reducible refine wpA_make rfl _ _ _ rfl _ rfl rfl ?_); refine makeA hL ?_))
  replace hL := hL.facts (Ψ := [MaskF (.agg #[.int .i64 W, .int .i64 H, .slice ma (W * H) (W * H)]) (pixMask W H P), RowsH sa ca H (fun j => runsTo (P j) W)]) fun θ hθ => hL.firm θ (by simp only [List.mem_cons, List.not_mem_nil, or_false] at hθ ⊢; rcases hθ with h | h <;> simp [h])
  go_loopw [15] (fun s15 wr => ∃ j : Nat, j ≤ H ∧ s15 = .int .i64 j ∧ Holds w wr [blk b3 #[.int .i64 W, .int .i64 H, .slice ma (W * H) (W * H)] 43, blk b2 #[.int .i64 W, .int .i64 H, .slice sa H ca] 37, blk b1 #[.int .i64 wd, .int .i64 cap, .int .i64 join] 24] [MaskF (.agg #[.int .i64 W, .int .i64 H, .slice ma (W * H) (W * H)]) (pixMask W H P), RowsH sa ca H (fun j => runsTo (P j) W)])
    (fun s15 wr => H - (intOf s15).toNat)
  case atStart => exact ⟨0, by omega, rfl, hL⟩
  case round =>
    clear hL
    obtain ⟨j, hj, rfl, hL⟩ := hrel
    by_cases hjt : j < H
    · have hjb : (j : Int) < (H : Int) := by omega
      have hj0 : (0 : Int) ≤ (j : Int) := by omega
      have HYj := Lib.hid (fun w' v hv => HY.out w' v j hv)
      obtain ⟨gc, oc, uc, rfl, hc1, hc2⟩ := hL.fact1.get hjt
      have Hc1 := Lib.hid hc1; have Hc2 := Lib.hid hc2
      have Kc := Lib.hid ((hL.cell (o := 2) (.there .here)).trans rfl)
      have Kc0 := Lib.hid ((hL.cell (o := 0) (.there .here)).trans rfl)
      clear hc1 hc2
      go_wp2_with (first | (first | (clear hL n1; with_reducible intro b1 w1 hL) | (clear hL; with_reducible intro _ _ hL)) | (with_reducible refine wpC_alloc rfl _ rfl _ _ inferInstance hL ?_) | (with_reducible first | refine wpB_agg rfl _ _ _ rfl rfl hL ?_ | refine wpB_one rfl _ _ (.int _ _) rfl rfl rfl hL ?_ | refine wpB_one rfl _ _ (.slice _ _ _) rfl rfl rfl hL ?_ | refine wpB_one rfl _ _ (.bool _) rfl rfl rfl hL ?_ | refine wpB_one rfl _ _ (.pointer _) rfl rfl rfl hL ?_ | refine wpB_one rfl _ _ (.func _ _ _) rfl rfl rfl hL ?_) | (with_reducible first | refine wpH_max rfl _ _ _ _ rfl _ _ rfl rfl ?_ | refine wpH_min rfl _ _ _ _ rfl _ _ rfl rfl ?_) | ((with_reducible refine wpA_load rfl _ _ rfl _ rfl ?_); first | refine loadA hL ?_ | refine loadR hL ?_ | refine loadC hL ?_ | refine loadD ?_ | refine loadE hL ?_ | refine loadF ?_) | ((with_reducible refine wpA_index rfl _ _ _ rfl _ rfl _ rfl ?_); first | (refine indexA ?_; try rw [Int.toNat_natCast]) | refine indexC ?_) | ((with_reducible refine wpA_store rfl _ _ _ rfl _ rfl (.agg _) rfl ?_); refine storeR hL ?_; clear hL; intro _ hL) | ((with_reducible first | refine wpA_store rfl _ _ _ rfl _ rfl (.int _ _) rfl ?_ | refine wpA_store rfl _ _ _ rfl _ rfl (.slice _ _ _) rfl ?_ | refine wpA_store rfl _ _ _ rfl _ rfl (.bool _) rfl ?_ | refine wpA_store rfl _ _ _ rfl _ rfl (.pointer _) rfl ?_ | refine wpA_store rfl _ _ _ rfl _ rfl (.func _ _ _) rfl ?_); (first | refine storeA hL ?_ | refine storeO hL ?_); (clear hL; intro _ hL)) | ((with_reducible refine wpA_lit rfl _ _ _ rfl ?_); first | refine litA1 hL ?_ | refine litA2 hL ?_ | refine litA3 hL ?_ | refine litA4 hL ?_ | refine litA6 hL ?_) | ((with_reducible refine wpA_append rfl _ _ _ rfl (.slice _ _ _) rfl ?_); intro vq hvq; simp [go_sem] at hvq; subst hvq; refine appendA hL ?_; clear hL; intro _ _ _ hL; try dsimp only at hL) | ((with_reducible refine wpA_make rfl _ _ _ rfl _ rfl rfl ?_); refine makeA hL ?_))
      refine wpH_laterN (by kernel_rfl) fun hS => ?_
      replace hL := hL.drew
      refine stH (i := 0) (.pointer (some ⟨b2, 2, none⟩)) hS ?_ ?_; (· exact fun w' _ => (by go_simp)); simp only [Act.put, List.setIfInBounds_toArray, List.set_cons_zero, List.set_cons_succ]
      refine stH (i := 1) (.slice (some ⟨gc, oc, none⟩) H ca) hS ?_ ?_; (· exact fun w' hw => run_loadOp _ _ rfl _ rfl _ (load_cell (laterS hw Kc.out))); simp only [Act.put, List.setIfInBounds_toArray, List.set_cons_zero, List.set_cons_succ]
      refine stH (i := 2) (.int .i64 j) hS ?_ ?_; (· exact fun w' _ => (by go_simp)); simp only [Act.put, List.setIfInBounds_toArray, List.set_cons_zero, List.set_cons_succ]
      refine stH (i := 3) (.pointer (some ⟨gc, oc + j, none⟩)) hS ?_ ?_; (· exact fun w' _ => (by go_simp)); simp only [Act.put, List.setIfInBounds_toArray, List.set_cons_zero, List.set_cons_succ]
      refine stH (i := 4) (uc) hS ?_ ?_; (· exact fun w' hw => run_loadOp _ _ rfl _ rfl _ (load_cell (laterS hw Hc1.out))); simp only [Act.put, List.setIfInBounds_toArray, List.set_cons_zero, List.set_cons_succ]
      refine stH (i := 5) (.pointer (some ⟨b2, 0, none⟩)) hS ?_ ?_; (· exact fun w' _ => (by go_simp)); simp only [Act.put, List.setIfInBounds_toArray, List.set_cons_zero, List.set_cons_succ]
      refine stH (i := 6) (.int .i64 W) hS ?_ ?_; (· exact fun w' hw => run_loadOp _ _ rfl _ rfl _ (load_cell (laterS hw Kc0.out))); simp only [Act.put, List.setIfInBounds_toArray, List.set_cons_zero, List.set_cons_succ]
      refine wpH_one (i := 7) (by kernel_rfl) (wpOp_of (by simp only [List.getElem?_toArray, List.getElem?_cons_zero, List.getElem?_cons_succ]; rfl) ?_)
      refine st_call rfl 37 #[uc, .int .i64 W] (by go_simp) (HYj.out _ _ (SliceAt.below Hc2.out hS)) ?_
      rintro e w' ⟨rfl, hb⟩
      replace hL := hL.call hb
      replace hS := later_moreP hS hb
      clear hb
      refine ⟨_, rfl, hS, ?_⟩
      simp only [Act.put, List.setIfInBounds_toArray, List.set_cons_zero, List.set_cons_succ]
      refine stH (i := 8) (.bool false) hS ?_ ?_; (· exact fun w' _ => (by go_simp)); simp only [Act.put, List.setIfInBounds_toArray, List.set_cons_zero, List.set_cons_succ]
      refine wpAnyH_done (by kernel_rfl) ?_ _
      clear hS
      go_wp2
      go_loopw [16] (fun s16 wr => ∃ i : Nat, i ≤ W ∧ s16 = .int .i64 i ∧ Holds w wr [blk b3 #[.int .i64 W, .int .i64 H, .slice ma (W * H) (W * H)] 43, blk b2 #[.int .i64 W, .int .i64 H, .slice (some ⟨gc, oc, none⟩) H ca] 37, blk b1 #[.int .i64 wd, .int .i64 cap, .int .i64 join] 24] [MaskF (.agg #[.int .i64 W, .int .i64 H, .slice ma (W * H) (W * H)]) (pixMask W H P), RowsH (some ⟨gc, oc, none⟩) ca H (fun j => runsTo (P j) W)])
        (fun s16 wr => W - (intOf s16).toNat)
      case atStart => exact ⟨0, by omega, rfl, hL⟩
      case round =>
        clear hL Hc1 Hc2 Kc Kc0 HYj
        obtain ⟨i, hi, rfl, hL⟩ := hrel
        by_cases hit : i < W
        · have hib : (i : Int) < (W : Int) := by omega
          have hi0 : (0 : Int) ≤ (i : Int) := by omega
          have HX := Lib.hid (fun w' v hv => HH.out w' v j i hit hv)
          have HM2 := Lib.hid (fun w' h => HC.out w' ma j i hit hjt h)
          generalize P j i = q at *
          obtain ⟨gd, od, uc, hsa, hc1, hc2⟩ := hL.fact1.get hjt
          injection hsa with hsa
          injection hsa with e1 e2 e3
          subst e1; subst e2
          have Hc1 := Lib.hid hc1; have Hc2 := Lib.hid hc2
          have Kc := Lib.hid ((hL.cell (o := 2) (.there .here)).trans rfl)
          have Kc0 := Lib.hid ((hL.cell (o := 0) (.there .here)).trans rfl)
          clear hc1 hc2
          have Km := Lib.hid (hL.range .here)
          go_wp2_with (first | (first | (clear hL n1; with_reducible intro b1 w1 hL) | (clear hL; with_reducible intro _ _ hL)) | (with_reducible refine wpC_alloc rfl _ rfl _ _ inferInstance hL ?_) | (with_reducible first | refine wpB_agg rfl _ _ _ rfl rfl hL ?_ | refine wpB_one rfl _ _ (.int _ _) rfl rfl rfl hL ?_ | refine wpB_one rfl _ _ (.slice _ _ _) rfl rfl rfl hL ?_ | refine wpB_one rfl _ _ (.bool _) rfl rfl rfl hL ?_ | refine wpB_one rfl _ _ (.pointer _) rfl rfl rfl hL ?_ | refine wpB_one rfl _ _ (.func _ _ _) rfl rfl rfl hL ?_) | (with_reducible first | refine wpH_max rfl _ _ _ _ rfl _ _ rfl rfl ?_ | refine wpH_min rfl _ _ _ _ rfl _ _ rfl rfl ?_) | ((with_reducible refine wpA_load rfl _ _ rfl _ rfl ?_); first | refine loadA hL ?_ | refine loadR hL ?_ | refine loadC hL ?_ | refine loadD ?_ | refine loadE hL ?_ | refine loadF ?_) | ((with_reducible refine wpA_index rfl _ _ _ rfl _ rfl _ rfl ?_); first | (refine indexA ?_; try rw [Int.toNat_natCast]) | refine indexC ?_) | ((with_reducible refine wpA_store rfl _ _ _ rfl _ rfl (.agg _) rfl ?_); refine storeR hL ?_; clear hL; intro _ hL) | ((with_reducible first | refine wpA_store rfl _ _ _ rfl _ rfl (.int _ _) rfl ?_ | refine wpA_store rfl _ _ _ rfl _ rfl (.slice _ _ _) rfl ?_ | refine wpA_store rfl _ _ _ rfl _ rfl (.bool _) rfl ?_ | refine wpA_store rfl _ _ _ rfl _ rfl (.pointer _) rfl ?_ | refine wpA_store rfl _ _ _ rfl _ rfl (.func _ _ _) rfl ?_); (first | refine storeA hL ?_ | refine storeO hL ?_); (clear hL; intro _ hL)) | ((with_reducible refine wpA_lit rfl _ _ _ rfl ?_); first | refine litA1 hL ?_ | refine litA2 hL ?_ | refine litA3 hL ?_ | refine litA4 hL ?_ | refine litA6 hL ?_) | ((with_reducible refine wpA_append rfl _ _ _ rfl (.slice _ _ _) rfl ?_); intro vq hvq; simp [go_sem] at hvq; subst hvq; refine appendA hL ?_; clear hL; intro _ _ _ hL; try dsimp only at hL) | ((with_reducible refine wpA_make rfl _ _ _ rfl _ rfl rfl ?_); refine makeA hL ?_))
          refine wpH_laterN (by kernel_rfl) fun hS => ?_
          replace hL := hL.drew
          refine stH (i := 0) (.pointer (some ⟨b2, 2, none⟩)) hS ?_ ?_; (· exact fun w' _ => (by go_simp)); simp only [Act.put, List.setIfInBounds_toArray, List.set_cons_zero, List.set_cons_succ]
          refine stH (i := 1) (.slice (some ⟨gc, oc, none⟩) H ca) hS ?_ ?_; (· exact fun w' hw => run_loadOp _ _ rfl _ rfl _ (load_cell (laterS hw Kc.out))); simp only [Act.put, List.setIfInBounds_toArray, List.set_cons_zero, List.set_cons_succ]
          refine stH (i := 2) (.int .i64 j) hS ?_ ?_; (· exact fun w' _ => (by go_simp)); simp only [Act.put, List.setIfInBounds_toArray, List.set_cons_zero, List.set_cons_succ]
          refine stH (i := 3) (.pointer (some ⟨gc, oc + j, none⟩)) hS ?_ ?_; (· exact fun w' _ => (by go_simp)); simp only [Act.put, List.setIfInBounds_toArray, List.set_cons_zero, List.set_cons_succ]
          refine stH (i := 4) (uc) hS ?_ ?_; (· exact fun w' hw => run_loadOp _ _ rfl _ rfl _ (load_cell (laterS hw Hc1.out))); simp only [Act.put, List.setIfInBounds_toArray, List.set_cons_zero, List.set_cons_succ]
          refine stH (i := 5) (.int .i64 i) hS ?_ ?_; (· exact fun w' _ => (by go_simp)); simp only [Act.put, List.setIfInBounds_toArray, List.set_cons_zero, List.set_cons_succ]
          refine stH (i := 7) (.agg #[.int .i64 W, .int .i64 H, .slice ma (W * H) (W * H)]) hS ?_ ?_; (· exact fun w' hw => run_loadOp _ _ rfl _ rfl _ (load_range (cs := #[.int .i64 W, .int .i64 H, .slice ma (W * H) (W * H)]) rfl (rangeAt_below Km.out hw))); simp only [Act.put, List.setIfInBounds_toArray, List.set_cons_zero, List.set_cons_succ]
          refine stH (i := 8) (.int .i64 i) hS ?_ ?_; (· exact fun w' _ => (by go_simp)); simp only [Act.put, List.setIfInBounds_toArray, List.set_cons_zero, List.set_cons_succ]
          refine stH (i := 9) (.int .i64 j) hS ?_ ?_; (· exact fun w' _ => (by go_simp)); simp only [Act.put, List.setIfInBounds_toArray, List.set_cons_zero, List.set_cons_succ]
          refine wpH_one (i := 6) (by kernel_rfl) (wpOp_of (by simp only [List.getElem?_toArray, List.getElem?_cons_zero, List.getElem?_cons_succ]; rfl) ?_)
          refine st_call rfl 35 #[uc, .int .i64 i] (by go_simp) (HX.out _ _ (SliceAt.below Hc2.out hS)) ?_
          rintro e w' ⟨rfl, hb⟩
          replace hL := hL.call hb
          replace hS := later_moreP hS hb
          clear hb
          refine ⟨_, rfl, hS, ?_⟩
          simp only [Act.put, List.setIfInBounds_toArray, List.set_cons_zero, List.set_cons_succ]
          refine wpH_one (i := 10) (by kernel_rfl) (wpOp_of (by simp only [List.getElem?_toArray, List.getElem?_cons_zero, List.getElem?_cons_succ]; rfl) ?_)
          refine st_call rfl 39 #[.agg #[.int .i64 W, .int .i64 H, .slice ma (W * H) (W * H)], .int .i64 i, .int .i64 j] (by go_simp) (HM2.out _ hL.fact0) ?_
          rintro e w' ⟨rfl, hb⟩
          replace hL := hL.call hb
          replace hS := later_moreP hS hb
          clear hb
          refine ⟨_, rfl, hS, ?_⟩
          simp only [Act.put, List.setIfInBounds_toArray, List.set_cons_zero, List.set_cons_succ]
          refine stH (i := 11) (.bool false) hS ?_ ?_; (· exact fun w' _ => (by go_simp)); simp only [Act.put, List.setIfInBounds_toArray, List.set_cons_zero, List.set_cons_succ]
          refine wpAnyH_done (by kernel_rfl) ?_ _
          clear hS
          go_wp2
          go_roundw
          case rel => exact ⟨i + 1, by omega, by go_num, hL⟩
          case measure => simp [intOf]; omega
        · have e : i = W := by omega
          subst e
          go_wp2_with (first | (first | (clear hL n1; with_reducible intro b1 w1 hL) | (clear hL; with_reducible intro _ _ hL)) | (with_reducible refine wpC_alloc rfl _ rfl _ _ inferInstance hL ?_) | (with_reducible first | refine wpB_agg rfl _ _ _ rfl rfl hL ?_ | refine wpB_one rfl _ _ (.int _ _) rfl rfl rfl hL ?_ | refine wpB_one rfl _ _ (.slice _ _ _) rfl rfl rfl hL ?_ | refine wpB_one rfl _ _ (.bool _) rfl rfl rfl hL ?_ | refine wpB_one rfl _ _ (.pointer _) rfl rfl rfl hL ?_ | refine wpB_one rfl _ _ (.func _ _ _) rfl rfl rfl hL ?_) | (with_reducible first | refine wpH_max rfl _ _ _ _ rfl _ _ rfl rfl ?_ | refine wpH_min rfl _ _ _ _ rfl _ _ rfl rfl ?_) | ((with_reducible refine wpA_load rfl _ _ rfl _ rfl ?_); first | refine loadA hL ?_ | refine loadR hL ?_ | refine loadC hL ?_ | refine loadD ?_ | refine loadE hL ?_ | refine loadF ?_) | ((with_reducible refine wpA_index rfl _ _ _ rfl _ rfl _ rfl ?_); first | (refine indexA ?_; try rw [Int.toNat_natCast]) | refine indexC ?_) | ((with_reducible refine wpA_store rfl _ _ _ rfl _ rfl (.agg _) rfl ?_); refine storeR hL ?_; clear hL; intro _ hL) | ((with_reducible first | refine wpA_store rfl _ _ _ rfl _ rfl (.int _ _) rfl ?_ | refine wpA_store rfl _ _ _ rfl _ rfl (.slice _ _ _) rfl ?_ | refine wpA_store rfl _ _ _ rfl _ rfl (.bool _) rfl ?_ | refine wpA_store rfl _ _ _ rfl _ rfl (.pointer _) rfl ?_ | refine wpA_store rfl _ _ _ rfl _ rfl (.func _ _ _) rfl ?_); (first | refine storeA hL ?_ | refine storeO hL ?_); (clear hL; intro _ hL)) | ((with_reducible refine wpA_lit rfl _ _ _ rfl ?_); first | refine litA1 hL ?_ | refine litA2 hL ?_ | refine litA3 hL ?_ | refine litA4 hL ?_ | refine litA6 hL ?_) | ((with_reducible refine wpA_append rfl _ _ _ rfl (.slice _ _ _) rfl ?_); intro vq hvq; simp [go_sem] at hvq; subst hvq; refine appendA hL ?_; clear hL; intro _ _ _ hL; try dsimp only at hL) | ((with_reducible refine wpA_make rfl _ _ _ rfl _ rfl rfl ?_); refine makeA hL ?_))
          go_roundw
          case rel => exact ⟨j + 1, by omega, by go_num, hL⟩
          case measure => simp [intOf]; omega
    · have e : j = H := by omega
      subst e
      go_wp2_with (first | (first | (clear hL n1; with_reducible intro b1 w1 hL) | (clear hL; with_reducible intro _ _ hL)) | (with_reducible refine wpC_alloc rfl _ rfl _ _ inferInstance hL ?_) | (with_reducible first | refine wpB_agg rfl _ _ _ rfl rfl hL ?_ | refine wpB_one rfl _ _ (.int _ _) rfl rfl rfl hL ?_ | refine wpB_one rfl _ _ (.slice _ _ _) rfl rfl rfl hL ?_ | refine wpB_one rfl _ _ (.bool _) rfl rfl rfl hL ?_ | refine wpB_one rfl _ _ (.pointer _) rfl rfl rfl hL ?_ | refine wpB_one rfl _ _ (.func _ _ _) rfl rfl rfl hL ?_) | (with_reducible first | refine wpH_max rfl _ _ _ _ rfl _ _ rfl rfl ?_ | refine wpH_min rfl _ _ _ _ rfl _ _ rfl rfl ?_) | ((with_reducible refine wpA_load rfl _ _ rfl _ rfl ?_); first | refine loadA hL ?_ | refine loadR hL ?_ | refine loadC hL ?_ | refine loadD ?_ | refine loadE hL ?_ | refine loadF ?_) | ((with_reducible refine wpA_index rfl _ _ _ rfl _ rfl _ rfl ?_); first | (refine indexA ?_; try rw [Int.toNat_natCast]) | refine indexC ?_) | ((with_reducible refine wpA_store rfl _ _ _ rfl _ rfl (.agg _) rfl ?_); refine storeR hL ?_; clear hL; intro _ hL) | ((with_reducible first | refine wpA_store rfl _ _ _ rfl _ rfl (.int _ _) rfl ?_ | refine wpA_store rfl _ _ _ rfl _ rfl (.slice _ _ _) rfl ?_ | refine wpA_store rfl _ _ _ rfl _ rfl (.bool _) rfl ?_ | refine wpA_store rfl _ _ _ rfl _ rfl (.pointer _) rfl ?_ | refine wpA_store rfl _ _ _ rfl _ rfl (.func _ _ _) rfl ?_); (first | refine storeA hL ?_ | refine storeO hL ?_); (clear hL; intro _ hL)) | ((with_reducible refine wpA_lit rfl _ _ _ rfl ?_); first | refine litA1 hL ?_ | refine litA2 hL ?_ | refine litA3 hL ?_ | refine litA4 hL ?_ | refine litA6 hL ?_) | ((with_reducible refine wpA_append rfl _ _ _ rfl (.slice _ _ _) rfl ?_); intro vq hvq; simp [go_sem] at hvq; subst hvq; refine appendA hL ?_; clear hL; intro _ _ _ hL; try dsimp only at hL) | ((with_reducible refine wpA_make rfl _ _ _ rfl _ rfl rfl ?_); refine makeA hL ?_))
      go_ret
      exact ⟨rfl, hL.below⟩
end Go.Proofs.Ytfnolaoohmecbaa
