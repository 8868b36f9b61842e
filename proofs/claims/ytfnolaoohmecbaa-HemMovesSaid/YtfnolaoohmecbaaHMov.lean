/- HemMoves returns true. -/
import Derived.Test.YtfnolaoohmecbaaHMvP
-- lit6
namespace Go.Proofs.Ytfnolaoohmecbaa
open Go.RowKit

theorem norm_row52 (p : Nat → Bool) {W : Nat} (hW : W ≤ 52) : runsTo (shiftP (runsTo p 52) 0 W) 64 = runsTo p W := by
  rw [normTo (p := fun i => decide (i < 52) && p i) (by omega) (fun i _ => inRuns_runsTo p (by decide) i), Int.toNat_natCast]
  exact runsTo_congr fun i hi => by rw [decide_eq_true (show i < 52 by omega)]; rfl
theorem sideM_calls (v : Int) (w : World) : Calls Try.prog 32 #[.int .i64 v] w fun e w' => e = .returned (.int .i64 (1 + v % 14)) ∧ w = w' := by
  have HP := Lib.hid (fun w => place_calls v 14 (by omega) (by omega) w)
  have q1 := Int.emod_nonneg v (show (14 : Int) ≠ 0 by omega)
  have q2 := Int.emod_lt_of_pos v (show (0 : Int) < 14 by omega)
  generalize v % 14 = k at *
  go_enter Try.func32, Try.ntmps32
  go_wp2_with (first | (go_at_call 21; (with_reducible refine (HP.out _).mono ?_); rintro e _ ⟨rfl, rfl⟩) | ((clear hL; with_reducible intro _ _ hL)) | (with_reducible refine wpC_alloc rfl _ rfl _ _ inferInstance hL ?_) | (with_reducible first | refine wpB_agg rfl _ _ _ rfl rfl hL ?_ | refine wpB_one rfl _ _ (.int _ _) rfl rfl rfl hL ?_ | refine wpB_one rfl _ _ (.slice _ _ _) rfl rfl rfl hL ?_ | refine wpB_one rfl _ _ (.bool _) rfl rfl rfl hL ?_ | refine wpB_one rfl _ _ (.pointer _) rfl rfl rfl hL ?_ | refine wpB_one rfl _ _ (.func _ _ _) rfl rfl rfl hL ?_) | (with_reducible first | refine wpH_max rfl _ _ _ _ rfl _ _ rfl rfl ?_ | refine wpH_min rfl _ _ _ _ rfl _ _ rfl rfl ?_) | ((with_reducible refine wpA_load rfl _ _ rfl _ rfl ?_); first | refine loadA hL ?_ | refine loadR hL ?_ | refine loadC hL ?_ | refine loadD ?_ | refine loadE hL ?_ | refine loadF ?_) | ((with_reducible refine wpA_index rfl _ _ _ rfl _ rfl _ rfl ?_); first | (refine indexA ?_; try rw [Int.toNat_natCast]) | refine indexC ?_) | ((with_reducible refine wpA_store rfl _ _ _ rfl _ rfl (.agg _) rfl ?_); refine storeR hL ?_; clear hL; intro _ hL) | ((with_reducible first | refine wpA_store rfl _ _ _ rfl _ rfl (.int _ _) rfl ?_ | refine wpA_store rfl _ _ _ rfl _ rfl (.slice _ _ _) rfl ?_ | refine wpA_store rfl _ _ _ rfl _ rfl (.bool _) rfl ?_ | refine wpA_store rfl _ _ _ rfl _ rfl (.pointer _) rfl ?_ | refine wpA_store rfl _ _ _ rfl _ rfl (.func _ _ _) rfl ?_); (first | refine storeA hL ?_ | refine storeO hL ?_); (clear hL; intro _ hL)) | ((with_reducible refine wpA_lit rfl _ _ _ rfl ?_); first | refine litA1 hL ?_ | refine litA2 hL ?_ | refine litA3 hL ?_ | refine litA4 hL ?_ | refine litA6 hL ?_) | ((with_reducible refine wpA_append rfl _ _ _ rfl (.slice _ _ _) rfl ?_); intro vq hvq; simp [go_sem] at hvq; subst hvq; refine appendA hL ?_; clear hL; intro _ _ _ hL; try dsimp only at hL) | ((with_reducible refine wpA_make rfl _ _ _ rfl _ rfl rfl ?_); refine makeA hL ?_))
  go_ret
  exact ⟨rfl, rfl⟩
theorem movShift_calls {sa : Option Addr} {sc : Nat} {p : Nat → Nat → Bool} (w : World) (h : RgL 52 52 52 sa sc (pixReg 52 52 p) w) (u t : Int) : Calls Try.prog 31 #[.agg #[.int .i64 52, .int .i64 52, .slice sa 52 sc], .int .i64 u, .int .i64 t] w fun e w' => ∃ sa3 sn3 sc3, e = .returned (.tuple #[.agg #[.int .i64 52, .int .i64 52, .slice sa3 sn3 sc3], .int .i64 0]) ∧ Below w.heap.size w w' ∧ Fresh w w' (RgS sa3 sn3 sc3 (pixReg 52 52 (shQ 52 52 p u t))) := by
  have h' : RegAt w (.agg #[.int .i64 52, .int .i64 52, .slice sa 52 sc]) (pixReg 52 52 p) := h
  refine (pixShift_calls s52 w _ p h' u t).mono ?_
  rintro e w' ⟨a, b, c, rfl, hb, hf⟩
  exact ⟨a, b, c, rfl, hb, hf⟩
theorem movSame_calls {sa sb : Option Addr} {sc sn sd : Nat} {p q : Nat → Nat → Bool} (w : World) (h1 : RgL 52 52 52 sa sc (pixReg 52 52 p) w) (h2 : RgS sb sn sd (pixReg 52 52 q) w) (e : ∀ j, j < 52 → ∀ i, i < 52 → p j i = q j i) : Calls Try.prog 33 #[.agg #[.int .i64 52, .int .i64 52, .slice sa 52 sc], .agg #[.int .i64 52, .int .i64 52, .slice sb sn sd]] w fun e w' => e = .returned (.bool true) ∧ Below w.heap.size w w' := pixSame_calls w (.agg #[.int .i64 52, .int .i64 52, .slice sa 52 sc]) (.agg #[.int .i64 52, .int .i64 52, .slice sb sn sd]) p q h1 h2 e
theorem exCont5 {G : Prop} {H P : Option Addr → Nat → Nat → World → Prop} (h1 : (∀ a b c w, H a b c w → P a b c w) → G) (h2 : ∀ a b c w, H a b c w → P a b c w) : G := h1 h2
set_option maxRecDepth 100000 in
set_option maxHeartbeats 8000000 in
theorem moves_calls (w : World) (va : Value) (na : List Int) (ha : NumsAt w va na) (vsn dx dy vw vh : Int) : Calls Try.prog 9 #[va, .int .i64 vsn, .int .i64 dx, .int .i64 dy, .int .i64 vw, .int .i64 vh] w fun e w' => e = .returned (.bool true) ∧ Below w.heap.size w w' := by
  have hL := Holds.start w
  obtain ⟨a, ac, rfl, _⟩ := ha.parts
  have HMa := Lib.hid (fun w' hb => made_calls w' _ na (SliceAt.below ha hb) false)
  clear ha
  have hgood := (made_good na false).1.small
  have hmay := made_may na false
  have hst := made_straight na
  generalize madeS na false = S at *
  have hsm := styN_may vsn
  have hsb := styN_bd vsn
  have HSt := Lib.hid (fun w => style_calls vsn w)
  generalize styN vsn = sty at *
  have hq1 : -3 ≤ dx % 7 - 3 ∧ dx % 7 - 3 ≤ 3 := by omega
  have hq2 : -3 ≤ dy % 7 - 3 ∧ dy % 7 - 3 ≤ 3 := by omega
  have HP1 := Lib.hid (fun w => place_calls dx 7 (by omega) (by omega) w)
  have HP2 := Lib.hid (fun w => place_calls dy 7 (by omega) (by omega) w)
  have wu : IntKind.i64.wrap (dx % 7 - 3) = dx % 7 - 3 := by rw [IntKind.wrap_i64]; omega
  have wv : IntKind.i64.wrap (dy % 7 - 3) = dy % 7 - 3 := by rw [IntKind.wrap_i64]; omega
  generalize dx % 7 = du at *
  generalize dy % 7 = dv at *
  have w16u : IntKind.i64.wrap (16 * (du - 3)) = 16 * (du - 3) := by rw [IntKind.wrap_i64]; omega
  have w16t : IntKind.i64.wrap (16 * (dv - 3)) = 16 * (dv - 3) := by rw [IntKind.wrap_i64]; omega
  have qW : 0 ≤ vw % 14 ∧ vw % 14 ≤ 13 := by omega
  have qH : 0 ≤ vh % 14 ∧ vh % 14 ≤ 13 := by omega
  have HSw := Lib.hid (fun w => sideM_calls vw w)
  have HSh := Lib.hid (fun w => sideM_calls vh w)
  generalize vw % 14 = W0 at *
  generalize vh % 14 = H0 at *
  obtain ⟨W, hW⟩ : ∃ W : Nat, 20 + (1 + W0) = (W : Int) := ⟨(20 + (1 + W0)).toNat, by omega⟩
  obtain ⟨H, hH⟩ : ∃ H : Nat, 20 + (1 + H0) = (H : Int) := ⟨(20 + (1 + H0)).toNat, by omega⟩
  have wW : IntKind.i64.wrap W = W := by rw [IntKind.wrap_i64]; omega
  have wH : IntKind.i64.wrap H = H := by rw [IntKind.wrap_i64]; omega
  have hW1 : 0 < W ∧ W ≤ 52 := by omega
  have hH1 : 0 < H ∧ H ≤ 52 := by omega
  have n1 := small_near hgood (dx := 256) (dy := 256) (by omega) (by omega)
  have n3 := mov_small hgood hq1 hq2
  have hpx : ∀ j, j < 52 → ∀ i, i < 52 → pixC ((S.map (moveS 256 256)).map (moveS (16 * (du - 3)) (16 * (dv - 3)))) sty j i = shQ 52 52 (pixC (S.map (moveS 256 256)) sty) (du - 3) (dv - 3) j i := fun j hj i hi => mov_pix hgood sty ⟨hsb.1, hsb.2.1⟩ hq1 hq2 hj hi
  have t1 : straightS (S.map (moveS 256 256)) = true := (moved_straight n1).trans hst
  have m1 : pathMay (S.map (moveS 256 256)) = true := by unfold straightS at t1; simp only [Bool.and_eq_true] at t1; exact t1.1
  have t2 : straightS ((S.map (moveS 256 256)).map (moveS (16 * (du - 3)) (16 * (dv - 3)))) = true := (moved_straight n3).trans t1
  have HS1 := Lib.hid (fun w' v' hv => shift_calls w' v' S hv 256 256 hmay n1)
  have HS2 := Lib.hid (fun w' v' hv => shift_calls w' v' (S.map (moveS 256 256)) hv (16 * (du - 3)) (16 * (dv - 3)) m1 n3)
  have HRa := Lib.hid (fun w' v hv => rgL_calls (W := 52) (H := 52) (Wi := 52) (Hi := 52) rfl rfl (by decide) (by decide) (by decide) (by decide) w' v (S.map (moveS 256 256)) hv sty t1 hsm)
  have HRb := Lib.hid (fun w' v hv => rgL_calls (W := 52) (H := 52) (Wi := 52) (Hi := 52) rfl rfl (by decide) (by decide) (by decide) (by decide) w' v ((S.map (moveS 256 256)).map (moveS (16 * (du - 3)) (16 * (dv - 3)))) hv sty t2 hsm)
  have HRd := Lib.hid (fun w' v hv => rgL_calls (W := W) (H := H) rfl rfl hW1.1 (by omega) hH1.1 (by omega) w' v (S.map (moveS 256 256)) hv sty t1 hsm)
  clear n1 n3 m1 t1 t2 hst hmay hgood hsm hsb
  generalize (S.map (moveS 256 256)).map (moveS (16 * (du - 3)) (16 * (dv - 3))) = S2 at *
  generalize S.map (moveS 256 256) = S1 at *
  obtain ⟨wd, cap, join⟩ := sty
  dsimp only at *
  generalize pixC S2 ⟨wd, cap, join⟩ = Pm at *
  generalize pixC S1 ⟨wd, cap, join⟩ = Pf at *
  have HRS := Lib.hid (fun w' sa sc h => movShift_calls (sa := sa) (sc := sc) (p := Pf) w' h (du - 3) (dv - 3))
  have HSm := Lib.hid (fun w' sa sc sb sn sd h1 h2 => movSame_calls (sa := sa) (sc := sc) (sb := sb) (sn := sn) (sd := sd) (p := Pm) (q := shQ 52 52 Pf (du - 3) (dv - 3)) w' h1 h2 hpx)
  generalize shQ 52 52 Pf (du - 3) (dv - 3) = Ps at *
  have HNm := Lib.hid (show ∀ (y : Nat) (w' : World) (v : Value), LnF v (Pf y) 52 w' → Calls Try.prog 34 #[v, .int .i64 W] w' (LnOut (Pf y) W w') from fun y w' v h => (spanNorm_calls w' v _ h W).mono fun _ _ k => LnOut.of k (norm_row52 _ hW1.2))
  have hHg : ¬ (52 : Int) < (H : Int) := by omega
  have dHg : decide ((52 : Int) < (H : Int)) = false := decide_eq_false hHg
  clear hpx
  have n1 : True := trivial; have n2 : True := trivial; have n3 : True := trivial; have n4 : True := trivial
  go_enter Try.func9, Try.ntmps9
  go_wp2_with (first | (go_at_call 12; (with_reducible refine (known_calls _).mono ?_); rintro e _ ⟨rfl, hb⟩; replace hL := hL.call hb; clear hb) | (go_at_call 24; (with_reducible refine (HSt.out _).mono ?_); rintro e _ ⟨rfl, hb⟩; replace hL := hL.call hb; clear hb) | (go_at_call 21; (with_reducible first | refine (HP1.out _).mono ?_ | refine (HP2.out _).mono ?_); rintro e _ ⟨rfl, rfl⟩) | (go_at_call 25; (with_reducible refine (HMa.out _ hL.below).mono ?_); rintro e _ ⟨vs, rfl, hb, hf⟩; replace hL := hL.callF hb hf; clear hb hf) | (go_at_call 30; (first | ((with_reducible refine (HS1.out _ vs hL.fact0).mono ?_); rintro e _ ⟨vf, rfl, hb, hf⟩) | ((with_reducible refine (HS2.out _ vf hL.fact0).mono ?_); rintro e _ ⟨vm, rfl, hb, hf⟩)); replace hL := hL.callF hb hf; clear hb hf) | (go_at_call 17; (first | ((with_reducible refine (HRa.out _ vf hL.fact1).mono ?_); rintro e _ ⟨sa1, sc1, rfl, hb, hf⟩) | ((with_reducible refine (HRb.out _ vm hL.fact1).mono ?_); rintro e _ ⟨sa2, sc2, rfl, hb, hf⟩)); replace hL := hL.callF hb hf; clear hb hf) | (go_at_call 31; (with_reducible refine (HRS.out _ _ _ hL.fact1).mono ?_); rintro e _ ⟨sa3, sn3, sc3, rfl, hb, hf⟩; replace hL := hL.callF hb hf; clear hb hf) | (first | (clear hL n1; with_reducible intro b1 w1 hL) | (clear hL n2; with_reducible intro b2 w2 hL) | (clear hL n3; with_reducible intro b3 w3 hL) | (clear hL n4; with_reducible intro b4 w4 hL) | (clear hL; with_reducible intro _ _ hL)) | (with_reducible refine wpC_alloc rfl _ rfl _ _ inferInstance hL ?_) | (with_reducible first | refine wpB_agg rfl _ _ _ rfl rfl hL ?_ | refine wpB_one rfl _ _ (.int _ _) rfl rfl rfl hL ?_ | refine wpB_one rfl _ _ (.slice _ _ _) rfl rfl rfl hL ?_ | refine wpB_one rfl _ _ (.bool _) rfl rfl rfl hL ?_ | refine wpB_one rfl _ _ (.pointer _) rfl rfl rfl hL ?_ | refine wpB_one rfl _ _ (.func _ _ _) rfl rfl rfl hL ?_) | (with_reducible first | refine wpH_max rfl _ _ _ _ rfl _ _ rfl rfl ?_ | refine wpH_min rfl _ _ _ _ rfl _ _ rfl rfl ?_) | ((with_reducible refine wpA_load rfl _ _ rfl _ rfl ?_); first | refine loadA hL ?_ | refine loadR hL ?_ | refine loadC hL ?_ | refine loadD ?_ | refine loadE hL ?_ | refine loadF ?_) | ((with_reducible refine wpA_index rfl _ _ _ rfl _ rfl _ rfl ?_); first | (refine indexA ?_; try rw [Int.toNat_natCast]) | refine indexC ?_) | ((with_reducible refine wpA_store rfl _ _ _ rfl _ rfl (.agg _) rfl ?_); refine storeR hL ?_; clear hL; intro _ hL) | ((with_reducible first | refine wpA_store rfl _ _ _ rfl _ rfl (.int _ _) rfl ?_ | refine wpA_store rfl _ _ _ rfl _ rfl (.slice _ _ _) rfl ?_ | refine wpA_store rfl _ _ _ rfl _ rfl (.bool _) rfl ?_ | refine wpA_store rfl _ _ _ rfl _ rfl (.pointer _) rfl ?_ | refine wpA_store rfl _ _ _ rfl _ rfl (.func _ _ _) rfl ?_); (first | refine storeA hL ?_ | refine storeO hL ?_); (clear hL; intro _ hL)) | ((with_reducible refine wpA_lit rfl _ _ _ rfl ?_); first | refine litA1 hL ?_ | refine litA2 hL ?_ | refine litA3 hL ?_ | refine litA4 hL ?_ | refine litA6 hL ?_) | ((with_reducible refine wpA_append rfl _ _ _ rfl (.slice _ _ _) rfl ?_); intro vq hvq; simp [go_sem] at hvq; subst hvq; refine appendA hL ?_; clear hL; intro _ _ _ hL; try dsimp only at hL) | ((with_reducible refine wpA_make rfl _ _ _ rfl _ rfl rfl ?_); refine makeA hL ?_))
  replace hL := hL.drew
  apply exCont5 (H := fun sd sdc b5 w8 => Holds w w8 [blk b5 #[.int .i64 W, .int .i64 H, .slice sd H sdc] 37, blk b4 #[.int .i64 52, .int .i64 52, .slice sa3 sn3 sc3] 37, blk b3 #[.int .i64 52, .int .i64 52, .slice sa2 52 sc2] 37, blk b2 #[.int .i64 52, .int .i64 52, .slice sa1 52 sc1] 37, blk b1 #[.int .i64 wd, .int .i64 cap, .int .i64 join] 24] [RgL W H H sd sdc (pixReg W H Pf), RgS sa3 sn3 sc3 (pixReg 52 52 Ps), RgL 52 52 52 sa2 sc2 (pixReg 52 52 Pm), RgL 52 52 52 sa1 sc1 (pixReg 52 52 Pf), (fun w => SegsAt w vm S2), (fun w => SegsAt w vf S1), (fun w => SegsAt w vs S)])
  · intro hcont
    have hS := (show (fun w' : World => w'.rangeAt b1 0 #[.int .i64 wd, .int .i64 cap, .int .i64 join].toList) _ from hL.range (by (repeat (first | with_reducible exact At.here | with_reducible apply At.there))))
    refine wpH_begin (by kernel_rfl) (fun w' : World => w'.rangeAt b1 0 #[.int .i64 wd, .int .i64 cap, .int .i64 join].toList) ?_
    refine stH (i := 0) (vf) hS ?_ ?_; (· exact fun w' _ => (by go_simp)); simp only [Act.put, List.setIfInBounds_toArray, List.set_cons_zero, List.set_cons_succ]
    refine stH (i := 1) (.agg #[.int .i64 wd, .int .i64 cap, .int .i64 join]) hS ?_ ?_; (· exact fun w' hw => run_loadOp _ _ rfl _ rfl _ (load_range (cs := #[.int .i64 wd, .int .i64 cap, .int .i64 join]) rfl hw)); simp only [Act.put, List.setIfInBounds_toArray, List.set_cons_zero, List.set_cons_succ]
    refine stH (i := 2) (.int .i64 vw) hS ?_ ?_; (· exact fun w' _ => (by go_simp)); simp only [Act.put, List.setIfInBounds_toArray, List.set_cons_zero, List.set_cons_succ]
    refine stH (i := 5) (.int .i64 vh) hS ?_ ?_; (· exact fun w' _ => (by go_simp)); simp only [Act.put, List.setIfInBounds_toArray, List.set_cons_zero, List.set_cons_succ]
    refine wpH_two (i := 3) (j := 12) (by kernel_rfl) (wpOp_of (by simp only [List.getElem?_toArray, List.getElem?_cons_zero, List.getElem?_cons_succ]; rfl) ?_) (wpOp_of (by simp only [List.getElem?_toArray, List.getElem?_cons_zero, List.getElem?_cons_succ]; rfl) ?_)
    · refine st_call rfl 32 #[.int .i64 vw] (by go_simp) (HSw.out _) ?_
      rintro e _ ⟨rfl, rfl⟩
      refine ⟨_, rfl, hS, ?_⟩
      simp only [Act.put, List.setIfInBounds_toArray, List.set_cons_zero, List.set_cons_succ]
      refine stH (i := 4) (.int .i64 W) hS ?_ ?_; (· exact fun w' _ => (by go_simp)); simp only [Act.put, List.setIfInBounds_toArray, List.set_cons_zero, List.set_cons_succ]
      refine wpH_two (i := 6) (j := 12) (by kernel_rfl) (wpOp_of (by simp only [List.getElem?_toArray, List.getElem?_cons_zero, List.getElem?_cons_succ]; rfl) ?_) (wpOp_of (by simp only [List.getElem?_toArray, List.getElem?_cons_zero, List.getElem?_cons_succ]; rfl) ?_)
      · refine st_call rfl 32 #[.int .i64 vh] (by go_simp) (HSh.out _) ?_
        rintro e _ ⟨rfl, rfl⟩
        refine ⟨_, rfl, hS, ?_⟩
        simp only [Act.put, List.setIfInBounds_toArray, List.set_cons_zero, List.set_cons_succ]
        refine stH (i := 7) (.int .i64 H) hS ?_ ?_; (· exact fun w' _ => (by go_simp)); simp only [Act.put, List.setIfInBounds_toArray, List.set_cons_zero, List.set_cons_succ]
        refine wpH_two (i := 8) (j := 12) (by kernel_rfl) (wpOp_of (by simp only [List.getElem?_toArray, List.getElem?_cons_zero, List.getElem?_cons_succ]; rfl) ?_) (wpOp_of (by simp only [List.getElem?_toArray, List.getElem?_cons_zero, List.getElem?_cons_succ]; rfl) ?_)
        · refine st_call rfl 17 #[vf, .agg #[.int .i64 wd, .int .i64 cap, .int .i64 join], .int .i64 W, .int .i64 H] (by go_simp) (HRd.out _ _ (hL.fact (.tail _ (.tail _ (.tail _ (.tail _ (.head _))))))) ?_
          rintro e w' ⟨sd, sdc, rfl, hb, hf⟩
          replace hL := hL.callF hb hf
          clear hb hf
          have hS := (show (fun w' : World => w'.rangeAt b1 0 #[.int .i64 wd, .int .i64 cap, .int .i64 join].toList) _ from hL.range (by (repeat (first | with_reducible exact At.here | with_reducible apply At.there))))
          refine ⟨_, rfl, hS, ?_⟩
          simp only [Act.put, List.setIfInBounds_toArray, List.set_cons_zero, List.set_cons_succ]
          refine stH (i := 9) (.tuple #[.agg #[.int .i64 W, .int .i64 H, .slice sd H sdc], .int .i64 0]) hS ?_ ?_; (· exact fun w' _ => (by go_simp)); simp only [Act.put, List.setIfInBounds_toArray, List.set_cons_zero, List.set_cons_succ]
          refine stH (i := 10) (.agg #[.int .i64 W, .int .i64 H, .slice sd H sdc]) hS ?_ ?_; (· exact fun w' _ => (by go_simp)); simp only [Act.put, List.setIfInBounds_toArray, List.set_cons_zero, List.set_cons_succ]
          refine stH (i := 11) (.int .i64 0) hS ?_ ?_; (· exact fun w' _ => (by go_simp)); simp only [Act.put, List.setIfInBounds_toArray, List.set_cons_zero, List.set_cons_succ]
          refine wpH_one (i := 12) (by kernel_rfl) (wpOp_of (by simp only [List.getElem?_toArray, List.getElem?_cons_zero, List.getElem?_cons_succ]; rfl) ?_)
          refine st_alloc rfl _ rfl hL ?_
          intro b5 w5 hL
          have hS := (show (fun w' : World => w'.rangeAt b1 0 #[.int .i64 wd, .int .i64 cap, .int .i64 join].toList) _ from hL.range (by (repeat (first | with_reducible exact At.here | with_reducible apply At.there))))
          refine ⟨hS, ?_⟩
          simp only [Act.put, List.setIfInBounds_toArray, List.set_cons_zero, List.set_cons_succ]
          refine wpH_one (i := 13) (by kernel_rfl) (wpOp_of (by simp only [List.getElem?_toArray, List.getElem?_cons_zero, List.getElem?_cons_succ]; rfl) ?_)
          refine st_store rfl _ _ _ rfl ⟨b5, 0, none⟩ rfl (.agg #[.int .i64 W, .int .i64 H, .slice sd H sdc]) rfl (storeR hL ?_)
          intro w9 hL
          have hS := (show (fun w' : World => w'.rangeAt b1 0 #[.int .i64 wd, .int .i64 cap, .int .i64 join].toList) _ from hL.range (by (repeat (first | with_reducible exact At.here | with_reducible apply At.there))))
          refine ⟨hS, ?_⟩
          simp only [Act.put]
          refine stH (i := 14) (.int .i64 0) hS ?_ ?_; (· exact fun w' _ => (by go_simp)); simp only [Act.put, List.setIfInBounds_toArray, List.set_cons_zero, List.set_cons_succ]
          refine wpAnyH_done (by kernel_rfl) ?_ _
          exact hcont sd sdc b5 _ hL
        · refine st_alloc rfl _ rfl hL ?_
          intro b5 w5 hL
          have hS := (show (fun w' : World => w'.rangeAt b1 0 #[.int .i64 wd, .int .i64 cap, .int .i64 join].toList) _ from hL.range (by (repeat (first | with_reducible exact At.here | with_reducible apply At.there))))
          refine ⟨hS, ?_⟩
          simp only [Act.put, List.setIfInBounds_toArray, List.set_cons_zero, List.set_cons_succ]
          refine wpH_one (i := 8) (by kernel_rfl) (wpOp_of (by simp only [List.getElem?_toArray, List.getElem?_cons_zero, List.getElem?_cons_succ]; rfl) ?_)
          refine st_call rfl 17 #[vf, .agg #[.int .i64 wd, .int .i64 cap, .int .i64 join], .int .i64 W, .int .i64 H] (by go_simp) (HRd.out _ _ (hL.fact (.tail _ (.tail _ (.tail _ (.tail _ (.head _))))))) ?_
          rintro e w' ⟨sd, sdc, rfl, hb, hf⟩
          replace hL := hL.callF hb hf
          clear hb hf
          have hS := (show (fun w' : World => w'.rangeAt b1 0 #[.int .i64 wd, .int .i64 cap, .int .i64 join].toList) _ from hL.range (by (repeat (first | with_reducible exact At.here | with_reducible apply At.there))))
          refine ⟨_, rfl, hS, ?_⟩
          simp only [Act.put, List.setIfInBounds_toArray, List.set_cons_zero, List.set_cons_succ]
          refine stH (i := 9) (.tuple #[.agg #[.int .i64 W, .int .i64 H, .slice sd H sdc], .int .i64 0]) hS ?_ ?_; (· exact fun w' _ => (by go_simp)); simp only [Act.put, List.setIfInBounds_toArray, List.set_cons_zero, List.set_cons_succ]
          refine stH (i := 10) (.agg #[.int .i64 W, .int .i64 H, .slice sd H sdc]) hS ?_ ?_; (· exact fun w' _ => (by go_simp)); simp only [Act.put, List.setIfInBounds_toArray, List.set_cons_zero, List.set_cons_succ]
          refine stH (i := 11) (.int .i64 0) hS ?_ ?_; (· exact fun w' _ => (by go_simp)); simp only [Act.put, List.setIfInBounds_toArray, List.set_cons_zero, List.set_cons_succ]
          refine wpH_one (i := 13) (by kernel_rfl) (wpOp_of (by simp only [List.getElem?_toArray, List.getElem?_cons_zero, List.getElem?_cons_succ]; rfl) ?_)
          refine st_store rfl _ _ _ rfl ⟨b5, 0, none⟩ rfl (.agg #[.int .i64 W, .int .i64 H, .slice sd H sdc]) rfl (storeR hL ?_)
          intro w9 hL
          have hS := (show (fun w' : World => w'.rangeAt b1 0 #[.int .i64 wd, .int .i64 cap, .int .i64 join].toList) _ from hL.range (by (repeat (first | with_reducible exact At.here | with_reducible apply At.there))))
          refine ⟨hS, ?_⟩
          simp only [Act.put]
          refine stH (i := 14) (.int .i64 0) hS ?_ ?_; (· exact fun w' _ => (by go_simp)); simp only [Act.put, List.setIfInBounds_toArray, List.set_cons_zero, List.set_cons_succ]
          refine wpAnyH_done (by kernel_rfl) ?_ _
          exact hcont sd sdc b5 _ hL
      · refine st_alloc rfl _ rfl hL ?_
        intro b5 w5 hL
        have hS := (show (fun w' : World => w'.rangeAt b1 0 #[.int .i64 wd, .int .i64 cap, .int .i64 join].toList) _ from hL.range (by (repeat (first | with_reducible exact At.here | with_reducible apply At.there))))
        refine ⟨hS, ?_⟩
        simp only [Act.put, List.setIfInBounds_toArray, List.set_cons_zero, List.set_cons_succ]
        refine wpH_one (i := 6) (by kernel_rfl) (wpOp_of (by simp only [List.getElem?_toArray, List.getElem?_cons_zero, List.getElem?_cons_succ]; rfl) ?_)
        refine st_call rfl 32 #[.int .i64 vh] (by go_simp) (HSh.out _) ?_
        rintro e _ ⟨rfl, rfl⟩
        refine ⟨_, rfl, hS, ?_⟩
        simp only [Act.put, List.setIfInBounds_toArray, List.set_cons_zero, List.set_cons_succ]
        refine stH (i := 7) (.int .i64 H) hS ?_ ?_; (· exact fun w' _ => (by go_simp)); simp only [Act.put, List.setIfInBounds_toArray, List.set_cons_zero, List.set_cons_succ]
        refine wpH_one (i := 8) (by kernel_rfl) (wpOp_of (by simp only [List.getElem?_toArray, List.getElem?_cons_zero, List.getElem?_cons_succ]; rfl) ?_)
        refine st_call rfl 17 #[vf, .agg #[.int .i64 wd, .int .i64 cap, .int .i64 join], .int .i64 W, .int .i64 H] (by go_simp) (HRd.out _ _ (hL.fact (.tail _ (.tail _ (.tail _ (.tail _ (.head _))))))) ?_
        rintro e w' ⟨sd, sdc, rfl, hb, hf⟩
        replace hL := hL.callF hb hf
        clear hb hf
        have hS := (show (fun w' : World => w'.rangeAt b1 0 #[.int .i64 wd, .int .i64 cap, .int .i64 join].toList) _ from hL.range (by (repeat (first | with_reducible exact At.here | with_reducible apply At.there))))
        refine ⟨_, rfl, hS, ?_⟩
        simp only [Act.put, List.setIfInBounds_toArray, List.set_cons_zero, List.set_cons_succ]
        refine stH (i := 9) (.tuple #[.agg #[.int .i64 W, .int .i64 H, .slice sd H sdc], .int .i64 0]) hS ?_ ?_; (· exact fun w' _ => (by go_simp)); simp only [Act.put, List.setIfInBounds_toArray, List.set_cons_zero, List.set_cons_succ]
        refine stH (i := 10) (.agg #[.int .i64 W, .int .i64 H, .slice sd H sdc]) hS ?_ ?_; (· exact fun w' _ => (by go_simp)); simp only [Act.put, List.setIfInBounds_toArray, List.set_cons_zero, List.set_cons_succ]
        refine stH (i := 11) (.int .i64 0) hS ?_ ?_; (· exact fun w' _ => (by go_simp)); simp only [Act.put, List.setIfInBounds_toArray, List.set_cons_zero, List.set_cons_succ]
        refine wpH_one (i := 13) (by kernel_rfl) (wpOp_of (by simp only [List.getElem?_toArray, List.getElem?_cons_zero, List.getElem?_cons_succ]; rfl) ?_)
        refine st_store rfl _ _ _ rfl ⟨b5, 0, none⟩ rfl (.agg #[.int .i64 W, .int .i64 H, .slice sd H sdc]) rfl (storeR hL ?_)
        intro w9 hL
        have hS := (show (fun w' : World => w'.rangeAt b1 0 #[.int .i64 wd, .int .i64 cap, .int .i64 join].toList) _ from hL.range (by (repeat (first | with_reducible exact At.here | with_reducible apply At.there))))
        refine ⟨hS, ?_⟩
        simp only [Act.put]
        refine stH (i := 14) (.int .i64 0) hS ?_ ?_; (· exact fun w' _ => (by go_simp)); simp only [Act.put, List.setIfInBounds_toArray, List.set_cons_zero, List.set_cons_succ]
        refine wpAnyH_done (by kernel_rfl) ?_ _
        exact hcont sd sdc b5 _ hL
    · refine st_alloc rfl _ rfl hL ?_
      intro b5 w5 hL
      have hS := (show (fun w' : World => w'.rangeAt b1 0 #[.int .i64 wd, .int .i64 cap, .int .i64 join].toList) _ from hL.range (by (repeat (first | with_reducible exact At.here | with_reducible apply At.there))))
      refine ⟨hS, ?_⟩
      simp only [Act.put, List.setIfInBounds_toArray, List.set_cons_zero, List.set_cons_succ]
      refine wpH_one (i := 3) (by kernel_rfl) (wpOp_of (by simp only [List.getElem?_toArray, List.getElem?_cons_zero, List.getElem?_cons_succ]; rfl) ?_)
      refine st_call rfl 32 #[.int .i64 vw] (by go_simp) (HSw.out _) ?_
      rintro e _ ⟨rfl, rfl⟩
      refine ⟨_, rfl, hS, ?_⟩
      simp only [Act.put, List.setIfInBounds_toArray, List.set_cons_zero, List.set_cons_succ]
      refine stH (i := 4) (.int .i64 W) hS ?_ ?_; (· exact fun w' _ => (by go_simp)); simp only [Act.put, List.setIfInBounds_toArray, List.set_cons_zero, List.set_cons_succ]
      refine wpH_one (i := 6) (by kernel_rfl) (wpOp_of (by simp only [List.getElem?_toArray, List.getElem?_cons_zero, List.getElem?_cons_succ]; rfl) ?_)
      refine st_call rfl 32 #[.int .i64 vh] (by go_simp) (HSh.out _) ?_
      rintro e _ ⟨rfl, rfl⟩
      refine ⟨_, rfl, hS, ?_⟩
      simp only [Act.put, List.setIfInBounds_toArray, List.set_cons_zero, List.set_cons_succ]
      refine stH (i := 7) (.int .i64 H) hS ?_ ?_; (· exact fun w' _ => (by go_simp)); simp only [Act.put, List.setIfInBounds_toArray, List.set_cons_zero, List.set_cons_succ]
      refine wpH_one (i := 8) (by kernel_rfl) (wpOp_of (by simp only [List.getElem?_toArray, List.getElem?_cons_zero, List.getElem?_cons_succ]; rfl) ?_)
      refine st_call rfl 17 #[vf, .agg #[.int .i64 wd, .int .i64 cap, .int .i64 join], .int .i64 W, .int .i64 H] (by go_simp) (HRd.out _ _ (hL.fact (.tail _ (.tail _ (.tail _ (.tail _ (.head _))))))) ?_
      rintro e w' ⟨sd, sdc, rfl, hb, hf⟩
      replace hL := hL.callF hb hf
      clear hb hf
      have hS := (show (fun w' : World => w'.rangeAt b1 0 #[.int .i64 wd, .int .i64 cap, .int .i64 join].toList) _ from hL.range (by (repeat (first | with_reducible exact At.here | with_reducible apply At.there))))
      refine ⟨_, rfl, hS, ?_⟩
      simp only [Act.put, List.setIfInBounds_toArray, List.set_cons_zero, List.set_cons_succ]
      refine stH (i := 9) (.tuple #[.agg #[.int .i64 W, .int .i64 H, .slice sd H sdc], .int .i64 0]) hS ?_ ?_; (· exact fun w' _ => (by go_simp)); simp only [Act.put, List.setIfInBounds_toArray, List.set_cons_zero, List.set_cons_succ]
      refine stH (i := 10) (.agg #[.int .i64 W, .int .i64 H, .slice sd H sdc]) hS ?_ ?_; (· exact fun w' _ => (by go_simp)); simp only [Act.put, List.setIfInBounds_toArray, List.set_cons_zero, List.set_cons_succ]
      refine stH (i := 11) (.int .i64 0) hS ?_ ?_; (· exact fun w' _ => (by go_simp)); simp only [Act.put, List.setIfInBounds_toArray, List.set_cons_zero, List.set_cons_succ]
      refine wpH_one (i := 13) (by kernel_rfl) (wpOp_of (by simp only [List.getElem?_toArray, List.getElem?_cons_zero, List.getElem?_cons_succ]; rfl) ?_)
      refine st_store rfl _ _ _ rfl ⟨b5, 0, none⟩ rfl (.agg #[.int .i64 W, .int .i64 H, .slice sd H sdc]) rfl (storeR hL ?_)
      intro w9 hL
      have hS := (show (fun w' : World => w'.rangeAt b1 0 #[.int .i64 wd, .int .i64 cap, .int .i64 join].toList) _ from hL.range (by (repeat (first | with_reducible exact At.here | with_reducible apply At.there))))
      refine ⟨hS, ?_⟩
      simp only [Act.put]
      refine stH (i := 14) (.int .i64 0) hS ?_ ?_; (· exact fun w' _ => (by go_simp)); simp only [Act.put, List.setIfInBounds_toArray, List.set_cons_zero, List.set_cons_succ]
      refine wpAnyH_done (by kernel_rfl) ?_ _
      exact hcont sd sdc b5 _ hL
  · intro sd sdc b5 w8 hL
    go_wp2_with (first | (go_at_call 33; (have hx := HSm.out _ sa2 sc2 sa3 sn3 sc3 (hL.fact (.tail _ (.tail _ (.head _)))) (hL.fact (.tail _ (.head _)))); (with_reducible refine hx.mono ?_); clear hx; rintro e _ ⟨rfl, hb⟩; replace hL := hL.call hb; clear hb) | (first | (clear hL n1; with_reducible intro b1 w1 hL) | (clear hL n2; with_reducible intro b2 w2 hL) | (clear hL n3; with_reducible intro b3 w3 hL) | (clear hL n4; with_reducible intro b4 w4 hL) | (clear hL; with_reducible intro _ _ hL)) | (with_reducible refine wpC_alloc rfl _ rfl _ _ inferInstance hL ?_) | (with_reducible first | refine wpB_agg rfl _ _ _ rfl rfl hL ?_ | refine wpB_one rfl _ _ (.int _ _) rfl rfl rfl hL ?_ | refine wpB_one rfl _ _ (.slice _ _ _) rfl rfl rfl hL ?_ | refine wpB_one rfl _ _ (.bool _) rfl rfl rfl hL ?_ | refine wpB_one rfl _ _ (.pointer _) rfl rfl rfl hL ?_ | refine wpB_one rfl _ _ (.func _ _ _) rfl rfl rfl hL ?_) | (with_reducible first | refine wpH_max rfl _ _ _ _ rfl _ _ rfl rfl ?_ | refine wpH_min rfl _ _ _ _ rfl _ _ rfl rfl ?_) | ((with_reducible refine wpA_load rfl _ _ rfl _ rfl ?_); first | refine loadA hL ?_ | refine loadR hL ?_ | refine loadC hL ?_ | refine loadD ?_ | refine loadE hL ?_ | refine loadF ?_) | ((with_reducible refine wpA_index rfl _ _ _ rfl _ rfl _ rfl ?_); first | (refine indexA ?_; try rw [Int.toNat_natCast]) | refine indexC ?_) | ((with_reducible refine wpA_store rfl _ _ _ rfl _ rfl (.agg _) rfl ?_); refine storeR hL ?_; clear hL; intro _ hL) | ((with_reducible first | refine wpA_store rfl _ _ _ rfl _ rfl (.int _ _) rfl ?_ | refine wpA_store rfl _ _ _ rfl _ rfl (.slice _ _ _) rfl ?_ | refine wpA_store rfl _ _ _ rfl _ rfl (.bool _) rfl ?_ | refine wpA_store rfl _ _ _ rfl _ rfl (.pointer _) rfl ?_ | refine wpA_store rfl _ _ _ rfl _ rfl (.func _ _ _) rfl ?_); (first | refine storeA hL ?_ | refine storeO hL ?_); (clear hL; intro _ hL)) | ((with_reducible refine wpA_lit rfl _ _ _ rfl ?_); first | refine litA1 hL ?_ | refine litA2 hL ?_ | refine litA3 hL ?_ | refine litA4 hL ?_ | refine litA6 hL ?_) | ((with_reducible refine wpA_append rfl _ _ _ rfl (.slice _ _ _) rfl ?_); intro vq hvq; simp [go_sem] at hvq; subst hvq; refine appendA hL ?_; clear hL; intro _ _ _ hL; try dsimp only at hL) | ((with_reducible refine wpA_make rfl _ _ _ rfl _ rfl rfl ?_); refine makeA hL ?_))
    replace hL := hL.facts (Ψ := [RgL W H H sd sdc (pixReg W H Pf), RgL 52 52 52 sa1 sc1 (pixReg 52 52 Pf)]) fun θ hθ => hL.firm θ (by simp only [List.mem_cons, List.not_mem_nil, or_false] at hθ ⊢; rcases hθ with h | h <;> simp [h])
    go_loopw [28] (fun s28 wr => ∃ y : Nat, y ≤ H ∧ s28 = .int .i64 y ∧ Holds w wr [blk b5 #[.int .i64 W, .int .i64 H, .slice sd H sdc] 37, blk b4 #[.int .i64 52, .int .i64 52, .slice sa3 sn3 sc3] 37, blk b3 #[.int .i64 52, .int .i64 52, .slice sa2 52 sc2] 37, blk b2 #[.int .i64 52, .int .i64 52, .slice sa1 52 sc1] 37, blk b1 #[.int .i64 wd, .int .i64 cap, .int .i64 join] 24] [RgL W H H sd sdc (pixReg W H Pf), RgL 52 52 52 sa1 sc1 (pixReg 52 52 Pf)])
      (fun s28 wr => H - (intOf s28).toNat)
    case atStart => exact ⟨0, by omega, rfl, hL⟩
    case round =>
      clear hL
      obtain ⟨y, hy, rfl, hL⟩ := hrel
      by_cases hyt : y < H
      · have hyb : (y : Int) < (H : Int) := by omega
        have hyc : (y : Int) < 52 := by omega
        have hy0 : (0 : Int) ≤ (y : Int) := by omega
        obtain ⟨xd, od, ud, rfl, hd1, hd2⟩ := rgL_row hL.fact0 hyt
        obtain ⟨xa, oa, ua, rfl, ha1, ha2⟩ := rgL_row hL.fact1 (show y < 52 by omega)
        have K50 := Lib.hid ((hL.cell (o := 0) .here).trans rfl)
        have K51 := Lib.hid ((hL.cell (o := 1) .here).trans rfl)
        have K52 := Lib.hid ((hL.cell (o := 2) .here).trans rfl)
        have K2 := Lib.hid ((hL.cell (o := 2) (.there (.there (.there .here)))).trans rfl)
        have Hd1 := Lib.hid hd1; have Hd2 := Lib.hid hd2
        have Ha1 := Lib.hid ha1; have Ha2 := Lib.hid ha2
        clear hd1 hd2 ha1 ha2
        go_wp2_with (first | (first | (clear hL n1; with_reducible intro b1 w1 hL) | (clear hL n2; with_reducible intro b2 w2 hL) | (clear hL n3; with_reducible intro b3 w3 hL) | (clear hL n4; with_reducible intro b4 w4 hL) | (clear hL; with_reducible intro _ _ hL)) | (with_reducible refine wpC_alloc rfl _ rfl _ _ inferInstance hL ?_) | (with_reducible first | refine wpB_agg rfl _ _ _ rfl rfl hL ?_ | refine wpB_one rfl _ _ (.int _ _) rfl rfl rfl hL ?_ | refine wpB_one rfl _ _ (.slice _ _ _) rfl rfl rfl hL ?_ | refine wpB_one rfl _ _ (.bool _) rfl rfl rfl hL ?_ | refine wpB_one rfl _ _ (.pointer _) rfl rfl rfl hL ?_ | refine wpB_one rfl _ _ (.func _ _ _) rfl rfl rfl hL ?_) | (with_reducible first | refine wpH_max rfl _ _ _ _ rfl _ _ rfl rfl ?_ | refine wpH_min rfl _ _ _ _ rfl _ _ rfl rfl ?_) | ((with_reducible refine wpA_load rfl _ _ rfl _ rfl ?_); first | refine loadA hL ?_ | refine loadR hL ?_ | refine loadC hL ?_ | refine loadD ?_ | refine loadE hL ?_ | refine loadF ?_) | ((with_reducible refine wpA_index rfl _ _ _ rfl _ rfl _ rfl ?_); first | (refine indexA ?_; try rw [Int.toNat_natCast]) | refine indexC ?_) | ((with_reducible refine wpA_store rfl _ _ _ rfl _ rfl (.agg _) rfl ?_); refine storeR hL ?_; clear hL; intro _ hL) | ((with_reducible first | refine wpA_store rfl _ _ _ rfl _ rfl (.int _ _) rfl ?_ | refine wpA_store rfl _ _ _ rfl _ rfl (.slice _ _ _) rfl ?_ | refine wpA_store rfl _ _ _ rfl _ rfl (.bool _) rfl ?_ | refine wpA_store rfl _ _ _ rfl _ rfl (.pointer _) rfl ?_ | refine wpA_store rfl _ _ _ rfl _ rfl (.func _ _ _) rfl ?_); (first | refine storeA hL ?_ | refine storeO hL ?_); (clear hL; intro _ hL)) | ((with_reducible refine wpA_lit rfl _ _ _ rfl ?_); first | refine litA1 hL ?_ | refine litA2 hL ?_ | refine litA3 hL ?_ | refine litA4 hL ?_ | refine litA6 hL ?_) | ((with_reducible refine wpA_append rfl _ _ _ rfl (.slice _ _ _) rfl ?_); intro vq hvq; simp [go_sem] at hvq; subst hvq; refine appendA hL ?_; clear hL; intro _ _ _ hL; try dsimp only at hL) | ((with_reducible refine wpA_make rfl _ _ _ rfl _ rfl rfl ?_); refine makeA hL ?_))
        refine wpH_laterN (by kernel_rfl) fun hS => ?_
        replace hL := hL.drew
        refine stH (i := 0) (.pointer (some ⟨b5, 2, none⟩)) hS ?_ ?_; (· exact fun w' _ => (by go_simp)); simp only [Act.put, List.setIfInBounds_toArray, List.set_cons_zero, List.set_cons_succ]
        refine stH (i := 1) (.slice (some ⟨xd, od, none⟩) H sdc) hS ?_ ?_; (· exact fun w' hw => run_loadOp _ _ rfl _ rfl _ (load_cell (laterC hw K52.out))); simp only [Act.put, List.setIfInBounds_toArray, List.set_cons_zero, List.set_cons_succ]
        refine stH (i := 2) (.int .i64 y) hS ?_ ?_; (· exact fun w' _ => (by go_simp)); simp only [Act.put, List.setIfInBounds_toArray, List.set_cons_zero, List.set_cons_succ]
        refine stH (i := 3) (.pointer (some ⟨xd, od + y, none⟩)) hS ?_ ?_; (· exact fun w' _ => (by go_simp)); simp only [Act.put, List.setIfInBounds_toArray, List.set_cons_zero, List.set_cons_succ]
        refine stH (i := 4) (ud) hS ?_ ?_; (· exact fun w' hw => run_loadOp _ _ rfl _ rfl _ (load_cell (laterC hw Hd1.out))); simp only [Act.put, List.setIfInBounds_toArray, List.set_cons_zero, List.set_cons_succ]
        refine stH (i := 5) (.pointer (some ⟨b2, 2, none⟩)) hS ?_ ?_; (· exact fun w' _ => (by go_simp)); simp only [Act.put, List.setIfInBounds_toArray, List.set_cons_zero, List.set_cons_succ]
        refine stH (i := 6) (.slice (some ⟨xa, oa, none⟩) 52 sc1) hS ?_ ?_; (· exact fun w' hw => run_loadOp _ _ rfl _ rfl _ (load_cell (laterC hw K2.out))); simp only [Act.put, List.setIfInBounds_toArray, List.set_cons_zero, List.set_cons_succ]
        refine stH (i := 7) (.int .i64 y) hS ?_ ?_; (· exact fun w' _ => (by go_simp)); simp only [Act.put, List.setIfInBounds_toArray, List.set_cons_zero, List.set_cons_succ]
        refine stH (i := 8) (.pointer (some ⟨xa, oa + y, none⟩)) hS ?_ ?_; (· exact fun w' _ => (by go_simp)); simp only [Act.put, List.setIfInBounds_toArray, List.set_cons_zero, List.set_cons_succ]
        refine stH (i := 9) (ua) hS ?_ ?_; (· exact fun w' hw => run_loadOp _ _ rfl _ rfl _ (load_cell (laterC hw Ha1.out))); simp only [Act.put, List.setIfInBounds_toArray, List.set_cons_zero, List.set_cons_succ]
        refine stH (i := 10) (.pointer (some ⟨b5, 0, none⟩)) hS ?_ ?_; (· exact fun w' _ => (by go_simp)); simp only [Act.put, List.setIfInBounds_toArray, List.set_cons_zero, List.set_cons_succ]
        refine stH (i := 11) (.int .i64 W) hS ?_ ?_; (· exact fun w' hw => run_loadOp _ _ rfl _ rfl _ (load_cell (laterC hw K50.out))); simp only [Act.put, List.setIfInBounds_toArray, List.set_cons_zero, List.set_cons_succ]
        refine wpH_one (i := 12) (by kernel_rfl) (wpOp_of (by simp only [List.getElem?_toArray, List.getElem?_cons_zero, List.getElem?_cons_succ]; rfl) ?_)
        refine st_call rfl 34 #[ua, .int .i64 W] (by go_simp) (HNm.out y _ _ (Ha2.out.later hS)) ?_
        rintro e w' ⟨un, rfl, hb, hf⟩
        replace hL := hL.call hb
        replace hS := hS.trans (hb.mono hS.size)
        have hn := hf.now
        clear hb hf
        refine ⟨_, rfl, hS, ?_⟩
        simp only [Act.put, List.setIfInBounds_toArray, List.set_cons_zero, List.set_cons_succ]
        refine wpH_one (i := 13) (by kernel_rfl) (wpOp_of (by simp only [List.getElem?_toArray, List.getElem?_cons_zero, List.getElem?_cons_succ]; rfl) ?_)
        refine st_call rfl 15 #[ud, un] (by go_simp) (lnSame_calls _ (n := W) (P := Pf y) (Q := Pf y) (Hd2.out.later hS) hn (fun _ _ => rfl)) ?_
        rintro e w' ⟨rfl, hb⟩
        replace hL := hL.call hb
        replace hS := hS.trans (hb.mono hS.size)
        clear hb
        refine ⟨_, rfl, hS, ?_⟩
        simp only [Act.put, List.setIfInBounds_toArray, List.set_cons_zero, List.set_cons_succ]
        refine stH (i := 14) (.bool false) hS ?_ ?_; (· exact fun w' _ => (by go_simp)); simp only [Act.put, List.setIfInBounds_toArray, List.set_cons_zero, List.set_cons_succ]
        refine wpAnyH_done (by kernel_rfl) ?_ _
        clear hS hn
        go_wp2
        go_roundw
        case rel => exact ⟨y + 1, by omega, by go_num, hL⟩
        case measure => simp [intOf]; omega
      · have e : y = H := by omega
        subst e
        go_wp2_with (first | (first | (clear hL n1; with_reducible intro b1 w1 hL) | (clear hL n2; with_reducible intro b2 w2 hL) | (clear hL n3; with_reducible intro b3 w3 hL) | (clear hL n4; with_reducible intro b4 w4 hL) | (clear hL; with_reducible intro _ _ hL)) | (with_reducible refine wpC_alloc rfl _ rfl _ _ inferInstance hL ?_) | (with_reducible first | refine wpB_agg rfl _ _ _ rfl rfl hL ?_ | refine wpB_one rfl _ _ (.int _ _) rfl rfl rfl hL ?_ | refine wpB_one rfl _ _ (.slice _ _ _) rfl rfl rfl hL ?_ | refine wpB_one rfl _ _ (.bool _) rfl rfl rfl hL ?_ | refine wpB_one rfl _ _ (.pointer _) rfl rfl rfl hL ?_ | refine wpB_one rfl _ _ (.func _ _ _) rfl rfl rfl hL ?_) | (with_reducible first | refine wpH_max rfl _ _ _ _ rfl _ _ rfl rfl ?_ | refine wpH_min rfl _ _ _ _ rfl _ _ rfl rfl ?_) | ((with_reducible refine wpA_load rfl _ _ rfl _ rfl ?_); first | refine loadA hL ?_ | refine loadR hL ?_ | refine loadC hL ?_ | refine loadD ?_ | refine loadE hL ?_ | refine loadF ?_) | ((with_reducible refine wpA_index rfl _ _ _ rfl _ rfl _ rfl ?_); first | (refine indexA ?_; try rw [Int.toNat_natCast]) | refine indexC ?_) | ((with_reducible refine wpA_store rfl _ _ _ rfl _ rfl (.agg _) rfl ?_); refine storeR hL ?_; clear hL; intro _ hL) | ((with_reducible first | refine wpA_store rfl _ _ _ rfl _ rfl (.int _ _) rfl ?_ | refine wpA_store rfl _ _ _ rfl _ rfl (.slice _ _ _) rfl ?_ | refine wpA_store rfl _ _ _ rfl _ rfl (.bool _) rfl ?_ | refine wpA_store rfl _ _ _ rfl _ rfl (.pointer _) rfl ?_ | refine wpA_store rfl _ _ _ rfl _ rfl (.func _ _ _) rfl ?_); (first | refine storeA hL ?_ | refine storeO hL ?_); (clear hL; intro _ hL)) | ((with_reducible refine wpA_lit rfl _ _ _ rfl ?_); first | refine litA1 hL ?_ | refine litA2 hL ?_ | refine litA3 hL ?_ | refine litA4 hL ?_ | refine litA6 hL ?_) | ((with_reducible refine wpA_append rfl _ _ _ rfl (.slice _ _ _) rfl ?_); intro vq hvq; simp [go_sem] at hvq; subst hvq; refine appendA hL ?_; clear hL; intro _ _ _ hL; try dsimp only at hL) | ((with_reducible refine wpA_make rfl _ _ _ rfl _ rfl rfl ?_); refine makeA hL ?_))
        go_ret
        exact ⟨rfl, hL.below⟩
end Go.Proofs.Ytfnolaoohmecbaa
