/- CoverMade returns true. -/
import Derived.Test.YtneddfiohekhiaaRCnt
import Derived.Test.YtneddfiohekhiaaKn
import Derived.Test.YtneddfiohekhiaaShM
-- uses arrU
-- lit6
namespace Go.Proofs.Ytneddfiohekhiaa
open Go.RowKit

theorem side25C_calls (v : Int) (w : World) : Calls Try.prog 19 #[.int .i64 v] w fun e w' => e = .returned (.int .i64 (1 + v % 14)) ∧ w = w' := by
  have HP := Lib.hid (fun w => place_calls v 14 (by omega) (by omega) w)
  have q1 := Int.emod_nonneg v (show (14 : Int) ≠ 0 by omega)
  have q2 := Int.emod_lt_of_pos v (show (0 : Int) < 14 by omega)
  generalize v % 14 = k at *
  go_enter Try.func19, Try.ntmps19
  go_wp2_with (go_at_call 18; (with_reducible refine (HP.out _).mono ?_); rintro e _ ⟨rfl, rfl⟩)
  go_ret
  exact ⟨rfl, rfl⟩
set_option maxRecDepth 100000 in
set_option maxHeartbeats 8000000 in
theorem coverMade_calls (w : World) (va : Value) (na : List Int) (ha : NumsAt w va na) (rule pw ph : Int) : Calls Try.prog 4 #[va, .int .i64 rule, .int .i64 pw, .int .i64 ph] w fun e w' => e = .returned (.bool true) ∧ Below w.heap.size w w' := by
  have hL := Holds.start w
  obtain ⟨a, cap, rfl, _⟩ := ha.parts
  have HM := Lib.hid (fun w' hb => made_calls w' _ na (SliceAt.below ha hb) true)
  clear ha
  have hmay := made_may na true
  generalize madeS na true = S at *
  have q1a := Int.emod_nonneg rule (show (2 : Int) ≠ 0 by omega)
  have q1b := Int.emod_lt_of_pos rule (show (0 : Int) < 2 by omega)
  have HP1 := Lib.hid (fun w => place_calls rule 2 (by omega) (by omega) w)
  generalize rule % 2 = r at *
  have q8a := Int.emod_nonneg pw (show (14 : Int) ≠ 0 by omega)
  have q8b := Int.emod_lt_of_pos pw (show (0 : Int) < 14 by omega)
  have q9a := Int.emod_nonneg ph (show (14 : Int) ≠ 0 by omega)
  have q9b := Int.emod_lt_of_pos ph (show (0 : Int) < 14 by omega)
  have HS1 := Lib.hid (fun w => side25C_calls pw w)
  have HS2 := Lib.hid (fun w => side25C_calls ph w)
  obtain ⟨W, hW⟩ : ∃ W : Nat, 1 + pw % 14 = (W : Int) := ⟨(1 + pw % 14).toNat, by omega⟩
  obtain ⟨H, hH⟩ : ∃ H : Nat, 1 + ph % 14 = (H : Int) := ⟨(1 + ph % 14).toNat, by omega⟩
  rw [hW] at HS1
  rw [hH] at HS2
  have hsM : Sides W H := ⟨by omega, by omega, by omega, by omega⟩
  clear hW hH q8a q8b q9a q9b
  have hr : r = 0 ∨ r = 1 := by omega
  have HA := Lib.hid (fun w' v hv => coverMask_calls hsM w' v S hv hmay r hr)
  have HB := Lib.hid (fun w' v hv => rMask_calls hsM w' v S hv hmay r hr)
  generalize (fun j i : Nat => isIn r (windG (edgesS S) (16 * (i : Int) + 8) (16 * (j : Int) + 8))) = P at *
  have HMy := Lib.hid (fun w' (ma : Option Addr) h => mayK_calls (W := W) (H := H) (n := W * H) rfl rfl rfl hsM w' ma P h)
  have HSm := Lib.hid (fun w' (ma mb : Option Addr) ha hb => sameK_calls (W := W) (H := H) (n := W * H) rfl rfl rfl hsM w' ma mb P P ha hb fun _ _ _ _ => rfl)
  have HCn := Lib.hid (fun w' (ma : Option Addr) h => countK_calls (W := W) (H := H) (n := W * H) rfl rfl rfl hsM w' ma P h)
  have HCr := Lib.hid (fun w' (ma : Option Addr) h => rCount_calls hsM w' ma P h)
  generalize pixCount W P H = CN at *
  clear hsM hr hmay
  have n1 : True := trivial; have n2 : True := trivial
  go_enter Try.func4, Try.ntmps4
  go_wp2_with (first | (go_at_call 13; (with_reducible refine (known_calls _).mono ?_); rintro e _ ⟨rfl, hb⟩; replace hL := hL.call hb; clear hb) | (go_at_call 17; (with_reducible refine (HM.out _ hL.below).mono ?_); rintro e _ ⟨vs, rfl, hb, hf⟩; replace hL := hL.callF hb hf; clear hb hf) | (go_at_call 18; (with_reducible refine (HP1.out _).mono ?_); rintro e _ ⟨rfl, rfl⟩) | (go_at_call 19; (with_reducible first | refine (HS1.out _).mono ?_ | refine (HS2.out _).mono ?_); rintro e _ ⟨rfl, rfl⟩) | (go_at_call 14; (with_reducible refine (HA.out _ vs hL.fact0).mono ?_); rintro e _ ⟨ma, rfl, hb, hf⟩; replace hL := hL.callF hb hf; clear hb hf) | (go_at_call 15; (with_reducible refine (HB.out _ vs hL.fact1).mono ?_); rintro e _ ⟨mb, rfl, hb, hf⟩; replace hL := hL.callF hb hf; clear hb hf) | (first | (clear hL n1; with_reducible intro b1 w1 hL) | (clear hL n2; with_reducible intro b2 w2 hL) | (clear hL; with_reducible intro _ _ hL)) | (with_reducible refine wpC_alloc rfl _ rfl _ _ inferInstance hL ?_) | (with_reducible first | refine wpB_agg rfl _ _ _ rfl rfl hL ?_ | refine wpB_one rfl _ _ (.int _ _) rfl rfl rfl hL ?_ | refine wpB_one rfl _ _ (.slice _ _ _) rfl rfl rfl hL ?_ | refine wpB_one rfl _ _ (.bool _) rfl rfl rfl hL ?_ | refine wpB_one rfl _ _ (.pointer _) rfl rfl rfl hL ?_ | refine wpB_one rfl _ _ (.func _ _ _) rfl rfl rfl hL ?_) | (with_reducible first | refine wpH_max rfl _ _ _ _ rfl _ _ rfl rfl ?_ | refine wpH_min rfl _ _ _ _ rfl _ _ rfl rfl ?_) | ((with_reducible refine wpA_load rfl _ _ rfl _ rfl ?_); first | refine loadA hL ?_ | refine loadR hL ?_ | refine loadC hL ?_ | refine loadD ?_ | refine loadE hL ?_ | refine loadF ?_) | ((with_reducible refine wpA_index rfl _ _ _ rfl _ rfl _ rfl ?_); first | (refine indexA ?_; try rw [Int.toNat_natCast]) | refine indexC ?_) | ((with_reducible refine wpA_store rfl _ _ _ rfl _ rfl (.agg _) rfl ?_); refine storeR hL ?_; clear hL; intro _ hL) | ((with_reducible first | refine wpA_store rfl _ _ _ rfl _ rfl (.int _ _) rfl ?_ | refine wpA_store rfl _ _ _ rfl _ rfl (.slice _ _ _) rfl ?_ | refine wpA_store rfl _ _ _ rfl _ rfl (.bool _) rfl ?_ | refine wpA_store rfl _ _ _ rfl _ rfl (.pointer _) rfl ?_ | refine wpA_store rfl _ _ _ rfl _ rfl (.func _ _ _) rfl ?_); (first | refine storeA hL ?_ | refine storeO hL ?_); (clear hL; intro _ hL)) | ((with_reducible refine wpA_lit rfl _ _ _ rfl ?_); first | refine litA1 hL ?_ | refine litA2 hL ?_ | refine litA3 hL ?_ | refine litA4 hL ?_ | refine litA6 hL ?_) | ((with_reducible refine wpA_append rfl _ _ _ rfl (.slice _ _ _) rfl ?_); intro vq hvq; simp [go_sem] at hvq; subst hvq; refine appendA hL ?_; clear hL; intro _ _ _ hL; try dsimp only at hL) | ((with_reducible refine wpA_make rfl _ _ _ rfl _ rfl rfl ?_); refine makeA hL ?_))
  replace hL := hL.facts (Ψ := [MaskF (.agg #[.int .i64 W, .int .i64 H, .slice mb (W * H) (W * H)]) (pixMask W H P), MaskF (.agg #[.int .i64 W, .int .i64 H, .slice ma (W * H) (W * H)]) (pixMask W H P)]) fun θ hθ => hL.firm θ (by simp only [List.mem_cons, List.not_mem_nil, or_false] at hθ ⊢; rcases hθ with h | h <;> simp [h])
  replace HMy := Lib.hid (fun w' h => HMy.out w' ma h)
  replace HSm := Lib.hid (fun w' ha hb => HSm.out w' ma mb ha hb)
  replace HCn := Lib.hid (fun w' h => HCn.out w' ma h)
  replace HCr := Lib.hid (fun w' h => HCr.out w' mb h)
  replace hL := hL.drew
  have hS := (show (fun w' : World => w'.rangeAt b1 0 #[.int .i64 W, .int .i64 H, .slice ma (W * H) (W * H)].toList ∧ w'.rangeAt b2 0 #[.int .i64 W, .int .i64 H, .slice mb (W * H) (W * H)].toList) _ from ⟨hL.range (by (repeat (first | with_reducible exact At.here | with_reducible apply At.there))), hL.range (by (repeat (first | with_reducible exact At.here | with_reducible apply At.there)))⟩)
  refine wpH_begin (by kernel_rfl) (fun w' : World => w'.rangeAt b1 0 #[.int .i64 W, .int .i64 H, .slice ma (W * H) (W * H)].toList ∧ w'.rangeAt b2 0 #[.int .i64 W, .int .i64 H, .slice mb (W * H) (W * H)].toList) ?_
  refine stH (i := 0) (.int .i64 0) hS ?_ ?_; (· exact fun w' _ => (by go_simp)); simp only [Act.put, List.setIfInBounds_toArray, List.set_cons_zero, List.set_cons_succ]
  refine stH (i := 1) (.bool true) hS ?_ ?_; (· exact fun w' _ => (by go_simp)); simp only [Act.put, List.setIfInBounds_toArray, List.set_cons_zero, List.set_cons_succ]
  refine stH (i := 2) (.bool true) hS ?_ ?_; (· exact fun w' _ => (by go_simp)); simp only [Act.put, List.setIfInBounds_toArray, List.set_cons_zero, List.set_cons_succ]
  refine stH (i := 3) (.int .i64 0) hS ?_ ?_; (· exact fun w' _ => (by go_simp)); simp only [Act.put, List.setIfInBounds_toArray, List.set_cons_zero, List.set_cons_succ]
  refine stH (i := 4) (.bool true) hS ?_ ?_; (· exact fun w' _ => (by go_simp)); simp only [Act.put, List.setIfInBounds_toArray, List.set_cons_zero, List.set_cons_succ]
  refine stH (i := 5) (.bool true) hS ?_ ?_; (· exact fun w' _ => (by go_simp)); simp only [Act.put, List.setIfInBounds_toArray, List.set_cons_zero, List.set_cons_succ]
  refine stH (i := 6) (.bool true) hS ?_ ?_; (· exact fun w' _ => (by go_simp)); simp only [Act.put, List.setIfInBounds_toArray, List.set_cons_zero, List.set_cons_succ]
  refine stH (i := 7) (.agg #[.int .i64 W, .int .i64 H, .slice ma (W * H) (W * H)]) hS ?_ ?_; (· exact fun w' hw => run_loadOp _ _ rfl _ rfl _ (load_range (cs := #[.int .i64 W, .int .i64 H, .slice ma (W * H) (W * H)]) rfl hw.1)); simp only [Act.put, List.setIfInBounds_toArray, List.set_cons_zero, List.set_cons_succ]
  refine wpH_one (i := 8) (by kernel_rfl) (wpOp_of (by simp only [List.getElem?_toArray, List.getElem?_cons_zero, List.getElem?_cons_succ]; rfl) ?_)
  refine st_call rfl 20 #[.agg #[.int .i64 W, .int .i64 H, .slice ma (W * H) (W * H)]] (by go_simp) (HMy.out _ hL.fact1) ?_
  rintro e w' ⟨rfl, hb⟩
  replace hL := hL.call hb
  clear hb hS
  have hS := (show (fun w' : World => w'.rangeAt b1 0 #[.int .i64 W, .int .i64 H, .slice ma (W * H) (W * H)].toList ∧ w'.rangeAt b2 0 #[.int .i64 W, .int .i64 H, .slice mb (W * H) (W * H)].toList) _ from ⟨hL.range (by (repeat (first | with_reducible exact At.here | with_reducible apply At.there))), hL.range (by (repeat (first | with_reducible exact At.here | with_reducible apply At.there)))⟩)
  refine ⟨_, rfl, hS, ?_⟩
  simp only [Act.put, List.setIfInBounds_toArray, List.set_cons_zero, List.set_cons_succ]
  refine stH (i := 9) (.bool true) hS ?_ ?_; (· exact fun w' _ => (by go_simp)); simp only [Act.put, List.setIfInBounds_toArray, List.set_cons_zero, List.set_cons_succ]
  refine stH (i := 10) (.bool true) hS ?_ ?_; (· exact fun w' _ => (by go_simp)); simp only [Act.put, List.setIfInBounds_toArray, List.set_cons_zero, List.set_cons_succ]
  refine stH (i := 11) (.agg #[.int .i64 W, .int .i64 H, .slice ma (W * H) (W * H)]) hS ?_ ?_; (· exact fun w' hw => run_loadOp _ _ rfl _ rfl _ (load_range (cs := #[.int .i64 W, .int .i64 H, .slice ma (W * H) (W * H)]) rfl hw.1)); simp only [Act.put, List.setIfInBounds_toArray, List.set_cons_zero, List.set_cons_succ]
  refine stH (i := 12) (.agg #[.int .i64 W, .int .i64 H, .slice mb (W * H) (W * H)]) hS ?_ ?_; (· exact fun w' hw => run_loadOp _ _ rfl _ rfl _ (load_range (cs := #[.int .i64 W, .int .i64 H, .slice mb (W * H) (W * H)]) rfl hw.2)); simp only [Act.put, List.setIfInBounds_toArray, List.set_cons_zero, List.set_cons_succ]
  refine wpH_one (i := 13) (by kernel_rfl) (wpOp_of (by simp only [List.getElem?_toArray, List.getElem?_cons_zero, List.getElem?_cons_succ]; rfl) ?_)
  refine st_call rfl 21 #[.agg #[.int .i64 W, .int .i64 H, .slice ma (W * H) (W * H)], .agg #[.int .i64 W, .int .i64 H, .slice mb (W * H) (W * H)]] (by go_simp) (HSm.out _ hL.fact1 hL.fact0) ?_
  rintro e w' ⟨rfl, hb⟩
  replace hL := hL.call hb
  clear hb hS
  have hS := (show (fun w' : World => w'.rangeAt b1 0 #[.int .i64 W, .int .i64 H, .slice ma (W * H) (W * H)].toList ∧ w'.rangeAt b2 0 #[.int .i64 W, .int .i64 H, .slice mb (W * H) (W * H)].toList) _ from ⟨hL.range (by (repeat (first | with_reducible exact At.here | with_reducible apply At.there))), hL.range (by (repeat (first | with_reducible exact At.here | with_reducible apply At.there)))⟩)
  refine ⟨_, rfl, hS, ?_⟩
  simp only [Act.put, List.setIfInBounds_toArray, List.set_cons_zero, List.set_cons_succ]
  refine stH (i := 14) (.bool true) hS ?_ ?_; (· exact fun w' _ => (by go_simp)); simp only [Act.put, List.setIfInBounds_toArray, List.set_cons_zero, List.set_cons_succ]
  refine stH (i := 15) (.bool true) hS ?_ ?_; (· exact fun w' _ => (by go_simp)); simp only [Act.put, List.setIfInBounds_toArray, List.set_cons_zero, List.set_cons_succ]
  refine stH (i := 16) (.agg #[.int .i64 W, .int .i64 H, .slice ma (W * H) (W * H)]) hS ?_ ?_; (· exact fun w' hw => run_loadOp _ _ rfl _ rfl _ (load_range (cs := #[.int .i64 W, .int .i64 H, .slice ma (W * H) (W * H)]) rfl hw.1)); simp only [Act.put, List.setIfInBounds_toArray, List.set_cons_zero, List.set_cons_succ]
  refine stH (i := 18) (.agg #[.int .i64 W, .int .i64 H, .slice mb (W * H) (W * H)]) hS ?_ ?_; (· exact fun w' hw => run_loadOp _ _ rfl _ rfl _ (load_range (cs := #[.int .i64 W, .int .i64 H, .slice mb (W * H) (W * H)]) rfl hw.2)); simp only [Act.put, List.setIfInBounds_toArray, List.set_cons_zero, List.set_cons_succ]
  refine wpH_one (i := 17) (by kernel_rfl) (wpOp_of (by simp only [List.getElem?_toArray, List.getElem?_cons_zero, List.getElem?_cons_succ]; rfl) ?_)
  refine st_call rfl 22 #[.agg #[.int .i64 W, .int .i64 H, .slice ma (W * H) (W * H)]] (by go_simp) (HCn.out _ hL.fact1) ?_
  rintro e w' ⟨rfl, hb⟩
  replace hL := hL.call hb
  clear hb hS
  have hS := (show (fun w' : World => w'.rangeAt b1 0 #[.int .i64 W, .int .i64 H, .slice ma (W * H) (W * H)].toList ∧ w'.rangeAt b2 0 #[.int .i64 W, .int .i64 H, .slice mb (W * H) (W * H)].toList) _ from ⟨hL.range (by (repeat (first | with_reducible exact At.here | with_reducible apply At.there))), hL.range (by (repeat (first | with_reducible exact At.here | with_reducible apply At.there)))⟩)
  refine ⟨_, rfl, hS, ?_⟩
  simp only [Act.put, List.setIfInBounds_toArray, List.set_cons_zero, List.set_cons_succ]
  refine wpH_one (i := 19) (by kernel_rfl) (wpOp_of (by simp only [List.getElem?_toArray, List.getElem?_cons_zero, List.getElem?_cons_succ]; rfl) ?_)
  refine st_call rfl 23 #[.agg #[.int .i64 W, .int .i64 H, .slice mb (W * H) (W * H)]] (by go_simp) (HCr.out _ hL.fact0) ?_
  rintro e w' ⟨rfl, hb⟩
  replace hL := hL.call hb
  clear hb hS
  have hS := (show (fun w' : World => w'.rangeAt b1 0 #[.int .i64 W, .int .i64 H, .slice ma (W * H) (W * H)].toList ∧ w'.rangeAt b2 0 #[.int .i64 W, .int .i64 H, .slice mb (W * H) (W * H)].toList) _ from ⟨hL.range (by (repeat (first | with_reducible exact At.here | with_reducible apply At.there))), hL.range (by (repeat (first | with_reducible exact At.here | with_reducible apply At.there)))⟩)
  refine ⟨_, rfl, hS, ?_⟩
  simp only [Act.put, List.setIfInBounds_toArray, List.set_cons_zero, List.set_cons_succ]
  refine stH (i := 20) (.bool true) hS ?_ ?_; (· exact fun w' _ => (by go_simp)); simp only [Act.put, List.setIfInBounds_toArray, List.set_cons_zero, List.set_cons_succ]
  refine stH (i := 21) (.bool true) hS ?_ ?_; (· exact fun w' _ => (by go_simp)); simp only [Act.put, List.setIfInBounds_toArray, List.set_cons_zero, List.set_cons_succ]
  refine stH (i := 22) (.bool true) hS ?_ ?_; (· exact fun w' _ => (by go_simp)); simp only [Act.put, List.setIfInBounds_toArray, List.set_cons_zero, List.set_cons_succ]
  refine wpAnyH_done (by kernel_rfl) ?_ _
  clear hS
  go_wp2
  go_ret
  exact ⟨rfl, hL.below⟩
end Go.Proofs.Ytneddfiohekhiaa
