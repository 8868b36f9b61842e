/- RegionCovers returns true. -/
import Derived.Test.YtjgnbmgdnfldeaaRgO
import Derived.Test.YtjgnbmgdnfldeaaShM
-- lit6
namespace Go.Proofs.Ytjgnbmgdnfldeaa
open Go.RowKit

def RgF (W H : Nat) (sa : Option Addr) (sn sc : Nat) (q : Nat → Nat → Bool) : World → Prop := RegF (.agg #[.int .i64 W, .int .i64 H, .slice sa sn sc]) (pixReg W H q)
def MkF (W H : Nat) (ma : Option Addr) (q : Nat → Nat → Bool) : World → Prop := MaskF (.agg #[.int .i64 W, .int .i64 H, .slice ma (W * H) (W * H)]) (pixMask W H q)
def RgOut (W H : Nat) (q : Nat → Nat → Bool) (w : World) (e : Ending) (w' : World) : Prop :=
  ∃ sa sn sc, e = .returned (.tuple #[.agg #[.int .i64 W, .int .i64 H, .slice sa sn sc], .int .i64 0]) ∧ Below w.heap.size w w' ∧ Fresh w w' (RgF W H sa sn sc q)
def MkOut (W H : Nat) (q : Nat → Nat → Bool) (w : World) (e : Ending) (w' : World) : Prop :=
  ∃ ma, e = .returned (.tuple #[.agg #[.int .i64 W, .int .i64 H, .slice ma (W * H) (W * H)], .int .i64 0]) ∧ Below w.heap.size w w' ∧ Fresh w w' (MkF W H ma q)
theorem rg_same {W H : Nat} {p : Nat → Nat → Bool} (w : World) {sa ta : Option Addr} {sn sc tn tc : Nat} (h : RgF W H sa sn sc p w) (k : RgF W H ta tn tc p w) : Calls Try.prog 35 #[.agg #[.int .i64 W, .int .i64 H, .slice sa sn sc], .agg #[.int .i64 W, .int .i64 H, .slice ta tn tc]] w fun e w' => e = .returned (.bool true) ∧ Below w.heap.size w w' := pixSame_calls w _ _ p p h k fun _ _ _ _ => rfl
theorem mk_same {W H : Nat} (hs : Sides W H) {p : Nat → Nat → Bool} (w : World) {ma mb : Option Addr} (h : MkF W H ma p w) (k : MkF W H mb p w) : Calls Try.prog 54 #[.agg #[.int .i64 W, .int .i64 H, .slice ma (W * H) (W * H)], .agg #[.int .i64 W, .int .i64 H, .slice mb (W * H) (W * H)]] w fun e w' => e = .returned (.bool true) ∧ Below w.heap.size w w' := pixCoverSame_calls hs w ma mb p p h k fun _ _ _ _ => rfl
theorem rg_count {W H : Nat} (hs : Sides W H) {p : Nat → Nat → Bool} (w : World) {sa : Option Addr} {sn sc : Nat} (h : RgF W H sa sn sc p w) : Calls Try.prog 36 #[.agg #[.int .i64 W, .int .i64 H, .slice sa sn sc]] w fun e w' => e = .returned (.int .i64 (pixCount W p H)) ∧ Below w.heap.size w w' := pixCount_calls hs w _ p h
theorem mk_count {W H : Nat} (hs : Sides W H) {p : Nat → Nat → Bool} (w : World) {ma : Option Addr} (h : MkF W H ma p w) : Calls Try.prog 52 #[.agg #[.int .i64 W, .int .i64 H, .slice ma (W * H) (W * H)]] w fun e w' => e = .returned (.int .i64 (pixCount W p H)) ∧ Below w.heap.size w w' := pixCoverCount_calls hs w ma p h
set_option maxRecDepth 100000 in
set_option maxHeartbeats 8000000 in
theorem covers_calls (w : World) (va : Value) (na : List Int) (ha : NumsAt w va na) (rule pw ph : Int) : Calls Try.prog 12 #[va, .int .i64 rule, .int .i64 pw, .int .i64 ph] w fun e w' => e = .returned (.bool true) ∧ Below w.heap.size w w' := by
  have hL := Holds.start w
  obtain ⟨a, cap, rfl, _⟩ := ha.parts
  have HM := Lib.hid (fun w' hb => made_calls w' _ na (SliceAt.below ha hb) true)
  clear ha
  have hmay := made_may na true
  generalize madeS na true = S at *
  have hr : rule % 2 = 0 ∨ rule % 2 = 1 := by omega
  have HP1 := Lib.hid (fun w => place_calls rule 2 (by omega) (by omega) w)
  generalize rule % 2 = r at *
  obtain ⟨W, hWe, hW0, hW1⟩ := lawSideN pw
  obtain ⟨H, hHe, hH0, hH1⟩ := lawSideN ph
  have hs : Sides W H := ⟨hW0, by omega, hH0, by omega⟩
  have HS1 := Lib.hid (fun w => lawSide_calls pw w)
  have HS2 := Lib.hid (fun w => lawSide_calls ph w)
  rw [hWe] at HS1
  rw [hHe] at HS2
  clear hWe hHe
  generalize hP : (fun j i : Nat => isIn r (windG (edgesS S) (16 * (i : Int) + 8) (16 * (j : Int) + 8))) = P
  have HA := Lib.hid (show ∀ w v, SegsAt w v S → Calls Try.prog 57 #[v, .int .i64 r, .int .i64 W, .int .i64 H] w (RgOut W H P w) from fun w v hv => (scanRegion_ok (W := W) (H := H) ⟨by omega, by omega, by omega, by omega⟩ w v S hv hmay r hr).mono fun e w' h => by
    obtain ⟨v', rfl, hb, hf⟩ := h
    obtain ⟨sa, sn, sc, rfl, _⟩ := RegAt.shape hf.now
    subst hP
    exact ⟨sa, sn, sc, rfl, hb, hf⟩)
  have HB := Lib.hid (show ∀ w v, SegsAt w v S → Calls Try.prog 59 #[v, .int .i64 r, .int .i64 W, .int .i64 H] w (MkOut W H P w) from fun w v hv => (coverMask_calls hs w v S hv hmay r hr).mono fun e w' h => by
    subst hP
    exact h)
  have HO := Lib.hid (show ∀ w ma, MkF W H ma P w → Calls Try.prog 32 #[.agg #[.int .i64 W, .int .i64 H, .slice ma (W * H) (W * H)]] w (RgOut W H P w) from fun w ma h => pixOf_calls hs w ma P h)
  have HK := Lib.hid (show ∀ w sa sn sc, RgF W H sa sn sc P w → Calls Try.prog 48 #[.agg #[.int .i64 W, .int .i64 H, .slice sa sn sc]] w (MkOut W H P w) from fun w sa sn sc h => pixMask_calls hs w sa sn sc P h)
  clear hP hmay hr
  have w0 : IntKind.i64.wrap 0 = 0 := by rw [IntKind.wrap_i64]; omega
  have n1 : True := trivial; have n2 : True := trivial; have n3 : True := trivial; have n4 : True := trivial
  go_enter Try.func12, Try.ntmps12
  go_wp2_with (first | (go_at_call 13; (with_reducible refine (known_calls _).mono ?_); rintro e _ ⟨rfl, hb⟩; replace hL := hL.call hb; clear hb) | (go_at_call 58; (with_reducible refine (HM.out _ hL.below).mono ?_); rintro e _ ⟨vs, rfl, hb, hf⟩; replace hL := hL.callF hb hf; clear hb hf) | (go_at_call 34; (with_reducible refine (HP1.out _).mono ?_); rintro e _ ⟨rfl, rfl⟩) | (go_at_call 15; (with_reducible first | refine (HS1.out _).mono ?_ | refine (HS2.out _).mono ?_); rintro e _ ⟨rfl, rfl⟩) | (go_at_call 57; (with_reducible refine (HA.out _ _ hL.fact0).mono ?_); rintro e _ ⟨sa1, sn1, sc1, rfl, hb, hf⟩; replace hL := hL.callF hb hf; clear hb hf) | (go_at_call 59; (with_reducible refine (HB.out _ _ hL.fact1).mono ?_); rintro e _ ⟨ma1, rfl, hb, hf⟩; replace hL := hL.callF hb hf; clear hb hf) | (go_at_call 32; (with_reducible refine (HO.out _ _ hL.fact0).mono ?_); rintro e _ ⟨sa2, sn2, sc2, rfl, hb, hf⟩; replace hL := hL.callF hb hf; clear hb hf) | (go_at_call 48; (with_reducible refine (HK.out _ _ _ _ hL.fact2).mono ?_); rintro e _ ⟨ma2, rfl, hb, hf⟩; replace hL := hL.callF hb hf; clear hb hf) | (first | (clear hL n1; with_reducible intro b1 w1 hL) | (clear hL n2; with_reducible intro b2 w2 hL) | (clear hL n3; with_reducible intro b3 w3 hL) | (clear hL n4; with_reducible intro b4 w4 hL) | (clear hL; with_reducible intro _ _ hL)) | (with_reducible refine wpC_alloc rfl _ rfl _ _ inferInstance hL ?_) | (with_reducible first | refine wpB_agg rfl _ _ _ rfl rfl hL ?_ | refine wpB_one rfl _ _ (.int _ _) rfl rfl rfl hL ?_ | refine wpB_one rfl _ _ (.slice _ _ _) rfl rfl rfl hL ?_ | refine wpB_one rfl _ _ (.bool _) rfl rfl rfl hL ?_ | refine wpB_one rfl _ _ (.pointer _) rfl rfl rfl hL ?_ | refine wpB_one rfl _ _ (.func _ _ _) rfl rfl rfl hL ?_) | (with_reducible first | refine wpH_max rfl _ _ _ _ rfl _ _ rfl rfl ?_ | refine wpH_min rfl _ _ _ _ rfl _ _ rfl rfl ?_) | ((with_reducible refine wpA_load rfl _ _ rfl _ rfl ?_); first | refine loadA hL ?_ | refine loadR hL ?_ | refine loadC hL ?_ | refine loadD ?_ | refine loadE hL ?_ | refine loadF ?_) | ((with_reducible refine wpA_index rfl _ _ _ rfl _ rfl _ rfl ?_); first | (refine indexA ?_; try rw [Int.toNat_natCast]) | refine indexC ?_) | ((with_reducible refine wpA_store rfl _ _ _ rfl _ rfl (.agg _) rfl ?_); refine storeR hL ?_; clear hL; intro _ hL) | ((with_reducible first | refine wpA_store rfl _ _ _ rfl _ rfl (.int _ _) rfl ?_ | refine wpA_store rfl _ _ _ rfl _ rfl (.slice _ _ _) rfl ?_ | refine wpA_store rfl _ _ _ rfl _ rfl (.bool _) rfl ?_ | refine wpA_store rfl _ _ _ rfl _ rfl (.pointer _) rfl ?_ | refine wpA_store rfl _ _ _ rfl _ rfl (.func _ _ _) rfl ?_); (first | refine storeA hL ?_ | refine storeO hL ?_); (clear hL; intro _ hL)) | ((with_reducible refine wpA_lit rfl _ _ _ rfl ?_); first | refine litA1 hL ?_ | refine litA2 hL ?_ | refine litA3 hL ?_ | refine litA4 hL ?_ | refine litA6 hL ?_) | ((with_reducible refine wpA_append rfl _ _ _ rfl (.slice _ _ _) rfl ?_); intro vq hvq; simp [go_sem] at hvq; subst hvq; refine appendA hL ?_; clear hL; intro _ _ _ hL; try dsimp only at hL) | ((with_reducible refine wpA_make rfl _ _ _ rfl _ rfl rfl ?_); refine makeA hL ?_))
  replace hL := hL.drew
  have hS := (show (fun w' : World => w'.rangeAt b1 0 #[.int .i64 W, .int .i64 H, .slice sa1 sn1 sc1].toList ∧ w'.rangeAt b2 0 #[.int .i64 W, .int .i64 H, .slice ma1 (W * H) (W * H)].toList ∧ w'.rangeAt b3 0 #[.int .i64 W, .int .i64 H, .slice sa2 sn2 sc2].toList ∧ w'.rangeAt b4 0 #[.int .i64 W, .int .i64 H, .slice ma2 (W * H) (W * H)].toList) _ from ⟨hL.range (by (repeat (first | with_reducible exact At.here | with_reducible apply At.there))), hL.range (by (repeat (first | with_reducible exact At.here | with_reducible apply At.there))), hL.range (by (repeat (first | with_reducible exact At.here | with_reducible apply At.there))), hL.range (by (repeat (first | with_reducible exact At.here | with_reducible apply At.there)))⟩)
  refine wpH_begin (by kernel_rfl) (fun w' : World => w'.rangeAt b1 0 #[.int .i64 W, .int .i64 H, .slice sa1 sn1 sc1].toList ∧ w'.rangeAt b2 0 #[.int .i64 W, .int .i64 H, .slice ma1 (W * H) (W * H)].toList ∧ w'.rangeAt b3 0 #[.int .i64 W, .int .i64 H, .slice sa2 sn2 sc2].toList ∧ w'.rangeAt b4 0 #[.int .i64 W, .int .i64 H, .slice ma2 (W * H) (W * H)].toList) ?_
  refine stH (i := 0) (.int .i64 0) hS ?_ ?_; (· exact fun w' _ => (by go_simp)); simp only [Act.put, List.setIfInBounds_toArray, List.set_cons_zero, List.set_cons_succ]
  refine stH (i := 1) (.int .i64 0) hS ?_ ?_; (· exact fun w' _ => (by go_simp)); simp only [Act.put, List.setIfInBounds_toArray, List.set_cons_zero, List.set_cons_succ]
  refine stH (i := 2) (.int .i64 0) hS ?_ ?_; (· exact fun w' _ => (by go_simp)); simp only [Act.put, List.setIfInBounds_toArray, List.set_cons_zero, List.set_cons_succ]
  refine stH (i := 3) (.int .i64 0) hS ?_ ?_; (· exact fun w' _ => (by go_simp)); simp only [Act.put, List.setIfInBounds_toArray, List.set_cons_zero, List.set_cons_succ]
  refine stH (i := 4) (.int .i64 0) hS ?_ ?_; (· exact fun w' _ => (by go_simp)); simp only [Act.put, List.setIfInBounds_toArray, List.set_cons_zero, List.set_cons_succ]
  refine stH (i := 5) (.int .i64 0) hS ?_ ?_; (· exact fun w' _ => (by go_simp)); simp only [Act.put, List.setIfInBounds_toArray, List.set_cons_zero, List.set_cons_succ]
  refine stH (i := 6) (.int .i64 0) hS ?_ ?_; (· exact fun w' _ => (by go_simp)); simp only [Act.put, List.setIfInBounds_toArray, List.set_cons_zero, List.set_cons_succ]
  refine stH (i := 7) (.bool true) hS ?_ ?_; (· exact fun w' _ => (by go_simp)); simp only [Act.put, List.setIfInBounds_toArray, List.set_cons_zero, List.set_cons_succ]
  refine stH (i := 8) (.bool true) hS ?_ ?_; (· exact fun w' _ => (by go_simp)); simp only [Act.put, List.setIfInBounds_toArray, List.set_cons_zero, List.set_cons_succ]
  refine stH (i := 9) (.agg #[.int .i64 W, .int .i64 H, .slice sa2 sn2 sc2]) hS ?_ ?_; (· exact fun w' hw => run_loadOp _ _ rfl _ rfl _ (load_range (cs := #[.int .i64 W, .int .i64 H, .slice sa2 sn2 sc2]) rfl hw.2.2.1)); simp only [Act.put, List.setIfInBounds_toArray, List.set_cons_zero, List.set_cons_succ]
  refine stH (i := 10) (.agg #[.int .i64 W, .int .i64 H, .slice sa1 sn1 sc1]) hS ?_ ?_; (· exact fun w' hw => run_loadOp _ _ rfl _ rfl _ (load_range (cs := #[.int .i64 W, .int .i64 H, .slice sa1 sn1 sc1]) rfl hw.1)); simp only [Act.put, List.setIfInBounds_toArray, List.set_cons_zero, List.set_cons_succ]
  refine wpH_one (i := 11) (by kernel_rfl) (wpOp_of (by simp only [List.getElem?_toArray, List.getElem?_cons_zero, List.getElem?_cons_succ]; rfl) ?_)
  refine st_call rfl 35 #[.agg #[.int .i64 W, .int .i64 H, .slice sa2 sn2 sc2], .agg #[.int .i64 W, .int .i64 H, .slice sa1 sn1 sc1]] (by go_simp) (rg_same _ (hL.fact (by repeat (first | with_reducible exact List.mem_cons_self | with_reducible apply List.mem_cons_of_mem))) (hL.fact (by repeat (first | with_reducible exact List.mem_cons_self | with_reducible apply List.mem_cons_of_mem)))) ?_
  rintro e w' ⟨rfl, hb⟩
  replace hL := hL.call hb
  clear hb hS
  have hS := (show (fun w' : World => w'.rangeAt b1 0 #[.int .i64 W, .int .i64 H, .slice sa1 sn1 sc1].toList ∧ w'.rangeAt b2 0 #[.int .i64 W, .int .i64 H, .slice ma1 (W * H) (W * H)].toList ∧ w'.rangeAt b3 0 #[.int .i64 W, .int .i64 H, .slice sa2 sn2 sc2].toList ∧ w'.rangeAt b4 0 #[.int .i64 W, .int .i64 H, .slice ma2 (W * H) (W * H)].toList) _ from ⟨hL.range (by (repeat (first | with_reducible exact At.here | with_reducible apply At.there))), hL.range (by (repeat (first | with_reducible exact At.here | with_reducible apply At.there))), hL.range (by (repeat (first | with_reducible exact At.here | with_reducible apply At.there))), hL.range (by (repeat (first | with_reducible exact At.here | with_reducible apply At.there)))⟩)
  refine ⟨_, rfl, hS, ?_⟩
  simp only [Act.put, List.setIfInBounds_toArray, List.set_cons_zero, List.set_cons_succ]
  refine stH (i := 12) (.bool true) hS ?_ ?_; (· exact fun w' _ => (by go_simp)); simp only [Act.put, List.setIfInBounds_toArray, List.set_cons_zero, List.set_cons_succ]
  refine stH (i := 13) (.bool true) hS ?_ ?_; (· exact fun w' _ => (by go_simp)); simp only [Act.put, List.setIfInBounds_toArray, List.set_cons_zero, List.set_cons_succ]
  refine stH (i := 14) (.agg #[.int .i64 W, .int .i64 H, .slice ma2 (W * H) (W * H)]) hS ?_ ?_; (· exact fun w' hw => run_loadOp _ _ rfl _ rfl _ (load_range (cs := #[.int .i64 W, .int .i64 H, .slice ma2 (W * H) (W * H)]) rfl hw.2.2.2)); simp only [Act.put, List.setIfInBounds_toArray, List.set_cons_zero, List.set_cons_succ]
  refine stH (i := 15) (.agg #[.int .i64 W, .int .i64 H, .slice ma1 (W * H) (W * H)]) hS ?_ ?_; (· exact fun w' hw => run_loadOp _ _ rfl _ rfl _ (load_range (cs := #[.int .i64 W, .int .i64 H, .slice ma1 (W * H) (W * H)]) rfl hw.2.1)); simp only [Act.put, List.setIfInBounds_toArray, List.set_cons_zero, List.set_cons_succ]
  refine wpH_one (i := 16) (by kernel_rfl) (wpOp_of (by simp only [List.getElem?_toArray, List.getElem?_cons_zero, List.getElem?_cons_succ]; rfl) ?_)
  refine st_call rfl 54 #[.agg #[.int .i64 W, .int .i64 H, .slice ma2 (W * H) (W * H)], .agg #[.int .i64 W, .int .i64 H, .slice ma1 (W * H) (W * H)]] (by go_simp) (mk_same hs _ (hL.fact (by repeat (first | with_reducible exact List.mem_cons_self | with_reducible apply List.mem_cons_of_mem))) (hL.fact (by repeat (first | with_reducible exact List.mem_cons_self | with_reducible apply List.mem_cons_of_mem)))) ?_
  rintro e w' ⟨rfl, hb⟩
  replace hL := hL.call hb
  clear hb hS
  have hS := (show (fun w' : World => w'.rangeAt b1 0 #[.int .i64 W, .int .i64 H, .slice sa1 sn1 sc1].toList ∧ w'.rangeAt b2 0 #[.int .i64 W, .int .i64 H, .slice ma1 (W * H) (W * H)].toList ∧ w'.rangeAt b3 0 #[.int .i64 W, .int .i64 H, .slice sa2 sn2 sc2].toList ∧ w'.rangeAt b4 0 #[.int .i64 W, .int .i64 H, .slice ma2 (W * H) (W * H)].toList) _ from ⟨hL.range (by (repeat (first | with_reducible exact At.here | with_reducible apply At.there))), hL.range (by (repeat (first | with_reducible exact At.here | with_reducible apply At.there))), hL.range (by (repeat (first | with_reducible exact At.here | with_reducible apply At.there))), hL.range (by (repeat (first | with_reducible exact At.here | with_reducible apply At.there)))⟩)
  refine ⟨_, rfl, hS, ?_⟩
  simp only [Act.put, List.setIfInBounds_toArray, List.set_cons_zero, List.set_cons_succ]
  refine stH (i := 17) (.bool true) hS ?_ ?_; (· exact fun w' _ => (by go_simp)); simp only [Act.put, List.setIfInBounds_toArray, List.set_cons_zero, List.set_cons_succ]
  refine stH (i := 18) (.bool true) hS ?_ ?_; (· exact fun w' _ => (by go_simp)); simp only [Act.put, List.setIfInBounds_toArray, List.set_cons_zero, List.set_cons_succ]
  refine stH (i := 19) (.agg #[.int .i64 W, .int .i64 H, .slice sa1 sn1 sc1]) hS ?_ ?_; (· exact fun w' hw => run_loadOp _ _ rfl _ rfl _ (load_range (cs := #[.int .i64 W, .int .i64 H, .slice sa1 sn1 sc1]) rfl hw.1)); simp only [Act.put, List.setIfInBounds_toArray, List.set_cons_zero, List.set_cons_succ]
  refine stH (i := 21) (.agg #[.int .i64 W, .int .i64 H, .slice ma1 (W * H) (W * H)]) hS ?_ ?_; (· exact fun w' hw => run_loadOp _ _ rfl _ rfl _ (load_range (cs := #[.int .i64 W, .int .i64 H, .slice ma1 (W * H) (W * H)]) rfl hw.2.1)); simp only [Act.put, List.setIfInBounds_toArray, List.set_cons_zero, List.set_cons_succ]
  refine wpH_one (i := 20) (by kernel_rfl) (wpOp_of (by simp only [List.getElem?_toArray, List.getElem?_cons_zero, List.getElem?_cons_succ]; rfl) ?_)
  refine st_call rfl 36 #[.agg #[.int .i64 W, .int .i64 H, .slice sa1 sn1 sc1]] (by go_simp) (rg_count hs _ (hL.fact (by repeat (first | with_reducible exact List.mem_cons_self | with_reducible apply List.mem_cons_of_mem)))) ?_
  rintro e w' ⟨rfl, hb⟩
  replace hL := hL.call hb
  clear hb hS
  have hS := (show (fun w' : World => w'.rangeAt b1 0 #[.int .i64 W, .int .i64 H, .slice sa1 sn1 sc1].toList ∧ w'.rangeAt b2 0 #[.int .i64 W, .int .i64 H, .slice ma1 (W * H) (W * H)].toList ∧ w'.rangeAt b3 0 #[.int .i64 W, .int .i64 H, .slice sa2 sn2 sc2].toList ∧ w'.rangeAt b4 0 #[.int .i64 W, .int .i64 H, .slice ma2 (W * H) (W * H)].toList) _ from ⟨hL.range (by (repeat (first | with_reducible exact At.here | with_reducible apply At.there))), hL.range (by (repeat (first | with_reducible exact At.here | with_reducible apply At.there))), hL.range (by (repeat (first | with_reducible exact At.here | with_reducible apply At.there))), hL.range (by (repeat (first | with_reducible exact At.here | with_reducible apply At.there)))⟩)
  refine ⟨_, rfl, hS, ?_⟩
  simp only [Act.put, List.setIfInBounds_toArray, List.set_cons_zero, List.set_cons_succ]
  refine wpH_one (i := 22) (by kernel_rfl) (wpOp_of (by simp only [List.getElem?_toArray, List.getElem?_cons_zero, List.getElem?_cons_succ]; rfl) ?_)
  refine st_call rfl 52 #[.agg #[.int .i64 W, .int .i64 H, .slice ma1 (W * H) (W * H)]] (by go_simp) (mk_count hs _ (hL.fact (by repeat (first | with_reducible exact List.mem_cons_self | with_reducible apply List.mem_cons_of_mem)))) ?_
  rintro e w' ⟨rfl, hb⟩
  replace hL := hL.call hb
  clear hb hS
  have hS := (show (fun w' : World => w'.rangeAt b1 0 #[.int .i64 W, .int .i64 H, .slice sa1 sn1 sc1].toList ∧ w'.rangeAt b2 0 #[.int .i64 W, .int .i64 H, .slice ma1 (W * H) (W * H)].toList ∧ w'.rangeAt b3 0 #[.int .i64 W, .int .i64 H, .slice sa2 sn2 sc2].toList ∧ w'.rangeAt b4 0 #[.int .i64 W, .int .i64 H, .slice ma2 (W * H) (W * H)].toList) _ from ⟨hL.range (by (repeat (first | with_reducible exact At.here | with_reducible apply At.there))), hL.range (by (repeat (first | with_reducible exact At.here | with_reducible apply At.there))), hL.range (by (repeat (first | with_reducible exact At.here | with_reducible apply At.there))), hL.range (by (repeat (first | with_reducible exact At.here | with_reducible apply At.there)))⟩)
  refine ⟨_, rfl, hS, ?_⟩
  simp only [Act.put, List.setIfInBounds_toArray, List.set_cons_zero, List.set_cons_succ]
  refine stH (i := 23) (.bool true) hS ?_ ?_; (· exact fun w' _ => (by go_simp)); simp only [Act.put, List.setIfInBounds_toArray, List.set_cons_zero, List.set_cons_succ]
  refine stH (i := 24) (.bool true) hS ?_ ?_; (· exact fun w' _ => (by go_simp)); simp only [Act.put, List.setIfInBounds_toArray, List.set_cons_zero, List.set_cons_succ]
  refine stH (i := 25) (.bool true) hS ?_ ?_; (· exact fun w' _ => (by go_simp)); simp only [Act.put, List.setIfInBounds_toArray, List.set_cons_zero, List.set_cons_succ]
  refine wpAnyH_done (by kernel_rfl) ?_ _
  clear hS
  go_wp2
  go_ret
  exact ⟨rfl, hL.below⟩
end Go.Proofs.Ytjgnbmgdnfldeaa
