/- ListApart returns true. -/
import Derived.Test.YtmnoeoecjfhhbaaGreatLLi
-- lit6
-- loadP
-- layer 43
namespace Go.Proofs.YtmnoeoecjfhhbaaGreat
open Go.RowKit

set_option maxRecDepth 100000 in
set_option maxHeartbeats 16000000 in
theorem listApart_calls (w : World) (va vb : Value) (A B : Itm) (ha : ItmIs w va A) (hb0 : ItmIs w vb B) (z1 z2 : Int) (h1 : 0 ≤ z1 ∧ z1 ≤ 255) (h2 : 0 ≤ z2 ∧ z2 ≤ 255) : Calls Tryz.prog 8 #[va, vb, .int .u8 z1, .int .u8 z2] w fun e w' => e = .returned (.bool true) ∧ Below w.heap.size w w' := by
  obtain ⟨W, hX, hX1, hX2⟩ : ∃ W : Nat, 1 + z1 % 24 = (W : Int) ∧ 1 ≤ W ∧ W ≤ 24 := ⟨(1 + z1 % 24).toNat, by omega, by omega, by omega⟩
  obtain ⟨H, hY, hY1, hY2⟩ : ∃ H : Nat, 1 + z2 % 24 = (H : Int) ∧ 1 ≤ H ∧ H ≤ 24 := ⟨(1 + z2 % 24).toNat, by omega, by omega, by omega⟩
  have r1 : z1.tmod 24 = z1 % 24 := Int.tmod_eq_emod_of_nonneg (by omega)
  have r2 : z2.tmod 24 = z2 % 24 := Int.tmod_eq_emod_of_nonneg (by omega)
  have w1 : IntKind.i64.wrap z1 = z1 := wrapS (by omega) (by omega)
  have w2 : IntKind.i64.wrap z2 = z2 := wrapS (by omega) (by omega)
  have hs : Sides W H := ⟨hX1, by omega, hY1, by omega⟩
  obtain ⟨pa, pc, ca, cc, rfl, lp, lc, hA⟩ := ha.pt
  obtain ⟨qa, qc, da, dc, rfl, lq, ld, hB⟩ := hb0.pt
  have HFw := Lib.hid (fun w' v l (hv : ItmsAt w' v l) => few_calls w' v l hv)
  have HP := Lib.hid (fun w' v l (hv : ItmsAt w' v l) => (listPaint_calls wayLine w' v l hv (W : Int) (H : Int)).mono fun e w2 h => PaintOut.some h)
  have HQ := Lib.hid (fun w' v l (hv : ItmsAt w' v l) (h0 : paintErr l (W : Int) (H : Int) = 0) => (listPaint_calls wayLine w' v l hv (W : Int) (H : Int)).mono fun e w2 h => PaintOut.ok h h0)
  have e1 : paintErr [B, A] (W : Int) (H : Int) = paintErr [A, B] (W : Int) (H : Int) := paintErr_swap A B _ _
  have HI2 := Lib.hid (fun (w' : World) (M : List Res) (Φ : List (World → Prop)) (b : Nat) (cs : Array Value) (T : TypeId) (hL : Holds w w' M Φ) (k : At M (blk b cs T)) (e : cs.toList = itmC (.slice pa A.path.length pc) (.slice ca A.clips.length cc) A ++ itmC (.slice qa B.path.length qc) (.slice da B.clips.length dc) B) => items_two hL k hA hB e)
  have HI3 := Lib.hid (fun (w' : World) (M : List Res) (Φ : List (World → Prop)) (b : Nat) (cs : Array Value) (T : TypeId) (hL : Holds w w' M Φ) (k : At M (blk b cs T)) (e : cs.toList = itmC (.slice qa B.path.length qc) (.slice da B.clips.length dc) B ++ itmC (.slice pa A.path.length pc) (.slice ca A.clips.length cc) A) => items_two hL k hB hA e)
  have HI4 := Lib.hid (fun (w' : World) (M : List Res) (Φ : List (World → Prop)) (b : Nat) (cs : Array Value) (T : TypeId) (hL : Holds w w' M Φ) (k : At M (blk b cs T)) (e : cs.toList = itmC (.slice qa B.path.length qc) (.slice da B.clips.length dc) B ++ itmC (.slice pa A.path.length pc) (.slice ca A.clips.length cc) (clearI A)) => items_two hL k hB hA.clear e)
  have HI5 := Lib.hid (fun (w' : World) (M : List Res) (Φ : List (World → Prop)) (b : Nat) (cs : Array Value) (T : TypeId) (hL : Holds w w' M Φ) (k : At M (blk b cs T)) (e : cs.toList = itmC (.slice qa B.path.length qc) (.slice da B.clips.length dc) B) => items_one hL k hB e)
  have HMA := Lib.hid (fun (h : mayItm A = true) w' (hb' : Below w.heap.size w w') => listMark_calls wayLine hs w' _ A (ha.below hb') h)
  have HMB := Lib.hid (fun (h : mayItm B = true) w' (hb' : Below w.heap.size w w') => listMark_calls wayLine hs w' _ B (hb0.below hb') h)
  have HMt := Lib.hid (fun w' (v u : Value) (p q : Nat → Nat → Bool) (h : RegAt w' v (pixReg W H p)) (k : RegAt w' u (pixReg W H q)) => pixMeet_calls hs w' v u p q h k)
  have HCn := Lib.hid (fun w' (v : Value) (p : Nat → Nat → Bool) (h : RegAt w' v (pixReg W H p)) => pixCount_calls hs w' v p h)
  have HPg := Lib.hid (fun w' (v u : Value) pb (h : BytesAt w' v pb) (k : BytesAt w' u pb) => helpPage_calls w' (W : Int) (H : Int) v u pb h k)
  clear ha hb0 hA hB
  unfold maxLen at lp lc lq ld
  have hL := Holds.start w
  unfold itmV at *
  unfold PgOk at HQ
  have n1 : True := trivial; have n2 : True := trivial; have n3 : True := trivial; have n4 : True := trivial; have n5 : True := trivial; have n6 : True := trivial; have n7 : True := trivial; have n8 : True := trivial; have n9 : True := trivial; have n10 : True := trivial; have n11 : True := trivial; have n12 : True := trivial; have n13 : True := trivial; have n14 : True := trivial
  go_enter Tryz.func8, Tryz.ntmps8
  go_wp2_with (first | (go_at_call 11; (with_reducible refine (known_calls _).mono ?_); rintro e _ ⟨rfl, hb⟩; replace hL := hL.call hb; clear hb) | (with_reducible first | (clear hL n1; intro b1 w1 hL) | (clear hL n2; intro b2 w2 hL) | (clear hL n3; intro b3 w3 hL) | (clear hL n4; intro b4 w4 hL) | (clear hL n5; intro b5 w5 hL) | (clear hL n6; intro b6 w6 hL) | (clear hL n7; intro b7 w7 hL) | (clear hL n8; intro b8 w8 hL) | (clear hL n9; intro b9 w9 hL) | (clear hL n10; intro b10 w10 hL) | (clear hL n11; intro b11 w11 hL) | (clear hL n12; intro b12 w12 hL) | (clear hL n13; intro b13 w13 hL) | (clear hL n14; intro b14 w14 hL) | (clear hL; intro _ _ hL) | (clear hL; intro _ hL)) | ((with_reducible refine wpA_lit rfl _ _ _ rfl ?_); first | refine litA1 hL ?_ | refine litA2 hL ?_ | refine litA3 hL ?_ | refine litA4 hL ?_ | refine litA6 hL ?_) | ((with_reducible refine goJ rfl ?_); refine goP ?_))
  have hI := HI2.out _ _ _ _ _ _ hL .here rfl
  refine (HFw.out _ _ _ hI).mono ?_
  clear hI
  rintro e _ ⟨⟨bf, rfl, _⟩, hb⟩
  replace hL := hL.call hb
  clear hb
  cases bf
  · go_wp2_with (first | (with_reducible first | (clear hL n1; intro b1 w1 hL) | (clear hL n2; intro b2 w2 hL) | (clear hL n3; intro b3 w3 hL) | (clear hL n4; intro b4 w4 hL) | (clear hL n5; intro b5 w5 hL) | (clear hL n6; intro b6 w6 hL) | (clear hL n7; intro b7 w7 hL) | (clear hL n8; intro b8 w8 hL) | (clear hL n9; intro b9 w9 hL) | (clear hL n10; intro b10 w10 hL) | (clear hL n11; intro b11 w11 hL) | (clear hL n12; intro b12 w12 hL) | (clear hL n13; intro b13 w13 hL) | (clear hL n14; intro b14 w14 hL) | (clear hL; intro _ _ hL) | (clear hL; intro _ hL)) | ((with_reducible refine wpA_lit rfl _ _ _ rfl ?_); first | refine litA1 hL ?_ | refine litA2 hL ?_ | refine litA3 hL ?_ | refine litA4 hL ?_ | refine litA6 hL ?_) | ((with_reducible refine goJ rfl ?_); refine goP ?_))
    go_ret
    exact ⟨rfl, hL.below⟩
  go_wp2_with (first | (with_reducible first | (clear hL n1; intro b1 w1 hL) | (clear hL n2; intro b2 w2 hL) | (clear hL n3; intro b3 w3 hL) | (clear hL n4; intro b4 w4 hL) | (clear hL n5; intro b5 w5 hL) | (clear hL n6; intro b6 w6 hL) | (clear hL n7; intro b7 w7 hL) | (clear hL n8; intro b8 w8 hL) | (clear hL n9; intro b9 w9 hL) | (clear hL n10; intro b10 w10 hL) | (clear hL n11; intro b11 w11 hL) | (clear hL n12; intro b12 w12 hL) | (clear hL n13; intro b13 w13 hL) | (clear hL n14; intro b14 w14 hL) | (clear hL; intro _ _ hL) | (clear hL; intro _ hL)) | ((with_reducible refine wpA_lit rfl _ _ _ rfl ?_); first | refine litA1 hL ?_ | refine litA2 hL ?_ | refine litA3 hL ?_ | refine litA4 hL ?_ | refine litA6 hL ?_) | ((with_reducible refine goJ rfl ?_); refine goP ?_))
  have hI := HI2.out _ _ _ _ _ _ hL .here rfl
  by_cases hE : paintErr [A, B] (W : Int) (H : Int) = 0
  rotate_left
  · refine (HP.out _ _ _ hI).mono ?_
    clear hI
    rintro e _ ⟨x1, x2, xa, xn, xc, rfl, hb⟩
    replace hL := hL.call hb
    clear hb
    go_wp2_with (first | (with_reducible first | (clear hL n1; intro b1 w1 hL) | (clear hL n2; intro b2 w2 hL) | (clear hL n3; intro b3 w3 hL) | (clear hL n4; intro b4 w4 hL) | (clear hL n5; intro b5 w5 hL) | (clear hL n6; intro b6 w6 hL) | (clear hL n7; intro b7 w7 hL) | (clear hL n8; intro b8 w8 hL) | (clear hL n9; intro b9 w9 hL) | (clear hL n10; intro b10 w10 hL) | (clear hL n11; intro b11 w11 hL) | (clear hL n12; intro b12 w12 hL) | (clear hL n13; intro b13 w13 hL) | (clear hL n14; intro b14 w14 hL) | (clear hL; intro _ _ hL) | (clear hL; intro _ hL)) | ((with_reducible refine wpA_lit rfl _ _ _ rfl ?_); first | refine litA1 hL ?_ | refine litA2 hL ?_ | refine litA3 hL ?_ | refine litA4 hL ?_ | refine litA6 hL ?_) | ((with_reducible refine goJ rfl ?_); refine goP ?_))
    have hI := HI3.out _ _ _ _ _ _ hL .here rfl
    refine (HP.out _ _ _ hI).mono ?_
    clear hI
    rintro e _ ⟨y1, y2, ya, yn, yc, rfl, hb⟩
    replace hL := hL.call hb
    clear hb
    have hE1 : (paintErr [A, B] (W : Int) (H : Int) == 0) = false := by simp [hE]
    go_wp2_with (first | (with_reducible first | (clear hL n1; intro b1 w1 hL) | (clear hL n2; intro b2 w2 hL) | (clear hL n3; intro b3 w3 hL) | (clear hL n4; intro b4 w4 hL) | (clear hL n5; intro b5 w5 hL) | (clear hL n6; intro b6 w6 hL) | (clear hL n7; intro b7 w7 hL) | (clear hL n8; intro b8 w8 hL) | (clear hL n9; intro b9 w9 hL) | (clear hL n10; intro b10 w10 hL) | (clear hL n11; intro b11 w11 hL) | (clear hL n12; intro b12 w12 hL) | (clear hL n13; intro b13 w13 hL) | (clear hL n14; intro b14 w14 hL) | (clear hL; intro _ _ hL) | (clear hL; intro _ hL)) | ((with_reducible refine wpA_lit rfl _ _ _ rfl ?_); first | refine litA1 hL ?_ | refine litA2 hL ?_ | refine litA3 hL ?_ | refine litA4 hL ?_ | refine litA6 hL ?_) | ((with_reducible refine goJ rfl ?_); refine goP ?_))
    go_ret
    exact ⟨ret_bool (by simp []), hL.below⟩
  refine (HQ.out _ _ _ hI hE).mono ?_
  clear hI
  rintro e _ ⟨xa, xn, xc, rfl, hb, hf⟩
  replace hL := hL.callF hb hf
  clear hb hf
  go_wp2_with (first | (with_reducible first | (clear hL n1; intro b1 w1 hL) | (clear hL n2; intro b2 w2 hL) | (clear hL n3; intro b3 w3 hL) | (clear hL n4; intro b4 w4 hL) | (clear hL n5; intro b5 w5 hL) | (clear hL n6; intro b6 w6 hL) | (clear hL n7; intro b7 w7 hL) | (clear hL n8; intro b8 w8 hL) | (clear hL n9; intro b9 w9 hL) | (clear hL n10; intro b10 w10 hL) | (clear hL n11; intro b11 w11 hL) | (clear hL n12; intro b12 w12 hL) | (clear hL n13; intro b13 w13 hL) | (clear hL n14; intro b14 w14 hL) | (clear hL; intro _ _ hL) | (clear hL; intro _ hL)) | ((with_reducible refine wpA_lit rfl _ _ _ rfl ?_); first | refine litA1 hL ?_ | refine litA2 hL ?_ | refine litA3 hL ?_ | refine litA4 hL ?_ | refine litA6 hL ?_) | ((with_reducible refine goJ rfl ?_); refine goP ?_))
  have hI := HI3.out _ _ _ _ _ _ hL .here rfl
  refine (HQ.out _ _ _ hI (e1.trans hE)).mono ?_
  clear hI
  rintro e _ ⟨ya, yn, yc, rfl, hb, hf⟩
  replace hL := hL.callF hb hf
  clear hb hf
  have hok := paint_ok hE
  have HA := Lib.hid (HMA.out (hok.1 A (by simp)))
  have HB := Lib.hid (HMB.out (hok.1 B (by simp)))
  clear hok HMA HMB
  go_wp2_with (first | (go_at_call 15; (with_reducible first | refine (HA.out _ hL.below).mono ?_ | refine (HB.out _ hL.below).mono ?_); rintro e _ ⟨sa, sn, sc, rfl, hb, hf⟩; replace hL := hL.callF hb hf; clear hb hf) | (go_at_call 29; (with_reducible refine (HMt.out _ _ _ _ _ (hL.reg (.there .here)) (hL.reg .here)).mono ?_); rintro e _ ⟨ta, tn, tc, rfl, hb, hf⟩; replace hL := hL.callF hb hf; clear hb hf) | (with_reducible first | (clear hL n1; intro b1 w1 hL) | (clear hL n2; intro b2 w2 hL) | (clear hL n3; intro b3 w3 hL) | (clear hL n4; intro b4 w4 hL) | (clear hL n5; intro b5 w5 hL) | (clear hL n6; intro b6 w6 hL) | (clear hL n7; intro b7 w7 hL) | (clear hL n8; intro b8 w8 hL) | (clear hL n9; intro b9 w9 hL) | (clear hL n10; intro b10 w10 hL) | (clear hL n11; intro b11 w11 hL) | (clear hL n12; intro b12 w12 hL) | (clear hL n13; intro b13 w13 hL) | (clear hL n14; intro b14 w14 hL) | (clear hL; intro _ _ hL) | (clear hL; intro _ hL)) | ((with_reducible refine wpA_lit rfl _ _ _ rfl ?_); first | refine litA1 hL ?_ | refine litA2 hL ?_ | refine litA3 hL ?_ | refine litA4 hL ?_ | refine litA6 hL ?_) | ((with_reducible refine goJ rfl ?_); refine goP ?_))
  refine (HCn.out _ _ _ (hL.reg .here)).mono ?_
  rintro e _ ⟨rfl, hb⟩
  replace hL := hL.call hb
  clear hb
  by_cases hc : pixCount W (fun j i => markP A j i && markP B j i) H = 0
  · have hpg := apart_pg (by omega) hE hc
    rw [hpg] at hL
    clear hpg
    rw [hc]
    clear hc
    go_wp2_with (first | (go_at_call 23; (with_reducible refine (HPg.out _ _ _ _ hL.fact4 hL.fact3).mono ?_); rintro e _ ⟨rfl, hb⟩; replace hL := hL.call hb; clear hb) | (with_reducible first | (clear hL n1; intro b1 w1 hL) | (clear hL n2; intro b2 w2 hL) | (clear hL n3; intro b3 w3 hL) | (clear hL n4; intro b4 w4 hL) | (clear hL n5; intro b5 w5 hL) | (clear hL n6; intro b6 w6 hL) | (clear hL n7; intro b7 w7 hL) | (clear hL n8; intro b8 w8 hL) | (clear hL n9; intro b9 w9 hL) | (clear hL n10; intro b10 w10 hL) | (clear hL n11; intro b11 w11 hL) | (clear hL n12; intro b12 w12 hL) | (clear hL n13; intro b13 w13 hL) | (clear hL n14; intro b14 w14 hL) | (clear hL; intro _ _ hL) | (clear hL; intro _ hL)) | ((with_reducible refine wpA_lit rfl _ _ _ rfl ?_); first | refine litA1 hL ?_ | refine litA2 hL ?_ | refine litA3 hL ?_ | refine litA4 hL ?_ | refine litA6 hL ?_) | ((with_reducible refine goJ rfl ?_); refine goP ?_))
    have hI := HI5.out _ _ _ _ _ _ hL .here rfl
    refine (HQ.out _ _ _ hI (paintErr_one hE).2).mono ?_
    clear hI
    rintro e _ ⟨ua, un, uc, rfl, hb, hf⟩
    replace hL := hL.callF hb hf
    clear hb hf
    go_wp2_with (first | (with_reducible first | (clear hL n1; intro b1 w1 hL) | (clear hL n2; intro b2 w2 hL) | (clear hL n3; intro b3 w3 hL) | (clear hL n4; intro b4 w4 hL) | (clear hL n5; intro b5 w5 hL) | (clear hL n6; intro b6 w6 hL) | (clear hL n7; intro b7 w7 hL) | (clear hL n8; intro b8 w8 hL) | (clear hL n9; intro b9 w9 hL) | (clear hL n10; intro b10 w10 hL) | (clear hL n11; intro b11 w11 hL) | (clear hL n12; intro b12 w12 hL) | (clear hL n13; intro b13 w13 hL) | (clear hL n14; intro b14 w14 hL) | (clear hL; intro _ _ hL) | (clear hL; intro _ hL)) | ((with_reducible refine wpA_lit rfl _ _ _ rfl ?_); first | refine litA1 hL ?_ | refine litA2 hL ?_ | refine litA3 hL ?_ | refine litA4 hL ?_ | refine litA6 hL ?_) | ((with_reducible refine goJ rfl ?_); refine goP ?_))
    have hI := HI4.out _ _ _ _ _ _ hL .here rfl
    refine (HQ.out _ _ _ hI ((clear_err A B _ _).trans (e1.trans hE))).mono ?_
    clear hI
    rintro e _ ⟨va, vn, vc, rfl, hb, hf⟩
    replace hL := hL.callF hb hf
    clear hb hf
    by_cases hk : A.kind = 3
    · have hk1 : (A.kind == 3) = true := by simp [hk]
      go_wp2_with (first | (with_reducible first | (clear hL n1; intro b1 w1 hL) | (clear hL n2; intro b2 w2 hL) | (clear hL n3; intro b3 w3 hL) | (clear hL n4; intro b4 w4 hL) | (clear hL n5; intro b5 w5 hL) | (clear hL n6; intro b6 w6 hL) | (clear hL n7; intro b7 w7 hL) | (clear hL n8; intro b8 w8 hL) | (clear hL n9; intro b9 w9 hL) | (clear hL n10; intro b10 w10 hL) | (clear hL n11; intro b11 w11 hL) | (clear hL n12; intro b12 w12 hL) | (clear hL n13; intro b13 w13 hL) | (clear hL n14; intro b14 w14 hL) | (clear hL; intro _ _ hL) | (clear hL; intro _ hL)) | ((with_reducible refine wpA_lit rfl _ _ _ rfl ?_); first | refine litA1 hL ?_ | refine litA2 hL ?_ | refine litA3 hL ?_ | refine litA4 hL ?_ | refine litA6 hL ?_) | ((with_reducible refine goJ rfl ?_); refine goP ?_))
      go_ret
      exact ⟨ret_bool (by simp), hL.below⟩
    · have hk1 : (A.kind == 3) = false := by simp [hk]
      have hpg := clear_pg hE hk
      rw [hpg] at hL
      clear hpg
      go_wp2_with (first | (go_at_call 23; (with_reducible refine (HPg.out _ _ _ _ hL.fact1 hL.fact0).mono ?_); rintro e _ ⟨rfl, hb⟩; replace hL := hL.call hb; clear hb) | (with_reducible first | (clear hL n1; intro b1 w1 hL) | (clear hL n2; intro b2 w2 hL) | (clear hL n3; intro b3 w3 hL) | (clear hL n4; intro b4 w4 hL) | (clear hL n5; intro b5 w5 hL) | (clear hL n6; intro b6 w6 hL) | (clear hL n7; intro b7 w7 hL) | (clear hL n8; intro b8 w8 hL) | (clear hL n9; intro b9 w9 hL) | (clear hL n10; intro b10 w10 hL) | (clear hL n11; intro b11 w11 hL) | (clear hL n12; intro b12 w12 hL) | (clear hL n13; intro b13 w13 hL) | (clear hL n14; intro b14 w14 hL) | (clear hL; intro _ _ hL) | (clear hL; intro _ hL)) | ((with_reducible refine wpA_lit rfl _ _ _ rfl ?_); first | refine litA1 hL ?_ | refine litA2 hL ?_ | refine litA3 hL ?_ | refine litA4 hL ?_ | refine litA6 hL ?_) | ((with_reducible refine goJ rfl ?_); refine goP ?_))
      go_ret
      exact ⟨ret_bool (by simp), hL.below⟩
  · have hc1 : ((pixCount W (fun j i => markP A j i && markP B j i) H : Int) == 0) = false := by simp [hc]
    clear hc
    generalize pixCount W (fun j i => markP A j i && markP B j i) H = cn at *
    go_wp2_with (first | (with_reducible first | (clear hL n1; intro b1 w1 hL) | (clear hL n2; intro b2 w2 hL) | (clear hL n3; intro b3 w3 hL) | (clear hL n4; intro b4 w4 hL) | (clear hL n5; intro b5 w5 hL) | (clear hL n6; intro b6 w6 hL) | (clear hL n7; intro b7 w7 hL) | (clear hL n8; intro b8 w8 hL) | (clear hL n9; intro b9 w9 hL) | (clear hL n10; intro b10 w10 hL) | (clear hL n11; intro b11 w11 hL) | (clear hL n12; intro b12 w12 hL) | (clear hL n13; intro b13 w13 hL) | (clear hL n14; intro b14 w14 hL) | (clear hL; intro _ _ hL) | (clear hL; intro _ hL)) | ((with_reducible refine wpA_lit rfl _ _ _ rfl ?_); first | refine litA1 hL ?_ | refine litA2 hL ?_ | refine litA3 hL ?_ | refine litA4 hL ?_ | refine litA6 hL ?_) | ((with_reducible refine goJ rfl ?_); refine goP ?_))
    have hI := HI5.out _ _ _ _ _ _ hL .here rfl
    refine (HQ.out _ _ _ hI (paintErr_one hE).2).mono ?_
    clear hI
    rintro e _ ⟨ua, un, uc, rfl, hb, hf⟩
    replace hL := hL.callF hb hf
    clear hb hf
    go_wp2_with (first | (with_reducible first | (clear hL n1; intro b1 w1 hL) | (clear hL n2; intro b2 w2 hL) | (clear hL n3; intro b3 w3 hL) | (clear hL n4; intro b4 w4 hL) | (clear hL n5; intro b5 w5 hL) | (clear hL n6; intro b6 w6 hL) | (clear hL n7; intro b7 w7 hL) | (clear hL n8; intro b8 w8 hL) | (clear hL n9; intro b9 w9 hL) | (clear hL n10; intro b10 w10 hL) | (clear hL n11; intro b11 w11 hL) | (clear hL n12; intro b12 w12 hL) | (clear hL n13; intro b13 w13 hL) | (clear hL n14; intro b14 w14 hL) | (clear hL; intro _ _ hL) | (clear hL; intro _ hL)) | ((with_reducible refine wpA_lit rfl _ _ _ rfl ?_); first | refine litA1 hL ?_ | refine litA2 hL ?_ | refine litA3 hL ?_ | refine litA4 hL ?_ | refine litA6 hL ?_) | ((with_reducible refine goJ rfl ?_); refine goP ?_))
    have hI := HI4.out _ _ _ _ _ _ hL .here rfl
    refine (HQ.out _ _ _ hI ((clear_err A B _ _).trans (e1.trans hE))).mono ?_
    clear hI
    rintro e _ ⟨va, vn, vc, rfl, hb, hf⟩
    replace hL := hL.callF hb hf
    clear hb hf
    by_cases hk : A.kind = 3
    · have hk1 : (A.kind == 3) = true := by simp [hk]
      go_wp2_with (first | (with_reducible first | (clear hL n1; intro b1 w1 hL) | (clear hL n2; intro b2 w2 hL) | (clear hL n3; intro b3 w3 hL) | (clear hL n4; intro b4 w4 hL) | (clear hL n5; intro b5 w5 hL) | (clear hL n6; intro b6 w6 hL) | (clear hL n7; intro b7 w7 hL) | (clear hL n8; intro b8 w8 hL) | (clear hL n9; intro b9 w9 hL) | (clear hL n10; intro b10 w10 hL) | (clear hL n11; intro b11 w11 hL) | (clear hL n12; intro b12 w12 hL) | (clear hL n13; intro b13 w13 hL) | (clear hL n14; intro b14 w14 hL) | (clear hL; intro _ _ hL) | (clear hL; intro _ hL)) | ((with_reducible refine wpA_lit rfl _ _ _ rfl ?_); first | refine litA1 hL ?_ | refine litA2 hL ?_ | refine litA3 hL ?_ | refine litA4 hL ?_ | refine litA6 hL ?_) | ((with_reducible refine goJ rfl ?_); refine goP ?_))
      go_ret
      exact ⟨ret_bool (by simp), hL.below⟩
    · have hk1 : (A.kind == 3) = false := by simp [hk]
      have hpg := clear_pg hE hk
      rw [hpg] at hL
      clear hpg
      go_wp2_with (first | (go_at_call 23; (with_reducible refine (HPg.out _ _ _ _ hL.fact1 hL.fact0).mono ?_); rintro e _ ⟨rfl, hb⟩; replace hL := hL.call hb; clear hb) | (with_reducible first | (clear hL n1; intro b1 w1 hL) | (clear hL n2; intro b2 w2 hL) | (clear hL n3; intro b3 w3 hL) | (clear hL n4; intro b4 w4 hL) | (clear hL n5; intro b5 w5 hL) | (clear hL n6; intro b6 w6 hL) | (clear hL n7; intro b7 w7 hL) | (clear hL n8; intro b8 w8 hL) | (clear hL n9; intro b9 w9 hL) | (clear hL n10; intro b10 w10 hL) | (clear hL n11; intro b11 w11 hL) | (clear hL n12; intro b12 w12 hL) | (clear hL n13; intro b13 w13 hL) | (clear hL n14; intro b14 w14 hL) | (clear hL; intro _ _ hL) | (clear hL; intro _ hL)) | ((with_reducible refine wpA_lit rfl _ _ _ rfl ?_); first | refine litA1 hL ?_ | refine litA2 hL ?_ | refine litA3 hL ?_ | refine litA4 hL ?_ | refine litA6 hL ?_) | ((with_reducible refine goJ rfl ?_); refine goP ?_))
      go_ret
      exact ⟨ret_bool (by simp), hL.below⟩
end Go.Proofs.YtmnoeoecjfhhbaaGreat
