/- ListMoved returns true. -/
import Derived.Test.YtmnoeoecjfhhbaaGreatLMs
import Derived.Test.YtmnoeoecjfhhbaaGreatLWi
import Derived.Test.YtmnoeoecjfhhbaaGreatIkW
-- lit6
-- loadP
-- layer 43
namespace Go.Proofs.YtmnoeoecjfhhbaaGreat
open Go.RowKit

def nearAll (dx dy : Int) (l : List Sg) : Bool := l.all fun s => nearS (moveS dx dy s)
def shErr (dx dy : Int) (l : List Sg) : Int := if nearAll dx dy l then 0 else 2
theorem maySF_near : ∀ {l : List Sg} {last : Int}, maySF last l = true → ∀ s ∈ l, nearS s = true
  | [], _, _, s, hs => by cases hs
  | a :: t, last, h, s, hs => by
    unfold maySF at h
    rw [Bool.and_eq_true] at h
    rcases List.mem_cons.1 hs with rfl | hs
    · have h1 := h.1
      unfold rightS at h1
      rw [Bool.and_eq_true] at h1
      exact h1.1
    · exact maySF_near h.2 s hs
theorem may_near {l : List Sg} (h : pathMay l = true) : ∀ s ∈ l, nearS s = true := by
  unfold pathMay at h
  rw [Bool.and_eq_true] at h
  exact maySF_near h.2
theorem nears_of {u v : Int} {l : List Sg} (h : pathMay l = true) (hn : nearAll (16 * u) (16 * v) l = true) : NearsAt u v l := fun s hs => ⟨may_near h s hs, by
  unfold nearAll at hn
  rw [List.all_eq_true] at hn
  exact hn s hs⟩
/-- what Shift says of a path that may -/
def ShOut (dx dy : Int) (l : List Sg) (w : World) (e : Ending) (w' : World) : Prop := ∃ xa xn xc, e = .returned (.tuple #[.slice xa xn xc, .int .i64 (shErr dx dy l)]) ∧ Below w.heap.size w w' ∧ Fresh w w' (fun w => nearAll dx dy l = true → SegsAt w (.slice xa xn xc) (l.map (moveS dx dy)))
theorem shiftAny_calls (w : World) (v : Value) (l : List Sg) (hv : SegsAt w v l) (dx dy : Int) (hd : -400 ≤ dx ∧ dx ≤ 400 ∧ -400 ≤ dy ∧ dy ≤ 400) (hm : pathMay l = true) : Calls Tryz.prog 32 #[v, .int .i64 dx, .int .i64 dy] w (ShOut dx dy l w) := by
  unfold ShOut shErr
  cases h : nearAll dx dy l with
  | true =>
    refine (shift_calls w v l hv dx dy hm fun s hs => ⟨may_near hm s hs, ?_⟩).mono ?_
    · unfold nearAll at h
      rw [List.all_eq_true] at h
      exact h s hs
    rintro e w' ⟨x, rfl, hb, hf⟩
    obtain ⟨xa, xc, rfl, _⟩ := SegsAt.parts hf.now
    exact ⟨xa, _, xc, rfl, hb, hf.mono fun w2 h2 _ => h2⟩
  | false =>
    refine (shiftNo_calls w v l hv dx dy hd hm (may_near hm) fun h2 => ?_).mono ?_
    · unfold nearAll at h
      rw [List.all_eq_false] at h
      obtain ⟨s, hs, h3⟩ := h
      obtain ⟨k, hk, rfl⟩ := List.getElem_of_mem hs
      have := h2 k hk
      rw [getD_in _ hk] at this
      exact h3 this
    rintro e w' ⟨rfl, hb⟩
    exact ⟨none, 0, 0, rfl, hb, Fresh.triv _ _ fun _ h => by cases h⟩
theorem tmod20 {z : Int} (h : -128 ≤ z ∧ z ≤ 127) : -19 ≤ z.tmod 20 ∧ z.tmod 20 ≤ 19 := by
  have h1 := Int.mul_tdiv_add_tmod z 20
  have h2 := Int.tmod_lt_of_pos z (show (0 : Int) < 20 by omega)
  rcases Int.le_total 0 z with h3 | h3
  · have := Int.tmod_nonneg 20 h3
    omega
  · have h4 := Int.tmod_lt_of_pos (-z) (show (0 : Int) < 20 by omega)
    have h5 := Int.tmod_nonneg 20 (show 0 ≤ -z by omega)
    rw [Int.neg_tmod] at h4 h5
    omega
/-- clips moved so far -/
def CMv (u v : Int) (l : List Clp) (els : List (List Value)) (w : World) : Prop := CEls w (l.map (moveClp u v)) els
theorem CMv.snoc {u v : Int} {l : List Clp} {c : Clp} {els : List (List Value)} {w : World} {pa : Option Addr} {n pc : Nat} (h : CMv u v l els w) (hp : SegsAt w (.slice pa n pc) (c.path.map (moveS (16 * u) (16 * v)))) : CMv u v (l ++ [c]) (els ++ [[.slice pa n pc, .int .i64 c.rule]]) w := by
  unfold CMv at *
  obtain ⟨pa', pc', e, _⟩ := SegsAt.parts hp
  cases e
  rw [List.map_append]
  exact CEls.snoc (c := moveClp u v c) h hp
/-- what region 16's readings need -/
def VM (w : World) (b3 b1 : Nat) (c3 c1 : Array Value) : Nat → World → Prop := fun k' w' => k' < 13 → Holds w w' [blk b3 c3 33, blk b1 c1 33] []
theorem exContJ {G : Prop} {P : Nat → Nat → Nat → World → Prop} (H : Nat → Nat → World → Prop) (h1 : (∀ b g c w8, H g c w8 → P b g c w8) → G) (h2 : ∀ b g c w8, H g c w8 → P b g c w8) : G := h1 h2
theorem mayItm_path {A : Itm} (h : mayItm A = true) (hk : A.kind = 1 ∨ A.kind = 2) : pathMay A.path = true := by
  rcases (mayItm_kind h).2 with ⟨_, h1, _⟩ | ⟨_, h1, _⟩ | ⟨h0, _⟩
  · exact h1
  · unfold straightS at h1
    rw [Bool.and_eq_true] at h1
    exact h1.1
  · omega
theorem mayItm_kinds {A : Itm} (h : mayItm A = true) : A.kind = 1 ∨ A.kind = 2 ∨ A.kind = 3 ∨ A.kind = 4 := by
  rcases (mayItm_kind h).2 with ⟨h1, _⟩ | ⟨h1, _⟩ | ⟨h0, _⟩ <;> omega
set_option maxRecDepth 100000 in
set_option maxHeartbeats 64000000 in
theorem listMoved_calls (w : World) (v : Value) (A : Itm) (ha : ItmIs w v A) (z1 z2 z3 z4 : Int) (h1 : -128 ≤ z1 ∧ z1 ≤ 127) (h2 : -128 ≤ z2 ∧ z2 ≤ 127) (h3 : 0 ≤ z3 ∧ z3 ≤ 255) (h4 : 0 ≤ z4 ∧ z4 ≤ 255) : Calls Tryz.prog 10 #[v, .int .i8 z1, .int .i8 z2, .int .u8 z3, .int .u8 z4] w fun e w' => e = .returned (.bool true) ∧ Below w.heap.size w w' := by
  obtain ⟨W, hX, hX1, hX2⟩ : ∃ W : Nat, 1 + z3 % 30 = (W : Int) ∧ 1 ≤ W ∧ W ≤ 30 := ⟨(1 + z3 % 30).toNat, by omega, by omega, by omega⟩
  obtain ⟨H, hY, hY1, hY2⟩ : ∃ H : Nat, 1 + z4 % 30 = (H : Int) ∧ 1 ≤ H ∧ H ≤ 30 := ⟨(1 + z4 % 30).toNat, by omega, by omega, by omega⟩
  have r3 : z3.tmod 30 = z3 % 30 := Int.tmod_eq_emod_of_nonneg (by omega)
  have r4 : z4.tmod 30 = z4 % 30 := Int.tmod_eq_emod_of_nonneg (by omega)
  have w1 : IntKind.i64.wrap z1 = z1 := wrapS (by omega) (by omega)
  have w2 : IntKind.i64.wrap z2 = z2 := wrapS (by omega) (by omega)
  have w3 : IntKind.i64.wrap z3 = z3 := wrapS (by omega) (by omega)
  have w4 : IntKind.i64.wrap z4 = z4 := wrapS (by omega) (by omega)
  obtain ⟨U, r1, hU1, hU2⟩ : ∃ U, z1.tmod 20 = U ∧ -19 ≤ U ∧ U ≤ 19 := ⟨_, rfl, tmod20 h1⟩
  obtain ⟨V, r2, hV1, hV2⟩ : ∃ V, z2.tmod 20 = V ∧ -19 ≤ V ∧ V ≤ 19 := ⟨_, rfl, tmod20 h2⟩
  have w5 : IntKind.i64.wrap (16 * U) = 16 * U := wrapS (by omega) (by omega)
  have w6 : IntKind.i64.wrap (16 * V) = 16 * V := wrapS (by omega) (by omega)
  have hs : Sides W H := ⟨hX1, by omega, hY1, by omega⟩
  obtain ⟨pa, pc, ca, cc, rfl, lp, lc, hA⟩ := ha.pt
  have HFw := Lib.hid (fun w' v l (hv : ItmsAt w' v l) => few_calls w' v l hv)
  have HI1 := Lib.hid (fun (w' : World) (M : List Res) (Φ : List (World → Prop)) (b : Nat) (cs : Array Value) (T : TypeId) (hL : Holds w w' M Φ) (k : At M (blk b cs T)) (e : cs.toList = itmC (.slice pa A.path.length pc) (.slice ca A.clips.length cc) A) => items_one hL k hA e)
  have HMy := Lib.hid (fun w' (hb' : Below w.heap.size w w') => listMay_calls w' _ A (ha.below hb'))
  have HMA := Lib.hid (fun (h : mayItm A = true) w' (hb' : Below w.heap.size w w') => listMark_calls wayLine hs w' _ A (ha.below hb') h)
  have HSp := Lib.hid (fun (hp : pathMay A.path = true) w' (hb : Below w.heap.size w w') => shiftAny_calls w' _ A.path (SliceAt.below hA.1 hb) (16 * U) (16 * V) (by omega) hp)
  have HG := Lib.hid (fun k (hk : k < A.clips.length) => ClpsAt.get hA.2.1 hk)
  have HSc := Lib.hid (fun (hm : mayItm A = true) k (hk : k < A.clips.length) w' (v' : Value) (hv : SegsAt w' v' (A.clips.getD k default).path) => shiftAny_calls w' v' _ hv (16 * U) (16 * V) (by omega) (mayItm_clip hm (by rw [getD_in _ hk]; exact List.getElem_mem hk)).1)
  have HMm := Lib.hid (fun w' (hb' : Below w.heap.size w w') (xa : Option Addr) (xn xc : Nat) (ma : Option Addr) (mn mc : Nat) (hp : SegsAt w' (.slice xa xn xc) (moveI U V A).path) (hc : ClpsAt w' (.slice ma mn mc) (moveI U V A).clips) (hm : mayItm (moveI U V A) = true) => show Calls Tryz.prog 15 #[.agg (itmA (.slice xa xn xc) (.slice ma mn mc) A), .int .i64 W, .int .i64 H, .int .i64 0] w' (PixOut W H (markP (moveI U V A)) w') from listMark_calls (wayPoint 0 (by decide)) hs w' _ (moveI U V A) (ItmPt.is (vp := .slice xa xn xc) (vc := .slice ma mn mc) (i := moveI U V A) ⟨hp, hc, hA.2.2⟩) hm)
  have HHs := Lib.hid (fun w' (v : Value) (p : Nat → Nat → Bool) (h : RegAt w' v (pixReg W H p)) i j => pixRHas_calls hs w' v p h i j)
  clear ha hA
  unfold maxLen at lp lc
  have hL := Holds.start w
  unfold itmA at HMm
  unfold itmV at *
  obtain ⟨n1, n2, n3, n4, n5⟩ := tok5
  go_enter Tryz.func10, Tryz.ntmps10
  go_wp2_with (first | (go_at_call 11; (with_reducible refine (known_calls _).mono ?_); rintro e _ ⟨rfl, hb⟩; replace hL := hL.call hb; clear hb) | (with_reducible first | (clear hL; intro _ _ _ hL; try dsimp only at hL) | (clear hL n1; intro b1 w1 hL) | (clear hL n2; intro b2 w2 hL) | (clear hL n3; intro b3 w3 hL) | (clear hL n4; intro b4 w4 hL) | (clear hL n5; intro b5 w5 hL) | (clear hL; intro _ _ hL) | (clear hL; intro _ hL)) | ((with_reducible refine wpA_lit rfl _ _ _ rfl ?_); first | refine litA1 hL ?_ | refine litA2 hL ?_ | refine litA3 hL ?_ | refine litA4 hL ?_ | refine litA6 hL ?_) | ((with_reducible refine goJ rfl ?_); refine goP ?_))
  have hI := HI1.out _ _ _ _ _ _ hL .here rfl
  refine (HFw.out _ _ _ hI).mono ?_
  clear hI
  rintro e _ ⟨⟨bf, rfl, _⟩, hb⟩
  replace hL := hL.call hb
  clear hb
  cases bf
  · go_wp2_with (first | (with_reducible first | (clear hL; intro _ _ _ hL; try dsimp only at hL) | (clear hL n1; intro b1 w1 hL) | (clear hL n2; intro b2 w2 hL) | (clear hL n3; intro b3 w3 hL) | (clear hL n4; intro b4 w4 hL) | (clear hL n5; intro b5 w5 hL) | (clear hL; intro _ _ hL) | (clear hL; intro _ hL)) | ((with_reducible refine wpA_lit rfl _ _ _ rfl ?_); first | refine litA1 hL ?_ | refine litA2 hL ?_ | refine litA3 hL ?_ | refine litA4 hL ?_ | refine litA6 hL ?_) | ((with_reducible refine goJ rfl ?_); refine goP ?_))
    go_ret
    exact ⟨rfl, hL.below⟩
  cases hm : mayItm A with
  | false =>
    rw [hm] at HMy
    go_wp2_with (first | (go_at_call 18; (with_reducible refine (HMy.out _ hL.below).mono ?_); rintro e _ ⟨rfl, hb⟩; replace hL := hL.call hb; clear hb) | (with_reducible first | (clear hL; intro _ _ _ hL; try dsimp only at hL) | (clear hL n1; intro b1 w1 hL) | (clear hL n2; intro b2 w2 hL) | (clear hL n3; intro b3 w3 hL) | (clear hL n4; intro b4 w4 hL) | (clear hL n5; intro b5 w5 hL) | (clear hL; intro _ _ hL) | (clear hL; intro _ hL)) | ((with_reducible refine wpA_lit rfl _ _ _ rfl ?_); first | refine litA1 hL ?_ | refine litA2 hL ?_ | refine litA3 hL ?_ | refine litA4 hL ?_ | refine litA6 hL ?_) | ((with_reducible refine goJ rfl ?_); refine goP ?_))
    go_ret
    exact ⟨rfl, hL.below⟩
  | true =>
    rw [hm] at HMy
    have hkd := mayItm_kinds hm
    by_cases hk2 : 2 < A.kind
    · have d2 : decide (2 < A.kind) = true := decide_eq_true hk2
      go_wp2_with (first | (go_at_call 18; (with_reducible refine (HMy.out _ hL.below).mono ?_); rintro e _ ⟨rfl, hb⟩; replace hL := hL.call hb; clear hb) | (with_reducible first | (clear hL; intro _ _ _ hL; try dsimp only at hL) | (clear hL n1; intro b1 w1 hL) | (clear hL n2; intro b2 w2 hL) | (clear hL n3; intro b3 w3 hL) | (clear hL n4; intro b4 w4 hL) | (clear hL n5; intro b5 w5 hL) | (clear hL; intro _ _ hL) | (clear hL; intro _ hL)) | ((with_reducible refine wpA_lit rfl _ _ _ rfl ?_); first | refine litA1 hL ?_ | refine litA2 hL ?_ | refine litA3 hL ?_ | refine litA4 hL ?_ | refine litA6 hL ?_) | ((with_reducible refine goJ rfl ?_); refine goP ?_))
      go_ret
      exact ⟨rfl, hL.below⟩
    have d2 : decide (2 < A.kind) = false := decide_eq_false hk2
    have hk3 : A.kind = 1 ∨ A.kind = 2 := by omega
    have Hk3 := Lib.hid hk3
    have hc10 := (mayItm_len hm).2.1
    have HSP := Lib.hid (HSp.out (mayItm_path hm hk3))
    have HSC := Lib.hid (HSc.out hm)
    have HA := Lib.hid (HMA.out hm)
    have Hm := Lib.hid hm
    clear hm HMA HFw HI1 HSp HSc hkd hk3
    go_wp2_with (first | (go_at_call 18; (with_reducible refine (HMy.out _ hL.below).mono ?_); rintro e _ ⟨rfl, hb⟩; replace hL := hL.call hb; clear hb) | (go_at_call 32; (with_reducible refine (HSP.out _ hL.below).mono ?_); rintro e _ ⟨xa, xn, xc, rfl, hb, hf⟩; replace hL := hL.callF hb hf; clear hb hf) | (with_reducible first | (clear hL; intro _ _ _ hL; try dsimp only at hL) | (clear hL n1; intro b1 w1 hL) | (clear hL n2; intro b2 w2 hL) | (clear hL n3; intro b3 w3 hL) | (clear hL n4; intro b4 w4 hL) | (clear hL n5; intro b5 w5 hL) | (clear hL; intro _ _ hL) | (clear hL; intro _ hL)) | ((with_reducible refine wpA_lit rfl _ _ _ rfl ?_); first | refine litA1 hL ?_ | refine litA2 hL ?_ | refine litA3 hL ?_ | refine litA4 hL ?_ | refine litA6 hL ?_) | ((with_reducible refine goJ rfl ?_); refine goP ?_))
    replace hL := hL.drop (.there .here)
    go_loopw [16] (fun s16 wr => ∃ (k : Nat) (ma : Option Addr) (mc : Nat) (els : List (List Value)), k ≤ A.clips.length ∧ s16 = .int .i64 k ∧ els.length = k ∧ (∀ j, j < k → nearAll (16 * U) (16 * V) (A.clips.getD j default).path = true) ∧
        Holds w wr [own w.heap.size 71 2 (.slice ma k mc) k els.flatten, blk b3 (itmA (.slice xa xn xc) (.slice ma k mc) A) 33, blk b1 (itmA (.slice pa A.path.length pc) (.slice ca A.clips.length cc) A) 33] [CMv U V (A.clips.take k) els, fun w => nearAll (16 * U) (16 * V) A.path = true → SegsAt w (.slice xa xn xc) (A.path.map (moveS (16 * U) (16 * V)))])
      (fun s16 wr => A.clips.length - (intOf s16).toNat)
    case atStart => exact ⟨0, none, 0, [], by omega, rfl, rfl, fun j hj => absurd hj (by omega), (hL.triv (fun _ => ⟨rfl, fun k hk => absurd hk (Nat.not_lt_zero k)⟩)).newOwn⟩
    case round =>
      clear hL
      obtain ⟨kk, ma, mc, els, hk, rfl, hel, hnr, hL⟩ := hrel
      unfold itmA at hL
      by_cases hkt : kk < A.clips.length
      · have hkb : (kk : Int) < (A.clips.length : Int) := by omega
        obtain ⟨cb, co, pa', pc', rfl, hr, hsg, hp2, hp1⟩ := HG.out kk hkt
        have HSk := Lib.hid (fun w' (hb : Below w.heap.size w w') => HSC.out kk hkt w' _ (SliceAt.below hsg hb))
        have e0 : w.cell? ⟨cb, co + kk * 2, none⟩ = some (.slice pa' (A.clips.getD kk default).path.length pc') := hr 0 _ rfl
        have e1 : w.cell? ⟨cb, co + kk * 2 + 1, none⟩ = some (.int .i64 (A.clips.getD kk default).rule) := hr 1 _ rfl
        have Htk := Lib.hid (show A.clips.take (kk + 1) = A.clips.take kk ++ [A.clips.getD kk default] by rw [List.take_succ_eq_append_getElem hkt, getD_in _ hkt])
        have Hnr := Lib.hid (show nearAll (16 * U) (16 * V) (A.clips.getD kk default).path = true → ∀ j, j < kk + 1 → nearAll (16 * U) (16 * V) (A.clips.getD j default).path = true from fun h j hj => by
          by_cases e : j = kk
          · subst e; exact h
          · exact hnr j (by omega))
        have Hel := Lib.hid hel
        clear hr hsg hnr
        unfold ShOut shErr at HSk
        generalize A.clips.getD kk default = c at *
        unfold maxLen at hp2
        cases hn : nearAll (16 * U) (16 * V) c.path with
        | false =>
          rw [hn] at HSk
          have HSk2 := Lib.hid (fun w' hb => HSk.out w' hb)
          clear HSk
          simp only [if_neg Bool.false_ne_true] at HSk2
          go_wp2_with (first | (go_at_call 32; (with_reducible refine (HSk2.out _ hL.below).mono ?_); rintro e _ ⟨ya, yn, yc, rfl, hb, hf⟩; replace hL := hL.call hb; clear hb hf) | (with_reducible first | (clear hL; intro _ _ _ hL; try dsimp only at hL) | (clear hL n1; intro b1 w1 hL) | (clear hL n2; intro b2 w2 hL) | (clear hL n3; intro b3 w3 hL) | (clear hL n4; intro b4 w4 hL) | (clear hL n5; intro b5 w5 hL) | (clear hL; intro _ _ hL) | (clear hL; intro _ hL)) | ((with_reducible refine wpA_lit rfl _ _ _ rfl ?_); first | refine litA1 hL ?_ | refine litA2 hL ?_ | refine litA3 hL ?_ | refine litA4 hL ?_ | refine litA6 hL ?_) | ((with_reducible refine goJ rfl ?_); refine goP ?_))
          go_ret
          exact ⟨ret_bool (by simp), hL.below⟩
        | true =>
          rw [hn] at HSk
          have HSk2 := Lib.hid (fun w' hb => HSk.out w' hb)
          clear HSk
          simp only [if_true, true_imp_iff] at HSk2
          have Hnk := Lib.hid (Hnr.out hn)
          clear hn Hnr
          go_wp2_with (first | (go_at_call 32; (with_reducible refine (HSk2.out _ hL.below).mono ?_); rintro e _ ⟨ya, yn, yc, rfl, hb, hf⟩; replace hL := hL.callF hb hf; clear hb hf) | (with_reducible first | (clear hL; intro _ _ _ hL; try dsimp only at hL) | (clear hL n1; intro b1 w1 hL) | (clear hL n2; intro b2 w2 hL) | (clear hL n3; intro b3 w3 hL) | (clear hL n4; intro b4 w4 hL) | (clear hL n5; intro b5 w5 hL) | (clear hL; intro _ _ hL) | (clear hL; intro _ hL)) | ((with_reducible refine wpA_lit rfl _ _ _ rfl ?_); first | refine litA1 hL ?_ | refine litA2 hL ?_ | refine litA3 hL ?_ | refine litA4 hL ?_ | refine litA6 hL ?_) | ((with_reducible refine goJ rfl ?_); refine goP ?_))
          replace hL := hL.join (χ := CMv U V (A.clips.take kk ++ [c]) (els ++ [[.slice ya yn yc, .int .i64 c.rule]])) fun w hA hB => hB.snoc hA
          apply exContJ (fun g c8 w8 => Holds w w8 [own w.heap.size 71 2 (.slice (some ⟨g, 0, none⟩) (kk + 1) c8) (kk + 1) (els.flatten ++ [.slice ya yn yc, .int .i64 c.rule]), blk b3 (itmA (.slice xa xn xc) (.slice (some ⟨g, 0, none⟩) (kk + 1) c8) A) 33, blk b1 (itmA (.slice pa A.path.length pc) (.slice (some ⟨cb, co, none⟩) A.clips.length cc) A) 33] [CMv U V (A.clips.take kk ++ [c]) (els ++ [[.slice ya yn yc, .int .i64 c.rule]]), fun w => nearAll (16 * U) (16 * V) A.path = true → SegsAt w (.slice xa xn xc) (A.path.map (moveS (16 * U) (16 * V)))])
          · intro hC
            replace hL := hL.drew
            have hV : ∀ k, (VM w b3 b1 (itmA (.slice xa xn xc) (.slice ma kk mc) A) (itmA (.slice pa A.path.length pc) (.slice (some ⟨cb, co, none⟩) A.clips.length cc) A)) k _ := fun kk' _ => (hL.drop .here).forget.forget
            refine wpV_begin (by kernel_rfl) (VM w b3 b1 (itmA (.slice xa xn xc) (.slice ma kk mc) A) (itmA (.slice pa A.path.length pc) (.slice (some ⟨cb, co, none⟩) A.clips.length cc) A)) 13 ?_
            refine stV (i := 0) ?_ (fun k _ => hV k) (fun w' hw => ?_) ?_ (by repeat (first | exact pinned_none | refine pinned_put ?_)); rotate_left; (· (try replace hw := hw (by decide); unfold itmA at hw); go_simp; try with_reducible rfl)
            simp only [Act.put, setP]
            refine stV (i := 1) ?_ (fun k _ => hV k) (fun w' hw => ?_) ?_ (by repeat (first | exact pinned_none | refine pinned_put ?_)); rotate_left; (· (try replace hw := hw (by decide); unfold itmA at hw); refine run_loadOp _ _ rfl _ rfl _ ?_; (first | refine loadA hw ?_ | refine loadU hw ?_ | refine loadR hw ?_ | refine loadP hw ?_ | refine loadC hw ?_ | refine loadE hw ?_ | refine loadD ?_ | refine loadF ?_); rfl)
            simp only [Act.put, setP]
            refine stV (i := 2) ?_ (fun k _ => hV k) (fun w' hw => ?_) ?_ (by repeat (first | exact pinned_none | refine pinned_put ?_)); rotate_left; (· (try replace hw := hw (by decide); unfold itmA at hw); go_simp; try with_reducible rfl)
            simp only [Act.put, setP]
            refine stV (i := 3) ?_ (fun k _ => hV k) (fun w' hw => ?_) ?_ (by repeat (first | exact pinned_none | refine pinned_put ?_)); rotate_left; (· (try replace hw := hw (by decide); unfold itmA at hw); go_simp; try with_reducible rfl)
            simp only [Act.put, setP]
            refine stV (i := 4) ?_ (fun k _ => hV k) (fun w' hw => ?_) ?_ (by repeat (first | exact pinned_none | refine pinned_put ?_)); rotate_left; (· (try replace hw := hw (by decide); unfold itmA at hw); refine run_loadOp _ _ rfl _ rfl _ ?_; (first | refine loadA hw ?_ | refine loadU hw ?_ | refine loadR hw ?_ | refine loadP hw ?_ | refine loadC hw ?_ | refine loadE hw ?_ | refine loadD ?_ | refine loadF ?_); rfl)
            simp only [Act.put, setP]
            refine stV (i := 5) ?_ (fun k _ => hV k) (fun w' hw => ?_) ?_ (by repeat (first | exact pinned_none | refine pinned_put ?_)); rotate_left; (· (try replace hw := hw (by decide); unfold itmA at hw); go_simp; try with_reducible rfl)
            simp only [Act.put, setP]
            refine stV (i := 6) ?_ (fun k _ => hV k) (fun w' hw => ?_) ?_ (by repeat (first | exact pinned_none | refine pinned_put ?_)); rotate_left; (· (try replace hw := hw (by decide); unfold itmA at hw); go_simp; try with_reducible rfl)
            simp only [Act.put, setP]
            refine stV (i := 7) ?_ (fun k _ => hV k) (fun w' hw => ?_) ?_ (by repeat (first | exact pinned_none | refine pinned_put ?_)); rotate_left; (· (try replace hw := hw (by decide); unfold itmA at hw); go_simp; try with_reducible rfl)
            simp only [Act.put, setP]
            refine stV (i := 8) ?_ (fun k _ => hV k) (fun w' hw => ?_) ?_ (by repeat (first | exact pinned_none | refine pinned_put ?_)); rotate_left; (· (try replace hw := hw (by decide); unfold itmA at hw); refine run_loadOp _ _ rfl _ rfl _ ?_; (first | refine loadA hw ?_ | refine loadU hw ?_ | refine loadR hw ?_ | refine loadP hw ?_ | refine loadC hw ?_ | refine loadE hw ?_ | refine loadD ?_ | refine loadF ?_); rfl)
            simp only [Act.put, setP]
            refine stV (i := 9) ?_ (fun k _ => hV k) (fun w' hw => ?_) ?_ (by repeat (first | exact pinned_none | refine pinned_put ?_)); rotate_left; (· (try replace hw := hw (by decide); unfold itmA at hw); go_simp; try with_reducible rfl)
            simp only [Act.put, setP]
            refine wpV_one (i := 10) (by kernel_rfl) (wpOp_of (by simp only [List.getElem?_toArray, List.getElem?_cons_zero, List.getElem?_cons_succ]; rfl) ?_)
            refine st_lit rfl _ _ _ rfl (litA1 hL ?_)
            intro b60 w9 hL2
            clear hL; have hL := hL2; clear hL2
            have hV2 : ∀ k, (VM w b3 b1 (itmA (.slice xa xn xc) (.slice ma kk mc) A) (itmA (.slice pa A.path.length pc) (.slice (some ⟨cb, co, none⟩) A.clips.length cc) A)) k _ := fun kk' _ => (by first | exact (hL.drop .here).forget.forget | exact ((hL.drop .here).drop .here).forget.forget)
            clear hV
            have hV := hV2
            clear hV2
            refine ⟨fun k _ => hV k, ?_⟩
            simp only [Act.put, setP]
            refine wpV_one (i := 11) (by kernel_rfl) (wpOp_of (by simp only [List.getElem?_toArray, List.getElem?_cons_zero, List.getElem?_cons_succ]; rfl) ?_)
            refine st_append rfl _ _ _ rfl (.slice ma kk mc) (.slice (some ⟨b60, 0, none⟩) 1 1) rfl rfl (appendA hL ?_)
            intro g61 c61 w9 hL2
            clear hL; have hL := hL2; clear hL2; try dsimp only at hL
            have hV2 : ∀ k, (VM w b3 b1 (itmA (.slice xa xn xc) (.slice ma kk mc) A) (itmA (.slice pa A.path.length pc) (.slice (some ⟨cb, co, none⟩) A.clips.length cc) A)) k _ := fun kk' _ => (by first | exact (hL.drop .here).forget.forget | exact ((hL.drop .here).drop .here).forget.forget)
            clear hV
            have hV := hV2
            clear hV2
            refine ⟨fun k _ => hV k, ?_⟩
            simp only [Act.put, setP]
            refine stV (i := 12) ?_ (fun k _ => hV k) (fun w' hw => ?_) ?_ (by repeat (first | exact pinned_none | refine pinned_put ?_)); rotate_left; (· (try replace hw := hw (by decide); unfold itmA at hw); go_simp; try with_reducible rfl)
            simp only [Act.put, setP]
            refine wpV_one (i := 13) (by kernel_rfl) (wpOp_of (by simp only [List.getElem?_toArray, List.getElem?_cons_zero, List.getElem?_cons_succ]; rfl) ?_)
            refine st_store rfl _ _ _ rfl _ rfl (.slice _ _ _) rfl ?_
            first | refine storeA hL ?_ | refine storeO hL ?_ | refine storeR hL ?_
            try clear hV
            clear hL; intro w9 hL
            refine ⟨fun k9 hk9 hm9 => ?_, ?_⟩
            (· exact absurd hm9 (pinned_off 13 13 hk9 (by kernel_rfl) (by decide) (by kernel_rfl)))
            try simp only [Act.put]
            refine wpV_done (by kernel_rfl) ?_
            exact hC b60 g61 c61 _ hL
          intro b60 g61 c61 w8 hL
          go_wp2_with (first | (with_reducible first | (clear hL; intro _ _ _ hL; try dsimp only at hL) | (clear hL n1; intro b1 w1 hL) | (clear hL n2; intro b2 w2 hL) | (clear hL n3; intro b3 w3 hL) | (clear hL n4; intro b4 w4 hL) | (clear hL n5; intro b5 w5 hL) | (clear hL; intro _ _ hL) | (clear hL; intro _ hL)) | ((with_reducible refine wpA_lit rfl _ _ _ rfl ?_); first | refine litA1 hL ?_ | refine litA2 hL ?_ | refine litA3 hL ?_ | refine litA4 hL ?_ | refine litA6 hL ?_) | ((with_reducible refine goJ rfl ?_); refine goP ?_))
          go_roundw
          case rel => exact ⟨kk + 1, some ⟨g61, 0, none⟩, c61, els ++ [[.slice ya yn yc, .int .i64 c.rule]], by omega, by go_num, by rw [List.length_append, Hel.out]; rfl, Hnk.out, by rw [Htk.out, List.flatten_append]; exact hL⟩
          case measure => simp [intOf]; omega
      · have e : kk = A.clips.length := by omega
        subst e
        rw [List.take_length] at hL
        have Hel := Lib.hid hel
        cases hp0 : nearAll (16 * U) (16 * V) A.path with
        | false =>
          have e2 : shErr (16 * U) (16 * V) A.path = 2 := by unfold shErr; rw [hp0]; rfl
          clear hp0 hnr
          go_wp2_with (first | (with_reducible first | (clear hL; intro _ _ _ hL; try dsimp only at hL) | (clear hL n1; intro b1 w1 hL) | (clear hL n2; intro b2 w2 hL) | (clear hL n3; intro b3 w3 hL) | (clear hL n4; intro b4 w4 hL) | (clear hL n5; intro b5 w5 hL) | (clear hL; intro _ _ hL) | (clear hL; intro _ hL)) | ((with_reducible refine wpA_lit rfl _ _ _ rfl ?_); first | refine litA1 hL ?_ | refine litA2 hL ?_ | refine litA3 hL ?_ | refine litA4 hL ?_ | refine litA6 hL ?_) | ((with_reducible refine goJ rfl ?_); refine goP ?_))
          go_ret
          exact ⟨ret_bool (by simp), hL.below⟩
        | true =>
          have e2 : shErr (16 * U) (16 * V) A.path = 0 := by unfold shErr; rw [hp0]; rfl
          have HP0 := Lib.hid hp0
          have hNP : NearsAt U V A.path := nears_of (mayItm_path Hm.out Hk3.out) hp0
          have hNC : ∀ c ∈ A.clips, NearsAt U V c.path := fun c hc => nears_of (mayItm_clip Hm.out hc).1 (by
            obtain ⟨j, hj, rfl⟩ := List.getElem_of_mem hc
            have := hnr j hj
            rwa [getD_in _ hj] at this)
          have hmv := mayItm_moved Hm.out Hk3.out hNP hNC
          have HMM := Lib.hid (fun w' (hb : Below w.heap.size w w') hp hc => HMm.out w' hb xa xn xc ma A.clips.length mc hp hc hmv)
          have HK := Lib.hid (fun (j x j' x' : Nat) (hj : (j' : Int) = j + V) (hx : (x' : Int) = x + U) (b1 : j < 64) (b2 : x < 64) (b3 : j' < 64) (b4 : x' < 64) => markP_moved Hm.out Hk3.out hNP hNC hj hx b1 b2 b3 b4)
          have HOc := Lib.hid (fun (w' : World) (M : List Res) (Φ : List (World → Prop)) (hL : Holds w w' M Φ) (k : At M (own w.heap.size 71 2 (.slice ma A.clips.length mc) A.clips.length els.flatten)) (h : CMv U V A.clips els w') => CEls.clips h (own_sliceAt (hL.at k) Hel.out.symm rfl h.len))
          clear hp0 hnr hNP hNC hmv
          go_wp2_with (first | (go_at_call 15; (first | ((with_reducible refine (HA.out _ hL.below).mono ?_); rintro e _ ⟨sa, sn, sc, rfl, hb, hf⟩) | ((refine (HMM.out _ hL.below (hL.fact2 HP0.out) (HOc.out _ _ _ hL (.there .here) hL.fact1)).mono ?_); rintro e _ ⟨ta, tn, tc, rfl, hb, hf⟩)); replace hL := hL.callF hb hf; clear hb hf) | (with_reducible first | (clear hL; intro _ _ _ hL; try dsimp only at hL) | (clear hL n1; intro b1 w1 hL) | (clear hL n2; intro b2 w2 hL) | (clear hL n3; intro b3 w3 hL) | (clear hL n4; intro b4 w4 hL) | (clear hL n5; intro b5 w5 hL) | (clear hL; intro _ _ hL) | (clear hL; intro _ hL)) | ((with_reducible refine wpA_lit rfl _ _ _ rfl ?_); first | refine litA1 hL ?_ | refine litA2 hL ?_ | refine litA3 hL ?_ | refine litA4 hL ?_ | refine litA6 hL ?_) | ((with_reducible refine goJ rfl ?_); refine goP ?_))
          replace hL := ((hL.drop (.there (.there .here))).drop (.there (.there .here))).drop (.there (.there .here))
          go_loopw [25] (fun s25 wr => ∃ k : Nat, k ≤ W * H ∧ s25 = .int .i64 k ∧ Holds w wr [blk b5 #[.int .i64 W, .int .i64 H, .slice ta tn tc] 39, blk b4 #[.int .i64 W, .int .i64 H, .slice sa sn sc] 39] [RegE W H ta tn tc (markP (moveI U V A)), RegE W H sa sn sc (markP A), CMv U V A.clips els, fun w => nearAll (16 * U) (16 * V) A.path = true → SegsAt w (.slice xa xn xc) (A.path.map (moveS (16 * U) (16 * V)))])
            (fun s25 wr => W * H - (intOf s25).toNat)
          case atStart => exact ⟨0, by omega, rfl, hL⟩
          case round =>
            clear hL
            obtain ⟨k, hk, rfl, hL⟩ := hrel
            have hWH : W * H ≤ 900 := Nat.mul_le_mul hX2 hY2
            have wWH : IntKind.i64.wrap ((W : Int) * (H : Int)) = ((W * H : Nat) : Int) := by rw [← Int.natCast_mul]; exact wrapS (by omega) (by omega)
            generalize hN : W * H = N at *
            by_cases hkt : k < N
            · have hkb : (k : Int) < (N : Int) := by omega
              obtain ⟨x, hx⟩ : ∃ x, k % W = x := ⟨_, rfl⟩
              obtain ⟨y, hy⟩ : ∃ y, k / W = y := ⟨_, rfl⟩
              have hxW : x < W := by rw [← hx]; exact Nat.mod_lt _ (by omega)
              have hyH : y < H := by rw [← hy]; exact Nat.div_lt_of_lt_mul (by omega)
              have rx : (k : Int).tmod (W : Int) = (x : Int) := by rw [Int.tmod_eq_emod_of_nonneg (by omega), ← hx]; simp
              have ry : (k : Int).tdiv (W : Int) = (y : Int) := by rw [Int.tdiv_eq_ediv_of_nonneg (by omega), ← hy]; simp
              have wy : IntKind.i64.wrap (y : Int) = (y : Int) := wrapS (by omega) (by omega)
              have W0 : ¬ (W : Int) = 0 := by omega
              have W1 : ¬ W = 0 := by omega
              have wxu : IntKind.i64.wrap ((x : Int) + U) = (x : Int) + U := wrapS (by omega) (by omega)
              have wyv : IntKind.i64.wrap ((y : Int) + V) = (y : Int) + V := wrapS (by omega) (by omega)
              clear hx hy
              rcases (by omega : ¬ 0 ≤ (x : Int) + U ∨ (0 ≤ (x : Int) + U ∧ ¬ (x : Int) + U < (W : Int)) ∨ (0 ≤ (x : Int) + U ∧ (x : Int) + U < (W : Int) ∧ ¬ 0 ≤ (y : Int) + V) ∨ (0 ≤ (x : Int) + U ∧ (x : Int) + U < (W : Int) ∧ 0 ≤ (y : Int) + V ∧ ¬ (y : Int) + V < (H : Int)) ∨ (0 ≤ (x : Int) + U ∧ (x : Int) + U < (W : Int) ∧ 0 ≤ (y : Int) + V ∧ (y : Int) + V < (H : Int))) with g1 | ⟨g1, g2⟩ | ⟨g1, g2, g3⟩ | ⟨g1, g2, g3, g4⟩ | ⟨g1, g2, g3, g4⟩
              · have c1 : decide (0 ≤ (x : Int) + U) = false := decide_eq_false g1
                have HH1 := Lib.hid (fun w' (v : Value) (h : RegAt w' v (pixReg W H (markP A))) => HHs.out w' v _ h (x : Int) (y : Int))
                have HH2 := Lib.hid (fun w' (v : Value) (h : RegAt w' v (pixReg W H (markP (moveI U V A)))) => HHs.out w' v _ h ((x : Int) + U) ((y : Int) + V))
                go_wp2_with (first | (with_reducible first | (clear hL; intro _ _ _ hL; try dsimp only at hL) | (clear hL n1; intro b1 w1 hL) | (clear hL n2; intro b2 w2 hL) | (clear hL n3; intro b3 w3 hL) | (clear hL n4; intro b4 w4 hL) | (clear hL n5; intro b5 w5 hL) | (clear hL; intro _ _ hL) | (clear hL; intro _ hL)) | ((with_reducible refine wpA_lit rfl _ _ _ rfl ?_); first | refine litA1 hL ?_ | refine litA2 hL ?_ | refine litA3 hL ?_ | refine litA4 hL ?_ | refine litA6 hL ?_) | ((with_reducible refine goJ rfl ?_); refine goP ?_))
                refine wpH_holds (by kernel_rfl) hL fun hS => ?_
                replace hL := hS
                refine deH 0 hS ?_
                refine deH 1 hS ?_
                refine deH 2 hS ?_
                refine deH 3 hS ?_
                refine deH 4 hS ?_
                refine deH 5 hS ?_
                refine deH 6 hS ?_
                refine deH 7 hS ?_
                refine wpAnyH_done (by kernel_rfl) ?_ _
                clear hS
                go_wp2_with (first | (with_reducible first | (clear hL; intro _ _ _ hL; try dsimp only at hL) | (clear hL n1; intro b1 w1 hL) | (clear hL n2; intro b2 w2 hL) | (clear hL n3; intro b3 w3 hL) | (clear hL n4; intro b4 w4 hL) | (clear hL n5; intro b5 w5 hL) | (clear hL; intro _ _ hL) | (clear hL; intro _ hL)) | ((with_reducible refine wpA_lit rfl _ _ _ rfl ?_); first | refine litA1 hL ?_ | refine litA2 hL ?_ | refine litA3 hL ?_ | refine litA4 hL ?_ | refine litA6 hL ?_) | ((with_reducible refine goJ rfl ?_); refine goP ?_))
                refine wpH_holds (by kernel_rfl) hL fun hS => ?_
                replace hL := hS
                refine deH 0 hS ?_
                refine deH 1 hS ?_
                refine deH 2 hS ?_
                refine deH 3 hS ?_
                refine deH 4 hS ?_
                first | (refine stH (i := 5) ?_ hS (fun w' hw => ?_) ?_; rotate_left; (· go_simp; try with_reducible rfl)) | refine skH (i := 5) hS ?_
                simp only [Act.put, setP]
                first | (refine stH (i := 6) ?_ hS (fun w' hw => ?_) ?_; rotate_left; (· go_simp; try with_reducible rfl)) | refine skH (i := 6) hS ?_
                simp only [Act.put, setP]
                first | (refine stH (i := 7) ?_ hS (fun w' hw => ?_) ?_; rotate_left; (· go_simp; try with_reducible rfl)) | refine skH (i := 7) hS ?_
                simp only [Act.put, setP]
                first | (refine stH (i := 8) ?_ hS (fun w' hw => ?_) ?_; rotate_left; (· go_simp; try with_reducible rfl)) | refine skH (i := 8) hS ?_
                simp only [Act.put, setP]
                first | (refine stH (i := 9) ?_ hS (fun w' hw => ?_) ?_; rotate_left; (· go_simp; try with_reducible rfl)) | refine skH (i := 9) hS ?_
                simp only [Act.put, setP]
                refine deH 10 hS ?_
                refine deH 11 hS ?_
                first | (refine stH (i := 12) ?_ hS (fun w' hw => ?_) ?_; rotate_left; (· go_simp; try with_reducible rfl)) | refine skH (i := 12) hS ?_
                simp only [Act.put, setP]
                first | (refine stH (i := 13) ?_ hS (fun w' hw => ?_) ?_; rotate_left; (· go_simp; try with_reducible rfl)) | refine skH (i := 13) hS ?_
                simp only [Act.put, setP]
                first | (refine stH (i := 14) ?_ hS (fun w' hw => ?_) ?_; rotate_left; (· go_simp; try with_reducible rfl)) | refine skH (i := 14) hS ?_
                simp only [Act.put, setP]
                first | (refine stH (i := 15) ?_ hS (fun w' hw => ?_) ?_; rotate_left; (· go_simp; try with_reducible rfl)) | refine skH (i := 15) hS ?_
                simp only [Act.put, setP]
                refine deH 16 hS ?_
                refine deH 17 hS ?_
                first | (refine stH (i := 18) ?_ hS (fun w' hw => ?_) ?_; rotate_left; (· go_simp; try with_reducible rfl)) | refine skH (i := 18) hS ?_
                simp only [Act.put, setP]
                first | (refine stH (i := 19) ?_ hS (fun w' hw => ?_) ?_; rotate_left; (· go_simp; try with_reducible rfl)) | refine skH (i := 19) hS ?_
                simp only [Act.put, setP]
                first | (refine stH (i := 20) ?_ hS (fun w' hw => ?_) ?_; rotate_left; (· go_simp; try with_reducible rfl)) | refine skH (i := 20) hS ?_
                simp only [Act.put, setP]
                first | (refine stH (i := 21) ?_ hS (fun w' hw => ?_) ?_; rotate_left; (· go_simp; try with_reducible rfl)) | refine skH (i := 21) hS ?_
                simp only [Act.put, setP]
                first | (refine stH (i := 22) ?_ hS (fun w' hw => ?_) ?_; rotate_left; (· go_simp; try with_reducible rfl)) | refine skH (i := 22) hS ?_
                simp only [Act.put, setP]
                refine deH 23 hS ?_
                refine deH 24 hS ?_
                first | (refine stH (i := 25) ?_ hS (fun w' hw => ?_) ?_; rotate_left; (· refine run_loadOp _ _ rfl _ rfl _ ?_; (first | refine loadA hw ?_ | refine loadU hw ?_ | refine loadR hw ?_ | refine loadP hw ?_ | refine loadC hw ?_ | refine loadE hw ?_ | refine loadD ?_ | refine loadF ?_); rfl)) | refine skH (i := 25) hS ?_
                simp only [Act.put, setP]
                first | (refine stH (i := 26) ?_ hS (fun w' hw => ?_) ?_; rotate_left; (· go_simp; try with_reducible rfl)) | refine skH (i := 26) hS ?_
                simp only [Act.put, setP]
                first | (refine stH (i := 27) ?_ hS (fun w' hw => ?_) ?_; rotate_left; (· go_simp; try with_reducible rfl)) | refine skH (i := 27) hS ?_
                simp only [Act.put, setP]
                first | (refine stH (i := 29) ?_ hS (fun w' hw => ?_) ?_; rotate_left; (· refine run_loadOp _ _ rfl _ rfl _ ?_; (first | refine loadA hw ?_ | refine loadU hw ?_ | refine loadR hw ?_ | refine loadP hw ?_ | refine loadC hw ?_ | refine loadE hw ?_ | refine loadD ?_ | refine loadF ?_); rfl)) | refine skH (i := 29) hS ?_
                simp only [Act.put, setP]
                first | (refine stH (i := 30) ?_ hS (fun w' hw => ?_) ?_; rotate_left; (· go_simp; try with_reducible rfl)) | refine skH (i := 30) hS ?_
                simp only [Act.put, setP]
                first | (refine stH (i := 31) ?_ hS (fun w' hw => ?_) ?_; rotate_left; (· go_simp; try with_reducible rfl)) | refine skH (i := 31) hS ?_
                simp only [Act.put, setP]
                first | (refine stH (i := 32) ?_ hS (fun w' hw => ?_) ?_; rotate_left; (· go_simp; try with_reducible rfl)) | refine skH (i := 32) hS ?_
                simp only [Act.put, setP]
                first | (refine stH (i := 33) ?_ hS (fun w' hw => ?_) ?_; rotate_left; (· go_simp; try with_reducible rfl)) | refine skH (i := 33) hS ?_
                simp only [Act.put, setP]
                first | (refine stH (i := 34) ?_ hS (fun w' hw => ?_) ?_; rotate_left; (· go_simp; try with_reducible rfl)) | refine skH (i := 34) hS ?_
                simp only [Act.put, setP]
                first | (refine stH (i := 35) ?_ hS (fun w' hw => ?_) ?_; rotate_left; (· go_simp; try with_reducible rfl)) | refine skH (i := 35) hS ?_
                simp only [Act.put, setP]
                first | (refine skH (i := 28) hS ?_; simp only [Act.put, setP]) | (refine wpH_one (i := 28) (by kernel_rfl) (wpOp_of (by simp only [List.getElem?_toArray, List.getElem?_cons_zero, List.getElem?_cons_succ]; rfl) ?_); refine st_call rfl _ _ ?_ (HH1.out _ _ hL.fact1) ?_; (· go_simp; try with_reducible rfl); rintro e _ ⟨rfl, hb⟩; replace hL := hL.call hb; replace hS := hS.call hb; clear hb; refine ⟨_, rfl, hS, ?_⟩; simp only [Act.put, setP])
                first | (refine skH (i := 36) hS ?_; simp only [Act.put, setP]) | (refine wpH_one (i := 36) (by kernel_rfl) (wpOp_of (by simp only [List.getElem?_toArray, List.getElem?_cons_zero, List.getElem?_cons_succ]; rfl) ?_); refine st_call rfl _ _ ?_ (HH2.out _ _ hL.fact0) ?_; (· go_simp; try with_reducible rfl); rintro e _ ⟨rfl, hb⟩; replace hL := hL.call hb; replace hS := hS.call hb; clear hb; refine ⟨_, rfl, hS, ?_⟩; simp only [Act.put, setP])
                first | (refine stH (i := 37) ?_ hS (fun w' hw => ?_) ?_; rotate_left; (· go_simp; try with_reducible rfl)) | refine skH (i := 37) hS ?_
                simp only [Act.put, setP]
                refine deH 38 hS ?_
                refine wpAnyH_done (by kernel_rfl) ?_ _
                clear hS
                go_wp2_with (first | (with_reducible first | (clear hL; intro _ _ _ hL; try dsimp only at hL) | (clear hL n1; intro b1 w1 hL) | (clear hL n2; intro b2 w2 hL) | (clear hL n3; intro b3 w3 hL) | (clear hL n4; intro b4 w4 hL) | (clear hL n5; intro b5 w5 hL) | (clear hL; intro _ _ hL) | (clear hL; intro _ hL)) | ((with_reducible refine wpA_lit rfl _ _ _ rfl ?_); first | refine litA1 hL ?_ | refine litA2 hL ?_ | refine litA3 hL ?_ | refine litA4 hL ?_ | refine litA6 hL ?_) | ((with_reducible refine goJ rfl ?_); refine goP ?_))
                go_roundw
                case rel => exact ⟨k + 1, by omega, by go_num, hL⟩
                case measure => simp [intOf]; omega
              · have c1 : decide (0 ≤ (x : Int) + U) = true := decide_eq_true g1
                have c2 : decide ((x : Int) + U < (W : Int)) = false := decide_eq_false g2
                have HH1 := Lib.hid (fun w' (v : Value) (h : RegAt w' v (pixReg W H (markP A))) => HHs.out w' v _ h (x : Int) (y : Int))
                have HH2 := Lib.hid (fun w' (v : Value) (h : RegAt w' v (pixReg W H (markP (moveI U V A)))) => HHs.out w' v _ h ((x : Int) + U) ((y : Int) + V))
                go_wp2_with (first | (with_reducible first | (clear hL; intro _ _ _ hL; try dsimp only at hL) | (clear hL n1; intro b1 w1 hL) | (clear hL n2; intro b2 w2 hL) | (clear hL n3; intro b3 w3 hL) | (clear hL n4; intro b4 w4 hL) | (clear hL n5; intro b5 w5 hL) | (clear hL; intro _ _ hL) | (clear hL; intro _ hL)) | ((with_reducible refine wpA_lit rfl _ _ _ rfl ?_); first | refine litA1 hL ?_ | refine litA2 hL ?_ | refine litA3 hL ?_ | refine litA4 hL ?_ | refine litA6 hL ?_) | ((with_reducible refine goJ rfl ?_); refine goP ?_))
                refine wpH_holds (by kernel_rfl) hL fun hS => ?_
                replace hL := hS
                refine deH 0 hS ?_
                refine deH 1 hS ?_
                refine deH 2 hS ?_
                refine deH 3 hS ?_
                refine deH 4 hS ?_
                refine deH 5 hS ?_
                refine deH 6 hS ?_
                refine deH 7 hS ?_
                refine wpAnyH_done (by kernel_rfl) ?_ _
                clear hS
                go_wp2_with (first | (with_reducible first | (clear hL; intro _ _ _ hL; try dsimp only at hL) | (clear hL n1; intro b1 w1 hL) | (clear hL n2; intro b2 w2 hL) | (clear hL n3; intro b3 w3 hL) | (clear hL n4; intro b4 w4 hL) | (clear hL n5; intro b5 w5 hL) | (clear hL; intro _ _ hL) | (clear hL; intro _ hL)) | ((with_reducible refine wpA_lit rfl _ _ _ rfl ?_); first | refine litA1 hL ?_ | refine litA2 hL ?_ | refine litA3 hL ?_ | refine litA4 hL ?_ | refine litA6 hL ?_) | ((with_reducible refine goJ rfl ?_); refine goP ?_))
                refine wpH_holds (by kernel_rfl) hL fun hS => ?_
                replace hL := hS
                refine deH 0 hS ?_
                refine deH 1 hS ?_
                refine deH 2 hS ?_
                refine deH 3 hS ?_
                refine deH 4 hS ?_
                first | (refine stH (i := 5) ?_ hS (fun w' hw => ?_) ?_; rotate_left; (· go_simp; try with_reducible rfl)) | refine skH (i := 5) hS ?_
                simp only [Act.put, setP]
                first | (refine stH (i := 6) ?_ hS (fun w' hw => ?_) ?_; rotate_left; (· go_simp; try with_reducible rfl)) | refine skH (i := 6) hS ?_
                simp only [Act.put, setP]
                first | (refine stH (i := 7) ?_ hS (fun w' hw => ?_) ?_; rotate_left; (· go_simp; try with_reducible rfl)) | refine skH (i := 7) hS ?_
                simp only [Act.put, setP]
                first | (refine stH (i := 8) ?_ hS (fun w' hw => ?_) ?_; rotate_left; (· go_simp; try with_reducible rfl)) | refine skH (i := 8) hS ?_
                simp only [Act.put, setP]
                first | (refine stH (i := 9) ?_ hS (fun w' hw => ?_) ?_; rotate_left; (· go_simp; try with_reducible rfl)) | refine skH (i := 9) hS ?_
                simp only [Act.put, setP]
                refine deH 10 hS ?_
                refine deH 11 hS ?_
                first | (refine stH (i := 12) ?_ hS (fun w' hw => ?_) ?_; rotate_left; (· go_simp; try with_reducible rfl)) | refine skH (i := 12) hS ?_
                simp only [Act.put, setP]
                first | (refine stH (i := 13) ?_ hS (fun w' hw => ?_) ?_; rotate_left; (· go_simp; try with_reducible rfl)) | refine skH (i := 13) hS ?_
                simp only [Act.put, setP]
                first | (refine stH (i := 14) ?_ hS (fun w' hw => ?_) ?_; rotate_left; (· go_simp; try with_reducible rfl)) | refine skH (i := 14) hS ?_
                simp only [Act.put, setP]
                first | (refine stH (i := 15) ?_ hS (fun w' hw => ?_) ?_; rotate_left; (· go_simp; try with_reducible rfl)) | refine skH (i := 15) hS ?_
                simp only [Act.put, setP]
                refine deH 16 hS ?_
                refine deH 17 hS ?_
                first | (refine stH (i := 18) ?_ hS (fun w' hw => ?_) ?_; rotate_left; (· go_simp; try with_reducible rfl)) | refine skH (i := 18) hS ?_
                simp only [Act.put, setP]
                first | (refine stH (i := 19) ?_ hS (fun w' hw => ?_) ?_; rotate_left; (· go_simp; try with_reducible rfl)) | refine skH (i := 19) hS ?_
                simp only [Act.put, setP]
                first | (refine stH (i := 20) ?_ hS (fun w' hw => ?_) ?_; rotate_left; (· go_simp; try with_reducible rfl)) | refine skH (i := 20) hS ?_
                simp only [Act.put, setP]
                first | (refine stH (i := 21) ?_ hS (fun w' hw => ?_) ?_; rotate_left; (· go_simp; try with_reducible rfl)) | refine skH (i := 21) hS ?_
                simp only [Act.put, setP]
                first | (refine stH (i := 22) ?_ hS (fun w' hw => ?_) ?_; rotate_left; (· go_simp; try with_reducible rfl)) | refine skH (i := 22) hS ?_
                simp only [Act.put, setP]
                refine deH 23 hS ?_
                refine deH 24 hS ?_
                first | (refine stH (i := 25) ?_ hS (fun w' hw => ?_) ?_; rotate_left; (· refine run_loadOp _ _ rfl _ rfl _ ?_; (first | refine loadA hw ?_ | refine loadU hw ?_ | refine loadR hw ?_ | refine loadP hw ?_ | refine loadC hw ?_ | refine loadE hw ?_ | refine loadD ?_ | refine loadF ?_); rfl)) | refine skH (i := 25) hS ?_
                simp only [Act.put, setP]
                first | (refine stH (i := 26) ?_ hS (fun w' hw => ?_) ?_; rotate_left; (· go_simp; try with_reducible rfl)) | refine skH (i := 26) hS ?_
                simp only [Act.put, setP]
                first | (refine stH (i := 27) ?_ hS (fun w' hw => ?_) ?_; rotate_left; (· go_simp; try with_reducible rfl)) | refine skH (i := 27) hS ?_
                simp only [Act.put, setP]
                first | (refine stH (i := 29) ?_ hS (fun w' hw => ?_) ?_; rotate_left; (· refine run_loadOp _ _ rfl _ rfl _ ?_; (first | refine loadA hw ?_ | refine loadU hw ?_ | refine loadR hw ?_ | refine loadP hw ?_ | refine loadC hw ?_ | refine loadE hw ?_ | refine loadD ?_ | refine loadF ?_); rfl)) | refine skH (i := 29) hS ?_
                simp only [Act.put, setP]
                first | (refine stH (i := 30) ?_ hS (fun w' hw => ?_) ?_; rotate_left; (· go_simp; try with_reducible rfl)) | refine skH (i := 30) hS ?_
                simp only [Act.put, setP]
                first | (refine stH (i := 31) ?_ hS (fun w' hw => ?_) ?_; rotate_left; (· go_simp; try with_reducible rfl)) | refine skH (i := 31) hS ?_
                simp only [Act.put, setP]
                first | (refine stH (i := 32) ?_ hS (fun w' hw => ?_) ?_; rotate_left; (· go_simp; try with_reducible rfl)) | refine skH (i := 32) hS ?_
                simp only [Act.put, setP]
                first | (refine stH (i := 33) ?_ hS (fun w' hw => ?_) ?_; rotate_left; (· go_simp; try with_reducible rfl)) | refine skH (i := 33) hS ?_
                simp only [Act.put, setP]
                first | (refine stH (i := 34) ?_ hS (fun w' hw => ?_) ?_; rotate_left; (· go_simp; try with_reducible rfl)) | refine skH (i := 34) hS ?_
                simp only [Act.put, setP]
                first | (refine stH (i := 35) ?_ hS (fun w' hw => ?_) ?_; rotate_left; (· go_simp; try with_reducible rfl)) | refine skH (i := 35) hS ?_
                simp only [Act.put, setP]
                first | (refine skH (i := 28) hS ?_; simp only [Act.put, setP]) | (refine wpH_one (i := 28) (by kernel_rfl) (wpOp_of (by simp only [List.getElem?_toArray, List.getElem?_cons_zero, List.getElem?_cons_succ]; rfl) ?_); refine st_call rfl _ _ ?_ (HH1.out _ _ hL.fact1) ?_; (· go_simp; try with_reducible rfl); rintro e _ ⟨rfl, hb⟩; replace hL := hL.call hb; replace hS := hS.call hb; clear hb; refine ⟨_, rfl, hS, ?_⟩; simp only [Act.put, setP])
                first | (refine skH (i := 36) hS ?_; simp only [Act.put, setP]) | (refine wpH_one (i := 36) (by kernel_rfl) (wpOp_of (by simp only [List.getElem?_toArray, List.getElem?_cons_zero, List.getElem?_cons_succ]; rfl) ?_); refine st_call rfl _ _ ?_ (HH2.out _ _ hL.fact0) ?_; (· go_simp; try with_reducible rfl); rintro e _ ⟨rfl, hb⟩; replace hL := hL.call hb; replace hS := hS.call hb; clear hb; refine ⟨_, rfl, hS, ?_⟩; simp only [Act.put, setP])
                first | (refine stH (i := 37) ?_ hS (fun w' hw => ?_) ?_; rotate_left; (· go_simp; try with_reducible rfl)) | refine skH (i := 37) hS ?_
                simp only [Act.put, setP]
                refine deH 38 hS ?_
                refine wpAnyH_done (by kernel_rfl) ?_ _
                clear hS
                go_wp2_with (first | (with_reducible first | (clear hL; intro _ _ _ hL; try dsimp only at hL) | (clear hL n1; intro b1 w1 hL) | (clear hL n2; intro b2 w2 hL) | (clear hL n3; intro b3 w3 hL) | (clear hL n4; intro b4 w4 hL) | (clear hL n5; intro b5 w5 hL) | (clear hL; intro _ _ hL) | (clear hL; intro _ hL)) | ((with_reducible refine wpA_lit rfl _ _ _ rfl ?_); first | refine litA1 hL ?_ | refine litA2 hL ?_ | refine litA3 hL ?_ | refine litA4 hL ?_ | refine litA6 hL ?_) | ((with_reducible refine goJ rfl ?_); refine goP ?_))
                go_roundw
                case rel => exact ⟨k + 1, by omega, by go_num, hL⟩
                case measure => simp [intOf]; omega
              · have c1 : decide (0 ≤ (x : Int) + U) = true := decide_eq_true g1
                have c2 : decide ((x : Int) + U < (W : Int)) = true := decide_eq_true g2
                have c3 : decide (0 ≤ (y : Int) + V) = false := decide_eq_false g3
                have HH1 := Lib.hid (fun w' (v : Value) (h : RegAt w' v (pixReg W H (markP A))) => HHs.out w' v _ h (x : Int) (y : Int))
                have HH2 := Lib.hid (fun w' (v : Value) (h : RegAt w' v (pixReg W H (markP (moveI U V A)))) => HHs.out w' v _ h ((x : Int) + U) ((y : Int) + V))
                go_wp2_with (first | (with_reducible first | (clear hL; intro _ _ _ hL; try dsimp only at hL) | (clear hL n1; intro b1 w1 hL) | (clear hL n2; intro b2 w2 hL) | (clear hL n3; intro b3 w3 hL) | (clear hL n4; intro b4 w4 hL) | (clear hL n5; intro b5 w5 hL) | (clear hL; intro _ _ hL) | (clear hL; intro _ hL)) | ((with_reducible refine wpA_lit rfl _ _ _ rfl ?_); first | refine litA1 hL ?_ | refine litA2 hL ?_ | refine litA3 hL ?_ | refine litA4 hL ?_ | refine litA6 hL ?_) | ((with_reducible refine goJ rfl ?_); refine goP ?_))
                refine wpH_holds (by kernel_rfl) hL fun hS => ?_
                replace hL := hS
                refine deH 0 hS ?_
                refine deH 1 hS ?_
                refine deH 2 hS ?_
                refine deH 3 hS ?_
                refine deH 4 hS ?_
                refine deH 5 hS ?_
                refine deH 6 hS ?_
                refine deH 7 hS ?_
                refine wpAnyH_done (by kernel_rfl) ?_ _
                clear hS
                go_wp2_with (first | (with_reducible first | (clear hL; intro _ _ _ hL; try dsimp only at hL) | (clear hL n1; intro b1 w1 hL) | (clear hL n2; intro b2 w2 hL) | (clear hL n3; intro b3 w3 hL) | (clear hL n4; intro b4 w4 hL) | (clear hL n5; intro b5 w5 hL) | (clear hL; intro _ _ hL) | (clear hL; intro _ hL)) | ((with_reducible refine wpA_lit rfl _ _ _ rfl ?_); first | refine litA1 hL ?_ | refine litA2 hL ?_ | refine litA3 hL ?_ | refine litA4 hL ?_ | refine litA6 hL ?_) | ((with_reducible refine goJ rfl ?_); refine goP ?_))
                refine wpH_holds (by kernel_rfl) hL fun hS => ?_
                replace hL := hS
                refine deH 0 hS ?_
                refine deH 1 hS ?_
                refine deH 2 hS ?_
                refine deH 3 hS ?_
                refine deH 4 hS ?_
                first | (refine stH (i := 5) ?_ hS (fun w' hw => ?_) ?_; rotate_left; (· go_simp; try with_reducible rfl)) | refine skH (i := 5) hS ?_
                simp only [Act.put, setP]
                first | (refine stH (i := 6) ?_ hS (fun w' hw => ?_) ?_; rotate_left; (· go_simp; try with_reducible rfl)) | refine skH (i := 6) hS ?_
                simp only [Act.put, setP]
                first | (refine stH (i := 7) ?_ hS (fun w' hw => ?_) ?_; rotate_left; (· go_simp; try with_reducible rfl)) | refine skH (i := 7) hS ?_
                simp only [Act.put, setP]
                first | (refine stH (i := 8) ?_ hS (fun w' hw => ?_) ?_; rotate_left; (· go_simp; try with_reducible rfl)) | refine skH (i := 8) hS ?_
                simp only [Act.put, setP]
                first | (refine stH (i := 9) ?_ hS (fun w' hw => ?_) ?_; rotate_left; (· go_simp; try with_reducible rfl)) | refine skH (i := 9) hS ?_
                simp only [Act.put, setP]
                refine deH 10 hS ?_
                refine deH 11 hS ?_
                first | (refine stH (i := 12) ?_ hS (fun w' hw => ?_) ?_; rotate_left; (· go_simp; try with_reducible rfl)) | refine skH (i := 12) hS ?_
                simp only [Act.put, setP]
                first | (refine stH (i := 13) ?_ hS (fun w' hw => ?_) ?_; rotate_left; (· go_simp; try with_reducible rfl)) | refine skH (i := 13) hS ?_
                simp only [Act.put, setP]
                first | (refine stH (i := 14) ?_ hS (fun w' hw => ?_) ?_; rotate_left; (· go_simp; try with_reducible rfl)) | refine skH (i := 14) hS ?_
                simp only [Act.put, setP]
                first | (refine stH (i := 15) ?_ hS (fun w' hw => ?_) ?_; rotate_left; (· go_simp; try with_reducible rfl)) | refine skH (i := 15) hS ?_
                simp only [Act.put, setP]
                refine deH 16 hS ?_
                refine deH 17 hS ?_
                first | (refine stH (i := 18) ?_ hS (fun w' hw => ?_) ?_; rotate_left; (· go_simp; try with_reducible rfl)) | refine skH (i := 18) hS ?_
                simp only [Act.put, setP]
                first | (refine stH (i := 19) ?_ hS (fun w' hw => ?_) ?_; rotate_left; (· go_simp; try with_reducible rfl)) | refine skH (i := 19) hS ?_
                simp only [Act.put, setP]
                first | (refine stH (i := 20) ?_ hS (fun w' hw => ?_) ?_; rotate_left; (· go_simp; try with_reducible rfl)) | refine skH (i := 20) hS ?_
                simp only [Act.put, setP]
                first | (refine stH (i := 21) ?_ hS (fun w' hw => ?_) ?_; rotate_left; (· go_simp; try with_reducible rfl)) | refine skH (i := 21) hS ?_
                simp only [Act.put, setP]
                first | (refine stH (i := 22) ?_ hS (fun w' hw => ?_) ?_; rotate_left; (· go_simp; try with_reducible rfl)) | refine skH (i := 22) hS ?_
                simp only [Act.put, setP]
                refine deH 23 hS ?_
                refine deH 24 hS ?_
                first | (refine stH (i := 25) ?_ hS (fun w' hw => ?_) ?_; rotate_left; (· refine run_loadOp _ _ rfl _ rfl _ ?_; (first | refine loadA hw ?_ | refine loadU hw ?_ | refine loadR hw ?_ | refine loadP hw ?_ | refine loadC hw ?_ | refine loadE hw ?_ | refine loadD ?_ | refine loadF ?_); rfl)) | refine skH (i := 25) hS ?_
                simp only [Act.put, setP]
                first | (refine stH (i := 26) ?_ hS (fun w' hw => ?_) ?_; rotate_left; (· go_simp; try with_reducible rfl)) | refine skH (i := 26) hS ?_
                simp only [Act.put, setP]
                first | (refine stH (i := 27) ?_ hS (fun w' hw => ?_) ?_; rotate_left; (· go_simp; try with_reducible rfl)) | refine skH (i := 27) hS ?_
                simp only [Act.put, setP]
                first | (refine stH (i := 29) ?_ hS (fun w' hw => ?_) ?_; rotate_left; (· refine run_loadOp _ _ rfl _ rfl _ ?_; (first | refine loadA hw ?_ | refine loadU hw ?_ | refine loadR hw ?_ | refine loadP hw ?_ | refine loadC hw ?_ | refine loadE hw ?_ | refine loadD ?_ | refine loadF ?_); rfl)) | refine skH (i := 29) hS ?_
                simp only [Act.put, setP]
                first | (refine stH (i := 30) ?_ hS (fun w' hw => ?_) ?_; rotate_left; (· go_simp; try with_reducible rfl)) | refine skH (i := 30) hS ?_
                simp only [Act.put, setP]
                first | (refine stH (i := 31) ?_ hS (fun w' hw => ?_) ?_; rotate_left; (· go_simp; try with_reducible rfl)) | refine skH (i := 31) hS ?_
                simp only [Act.put, setP]
                first | (refine stH (i := 32) ?_ hS (fun w' hw => ?_) ?_; rotate_left; (· go_simp; try with_reducible rfl)) | refine skH (i := 32) hS ?_
                simp only [Act.put, setP]
                first | (refine stH (i := 33) ?_ hS (fun w' hw => ?_) ?_; rotate_left; (· go_simp; try with_reducible rfl)) | refine skH (i := 33) hS ?_
                simp only [Act.put, setP]
                first | (refine stH (i := 34) ?_ hS (fun w' hw => ?_) ?_; rotate_left; (· go_simp; try with_reducible rfl)) | refine skH (i := 34) hS ?_
                simp only [Act.put, setP]
                first | (refine stH (i := 35) ?_ hS (fun w' hw => ?_) ?_; rotate_left; (· go_simp; try with_reducible rfl)) | refine skH (i := 35) hS ?_
                simp only [Act.put, setP]
                first | (refine skH (i := 28) hS ?_; simp only [Act.put, setP]) | (refine wpH_one (i := 28) (by kernel_rfl) (wpOp_of (by simp only [List.getElem?_toArray, List.getElem?_cons_zero, List.getElem?_cons_succ]; rfl) ?_); refine st_call rfl _ _ ?_ (HH1.out _ _ hL.fact1) ?_; (· go_simp; try with_reducible rfl); rintro e _ ⟨rfl, hb⟩; replace hL := hL.call hb; replace hS := hS.call hb; clear hb; refine ⟨_, rfl, hS, ?_⟩; simp only [Act.put, setP])
                first | (refine skH (i := 36) hS ?_; simp only [Act.put, setP]) | (refine wpH_one (i := 36) (by kernel_rfl) (wpOp_of (by simp only [List.getElem?_toArray, List.getElem?_cons_zero, List.getElem?_cons_succ]; rfl) ?_); refine st_call rfl _ _ ?_ (HH2.out _ _ hL.fact0) ?_; (· go_simp; try with_reducible rfl); rintro e _ ⟨rfl, hb⟩; replace hL := hL.call hb; replace hS := hS.call hb; clear hb; refine ⟨_, rfl, hS, ?_⟩; simp only [Act.put, setP])
                first | (refine stH (i := 37) ?_ hS (fun w' hw => ?_) ?_; rotate_left; (· go_simp; try with_reducible rfl)) | refine skH (i := 37) hS ?_
                simp only [Act.put, setP]
                refine deH 38 hS ?_
                refine wpAnyH_done (by kernel_rfl) ?_ _
                clear hS
                go_wp2_with (first | (with_reducible first | (clear hL; intro _ _ _ hL; try dsimp only at hL) | (clear hL n1; intro b1 w1 hL) | (clear hL n2; intro b2 w2 hL) | (clear hL n3; intro b3 w3 hL) | (clear hL n4; intro b4 w4 hL) | (clear hL n5; intro b5 w5 hL) | (clear hL; intro _ _ hL) | (clear hL; intro _ hL)) | ((with_reducible refine wpA_lit rfl _ _ _ rfl ?_); first | refine litA1 hL ?_ | refine litA2 hL ?_ | refine litA3 hL ?_ | refine litA4 hL ?_ | refine litA6 hL ?_) | ((with_reducible refine goJ rfl ?_); refine goP ?_))
                go_roundw
                case rel => exact ⟨k + 1, by omega, by go_num, hL⟩
                case measure => simp [intOf]; omega
              · have c1 : decide (0 ≤ (x : Int) + U) = true := decide_eq_true g1
                have c2 : decide ((x : Int) + U < (W : Int)) = true := decide_eq_true g2
                have c3 : decide (0 ≤ (y : Int) + V) = true := decide_eq_true g3
                have c4 : decide ((y : Int) + V < (H : Int)) = false := decide_eq_false g4
                have HH1 := Lib.hid (fun w' (v : Value) (h : RegAt w' v (pixReg W H (markP A))) => HHs.out w' v _ h (x : Int) (y : Int))
                have HH2 := Lib.hid (fun w' (v : Value) (h : RegAt w' v (pixReg W H (markP (moveI U V A)))) => HHs.out w' v _ h ((x : Int) + U) ((y : Int) + V))
                go_wp2_with (first | (with_reducible first | (clear hL; intro _ _ _ hL; try dsimp only at hL) | (clear hL n1; intro b1 w1 hL) | (clear hL n2; intro b2 w2 hL) | (clear hL n3; intro b3 w3 hL) | (clear hL n4; intro b4 w4 hL) | (clear hL n5; intro b5 w5 hL) | (clear hL; intro _ _ hL) | (clear hL; intro _ hL)) | ((with_reducible refine wpA_lit rfl _ _ _ rfl ?_); first | refine litA1 hL ?_ | refine litA2 hL ?_ | refine litA3 hL ?_ | refine litA4 hL ?_ | refine litA6 hL ?_) | ((with_reducible refine goJ rfl ?_); refine goP ?_))
                refine wpH_holds (by kernel_rfl) hL fun hS => ?_
                replace hL := hS
                refine deH 0 hS ?_
                refine deH 1 hS ?_
                refine deH 2 hS ?_
                refine deH 3 hS ?_
                refine deH 4 hS ?_
                refine deH 5 hS ?_
                refine deH 6 hS ?_
                refine deH 7 hS ?_
                refine wpAnyH_done (by kernel_rfl) ?_ _
                clear hS
                go_wp2_with (first | (with_reducible first | (clear hL; intro _ _ _ hL; try dsimp only at hL) | (clear hL n1; intro b1 w1 hL) | (clear hL n2; intro b2 w2 hL) | (clear hL n3; intro b3 w3 hL) | (clear hL n4; intro b4 w4 hL) | (clear hL n5; intro b5 w5 hL) | (clear hL; intro _ _ hL) | (clear hL; intro _ hL)) | ((with_reducible refine wpA_lit rfl _ _ _ rfl ?_); first | refine litA1 hL ?_ | refine litA2 hL ?_ | refine litA3 hL ?_ | refine litA4 hL ?_ | refine litA6 hL ?_) | ((with_reducible refine goJ rfl ?_); refine goP ?_))
                refine wpH_holds (by kernel_rfl) hL fun hS => ?_
                replace hL := hS
                refine deH 0 hS ?_
                refine deH 1 hS ?_
                refine deH 2 hS ?_
                refine deH 3 hS ?_
                refine deH 4 hS ?_
                first | (refine stH (i := 5) ?_ hS (fun w' hw => ?_) ?_; rotate_left; (· go_simp; try with_reducible rfl)) | refine skH (i := 5) hS ?_
                simp only [Act.put, setP]
                first | (refine stH (i := 6) ?_ hS (fun w' hw => ?_) ?_; rotate_left; (· go_simp; try with_reducible rfl)) | refine skH (i := 6) hS ?_
                simp only [Act.put, setP]
                first | (refine stH (i := 7) ?_ hS (fun w' hw => ?_) ?_; rotate_left; (· go_simp; try with_reducible rfl)) | refine skH (i := 7) hS ?_
                simp only [Act.put, setP]
                first | (refine stH (i := 8) ?_ hS (fun w' hw => ?_) ?_; rotate_left; (· go_simp; try with_reducible rfl)) | refine skH (i := 8) hS ?_
                simp only [Act.put, setP]
                first | (refine stH (i := 9) ?_ hS (fun w' hw => ?_) ?_; rotate_left; (· go_simp; try with_reducible rfl)) | refine skH (i := 9) hS ?_
                simp only [Act.put, setP]
                refine deH 10 hS ?_
                refine deH 11 hS ?_
                first | (refine stH (i := 12) ?_ hS (fun w' hw => ?_) ?_; rotate_left; (· go_simp; try with_reducible rfl)) | refine skH (i := 12) hS ?_
                simp only [Act.put, setP]
                first | (refine stH (i := 13) ?_ hS (fun w' hw => ?_) ?_; rotate_left; (· go_simp; try with_reducible rfl)) | refine skH (i := 13) hS ?_
                simp only [Act.put, setP]
                first | (refine stH (i := 14) ?_ hS (fun w' hw => ?_) ?_; rotate_left; (· go_simp; try with_reducible rfl)) | refine skH (i := 14) hS ?_
                simp only [Act.put, setP]
                first | (refine stH (i := 15) ?_ hS (fun w' hw => ?_) ?_; rotate_left; (· go_simp; try with_reducible rfl)) | refine skH (i := 15) hS ?_
                simp only [Act.put, setP]
                refine deH 16 hS ?_
                refine deH 17 hS ?_
                first | (refine stH (i := 18) ?_ hS (fun w' hw => ?_) ?_; rotate_left; (· go_simp; try with_reducible rfl)) | refine skH (i := 18) hS ?_
                simp only [Act.put, setP]
                first | (refine stH (i := 19) ?_ hS (fun w' hw => ?_) ?_; rotate_left; (· go_simp; try with_reducible rfl)) | refine skH (i := 19) hS ?_
                simp only [Act.put, setP]
                first | (refine stH (i := 20) ?_ hS (fun w' hw => ?_) ?_; rotate_left; (· go_simp; try with_reducible rfl)) | refine skH (i := 20) hS ?_
                simp only [Act.put, setP]
                first | (refine stH (i := 21) ?_ hS (fun w' hw => ?_) ?_; rotate_left; (· go_simp; try with_reducible rfl)) | refine skH (i := 21) hS ?_
                simp only [Act.put, setP]
                first | (refine stH (i := 22) ?_ hS (fun w' hw => ?_) ?_; rotate_left; (· go_simp; try with_reducible rfl)) | refine skH (i := 22) hS ?_
                simp only [Act.put, setP]
                refine deH 23 hS ?_
                refine deH 24 hS ?_
                first | (refine stH (i := 25) ?_ hS (fun w' hw => ?_) ?_; rotate_left; (· refine run_loadOp _ _ rfl _ rfl _ ?_; (first | refine loadA hw ?_ | refine loadU hw ?_ | refine loadR hw ?_ | refine loadP hw ?_ | refine loadC hw ?_ | refine loadE hw ?_ | refine loadD ?_ | refine loadF ?_); rfl)) | refine skH (i := 25) hS ?_
                simp only [Act.put, setP]
                first | (refine stH (i := 26) ?_ hS (fun w' hw => ?_) ?_; rotate_left; (· go_simp; try with_reducible rfl)) | refine skH (i := 26) hS ?_
                simp only [Act.put, setP]
                first | (refine stH (i := 27) ?_ hS (fun w' hw => ?_) ?_; rotate_left; (· go_simp; try with_reducible rfl)) | refine skH (i := 27) hS ?_
                simp only [Act.put, setP]
                first | (refine stH (i := 29) ?_ hS (fun w' hw => ?_) ?_; rotate_left; (· refine run_loadOp _ _ rfl _ rfl _ ?_; (first | refine loadA hw ?_ | refine loadU hw ?_ | refine loadR hw ?_ | refine loadP hw ?_ | refine loadC hw ?_ | refine loadE hw ?_ | refine loadD ?_ | refine loadF ?_); rfl)) | refine skH (i := 29) hS ?_
                simp only [Act.put, setP]
                first | (refine stH (i := 30) ?_ hS (fun w' hw => ?_) ?_; rotate_left; (· go_simp; try with_reducible rfl)) | refine skH (i := 30) hS ?_
                simp only [Act.put, setP]
                first | (refine stH (i := 31) ?_ hS (fun w' hw => ?_) ?_; rotate_left; (· go_simp; try with_reducible rfl)) | refine skH (i := 31) hS ?_
                simp only [Act.put, setP]
                first | (refine stH (i := 32) ?_ hS (fun w' hw => ?_) ?_; rotate_left; (· go_simp; try with_reducible rfl)) | refine skH (i := 32) hS ?_
                simp only [Act.put, setP]
                first | (refine stH (i := 33) ?_ hS (fun w' hw => ?_) ?_; rotate_left; (· go_simp; try with_reducible rfl)) | refine skH (i := 33) hS ?_
                simp only [Act.put, setP]
                first | (refine stH (i := 34) ?_ hS (fun w' hw => ?_) ?_; rotate_left; (· go_simp; try with_reducible rfl)) | refine skH (i := 34) hS ?_
                simp only [Act.put, setP]
                first | (refine stH (i := 35) ?_ hS (fun w' hw => ?_) ?_; rotate_left; (· go_simp; try with_reducible rfl)) | refine skH (i := 35) hS ?_
                simp only [Act.put, setP]
                first | (refine skH (i := 28) hS ?_; simp only [Act.put, setP]) | (refine wpH_one (i := 28) (by kernel_rfl) (wpOp_of (by simp only [List.getElem?_toArray, List.getElem?_cons_zero, List.getElem?_cons_succ]; rfl) ?_); refine st_call rfl _ _ ?_ (HH1.out _ _ hL.fact1) ?_; (· go_simp; try with_reducible rfl); rintro e _ ⟨rfl, hb⟩; replace hL := hL.call hb; replace hS := hS.call hb; clear hb; refine ⟨_, rfl, hS, ?_⟩; simp only [Act.put, setP])
                first | (refine skH (i := 36) hS ?_; simp only [Act.put, setP]) | (refine wpH_one (i := 36) (by kernel_rfl) (wpOp_of (by simp only [List.getElem?_toArray, List.getElem?_cons_zero, List.getElem?_cons_succ]; rfl) ?_); refine st_call rfl _ _ ?_ (HH2.out _ _ hL.fact0) ?_; (· go_simp; try with_reducible rfl); rintro e _ ⟨rfl, hb⟩; replace hL := hL.call hb; replace hS := hS.call hb; clear hb; refine ⟨_, rfl, hS, ?_⟩; simp only [Act.put, setP])
                first | (refine stH (i := 37) ?_ hS (fun w' hw => ?_) ?_; rotate_left; (· go_simp; try with_reducible rfl)) | refine skH (i := 37) hS ?_
                simp only [Act.put, setP]
                refine deH 38 hS ?_
                refine wpAnyH_done (by kernel_rfl) ?_ _
                clear hS
                go_wp2_with (first | (with_reducible first | (clear hL; intro _ _ _ hL; try dsimp only at hL) | (clear hL n1; intro b1 w1 hL) | (clear hL n2; intro b2 w2 hL) | (clear hL n3; intro b3 w3 hL) | (clear hL n4; intro b4 w4 hL) | (clear hL n5; intro b5 w5 hL) | (clear hL; intro _ _ hL) | (clear hL; intro _ hL)) | ((with_reducible refine wpA_lit rfl _ _ _ rfl ?_); first | refine litA1 hL ?_ | refine litA2 hL ?_ | refine litA3 hL ?_ | refine litA4 hL ?_ | refine litA6 hL ?_) | ((with_reducible refine goJ rfl ?_); refine goP ?_))
                go_roundw
                case rel => exact ⟨k + 1, by omega, by go_num, hL⟩
                case measure => simp [intOf]; omega
              · have c1 : decide (0 ≤ (x : Int) + U) = true := decide_eq_true g1
                have c2 : decide ((x : Int) + U < (W : Int)) = true := decide_eq_true g2
                have c3 : decide (0 ≤ (y : Int) + V) = true := decide_eq_true g3
                have c4 : decide ((y : Int) + V < (H : Int)) = true := decide_eq_true g4
                have hab : atPix W H (markP (moveI U V A)) ((x : Int) + U) ((y : Int) + V) = atPix W H (markP A) (x : Int) (y : Int) := by
                  unfold atPix
                  have k1 := HK.out y x ((y : Int) + V).toNat ((x : Int) + U).toNat (by omega) (by omega) (by omega) (by omega) (by omega) (by omega)
                  rw [c1, c2, c3, c4, k1, decide_eq_true (show 0 ≤ (x : Int) by omega), decide_eq_true (show (x : Int) < (W : Int) by omega), decide_eq_true (show 0 ≤ (y : Int) by omega), decide_eq_true (show (y : Int) < (H : Int) by omega)]
                  simp
                have HH1 := Lib.hid (fun w' (v : Value) (h : RegAt w' v (pixReg W H (markP A))) => HHs.out w' v _ h (x : Int) (y : Int))
                have HH2 := Lib.hid (fun w' (v : Value) (h : RegAt w' v (pixReg W H (markP (moveI U V A)))) => hab ▸ HHs.out w' v _ h ((x : Int) + U) ((y : Int) + V))
                clear hab
                generalize atPix W H (markP A) (x : Int) (y : Int) = bm at *
                have eB : (bm != bm) = false := by simp
                go_wp2_with (first | (with_reducible first | (clear hL; intro _ _ _ hL; try dsimp only at hL) | (clear hL n1; intro b1 w1 hL) | (clear hL n2; intro b2 w2 hL) | (clear hL n3; intro b3 w3 hL) | (clear hL n4; intro b4 w4 hL) | (clear hL n5; intro b5 w5 hL) | (clear hL; intro _ _ hL) | (clear hL; intro _ hL)) | ((with_reducible refine wpA_lit rfl _ _ _ rfl ?_); first | refine litA1 hL ?_ | refine litA2 hL ?_ | refine litA3 hL ?_ | refine litA4 hL ?_ | refine litA6 hL ?_) | ((with_reducible refine goJ rfl ?_); refine goP ?_))
                refine wpH_holds (by kernel_rfl) hL fun hS => ?_
                replace hL := hS
                refine deH 0 hS ?_
                refine deH 1 hS ?_
                refine deH 2 hS ?_
                refine deH 3 hS ?_
                refine deH 4 hS ?_
                refine deH 5 hS ?_
                refine deH 6 hS ?_
                refine deH 7 hS ?_
                refine wpAnyH_done (by kernel_rfl) ?_ _
                clear hS
                go_wp2_with (first | (with_reducible first | (clear hL; intro _ _ _ hL; try dsimp only at hL) | (clear hL n1; intro b1 w1 hL) | (clear hL n2; intro b2 w2 hL) | (clear hL n3; intro b3 w3 hL) | (clear hL n4; intro b4 w4 hL) | (clear hL n5; intro b5 w5 hL) | (clear hL; intro _ _ hL) | (clear hL; intro _ hL)) | ((with_reducible refine wpA_lit rfl _ _ _ rfl ?_); first | refine litA1 hL ?_ | refine litA2 hL ?_ | refine litA3 hL ?_ | refine litA4 hL ?_ | refine litA6 hL ?_) | ((with_reducible refine goJ rfl ?_); refine goP ?_))
                refine wpH_holds (by kernel_rfl) hL fun hS => ?_
                replace hL := hS
                refine deH 0 hS ?_
                refine deH 1 hS ?_
                refine deH 2 hS ?_
                refine deH 3 hS ?_
                refine deH 4 hS ?_
                first | (refine stH (i := 5) ?_ hS (fun w' hw => ?_) ?_; rotate_left; (· go_simp; try with_reducible rfl)) | refine skH (i := 5) hS ?_
                simp only [Act.put, setP]
                first | (refine stH (i := 6) ?_ hS (fun w' hw => ?_) ?_; rotate_left; (· go_simp; try with_reducible rfl)) | refine skH (i := 6) hS ?_
                simp only [Act.put, setP]
                first | (refine stH (i := 7) ?_ hS (fun w' hw => ?_) ?_; rotate_left; (· go_simp; try with_reducible rfl)) | refine skH (i := 7) hS ?_
                simp only [Act.put, setP]
                first | (refine stH (i := 8) ?_ hS (fun w' hw => ?_) ?_; rotate_left; (· go_simp; try with_reducible rfl)) | refine skH (i := 8) hS ?_
                simp only [Act.put, setP]
                first | (refine stH (i := 9) ?_ hS (fun w' hw => ?_) ?_; rotate_left; (· go_simp; try with_reducible rfl)) | refine skH (i := 9) hS ?_
                simp only [Act.put, setP]
                refine deH 10 hS ?_
                refine deH 11 hS ?_
                first | (refine stH (i := 12) ?_ hS (fun w' hw => ?_) ?_; rotate_left; (· go_simp; try with_reducible rfl)) | refine skH (i := 12) hS ?_
                simp only [Act.put, setP]
                first | (refine stH (i := 13) ?_ hS (fun w' hw => ?_) ?_; rotate_left; (· go_simp; try with_reducible rfl)) | refine skH (i := 13) hS ?_
                simp only [Act.put, setP]
                first | (refine stH (i := 14) ?_ hS (fun w' hw => ?_) ?_; rotate_left; (· go_simp; try with_reducible rfl)) | refine skH (i := 14) hS ?_
                simp only [Act.put, setP]
                first | (refine stH (i := 15) ?_ hS (fun w' hw => ?_) ?_; rotate_left; (· go_simp; try with_reducible rfl)) | refine skH (i := 15) hS ?_
                simp only [Act.put, setP]
                refine deH 16 hS ?_
                refine deH 17 hS ?_
                first | (refine stH (i := 18) ?_ hS (fun w' hw => ?_) ?_; rotate_left; (· go_simp; try with_reducible rfl)) | refine skH (i := 18) hS ?_
                simp only [Act.put, setP]
                first | (refine stH (i := 19) ?_ hS (fun w' hw => ?_) ?_; rotate_left; (· go_simp; try with_reducible rfl)) | refine skH (i := 19) hS ?_
                simp only [Act.put, setP]
                first | (refine stH (i := 20) ?_ hS (fun w' hw => ?_) ?_; rotate_left; (· go_simp; try with_reducible rfl)) | refine skH (i := 20) hS ?_
                simp only [Act.put, setP]
                first | (refine stH (i := 21) ?_ hS (fun w' hw => ?_) ?_; rotate_left; (· go_simp; try with_reducible rfl)) | refine skH (i := 21) hS ?_
                simp only [Act.put, setP]
                first | (refine stH (i := 22) ?_ hS (fun w' hw => ?_) ?_; rotate_left; (· go_simp; try with_reducible rfl)) | refine skH (i := 22) hS ?_
                simp only [Act.put, setP]
                refine deH 23 hS ?_
                refine deH 24 hS ?_
                first | (refine stH (i := 25) ?_ hS (fun w' hw => ?_) ?_; rotate_left; (· refine run_loadOp _ _ rfl _ rfl _ ?_; (first | refine loadA hw ?_ | refine loadU hw ?_ | refine loadR hw ?_ | refine loadP hw ?_ | refine loadC hw ?_ | refine loadE hw ?_ | refine loadD ?_ | refine loadF ?_); rfl)) | refine skH (i := 25) hS ?_
                simp only [Act.put, setP]
                first | (refine stH (i := 26) ?_ hS (fun w' hw => ?_) ?_; rotate_left; (· go_simp; try with_reducible rfl)) | refine skH (i := 26) hS ?_
                simp only [Act.put, setP]
                first | (refine stH (i := 27) ?_ hS (fun w' hw => ?_) ?_; rotate_left; (· go_simp; try with_reducible rfl)) | refine skH (i := 27) hS ?_
                simp only [Act.put, setP]
                first | (refine stH (i := 29) ?_ hS (fun w' hw => ?_) ?_; rotate_left; (· refine run_loadOp _ _ rfl _ rfl _ ?_; (first | refine loadA hw ?_ | refine loadU hw ?_ | refine loadR hw ?_ | refine loadP hw ?_ | refine loadC hw ?_ | refine loadE hw ?_ | refine loadD ?_ | refine loadF ?_); rfl)) | refine skH (i := 29) hS ?_
                simp only [Act.put, setP]
                first | (refine stH (i := 30) ?_ hS (fun w' hw => ?_) ?_; rotate_left; (· go_simp; try with_reducible rfl)) | refine skH (i := 30) hS ?_
                simp only [Act.put, setP]
                first | (refine stH (i := 31) ?_ hS (fun w' hw => ?_) ?_; rotate_left; (· go_simp; try with_reducible rfl)) | refine skH (i := 31) hS ?_
                simp only [Act.put, setP]
                first | (refine stH (i := 32) ?_ hS (fun w' hw => ?_) ?_; rotate_left; (· go_simp; try with_reducible rfl)) | refine skH (i := 32) hS ?_
                simp only [Act.put, setP]
                first | (refine stH (i := 33) ?_ hS (fun w' hw => ?_) ?_; rotate_left; (· go_simp; try with_reducible rfl)) | refine skH (i := 33) hS ?_
                simp only [Act.put, setP]
                first | (refine stH (i := 34) ?_ hS (fun w' hw => ?_) ?_; rotate_left; (· go_simp; try with_reducible rfl)) | refine skH (i := 34) hS ?_
                simp only [Act.put, setP]
                first | (refine stH (i := 35) ?_ hS (fun w' hw => ?_) ?_; rotate_left; (· go_simp; try with_reducible rfl)) | refine skH (i := 35) hS ?_
                simp only [Act.put, setP]
                first | (refine skH (i := 28) hS ?_; simp only [Act.put, setP]) | (refine wpH_one (i := 28) (by kernel_rfl) (wpOp_of (by simp only [List.getElem?_toArray, List.getElem?_cons_zero, List.getElem?_cons_succ]; rfl) ?_); refine st_call rfl _ _ ?_ (HH1.out _ _ hL.fact1) ?_; (· go_simp; try with_reducible rfl); rintro e _ ⟨rfl, hb⟩; replace hL := hL.call hb; replace hS := hS.call hb; clear hb; refine ⟨_, rfl, hS, ?_⟩; simp only [Act.put, setP])
                first | (refine skH (i := 36) hS ?_; simp only [Act.put, setP]) | (refine wpH_one (i := 36) (by kernel_rfl) (wpOp_of (by simp only [List.getElem?_toArray, List.getElem?_cons_zero, List.getElem?_cons_succ]; rfl) ?_); refine st_call rfl _ _ ?_ (HH2.out _ _ hL.fact0) ?_; (· go_simp; try with_reducible rfl); rintro e _ ⟨rfl, hb⟩; replace hL := hL.call hb; replace hS := hS.call hb; clear hb; refine ⟨_, rfl, hS, ?_⟩; simp only [Act.put, setP])
                first | (refine stH (i := 37) ?_ hS (fun w' hw => ?_) ?_; rotate_left; (· go_simp; try with_reducible rfl)) | refine skH (i := 37) hS ?_
                simp only [Act.put, setP]
                refine deH 38 hS ?_
                refine wpAnyH_done (by kernel_rfl) ?_ _
                clear hS
                go_wp2_with (first | (with_reducible first | (clear hL; intro _ _ _ hL; try dsimp only at hL) | (clear hL n1; intro b1 w1 hL) | (clear hL n2; intro b2 w2 hL) | (clear hL n3; intro b3 w3 hL) | (clear hL n4; intro b4 w4 hL) | (clear hL n5; intro b5 w5 hL) | (clear hL; intro _ _ hL) | (clear hL; intro _ hL)) | ((with_reducible refine wpA_lit rfl _ _ _ rfl ?_); first | refine litA1 hL ?_ | refine litA2 hL ?_ | refine litA3 hL ?_ | refine litA4 hL ?_ | refine litA6 hL ?_) | ((with_reducible refine goJ rfl ?_); refine goP ?_))
                go_roundw
                case rel => exact ⟨k + 1, by omega, by go_num, hL⟩
                case measure => simp [intOf]; omega
            · have e : k = N := by omega
              subst e
              have hkb : ¬ (k : Int) < (k : Int) := by omega
              go_wp2_with (first | (with_reducible first | (clear hL; intro _ _ _ hL; try dsimp only at hL) | (clear hL n1; intro b1 w1 hL) | (clear hL n2; intro b2 w2 hL) | (clear hL n3; intro b3 w3 hL) | (clear hL n4; intro b4 w4 hL) | (clear hL n5; intro b5 w5 hL) | (clear hL; intro _ _ hL) | (clear hL; intro _ hL)) | ((with_reducible refine wpA_lit rfl _ _ _ rfl ?_); first | refine litA1 hL ?_ | refine litA2 hL ?_ | refine litA3 hL ?_ | refine litA4 hL ?_ | refine litA6 hL ?_) | ((with_reducible refine goJ rfl ?_); refine goP ?_))
              go_ret
              exact ⟨rfl, hL.below⟩
end Go.Proofs.YtmnoeoecjfhhbaaGreat
