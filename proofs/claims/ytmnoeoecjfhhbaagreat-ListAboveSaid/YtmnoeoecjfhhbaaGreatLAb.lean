/- ListAbove returns true. -/
import Derived.Test.YtmnoeoecjfhhbaaGreatLCp
import Derived.Test.YtmnoeoecjfhhbaaGreatImT
-- lit6
-- loadP
-- layer 43
namespace Go.Proofs.YtmnoeoecjfhhbaaGreat
open Go.RowKit

/-- a mark with ink that covers whole -/
def wholeI (A : Itm) : Itm := { A with ink := { A.ink with a := 255 } }
theorem ItmPt.whole {w : World} {vp vc : Value} {A : Itm} (h : ItmPt w vp vc A) : ItmPt w vp vc (wholeI A) := by
  refine ⟨h.1, h.2.1, h.2.2.1, ?_⟩
  have := h.2.2.2
  exact ⟨this.1, this.2.1, this.2.2.1, by show (0 : Int) ≤ 255 ∧ (255 : Int) ≤ 255; omega⟩
theorem pg_get {l : List Itm} {W H n : Nat} (h : paintErr l W H = 0) (hn : n < 3 * W * H) : (pgB l W H).getD n 0 = paintL W l n := by
  rw [pgB_ok h, Int.toNat_natCast, Int.toNat_natCast]
  simp [hn]
theorem pg_len {l : List Itm} {W H : Nat} (h : paintErr l W H = 0) : (pgB l W H).length = 3 * W * H := by
  rw [pgB_ok h, Int.toNat_natCast, Int.toNat_natCast]
  simp
/-- the last mark, that covers whole -/
theorem above_ink {l : List Itm} {A : Itm} {W H x y : Nat} (h1 : paintErr l W H = 0) (h2 : paintErr (l ++ [wholeI A]) W H = 0) (hk : A.kind ≠ 3) (hx : x < W) (hy : y < H) :
    inkP (pgB (l ++ [wholeI A]) W H) W x y = if markP (wholeI A) y x then .agg #[.int .u8 A.ink.r, .int .u8 A.ink.g, .int .u8 A.ink.b, .int .u8 255] else inkP (pgB l W H) W x y := by
  have hb := at_in hx hy
  have key : ∀ c, c < 3 → (pgB (l ++ [wholeI A]) W H).getD (3 * (y * W + x) + c) 0 = if markP (wholeI A) y x then chan A.ink c else (pgB l W H).getD (3 * (y * W + x) + c) 0 := by
    intro c hc
    have e1 : (3 * (y * W + x) + c) / 3 = y * W + x := by omega
    have e2 : (y * W + x) / W = y := by rw [Nat.add_comm, Nat.add_mul_div_right _ _ (by omega), Nat.div_eq_of_lt hx, Nat.zero_add]
    have e3 : (y * W + x) % W = x := by rw [Nat.add_comm, Nat.add_mul_mod_self_right, Nat.mod_eq_of_lt hx]
    have e4 : (3 * (y * W + x) + c) % 3 = c := by omega
    rw [pg_get h2 (by omega), pg_get h1 (by omega), paintL_snoc]
    cases hm : markP (wholeI A) y x
    · rw [paintI_off (by rw [e1, e2, e3]; exact hm)]
      rfl
    · rw [paintI_over (i := wholeI A) hk rfl (by rw [e1, e2, e3]; exact hm), e4]
      rfl
  unfold inkP
  rw [key 1 (by omega), key 2 (by omega), show 3 * (y * W + x) = 3 * (y * W + x) + 0 from rfl, key 0 (by omega)]
  cases markP (wholeI A) y x <;> rfl
theorem above_err {l : List Itm} {A : Itm} {W H : Nat} (h2 : paintErr (l ++ [wholeI A]) W H = 0) : markErr (wholeI A) W H = 0 ∧ markReg (wholeI A) W H = pixReg W H (markP (wholeI A)) := by
  obtain ⟨hm, h3, h4, _⟩ := paint_ok h2
  unfold markErr markReg
  rw [hm (wholeI A) (by simp), h3, h4]
  exact ⟨rfl, rfl⟩
/-- what the reads of a drawn region need -/
def VI (w : World) (b : Nat) (A : Itm) (pa : Option Addr) (pc : Nat) (ca : Option Addr) (cc : Nat) : Nat → World → Prop := fun k' w' => k' < 10 → Holds w w' [blk b #[.int .i64 A.kind, .slice pa A.path.length pc, .int .i64 A.rule, .int .i64 A.style.wide, .int .i64 A.style.cap, .int .i64 A.style.join, .int .i64 A.image.W, .int .i64 A.image.H, .int .i64 A.image.bits, .string A.image.data, .int .i64 A.mat.a, .int .i64 A.mat.b, .int .i64 A.mat.c, .int .i64 A.mat.d, .int .i64 A.mat.e, .int .i64 A.mat.f, .int .u8 A.ink.r, .int .u8 A.ink.g, .int .u8 A.ink.b, .int .u8 255, .slice ca A.clips.length cc] 33] []
def VP (w : World) (b W H : Nat) (a : Option Addr) (c : Nat) : Nat → World → Prop := fun k' w' => k' < 10 → Holds w w' [blk b #[.int .i64 W, .int .i64 H, .slice a (3 * W * H) c] 53] []
def PageQ (l : List Itm) (Wi Hi : Int) (a : Option Addr) (n c : Nat) (w : World) : Prop := BytesAt w (.slice a n c) (pgB l Wi Hi)
set_option maxRecDepth 100000 in
set_option maxHeartbeats 16000000 in
theorem listAbove_calls (w : World) (vl va : Value) (l : List Itm) (A : Itm) (hl : ItmsAt w vl l) (ha : ItmIs w va A) (z1 z2 : Int) (h1 : 0 ≤ z1 ∧ z1 ≤ 255) (h2 : 0 ≤ z2 ∧ z2 ≤ 255) : Calls Tryz.prog 7 #[vl, va, .int .u8 z1, .int .u8 z2] w fun e w' => e = .returned (.bool true) ∧ Below w.heap.size w w' := by
  obtain ⟨W, hX, hX1, hX2⟩ : ∃ W : Nat, 1 + z1 % 24 = (W : Int) ∧ 1 ≤ W ∧ W ≤ 24 := ⟨(1 + z1 % 24).toNat, by omega, by omega, by omega⟩
  obtain ⟨H, hY, hY1, hY2⟩ : ∃ H : Nat, 1 + z2 % 24 = (H : Int) ∧ 1 ≤ H ∧ H ≤ 24 := ⟨(1 + z2 % 24).toNat, by omega, by omega, by omega⟩
  have r1 : z1.tmod 24 = z1 % 24 := Int.tmod_eq_emod_of_nonneg (by omega)
  have r2 : z2.tmod 24 = z2 % 24 := Int.tmod_eq_emod_of_nonneg (by omega)
  have w1 : IntKind.i64.wrap z1 = z1 := wrapS (by omega) (by omega)
  have w2 : IntKind.i64.wrap z2 = z2 := wrapS (by omega) (by omega)
  have hs : Sides W H := ⟨hX1, by omega, hY1, by omega⟩
  obtain ⟨pa, pc, ca, cc, rfl, lp, lc, hA⟩ := ha.pt
  have hl' := hl
  obtain ⟨la, lcap, rfl, hlc, hlm, _⟩ := hl'
  obtain ⟨els, hE, hsl⟩ := items_els hl
  have hEl := hE.1
  have HFw := Lib.hid (fun w' v l (hv : ItmsAt w' v l) => few_calls w' v l hv)
  have HFl := Lib.hid (fun w' (hb : Below w.heap.size w w') => few_calls w' _ l (hl.below hb))
  have HI1 := Lib.hid (fun (w' : World) (M : List Res) (Φ : List (World → Prop)) (b : Nat) (cs : Array Value) (T : TypeId) (hL : Holds w w' M Φ) (k : At M (blk b cs T)) (e : cs.toList = itmC (.slice pa A.path.length pc) (.slice ca A.clips.length cc) A) => items_one hL k hA e)
  have HP := Lib.hid (fun w' (hb : Below w.heap.size w w') => (listPaint_calls wayLine w' _ l (hl.below hb) (W : Int) (H : Int)).mono fun e w2 h => PaintOut.any h)
  have HQ := Lib.hid (fun w' v (hv : ItmsAt w' v (l ++ [wholeI A])) => (listPaint_calls wayLine w' v _ hv (W : Int) (H : Int)).mono fun e w2 h => PaintOut.any h)
  have HS := Lib.hid (fun (w' : World) (M : List Res) (Φ : List (World → Prop)) (g cap : Nat) (n : Nat) (T : TypeId) (xs : List Value) (hL : Holds w w' M Φ) (k : At M (own w.heap.size T 21 (.slice (some ⟨g, 0, none⟩) n cap) n xs)) (hn : n = els.length + 1) (hx : xs = els.flatten ++ itmC (.slice pa A.path.length pc) (.slice ca A.clips.length cc) (wholeI A)) => items_snoc hL k hE hA.whole hn hx)
  have HC := Lib.hid (And.intro hE hsl)
  have HM := Lib.hid (fun w' (hb : Below w.heap.size w w') => (listMarkAll_calls (wayPoint 0 (by decide)) w' _ (wholeI A) ((hA.whole.is).below hb) (W : Int) (H : Int)).mono fun e w2 h => MarkOut.any h)
  unfold PgOut at HP HQ
  unfold itmV at HM
  generalize hmr : markReg (wholeI A) (W : Int) (H : Int) = mr at *
  generalize hme : markErr (wholeI A) (W : Int) (H : Int) = me at *
  have Hm := Lib.hid (And.intro hmr hme)
  clear hmr hme
  dsimp only [wholeI] at HM
  clear hl ha hE hsl
  unfold maxLen at lp lc hlm
  generalize hgx : pgW l (W : Int) (H : Int) (W : Int) = gx at *
  generalize hgy : pgW l (W : Int) (H : Int) (H : Int) = gy at *
  generalize hqx : pgW (l ++ [wholeI A]) (W : Int) (H : Int) (W : Int) = qx at *
  generalize hqy : pgW (l ++ [wholeI A]) (W : Int) (H : Int) (H : Int) = qy at *
  generalize hE1 : paintErr l (W : Int) (H : Int) = E1 at *
  generalize hE2 : paintErr (l ++ [wholeI A]) (W : Int) (H : Int) = E2 at *
  rw [← hEl] at HP HFl HC hlc ⊢
  have Hh := Lib.hid (And.intro hgx (And.intro hgy (And.intro hqx (And.intro hqy (And.intro hE1 hE2)))))
  clear hgx hgy hqx hqy hE1 hE2
  generalize hpb : pgB l (W : Int) (H : Int) = pb at *
  generalize hqb : pgB (l ++ [wholeI A]) (W : Int) (H : Int) = qb at *
  have Hb := Lib.hid (And.intro hpb hqb)
  have HEl := Lib.hid hEl
  clear hpb hqb hEl
  unfold itmV at *
  generalize hnn : els.length = n at *
  have Hn := Lib.hid hnn
  clear hnn
  have hL := Holds.start w
  obtain ⟨n1, n2, n3, n4, n5, n6⟩ := tok6
  go_enter Tryz.func7, Tryz.ntmps7
  go_wp2_with (first | (go_at_call 11; (with_reducible refine (known_calls _).mono ?_); rintro e _ ⟨rfl, hb⟩; replace hL := hL.call hb; clear hb) | (with_reducible first | (clear hL; intro _ _ _ hL; try dsimp only at hL) | (clear hL n1; intro b1 w1 hL) | (clear hL n2; intro b2 w2 hL) | (clear hL n3; intro b3 w3 hL) | (clear hL n4; intro b4 w4 hL) | (clear hL n5; intro b5 w5 hL) | (clear hL n6; intro b6 w6 hL) | (clear hL; intro _ _ hL) | (clear hL; intro _ hL)) | ((with_reducible refine wpA_lit rfl _ _ _ rfl ?_); first | refine litA1 hL ?_ | refine litA2 hL ?_ | refine litA3 hL ?_ | refine litA4 hL ?_ | refine litA6 hL ?_) | ((with_reducible refine goJ rfl ?_); refine goP ?_))
  refine (HFl.out _ hL.below).mono ?_
  rintro e _ ⟨⟨bf, rfl, h8⟩, hb⟩
  replace hL := hL.call hb
  clear hb
  cases bf
  · clear h8
    go_wp2_with (first | (with_reducible first | (clear hL; intro _ _ _ hL; try dsimp only at hL) | (clear hL n1; intro b1 w1 hL) | (clear hL n2; intro b2 w2 hL) | (clear hL n3; intro b3 w3 hL) | (clear hL n4; intro b4 w4 hL) | (clear hL n5; intro b5 w5 hL) | (clear hL n6; intro b6 w6 hL) | (clear hL; intro _ _ hL) | (clear hL; intro _ hL)) | ((with_reducible refine wpA_lit rfl _ _ _ rfl ?_); first | refine litA1 hL ?_ | refine litA2 hL ?_ | refine litA3 hL ?_ | refine litA4 hL ?_ | refine litA6 hL ?_) | ((with_reducible refine goJ rfl ?_); refine goP ?_))
    go_ret
    exact ⟨ret_bool (by simp), hL.below⟩
  have h8' := h8 rfl
  clear h8
  go_wp2_with (first | (with_reducible first | (clear hL; intro _ _ _ hL; try dsimp only at hL) | (clear hL n1; intro b1 w1 hL) | (clear hL n2; intro b2 w2 hL) | (clear hL n3; intro b3 w3 hL) | (clear hL n4; intro b4 w4 hL) | (clear hL n5; intro b5 w5 hL) | (clear hL n6; intro b6 w6 hL) | (clear hL; intro _ _ hL) | (clear hL; intro _ hL)) | ((with_reducible refine wpA_lit rfl _ _ _ rfl ?_); first | refine litA1 hL ?_ | refine litA2 hL ?_ | refine litA3 hL ?_ | refine litA4 hL ?_ | refine litA6 hL ?_) | ((with_reducible refine goJ rfl ?_); refine goP ?_))
  have hI := HI1.out _ _ _ _ _ _ hL .here rfl
  refine (HFw.out _ _ _ hI).mono ?_
  clear hI
  rintro e _ ⟨⟨bf, rfl, _⟩, hb⟩
  replace hL := hL.call hb
  clear hb
  cases bf
  · go_wp2_with (first | (with_reducible first | (clear hL; intro _ _ _ hL; try dsimp only at hL) | (clear hL n1; intro b1 w1 hL) | (clear hL n2; intro b2 w2 hL) | (clear hL n3; intro b3 w3 hL) | (clear hL n4; intro b4 w4 hL) | (clear hL n5; intro b5 w5 hL) | (clear hL n6; intro b6 w6 hL) | (clear hL; intro _ _ hL) | (clear hL; intro _ hL)) | ((with_reducible refine wpA_lit rfl _ _ _ rfl ?_); first | refine litA1 hL ?_ | refine litA2 hL ?_ | refine litA3 hL ?_ | refine litA4 hL ?_ | refine litA6 hL ?_) | ((with_reducible refine goJ rfl ?_); refine goP ?_))
    go_ret
    exact ⟨ret_bool (by simp), hL.below⟩
  by_cases hk : A.kind = 3
  · have hk1 : (A.kind == 3) = true := by simp [hk]
    go_wp2_with (first | (with_reducible first | (clear hL; intro _ _ _ hL; try dsimp only at hL) | (clear hL n1; intro b1 w1 hL) | (clear hL n2; intro b2 w2 hL) | (clear hL n3; intro b3 w3 hL) | (clear hL n4; intro b4 w4 hL) | (clear hL n5; intro b5 w5 hL) | (clear hL n6; intro b6 w6 hL) | (clear hL; intro _ _ hL) | (clear hL; intro _ hL)) | ((with_reducible refine wpA_lit rfl _ _ _ rfl ?_); first | refine litA1 hL ?_ | refine litA2 hL ?_ | refine litA3 hL ?_ | refine litA4 hL ?_ | refine litA6 hL ?_) | ((with_reducible refine goJ rfl ?_); refine goP ?_))
    go_ret
    exact ⟨ret_bool (by simp), hL.below⟩
  have hk1 : (A.kind == 3) = false := by simp [hk]
  go_wp2_with (first | (with_reducible first | (clear hL; intro _ _ _ hL; try dsimp only at hL) | (clear hL n1; intro b1 w1 hL) | (clear hL n2; intro b2 w2 hL) | (clear hL n3; intro b3 w3 hL) | (clear hL n4; intro b4 w4 hL) | (clear hL n5; intro b5 w5 hL) | (clear hL n6; intro b6 w6 hL) | (clear hL; intro _ _ hL) | (clear hL; intro _ hL)) | ((with_reducible refine wpA_lit rfl _ _ _ rfl ?_); first | refine litA1 hL ?_ | refine litA2 hL ?_ | refine litA3 hL ?_ | refine litA4 hL ?_ | refine litA6 hL ?_) | ((with_reducible refine goJ rfl ?_); refine goP ?_))
  refine (HP.out _ hL.below).mono ?_
  rintro e _ ⟨ya, yn, yc, rfl, hb, hf⟩
  replace hL := hL.callF hb hf
  clear hb hf
  go_wp2_with (first | (with_reducible first | (clear hL; intro _ _ _ hL; try dsimp only at hL) | (clear hL n1; intro b1 w1 hL) | (clear hL n2; intro b2 w2 hL) | (clear hL n3; intro b3 w3 hL) | (clear hL n4; intro b4 w4 hL) | (clear hL n5; intro b5 w5 hL) | (clear hL n6; intro b6 w6 hL) | (clear hL; intro _ _ hL) | (clear hL; intro _ hL)) | ((with_reducible refine wpA_lit rfl _ _ _ rfl ?_); first | refine litA1 hL ?_ | refine litA2 hL ?_ | refine litA3 hL ?_ | refine litA4 hL ?_ | refine litA6 hL ?_) | ((with_reducible refine goJ rfl ?_); refine goP ?_))
  replace hL := hL.drop (.there .here)
  have hnl : els.length ≤ 8 := (by rw [Hn.out]; exact h8')
  apply exContI hL (cs := fun xa xn xc => #[.int .i64 qx, .int .i64 qy, .slice xa xn xc]) (T := 53) (F := fun xa xn xc w => BytesAt w (.slice xa xn xc) qb)
  · intro hC
    replace hL := hL.drew
    have hV : ∀ k, (VI w b1 A pa pc ca cc) k _ := fun k' _ => hL.pick (by (repeat (first | with_reducible exact At.here | with_reducible apply At.there)))
    refine wpV_begin (by kernel_rfl) (VI w b1 A pa pc ca cc) 12 ?_
    refine stV (i := 0) ?_ (fun k _ => hV k) (fun w' hw => ?_) ?_ (by repeat (first | exact pinned_none | refine pinned_put ?_)); rotate_left; (· (try replace hw := hw (by decide)); go_simp; try with_reducible rfl)
    simp only [Act.put, setP]
    refine stV (i := 2) ?_ (fun k _ => hV k) (fun w' hw => ?_) ?_ (by repeat (first | exact pinned_none | refine pinned_put ?_)); rotate_left; (· (try replace hw := hw (by decide)); refine run_loadOp _ _ rfl _ rfl _ ?_; (first | refine loadA hw ?_ | refine loadU hw ?_ | refine loadR hw ?_ | refine loadP hw ?_ | refine loadC hw ?_ | refine loadE hw ?_ | refine loadD ?_ | refine loadF ?_); rfl)
    simp only [Act.put, setP]
    refine stV (i := 5) ?_ (fun k _ => hV k) (fun w' hw => ?_) ?_ (by repeat (first | exact pinned_none | refine pinned_put ?_)); rotate_left; (· (try replace hw := hw (by decide)); go_simp; try with_reducible rfl)
    simp only [Act.put, setP]
    refine stV (i := 6) ?_ (fun k _ => hV k) (fun w' hw => ?_) ?_ (by repeat (first | exact pinned_none | refine pinned_put ?_)); rotate_left; (· (try replace hw := hw (by decide)); go_simp; try with_reducible rfl)
    simp only [Act.put, setP]
    refine wpV_three (i := 1) (j := 3) (k := 11) (by kernel_rfl) (wpOp_of (by simp only [List.getElem?_toArray, List.getElem?_cons_zero, List.getElem?_cons_succ]; rfl) ?_) (wpOp_of (by simp only [List.getElem?_toArray, List.getElem?_cons_zero, List.getElem?_cons_succ]; rfl) ?_) (wpOp_of (by simp only [List.getElem?_toArray, List.getElem?_cons_zero, List.getElem?_cons_succ]; rfl) ?_)
    · refine st_append rfl _ _ _ rfl (.slice none 0 0) (.slice la n lcap) rfl rfl (appendCopy hL HC.out.1 HC.out.2 (by omega) (by unfold maxLen; omega) ?_)
      intro v58 w9 hL2
      rw [Hn.out] at hL2; clear hL; have hL := hL2; clear hL2
      have hV2 : ∀ k, (VI w b1 A pa pc ca cc) k _ := fun k' _ => hL.pick (by (repeat (first | with_reducible exact At.here | with_reducible apply At.there)))
      clear hV
      have hV := hV2
      clear hV2
      refine ⟨fun k _ => hV k, ?_⟩
      simp only [Act.put, setP]
      refine wpV_two (i := 3) (j := 11) (by kernel_rfl) (wpOp_of (by simp only [List.getElem?_toArray, List.getElem?_cons_zero, List.getElem?_cons_succ]; rfl) ?_) (wpOp_of (by simp only [List.getElem?_toArray, List.getElem?_cons_zero, List.getElem?_cons_succ]; rfl) ?_)
      · refine st_lit rfl _ _ _ rfl (litA1 hL ?_)
        intro b60 w9 hL2
        clear hL; have hL := hL2; clear hL2
        have hV2 : ∀ k, (VI w b1 A pa pc ca cc) k _ := fun k' _ => hL.pick (by (repeat (first | with_reducible exact At.here | with_reducible apply At.there)))
        clear hV
        have hV := hV2
        clear hV2
        refine ⟨fun k _ => hV k, ?_⟩
        simp only [Act.put, setP]
        refine wpV_two (i := 4) (j := 11) (by kernel_rfl) (wpOp_of (by simp only [List.getElem?_toArray, List.getElem?_cons_zero, List.getElem?_cons_succ]; rfl) ?_) (wpOp_of (by simp only [List.getElem?_toArray, List.getElem?_cons_zero, List.getElem?_cons_succ]; rfl) ?_)
        · refine st_append rfl _ _ _ rfl v58 (.slice (some ⟨b60, 0, none⟩) 1 1) rfl rfl (appendA hL ?_)
          intro g61 c61 w9 hL2
          clear hL; have hL := hL2; clear hL2; try dsimp only at hL
          have hV2 : ∀ k, (VI w b1 A pa pc ca cc) k _ := fun k' _ => hL.pick (by (repeat (first | with_reducible exact At.here | with_reducible apply At.there)))
          clear hV
          have hV := hV2
          clear hV2
          refine ⟨fun k _ => hV k, ?_⟩
          simp only [Act.put, setP]
          refine wpV_two (i := 7) (j := 11) (by kernel_rfl) (wpOp_of (by simp only [List.getElem?_toArray, List.getElem?_cons_zero, List.getElem?_cons_succ]; rfl) ?_) (wpOp_of (by simp only [List.getElem?_toArray, List.getElem?_cons_zero, List.getElem?_cons_succ]; rfl) ?_)
          · refine st_call rfl _ _ ?_ (HQ.out _ _ (HS.out _ _ _ _ _ _ _ _ hL (by (repeat (first | with_reducible exact At.here | with_reducible apply At.there))) rfl (by rfl))) ?_
            (· go_simp; try with_reducible rfl)
            rintro e _ ⟨xa, xn, xc, rfl, hb, hf⟩
            replace hL := hL.callF hb hf
            clear hb hf
            replace hL := hL.drop (r := own _ _ _ _ _ _) (by (repeat (first | with_reducible exact Rem.here | with_reducible apply Rem.there)))
            have hV2 : ∀ k, (VI w b1 A pa pc ca cc) k _ := fun k' _ => hL.pick (by (repeat (first | with_reducible exact At.here | with_reducible apply At.there)))
            clear hV
            have hV := hV2
            clear hV2
            refine ⟨_, rfl, fun k _ => hV k, ?_⟩
            simp only [Act.put, setP]
            refine stV (i := 8) ?_ (fun k _ => hV k) (fun w' hw => ?_) ?_ (by repeat (first | exact pinned_none | refine pinned_put ?_)); rotate_left; (· (try replace hw := hw (by decide)); go_simp; try with_reducible rfl)
            simp only [Act.put, setP]
            refine stV (i := 9) ?_ (fun k _ => hV k) (fun w' hw => ?_) ?_ (by repeat (first | exact pinned_none | refine pinned_put ?_)); rotate_left; (· (try replace hw := hw (by decide)); go_simp; try with_reducible rfl)
            simp only [Act.put, setP]
            refine stV (i := 10) ?_ (fun k _ => hV k) (fun w' hw => ?_) ?_ (by repeat (first | exact pinned_none | refine pinned_put ?_)); rotate_left; (· (try replace hw := hw (by decide)); go_simp; try with_reducible rfl)
            simp only [Act.put, setP]
            refine wpV_one (i := 11) (by kernel_rfl) (wpOp_of (by simp only [List.getElem?_toArray, List.getElem?_cons_zero, List.getElem?_cons_succ]; rfl) ?_)
            refine st_alloc hL ?_
            intro b13 w9 hb hL2
            clear hb hL
            have hL := hL2; clear hL2
            have hV2 : ∀ k, (VI w b1 A pa pc ca cc) k _ := fun k' _ => hL.pick (by (repeat (first | with_reducible exact At.here | with_reducible apply At.there)))
            clear hV
            have hV := hV2
            clear hV2
            refine ⟨fun k _ => hV k, ?_⟩
            simp only [Act.put, setP]
            refine wpV_one (i := 12) (by kernel_rfl) (wpOp_of (by simp only [List.getElem?_toArray, List.getElem?_cons_zero, List.getElem?_cons_succ]; rfl) ?_)
            refine st_store rfl _ _ _ rfl _ rfl (.agg _) rfl ?_
            first | refine storeA hL ?_ | refine storeO hL ?_ | refine storeR hL ?_
            try clear hV
            clear hL; intro w9 hL
            refine ⟨fun k9 hk9 hm9 => ?_, ?_⟩
            (· exact absurd hm9 (pinned_off 12 10 hk9 (by kernel_rfl) (by decide) (by kernel_rfl)))
            try simp only [Act.put]
            refine wpV_one (i := 13) (by kernel_rfl) (wpOp_of (by simp only [List.getElem?_toArray, List.getElem?_cons_zero, List.getElem?_cons_succ]; rfl) ?_)
            refine st_easy rfl ?_ ?_ ?_; rotate_left; (· go_simp; try with_reducible rfl)
            refine ⟨fun k9 hk9 hm9 => ?_, ?_⟩
            (· exact absurd hm9 (pinned_off 12 10 hk9 (by kernel_rfl) (by decide) (by kernel_rfl)))
            simp only [Act.put, setP]
            refine wpV_done (by kernel_rfl) ?_
            exact hC v58 b60 g61 c61 xa xn xc b13 _ hL
          · refine st_alloc hL ?_
            intro b13 w9 hb hL2
            clear hb hL
            have hL := hL2; clear hL2
            have hV2 : ∀ k, (VI w b1 A pa pc ca cc) k _ := fun k' _ => hL.pick (by (repeat (first | with_reducible exact At.here | with_reducible apply At.there)))
            clear hV
            have hV := hV2
            clear hV2
            refine ⟨fun k _ => hV k, ?_⟩
            simp only [Act.put, setP]
            refine wpV_one (i := 7) (by kernel_rfl) (wpOp_of (by simp only [List.getElem?_toArray, List.getElem?_cons_zero, List.getElem?_cons_succ]; rfl) ?_)
            refine st_call rfl _ _ ?_ (HQ.out _ _ (HS.out _ _ _ _ _ _ _ _ hL (by (repeat (first | with_reducible exact At.here | with_reducible apply At.there))) rfl (by rfl))) ?_
            (· go_simp; try with_reducible rfl)
            rintro e _ ⟨xa, xn, xc, rfl, hb, hf⟩
            replace hL := hL.callF hb hf
            clear hb hf
            replace hL := hL.drop (r := own _ _ _ _ _ _) (by (repeat (first | with_reducible exact Rem.here | with_reducible apply Rem.there)))
            have hV2 : ∀ k, (VI w b1 A pa pc ca cc) k _ := fun k' _ => hL.pick (by (repeat (first | with_reducible exact At.here | with_reducible apply At.there)))
            clear hV
            have hV := hV2
            clear hV2
            refine ⟨_, rfl, fun k _ => hV k, ?_⟩
            simp only [Act.put, setP]
            refine stV (i := 8) ?_ (fun k _ => hV k) (fun w' hw => ?_) ?_ (by repeat (first | exact pinned_none | refine pinned_put ?_)); rotate_left; (· (try replace hw := hw (by decide)); go_simp; try with_reducible rfl)
            simp only [Act.put, setP]
            refine stV (i := 9) ?_ (fun k _ => hV k) (fun w' hw => ?_) ?_ (by repeat (first | exact pinned_none | refine pinned_put ?_)); rotate_left; (· (try replace hw := hw (by decide)); go_simp; try with_reducible rfl)
            simp only [Act.put, setP]
            refine stV (i := 10) ?_ (fun k _ => hV k) (fun w' hw => ?_) ?_ (by repeat (first | exact pinned_none | refine pinned_put ?_)); rotate_left; (· (try replace hw := hw (by decide)); go_simp; try with_reducible rfl)
            simp only [Act.put, setP]
            refine wpV_one (i := 12) (by kernel_rfl) (wpOp_of (by simp only [List.getElem?_toArray, List.getElem?_cons_zero, List.getElem?_cons_succ]; rfl) ?_)
            refine st_store rfl _ _ _ rfl _ rfl (.agg _) rfl ?_
            first | refine storeA hL ?_ | refine storeO hL ?_ | refine storeR hL ?_
            try clear hV
            clear hL; intro w9 hL
            refine ⟨fun k9 hk9 hm9 => ?_, ?_⟩
            (· exact absurd hm9 (pinned_off 12 10 hk9 (by kernel_rfl) (by decide) (by kernel_rfl)))
            try simp only [Act.put]
            refine wpV_one (i := 13) (by kernel_rfl) (wpOp_of (by simp only [List.getElem?_toArray, List.getElem?_cons_zero, List.getElem?_cons_succ]; rfl) ?_)
            refine st_easy rfl ?_ ?_ ?_; rotate_left; (· go_simp; try with_reducible rfl)
            refine ⟨fun k9 hk9 hm9 => ?_, ?_⟩
            (· exact absurd hm9 (pinned_off 12 10 hk9 (by kernel_rfl) (by decide) (by kernel_rfl)))
            simp only [Act.put, setP]
            refine wpV_done (by kernel_rfl) ?_
            exact hC v58 b60 g61 c61 xa xn xc b13 _ hL
        · refine st_alloc hL ?_
          intro b13 w9 hb hL2
          clear hb hL
          have hL := hL2; clear hL2
          have hV2 : ∀ k, (VI w b1 A pa pc ca cc) k _ := fun k' _ => hL.pick (by (repeat (first | with_reducible exact At.here | with_reducible apply At.there)))
          clear hV
          have hV := hV2
          clear hV2
          refine ⟨fun k _ => hV k, ?_⟩
          simp only [Act.put, setP]
          refine wpV_one (i := 4) (by kernel_rfl) (wpOp_of (by simp only [List.getElem?_toArray, List.getElem?_cons_zero, List.getElem?_cons_succ]; rfl) ?_)
          refine st_append rfl _ _ _ rfl v58 (.slice (some ⟨b60, 0, none⟩) 1 1) rfl rfl (appendA hL ?_)
          intro g61 c61 w9 hL2
          clear hL; have hL := hL2; clear hL2; try dsimp only at hL
          have hV2 : ∀ k, (VI w b1 A pa pc ca cc) k _ := fun k' _ => hL.pick (by (repeat (first | with_reducible exact At.here | with_reducible apply At.there)))
          clear hV
          have hV := hV2
          clear hV2
          refine ⟨fun k _ => hV k, ?_⟩
          simp only [Act.put, setP]
          refine wpV_one (i := 7) (by kernel_rfl) (wpOp_of (by simp only [List.getElem?_toArray, List.getElem?_cons_zero, List.getElem?_cons_succ]; rfl) ?_)
          refine st_call rfl _ _ ?_ (HQ.out _ _ (HS.out _ _ _ _ _ _ _ _ hL (by (repeat (first | with_reducible exact At.here | with_reducible apply At.there))) rfl (by rfl))) ?_
          (· go_simp; try with_reducible rfl)
          rintro e _ ⟨xa, xn, xc, rfl, hb, hf⟩
          replace hL := hL.callF hb hf
          clear hb hf
          replace hL := hL.drop (r := own _ _ _ _ _ _) (by (repeat (first | with_reducible exact Rem.here | with_reducible apply Rem.there)))
          have hV2 : ∀ k, (VI w b1 A pa pc ca cc) k _ := fun k' _ => hL.pick (by (repeat (first | with_reducible exact At.here | with_reducible apply At.there)))
          clear hV
          have hV := hV2
          clear hV2
          refine ⟨_, rfl, fun k _ => hV k, ?_⟩
          simp only [Act.put, setP]
          refine stV (i := 8) ?_ (fun k _ => hV k) (fun w' hw => ?_) ?_ (by repeat (first | exact pinned_none | refine pinned_put ?_)); rotate_left; (· (try replace hw := hw (by decide)); go_simp; try with_reducible rfl)
          simp only [Act.put, setP]
          refine stV (i := 9) ?_ (fun k _ => hV k) (fun w' hw => ?_) ?_ (by repeat (first | exact pinned_none | refine pinned_put ?_)); rotate_left; (· (try replace hw := hw (by decide)); go_simp; try with_reducible rfl)
          simp only [Act.put, setP]
          refine stV (i := 10) ?_ (fun k _ => hV k) (fun w' hw => ?_) ?_ (by repeat (first | exact pinned_none | refine pinned_put ?_)); rotate_left; (· (try replace hw := hw (by decide)); go_simp; try with_reducible rfl)
          simp only [Act.put, setP]
          refine wpV_one (i := 12) (by kernel_rfl) (wpOp_of (by simp only [List.getElem?_toArray, List.getElem?_cons_zero, List.getElem?_cons_succ]; rfl) ?_)
          refine st_store rfl _ _ _ rfl _ rfl (.agg _) rfl ?_
          first | refine storeA hL ?_ | refine storeO hL ?_ | refine storeR hL ?_
          try clear hV
          clear hL; intro w9 hL
          refine ⟨fun k9 hk9 hm9 => ?_, ?_⟩
          (· exact absurd hm9 (pinned_off 12 10 hk9 (by kernel_rfl) (by decide) (by kernel_rfl)))
          try simp only [Act.put]
          refine wpV_one (i := 13) (by kernel_rfl) (wpOp_of (by simp only [List.getElem?_toArray, List.getElem?_cons_zero, List.getElem?_cons_succ]; rfl) ?_)
          refine st_easy rfl ?_ ?_ ?_; rotate_left; (· go_simp; try with_reducible rfl)
          refine ⟨fun k9 hk9 hm9 => ?_, ?_⟩
          (· exact absurd hm9 (pinned_off 12 10 hk9 (by kernel_rfl) (by decide) (by kernel_rfl)))
          simp only [Act.put, setP]
          refine wpV_done (by kernel_rfl) ?_
          exact hC v58 b60 g61 c61 xa xn xc b13 _ hL
      · refine st_alloc hL ?_
        intro b13 w9 hb hL2
        clear hb hL
        have hL := hL2; clear hL2
        have hV2 : ∀ k, (VI w b1 A pa pc ca cc) k _ := fun k' _ => hL.pick (by (repeat (first | with_reducible exact At.here | with_reducible apply At.there)))
        clear hV
        have hV := hV2
        clear hV2
        refine ⟨fun k _ => hV k, ?_⟩
        simp only [Act.put, setP]
        refine wpV_one (i := 3) (by kernel_rfl) (wpOp_of (by simp only [List.getElem?_toArray, List.getElem?_cons_zero, List.getElem?_cons_succ]; rfl) ?_)
        refine st_lit rfl _ _ _ rfl (litA1 hL ?_)
        intro b60 w9 hL2
        clear hL; have hL := hL2; clear hL2
        have hV2 : ∀ k, (VI w b1 A pa pc ca cc) k _ := fun k' _ => hL.pick (by (repeat (first | with_reducible exact At.here | with_reducible apply At.there)))
        clear hV
        have hV := hV2
        clear hV2
        refine ⟨fun k _ => hV k, ?_⟩
        simp only [Act.put, setP]
        refine wpV_one (i := 4) (by kernel_rfl) (wpOp_of (by simp only [List.getElem?_toArray, List.getElem?_cons_zero, List.getElem?_cons_succ]; rfl) ?_)
        refine st_append rfl _ _ _ rfl v58 (.slice (some ⟨b60, 0, none⟩) 1 1) rfl rfl (appendA hL ?_)
        intro g61 c61 w9 hL2
        clear hL; have hL := hL2; clear hL2; try dsimp only at hL
        have hV2 : ∀ k, (VI w b1 A pa pc ca cc) k _ := fun k' _ => hL.pick (by (repeat (first | with_reducible exact At.here | with_reducible apply At.there)))
        clear hV
        have hV := hV2
        clear hV2
        refine ⟨fun k _ => hV k, ?_⟩
        simp only [Act.put, setP]
        refine wpV_one (i := 7) (by kernel_rfl) (wpOp_of (by simp only [List.getElem?_toArray, List.getElem?_cons_zero, List.getElem?_cons_succ]; rfl) ?_)
        refine st_call rfl _ _ ?_ (HQ.out _ _ (HS.out _ _ _ _ _ _ _ _ hL (by (repeat (first | with_reducible exact At.here | with_reducible apply At.there))) rfl (by rfl))) ?_
        (· go_simp; try with_reducible rfl)
        rintro e _ ⟨xa, xn, xc, rfl, hb, hf⟩
        replace hL := hL.callF hb hf
        clear hb hf
        replace hL := hL.drop (r := own _ _ _ _ _ _) (by (repeat (first | with_reducible exact Rem.here | with_reducible apply Rem.there)))
        have hV2 : ∀ k, (VI w b1 A pa pc ca cc) k _ := fun k' _ => hL.pick (by (repeat (first | with_reducible exact At.here | with_reducible apply At.there)))
        clear hV
        have hV := hV2
        clear hV2
        refine ⟨_, rfl, fun k _ => hV k, ?_⟩
        simp only [Act.put, setP]
        refine stV (i := 8) ?_ (fun k _ => hV k) (fun w' hw => ?_) ?_ (by repeat (first | exact pinned_none | refine pinned_put ?_)); rotate_left; (· (try replace hw := hw (by decide)); go_simp; try with_reducible rfl)
        simp only [Act.put, setP]
        refine stV (i := 9) ?_ (fun k _ => hV k) (fun w' hw => ?_) ?_ (by repeat (first | exact pinned_none | refine pinned_put ?_)); rotate_left; (· (try replace hw := hw (by decide)); go_simp; try with_reducible rfl)
        simp only [Act.put, setP]
        refine stV (i := 10) ?_ (fun k _ => hV k) (fun w' hw => ?_) ?_ (by repeat (first | exact pinned_none | refine pinned_put ?_)); rotate_left; (· (try replace hw := hw (by decide)); go_simp; try with_reducible rfl)
        simp only [Act.put, setP]
        refine wpV_one (i := 12) (by kernel_rfl) (wpOp_of (by simp only [List.getElem?_toArray, List.getElem?_cons_zero, List.getElem?_cons_succ]; rfl) ?_)
        refine st_store rfl _ _ _ rfl _ rfl (.agg _) rfl ?_
        first | refine storeA hL ?_ | refine storeO hL ?_ | refine storeR hL ?_
        try clear hV
        clear hL; intro w9 hL
        refine ⟨fun k9 hk9 hm9 => ?_, ?_⟩
        (· exact absurd hm9 (pinned_off 12 10 hk9 (by kernel_rfl) (by decide) (by kernel_rfl)))
        try simp only [Act.put]
        refine wpV_one (i := 13) (by kernel_rfl) (wpOp_of (by simp only [List.getElem?_toArray, List.getElem?_cons_zero, List.getElem?_cons_succ]; rfl) ?_)
        refine st_easy rfl ?_ ?_ ?_; rotate_left; (· go_simp; try with_reducible rfl)
        refine ⟨fun k9 hk9 hm9 => ?_, ?_⟩
        (· exact absurd hm9 (pinned_off 12 10 hk9 (by kernel_rfl) (by decide) (by kernel_rfl)))
        simp only [Act.put, setP]
        refine wpV_done (by kernel_rfl) ?_
        exact hC v58 b60 g61 c61 xa xn xc b13 _ hL
    · refine st_lit rfl _ _ _ rfl (litA1 hL ?_)
      intro b60 w9 hL2
      clear hL; have hL := hL2; clear hL2
      have hV2 : ∀ k, (VI w b1 A pa pc ca cc) k _ := fun k' _ => hL.pick (by (repeat (first | with_reducible exact At.here | with_reducible apply At.there)))
      clear hV
      have hV := hV2
      clear hV2
      refine ⟨fun k _ => hV k, ?_⟩
      simp only [Act.put, setP]
      refine wpV_two (i := 1) (j := 11) (by kernel_rfl) (wpOp_of (by simp only [List.getElem?_toArray, List.getElem?_cons_zero, List.getElem?_cons_succ]; rfl) ?_) (wpOp_of (by simp only [List.getElem?_toArray, List.getElem?_cons_zero, List.getElem?_cons_succ]; rfl) ?_)
      · refine st_append rfl _ _ _ rfl (.slice none 0 0) (.slice la n lcap) rfl rfl (appendCopy hL HC.out.1 HC.out.2 (by omega) (by unfold maxLen; omega) ?_)
        intro v58 w9 hL2
        rw [Hn.out] at hL2; clear hL; have hL := hL2; clear hL2
        have hV2 : ∀ k, (VI w b1 A pa pc ca cc) k _ := fun k' _ => hL.pick (by (repeat (first | with_reducible exact At.here | with_reducible apply At.there)))
        clear hV
        have hV := hV2
        clear hV2
        refine ⟨fun k _ => hV k, ?_⟩
        simp only [Act.put, setP]
        refine wpV_two (i := 4) (j := 11) (by kernel_rfl) (wpOp_of (by simp only [List.getElem?_toArray, List.getElem?_cons_zero, List.getElem?_cons_succ]; rfl) ?_) (wpOp_of (by simp only [List.getElem?_toArray, List.getElem?_cons_zero, List.getElem?_cons_succ]; rfl) ?_)
        · refine st_append rfl _ _ _ rfl v58 (.slice (some ⟨b60, 0, none⟩) 1 1) rfl rfl (appendA hL ?_)
          intro g61 c61 w9 hL2
          clear hL; have hL := hL2; clear hL2; try dsimp only at hL
          have hV2 : ∀ k, (VI w b1 A pa pc ca cc) k _ := fun k' _ => hL.pick (by (repeat (first | with_reducible exact At.here | with_reducible apply At.there)))
          clear hV
          have hV := hV2
          clear hV2
          refine ⟨fun k _ => hV k, ?_⟩
          simp only [Act.put, setP]
          refine wpV_two (i := 7) (j := 11) (by kernel_rfl) (wpOp_of (by simp only [List.getElem?_toArray, List.getElem?_cons_zero, List.getElem?_cons_succ]; rfl) ?_) (wpOp_of (by simp only [List.getElem?_toArray, List.getElem?_cons_zero, List.getElem?_cons_succ]; rfl) ?_)
          · refine st_call rfl _ _ ?_ (HQ.out _ _ (HS.out _ _ _ _ _ _ _ _ hL (by (repeat (first | with_reducible exact At.here | with_reducible apply At.there))) rfl (by rfl))) ?_
            (· go_simp; try with_reducible rfl)
            rintro e _ ⟨xa, xn, xc, rfl, hb, hf⟩
            replace hL := hL.callF hb hf
            clear hb hf
            replace hL := hL.drop (r := own _ _ _ _ _ _) (by (repeat (first | with_reducible exact Rem.here | with_reducible apply Rem.there)))
            have hV2 : ∀ k, (VI w b1 A pa pc ca cc) k _ := fun k' _ => hL.pick (by (repeat (first | with_reducible exact At.here | with_reducible apply At.there)))
            clear hV
            have hV := hV2
            clear hV2
            refine ⟨_, rfl, fun k _ => hV k, ?_⟩
            simp only [Act.put, setP]
            refine stV (i := 8) ?_ (fun k _ => hV k) (fun w' hw => ?_) ?_ (by repeat (first | exact pinned_none | refine pinned_put ?_)); rotate_left; (· (try replace hw := hw (by decide)); go_simp; try with_reducible rfl)
            simp only [Act.put, setP]
            refine stV (i := 9) ?_ (fun k _ => hV k) (fun w' hw => ?_) ?_ (by repeat (first | exact pinned_none | refine pinned_put ?_)); rotate_left; (· (try replace hw := hw (by decide)); go_simp; try with_reducible rfl)
            simp only [Act.put, setP]
            refine stV (i := 10) ?_ (fun k _ => hV k) (fun w' hw => ?_) ?_ (by repeat (first | exact pinned_none | refine pinned_put ?_)); rotate_left; (· (try replace hw := hw (by decide)); go_simp; try with_reducible rfl)
            simp only [Act.put, setP]
            refine wpV_one (i := 11) (by kernel_rfl) (wpOp_of (by simp only [List.getElem?_toArray, List.getElem?_cons_zero, List.getElem?_cons_succ]; rfl) ?_)
            refine st_alloc hL ?_
            intro b13 w9 hb hL2
            clear hb hL
            have hL := hL2; clear hL2
            have hV2 : ∀ k, (VI w b1 A pa pc ca cc) k _ := fun k' _ => hL.pick (by (repeat (first | with_reducible exact At.here | with_reducible apply At.there)))
            clear hV
            have hV := hV2
            clear hV2
            refine ⟨fun k _ => hV k, ?_⟩
            simp only [Act.put, setP]
            refine wpV_one (i := 12) (by kernel_rfl) (wpOp_of (by simp only [List.getElem?_toArray, List.getElem?_cons_zero, List.getElem?_cons_succ]; rfl) ?_)
            refine st_store rfl _ _ _ rfl _ rfl (.agg _) rfl ?_
            first | refine storeA hL ?_ | refine storeO hL ?_ | refine storeR hL ?_
            try clear hV
            clear hL; intro w9 hL
            refine ⟨fun k9 hk9 hm9 => ?_, ?_⟩
            (· exact absurd hm9 (pinned_off 12 10 hk9 (by kernel_rfl) (by decide) (by kernel_rfl)))
            try simp only [Act.put]
            refine wpV_one (i := 13) (by kernel_rfl) (wpOp_of (by simp only [List.getElem?_toArray, List.getElem?_cons_zero, List.getElem?_cons_succ]; rfl) ?_)
            refine st_easy rfl ?_ ?_ ?_; rotate_left; (· go_simp; try with_reducible rfl)
            refine ⟨fun k9 hk9 hm9 => ?_, ?_⟩
            (· exact absurd hm9 (pinned_off 12 10 hk9 (by kernel_rfl) (by decide) (by kernel_rfl)))
            simp only [Act.put, setP]
            refine wpV_done (by kernel_rfl) ?_
            exact hC v58 b60 g61 c61 xa xn xc b13 _ hL
          · refine st_alloc hL ?_
            intro b13 w9 hb hL2
            clear hb hL
            have hL := hL2; clear hL2
            have hV2 : ∀ k, (VI w b1 A pa pc ca cc) k _ := fun k' _ => hL.pick (by (repeat (first | with_reducible exact At.here | with_reducible apply At.there)))
            clear hV
            have hV := hV2
            clear hV2
            refine ⟨fun k _ => hV k, ?_⟩
            simp only [Act.put, setP]
            refine wpV_one (i := 7) (by kernel_rfl) (wpOp_of (by simp only [List.getElem?_toArray, List.getElem?_cons_zero, List.getElem?_cons_succ]; rfl) ?_)
            refine st_call rfl _ _ ?_ (HQ.out _ _ (HS.out _ _ _ _ _ _ _ _ hL (by (repeat (first | with_reducible exact At.here | with_reducible apply At.there))) rfl (by rfl))) ?_
            (· go_simp; try with_reducible rfl)
            rintro e _ ⟨xa, xn, xc, rfl, hb, hf⟩
            replace hL := hL.callF hb hf
            clear hb hf
            replace hL := hL.drop (r := own _ _ _ _ _ _) (by (repeat (first | with_reducible exact Rem.here | with_reducible apply Rem.there)))
            have hV2 : ∀ k, (VI w b1 A pa pc ca cc) k _ := fun k' _ => hL.pick (by (repeat (first | with_reducible exact At.here | with_reducible apply At.there)))
            clear hV
            have hV := hV2
            clear hV2
            refine ⟨_, rfl, fun k _ => hV k, ?_⟩
            simp only [Act.put, setP]
            refine stV (i := 8) ?_ (fun k _ => hV k) (fun w' hw => ?_) ?_ (by repeat (first | exact pinned_none | refine pinned_put ?_)); rotate_left; (· (try replace hw := hw (by decide)); go_simp; try with_reducible rfl)
            simp only [Act.put, setP]
            refine stV (i := 9) ?_ (fun k _ => hV k) (fun w' hw => ?_) ?_ (by repeat (first | exact pinned_none | refine pinned_put ?_)); rotate_left; (· (try replace hw := hw (by decide)); go_simp; try with_reducible rfl)
            simp only [Act.put, setP]
            refine stV (i := 10) ?_ (fun k _ => hV k) (fun w' hw => ?_) ?_ (by repeat (first | exact pinned_none | refine pinned_put ?_)); rotate_left; (· (try replace hw := hw (by decide)); go_simp; try with_reducible rfl)
            simp only [Act.put, setP]
            refine wpV_one (i := 12) (by kernel_rfl) (wpOp_of (by simp only [List.getElem?_toArray, List.getElem?_cons_zero, List.getElem?_cons_succ]; rfl) ?_)
            refine st_store rfl _ _ _ rfl _ rfl (.agg _) rfl ?_
            first | refine storeA hL ?_ | refine storeO hL ?_ | refine storeR hL ?_
            try clear hV
            clear hL; intro w9 hL
            refine ⟨fun k9 hk9 hm9 => ?_, ?_⟩
            (· exact absurd hm9 (pinned_off 12 10 hk9 (by kernel_rfl) (by decide) (by kernel_rfl)))
            try simp only [Act.put]
            refine wpV_one (i := 13) (by kernel_rfl) (wpOp_of (by simp only [List.getElem?_toArray, List.getElem?_cons_zero, List.getElem?_cons_succ]; rfl) ?_)
            refine st_easy rfl ?_ ?_ ?_; rotate_left; (· go_simp; try with_reducible rfl)
            refine ⟨fun k9 hk9 hm9 => ?_, ?_⟩
            (· exact absurd hm9 (pinned_off 12 10 hk9 (by kernel_rfl) (by decide) (by kernel_rfl)))
            simp only [Act.put, setP]
            refine wpV_done (by kernel_rfl) ?_
            exact hC v58 b60 g61 c61 xa xn xc b13 _ hL
        · refine st_alloc hL ?_
          intro b13 w9 hb hL2
          clear hb hL
          have hL := hL2; clear hL2
          have hV2 : ∀ k, (VI w b1 A pa pc ca cc) k _ := fun k' _ => hL.pick (by (repeat (first | with_reducible exact At.here | with_reducible apply At.there)))
          clear hV
          have hV := hV2
          clear hV2
          refine ⟨fun k _ => hV k, ?_⟩
          simp only [Act.put, setP]
          refine wpV_one (i := 4) (by kernel_rfl) (wpOp_of (by simp only [List.getElem?_toArray, List.getElem?_cons_zero, List.getElem?_cons_succ]; rfl) ?_)
          refine st_append rfl _ _ _ rfl v58 (.slice (some ⟨b60, 0, none⟩) 1 1) rfl rfl (appendA hL ?_)
          intro g61 c61 w9 hL2
          clear hL; have hL := hL2; clear hL2; try dsimp only at hL
          have hV2 : ∀ k, (VI w b1 A pa pc ca cc) k _ := fun k' _ => hL.pick (by (repeat (first | with_reducible exact At.here | with_reducible apply At.there)))
          clear hV
          have hV := hV2
          clear hV2
          refine ⟨fun k _ => hV k, ?_⟩
          simp only [Act.put, setP]
          refine wpV_one (i := 7) (by kernel_rfl) (wpOp_of (by simp only [List.getElem?_toArray, List.getElem?_cons_zero, List.getElem?_cons_succ]; rfl) ?_)
          refine st_call rfl _ _ ?_ (HQ.out _ _ (HS.out _ _ _ _ _ _ _ _ hL (by (repeat (first | with_reducible exact At.here | with_reducible apply At.there))) rfl (by rfl))) ?_
          (· go_simp; try with_reducible rfl)
          rintro e _ ⟨xa, xn, xc, rfl, hb, hf⟩
          replace hL := hL.callF hb hf
          clear hb hf
          replace hL := hL.drop (r := own _ _ _ _ _ _) (by (repeat (first | with_reducible exact Rem.here | with_reducible apply Rem.there)))
          have hV2 : ∀ k, (VI w b1 A pa pc ca cc) k _ := fun k' _ => hL.pick (by (repeat (first | with_reducible exact At.here | with_reducible apply At.there)))
          clear hV
          have hV := hV2
          clear hV2
          refine ⟨_, rfl, fun k _ => hV k, ?_⟩
          simp only [Act.put, setP]
          refine stV (i := 8) ?_ (fun k _ => hV k) (fun w' hw => ?_) ?_ (by repeat (first | exact pinned_none | refine pinned_put ?_)); rotate_left; (· (try replace hw := hw (by decide)); go_simp; try with_reducible rfl)
          simp only [Act.put, setP]
          refine stV (i := 9) ?_ (fun k _ => hV k) (fun w' hw => ?_) ?_ (by repeat (first | exact pinned_none | refine pinned_put ?_)); rotate_left; (· (try replace hw := hw (by decide)); go_simp; try with_reducible rfl)
          simp only [Act.put, setP]
          refine stV (i := 10) ?_ (fun k _ => hV k) (fun w' hw => ?_) ?_ (by repeat (first | exact pinned_none | refine pinned_put ?_)); rotate_left; (· (try replace hw := hw (by decide)); go_simp; try with_reducible rfl)
          simp only [Act.put, setP]
          refine wpV_one (i := 12) (by kernel_rfl) (wpOp_of (by simp only [List.getElem?_toArray, List.getElem?_cons_zero, List.getElem?_cons_succ]; rfl) ?_)
          refine st_store rfl _ _ _ rfl _ rfl (.agg _) rfl ?_
          first | refine storeA hL ?_ | refine storeO hL ?_ | refine storeR hL ?_
          try clear hV
          clear hL; intro w9 hL
          refine ⟨fun k9 hk9 hm9 => ?_, ?_⟩
          (· exact absurd hm9 (pinned_off 12 10 hk9 (by kernel_rfl) (by decide) (by kernel_rfl)))
          try simp only [Act.put]
          refine wpV_one (i := 13) (by kernel_rfl) (wpOp_of (by simp only [List.getElem?_toArray, List.getElem?_cons_zero, List.getElem?_cons_succ]; rfl) ?_)
          refine st_easy rfl ?_ ?_ ?_; rotate_left; (· go_simp; try with_reducible rfl)
          refine ⟨fun k9 hk9 hm9 => ?_, ?_⟩
          (· exact absurd hm9 (pinned_off 12 10 hk9 (by kernel_rfl) (by decide) (by kernel_rfl)))
          simp only [Act.put, setP]
          refine wpV_done (by kernel_rfl) ?_
          exact hC v58 b60 g61 c61 xa xn xc b13 _ hL
      · refine st_alloc hL ?_
        intro b13 w9 hb hL2
        clear hb hL
        have hL := hL2; clear hL2
        have hV2 : ∀ k, (VI w b1 A pa pc ca cc) k _ := fun k' _ => hL.pick (by (repeat (first | with_reducible exact At.here | with_reducible apply At.there)))
        clear hV
        have hV := hV2
        clear hV2
        refine ⟨fun k _ => hV k, ?_⟩
        simp only [Act.put, setP]
        refine wpV_one (i := 1) (by kernel_rfl) (wpOp_of (by simp only [List.getElem?_toArray, List.getElem?_cons_zero, List.getElem?_cons_succ]; rfl) ?_)
        refine st_append rfl _ _ _ rfl (.slice none 0 0) (.slice la n lcap) rfl rfl (appendCopy hL HC.out.1 HC.out.2 (by omega) (by unfold maxLen; omega) ?_)
        intro v58 w9 hL2
        rw [Hn.out] at hL2; clear hL; have hL := hL2; clear hL2
        have hV2 : ∀ k, (VI w b1 A pa pc ca cc) k _ := fun k' _ => hL.pick (by (repeat (first | with_reducible exact At.here | with_reducible apply At.there)))
        clear hV
        have hV := hV2
        clear hV2
        refine ⟨fun k _ => hV k, ?_⟩
        simp only [Act.put, setP]
        refine wpV_one (i := 4) (by kernel_rfl) (wpOp_of (by simp only [List.getElem?_toArray, List.getElem?_cons_zero, List.getElem?_cons_succ]; rfl) ?_)
        refine st_append rfl _ _ _ rfl v58 (.slice (some ⟨b60, 0, none⟩) 1 1) rfl rfl (appendA hL ?_)
        intro g61 c61 w9 hL2
        clear hL; have hL := hL2; clear hL2; try dsimp only at hL
        have hV2 : ∀ k, (VI w b1 A pa pc ca cc) k _ := fun k' _ => hL.pick (by (repeat (first | with_reducible exact At.here | with_reducible apply At.there)))
        clear hV
        have hV := hV2
        clear hV2
        refine ⟨fun k _ => hV k, ?_⟩
        simp only [Act.put, setP]
        refine wpV_one (i := 7) (by kernel_rfl) (wpOp_of (by simp only [List.getElem?_toArray, List.getElem?_cons_zero, List.getElem?_cons_succ]; rfl) ?_)
        refine st_call rfl _ _ ?_ (HQ.out _ _ (HS.out _ _ _ _ _ _ _ _ hL (by (repeat (first | with_reducible exact At.here | with_reducible apply At.there))) rfl (by rfl))) ?_
        (· go_simp; try with_reducible rfl)
        rintro e _ ⟨xa, xn, xc, rfl, hb, hf⟩
        replace hL := hL.callF hb hf
        clear hb hf
        replace hL := hL.drop (r := own _ _ _ _ _ _) (by (repeat (first | with_reducible exact Rem.here | with_reducible apply Rem.there)))
        have hV2 : ∀ k, (VI w b1 A pa pc ca cc) k _ := fun k' _ => hL.pick (by (repeat (first | with_reducible exact At.here | with_reducible apply At.there)))
        clear hV
        have hV := hV2
        clear hV2
        refine ⟨_, rfl, fun k _ => hV k, ?_⟩
        simp only [Act.put, setP]
        refine stV (i := 8) ?_ (fun k _ => hV k) (fun w' hw => ?_) ?_ (by repeat (first | exact pinned_none | refine pinned_put ?_)); rotate_left; (· (try replace hw := hw (by decide)); go_simp; try with_reducible rfl)
        simp only [Act.put, setP]
        refine stV (i := 9) ?_ (fun k _ => hV k) (fun w' hw => ?_) ?_ (by repeat (first | exact pinned_none | refine pinned_put ?_)); rotate_left; (· (try replace hw := hw (by decide)); go_simp; try with_reducible rfl)
        simp only [Act.put, setP]
        refine stV (i := 10) ?_ (fun k _ => hV k) (fun w' hw => ?_) ?_ (by repeat (first | exact pinned_none | refine pinned_put ?_)); rotate_left; (· (try replace hw := hw (by decide)); go_simp; try with_reducible rfl)
        simp only [Act.put, setP]
        refine wpV_one (i := 12) (by kernel_rfl) (wpOp_of (by simp only [List.getElem?_toArray, List.getElem?_cons_zero, List.getElem?_cons_succ]; rfl) ?_)
        refine st_store rfl _ _ _ rfl _ rfl (.agg _) rfl ?_
        first | refine storeA hL ?_ | refine storeO hL ?_ | refine storeR hL ?_
        try clear hV
        clear hL; intro w9 hL
        refine ⟨fun k9 hk9 hm9 => ?_, ?_⟩
        (· exact absurd hm9 (pinned_off 12 10 hk9 (by kernel_rfl) (by decide) (by kernel_rfl)))
        try simp only [Act.put]
        refine wpV_one (i := 13) (by kernel_rfl) (wpOp_of (by simp only [List.getElem?_toArray, List.getElem?_cons_zero, List.getElem?_cons_succ]; rfl) ?_)
        refine st_easy rfl ?_ ?_ ?_; rotate_left; (· go_simp; try with_reducible rfl)
        refine ⟨fun k9 hk9 hm9 => ?_, ?_⟩
        (· exact absurd hm9 (pinned_off 12 10 hk9 (by kernel_rfl) (by decide) (by kernel_rfl)))
        simp only [Act.put, setP]
        refine wpV_done (by kernel_rfl) ?_
        exact hC v58 b60 g61 c61 xa xn xc b13 _ hL
    · refine st_alloc hL ?_
      intro b13 w9 hb hL2
      clear hb hL
      have hL := hL2; clear hL2
      have hV2 : ∀ k, (VI w b1 A pa pc ca cc) k _ := fun k' _ => hL.pick (by (repeat (first | with_reducible exact At.here | with_reducible apply At.there)))
      clear hV
      have hV := hV2
      clear hV2
      refine ⟨fun k _ => hV k, ?_⟩
      simp only [Act.put, setP]
      refine wpV_two (i := 1) (j := 3) (by kernel_rfl) (wpOp_of (by simp only [List.getElem?_toArray, List.getElem?_cons_zero, List.getElem?_cons_succ]; rfl) ?_) (wpOp_of (by simp only [List.getElem?_toArray, List.getElem?_cons_zero, List.getElem?_cons_succ]; rfl) ?_)
      · refine st_append rfl _ _ _ rfl (.slice none 0 0) (.slice la n lcap) rfl rfl (appendCopy hL HC.out.1 HC.out.2 (by omega) (by unfold maxLen; omega) ?_)
        intro v58 w9 hL2
        rw [Hn.out] at hL2; clear hL; have hL := hL2; clear hL2
        have hV2 : ∀ k, (VI w b1 A pa pc ca cc) k _ := fun k' _ => hL.pick (by (repeat (first | with_reducible exact At.here | with_reducible apply At.there)))
        clear hV
        have hV := hV2
        clear hV2
        refine ⟨fun k _ => hV k, ?_⟩
        simp only [Act.put, setP]
        refine wpV_one (i := 3) (by kernel_rfl) (wpOp_of (by simp only [List.getElem?_toArray, List.getElem?_cons_zero, List.getElem?_cons_succ]; rfl) ?_)
        refine st_lit rfl _ _ _ rfl (litA1 hL ?_)
        intro b60 w9 hL2
        clear hL; have hL := hL2; clear hL2
        have hV2 : ∀ k, (VI w b1 A pa pc ca cc) k _ := fun k' _ => hL.pick (by (repeat (first | with_reducible exact At.here | with_reducible apply At.there)))
        clear hV
        have hV := hV2
        clear hV2
        refine ⟨fun k _ => hV k, ?_⟩
        simp only [Act.put, setP]
        refine wpV_one (i := 4) (by kernel_rfl) (wpOp_of (by simp only [List.getElem?_toArray, List.getElem?_cons_zero, List.getElem?_cons_succ]; rfl) ?_)
        refine st_append rfl _ _ _ rfl v58 (.slice (some ⟨b60, 0, none⟩) 1 1) rfl rfl (appendA hL ?_)
        intro g61 c61 w9 hL2
        clear hL; have hL := hL2; clear hL2; try dsimp only at hL
        have hV2 : ∀ k, (VI w b1 A pa pc ca cc) k _ := fun k' _ => hL.pick (by (repeat (first | with_reducible exact At.here | with_reducible apply At.there)))
        clear hV
        have hV := hV2
        clear hV2
        refine ⟨fun k _ => hV k, ?_⟩
        simp only [Act.put, setP]
        refine wpV_one (i := 7) (by kernel_rfl) (wpOp_of (by simp only [List.getElem?_toArray, List.getElem?_cons_zero, List.getElem?_cons_succ]; rfl) ?_)
        refine st_call rfl _ _ ?_ (HQ.out _ _ (HS.out _ _ _ _ _ _ _ _ hL (by (repeat (first | with_reducible exact At.here | with_reducible apply At.there))) rfl (by rfl))) ?_
        (· go_simp; try with_reducible rfl)
        rintro e _ ⟨xa, xn, xc, rfl, hb, hf⟩
        replace hL := hL.callF hb hf
        clear hb hf
        replace hL := hL.drop (r := own _ _ _ _ _ _) (by (repeat (first | with_reducible exact Rem.here | with_reducible apply Rem.there)))
        have hV2 : ∀ k, (VI w b1 A pa pc ca cc) k _ := fun k' _ => hL.pick (by (repeat (first | with_reducible exact At.here | with_reducible apply At.there)))
        clear hV
        have hV := hV2
        clear hV2
        refine ⟨_, rfl, fun k _ => hV k, ?_⟩
        simp only [Act.put, setP]
        refine stV (i := 8) ?_ (fun k _ => hV k) (fun w' hw => ?_) ?_ (by repeat (first | exact pinned_none | refine pinned_put ?_)); rotate_left; (· (try replace hw := hw (by decide)); go_simp; try with_reducible rfl)
        simp only [Act.put, setP]
        refine stV (i := 9) ?_ (fun k _ => hV k) (fun w' hw => ?_) ?_ (by repeat (first | exact pinned_none | refine pinned_put ?_)); rotate_left; (· (try replace hw := hw (by decide)); go_simp; try with_reducible rfl)
        simp only [Act.put, setP]
        refine stV (i := 10) ?_ (fun k _ => hV k) (fun w' hw => ?_) ?_ (by repeat (first | exact pinned_none | refine pinned_put ?_)); rotate_left; (· (try replace hw := hw (by decide)); go_simp; try with_reducible rfl)
        simp only [Act.put, setP]
        refine wpV_one (i := 12) (by kernel_rfl) (wpOp_of (by simp only [List.getElem?_toArray, List.getElem?_cons_zero, List.getElem?_cons_succ]; rfl) ?_)
        refine st_store rfl _ _ _ rfl _ rfl (.agg _) rfl ?_
        first | refine storeA hL ?_ | refine storeO hL ?_ | refine storeR hL ?_
        try clear hV
        clear hL; intro w9 hL
        refine ⟨fun k9 hk9 hm9 => ?_, ?_⟩
        (· exact absurd hm9 (pinned_off 12 10 hk9 (by kernel_rfl) (by decide) (by kernel_rfl)))
        try simp only [Act.put]
        refine wpV_one (i := 13) (by kernel_rfl) (wpOp_of (by simp only [List.getElem?_toArray, List.getElem?_cons_zero, List.getElem?_cons_succ]; rfl) ?_)
        refine st_easy rfl ?_ ?_ ?_; rotate_left; (· go_simp; try with_reducible rfl)
        refine ⟨fun k9 hk9 hm9 => ?_, ?_⟩
        (· exact absurd hm9 (pinned_off 12 10 hk9 (by kernel_rfl) (by decide) (by kernel_rfl)))
        simp only [Act.put, setP]
        refine wpV_done (by kernel_rfl) ?_
        exact hC v58 b60 g61 c61 xa xn xc b13 _ hL
      · refine st_lit rfl _ _ _ rfl (litA1 hL ?_)
        intro b60 w9 hL2
        clear hL; have hL := hL2; clear hL2
        have hV2 : ∀ k, (VI w b1 A pa pc ca cc) k _ := fun k' _ => hL.pick (by (repeat (first | with_reducible exact At.here | with_reducible apply At.there)))
        clear hV
        have hV := hV2
        clear hV2
        refine ⟨fun k _ => hV k, ?_⟩
        simp only [Act.put, setP]
        refine wpV_one (i := 1) (by kernel_rfl) (wpOp_of (by simp only [List.getElem?_toArray, List.getElem?_cons_zero, List.getElem?_cons_succ]; rfl) ?_)
        refine st_append rfl _ _ _ rfl (.slice none 0 0) (.slice la n lcap) rfl rfl (appendCopy hL HC.out.1 HC.out.2 (by omega) (by unfold maxLen; omega) ?_)
        intro v58 w9 hL2
        rw [Hn.out] at hL2; clear hL; have hL := hL2; clear hL2
        have hV2 : ∀ k, (VI w b1 A pa pc ca cc) k _ := fun k' _ => hL.pick (by (repeat (first | with_reducible exact At.here | with_reducible apply At.there)))
        clear hV
        have hV := hV2
        clear hV2
        refine ⟨fun k _ => hV k, ?_⟩
        simp only [Act.put, setP]
        refine wpV_one (i := 4) (by kernel_rfl) (wpOp_of (by simp only [List.getElem?_toArray, List.getElem?_cons_zero, List.getElem?_cons_succ]; rfl) ?_)
        refine st_append rfl _ _ _ rfl v58 (.slice (some ⟨b60, 0, none⟩) 1 1) rfl rfl (appendA hL ?_)
        intro g61 c61 w9 hL2
        clear hL; have hL := hL2; clear hL2; try dsimp only at hL
        have hV2 : ∀ k, (VI w b1 A pa pc ca cc) k _ := fun k' _ => hL.pick (by (repeat (first | with_reducible exact At.here | with_reducible apply At.there)))
        clear hV
        have hV := hV2
        clear hV2
        refine ⟨fun k _ => hV k, ?_⟩
        simp only [Act.put, setP]
        refine wpV_one (i := 7) (by kernel_rfl) (wpOp_of (by simp only [List.getElem?_toArray, List.getElem?_cons_zero, List.getElem?_cons_succ]; rfl) ?_)
        refine st_call rfl _ _ ?_ (HQ.out _ _ (HS.out _ _ _ _ _ _ _ _ hL (by (repeat (first | with_reducible exact At.here | with_reducible apply At.there))) rfl (by rfl))) ?_
        (· go_simp; try with_reducible rfl)
        rintro e _ ⟨xa, xn, xc, rfl, hb, hf⟩
        replace hL := hL.callF hb hf
        clear hb hf
        replace hL := hL.drop (r := own _ _ _ _ _ _) (by (repeat (first | with_reducible exact Rem.here | with_reducible apply Rem.there)))
        have hV2 : ∀ k, (VI w b1 A pa pc ca cc) k _ := fun k' _ => hL.pick (by (repeat (first | with_reducible exact At.here | with_reducible apply At.there)))
        clear hV
        have hV := hV2
        clear hV2
        refine ⟨_, rfl, fun k _ => hV k, ?_⟩
        simp only [Act.put, setP]
        refine stV (i := 8) ?_ (fun k _ => hV k) (fun w' hw => ?_) ?_ (by repeat (first | exact pinned_none | refine pinned_put ?_)); rotate_left; (· (try replace hw := hw (by decide)); go_simp; try with_reducible rfl)
        simp only [Act.put, setP]
        refine stV (i := 9) ?_ (fun k _ => hV k) (fun w' hw => ?_) ?_ (by repeat (first | exact pinned_none | refine pinned_put ?_)); rotate_left; (· (try replace hw := hw (by decide)); go_simp; try with_reducible rfl)
        simp only [Act.put, setP]
        refine stV (i := 10) ?_ (fun k _ => hV k) (fun w' hw => ?_) ?_ (by repeat (first | exact pinned_none | refine pinned_put ?_)); rotate_left; (· (try replace hw := hw (by decide)); go_simp; try with_reducible rfl)
        simp only [Act.put, setP]
        refine wpV_one (i := 12) (by kernel_rfl) (wpOp_of (by simp only [List.getElem?_toArray, List.getElem?_cons_zero, List.getElem?_cons_succ]; rfl) ?_)
        refine st_store rfl _ _ _ rfl _ rfl (.agg _) rfl ?_
        first | refine storeA hL ?_ | refine storeO hL ?_ | refine storeR hL ?_
        try clear hV
        clear hL; intro w9 hL
        refine ⟨fun k9 hk9 hm9 => ?_, ?_⟩
        (· exact absurd hm9 (pinned_off 12 10 hk9 (by kernel_rfl) (by decide) (by kernel_rfl)))
        try simp only [Act.put]
        refine wpV_one (i := 13) (by kernel_rfl) (wpOp_of (by simp only [List.getElem?_toArray, List.getElem?_cons_zero, List.getElem?_cons_succ]; rfl) ?_)
        refine st_easy rfl ?_ ?_ ?_; rotate_left; (· go_simp; try with_reducible rfl)
        refine ⟨fun k9 hk9 hm9 => ?_, ?_⟩
        (· exact absurd hm9 (pinned_off 12 10 hk9 (by kernel_rfl) (by decide) (by kernel_rfl)))
        simp only [Act.put, setP]
        refine wpV_done (by kernel_rfl) ?_
        exact hC v58 b60 g61 c61 xa xn xc b13 _ hL
  intro v58 b60 g61 c61 xa xn xc b13 w8 hL
  go_wp2_with (first | (with_reducible first | (clear hL; intro _ _ _ hL; try dsimp only at hL) | (clear hL n1; intro b1 w1 hL) | (clear hL n2; intro b2 w2 hL) | (clear hL n3; intro b3 w3 hL) | (clear hL n4; intro b4 w4 hL) | (clear hL n5; intro b5 w5 hL) | (clear hL n6; intro b6 w6 hL) | (clear hL; intro _ _ hL) | (clear hL; intro _ hL)) | ((with_reducible refine wpA_lit rfl _ _ _ rfl ?_); first | refine litA1 hL ?_ | refine litA2 hL ?_ | refine litA3 hL ?_ | refine litA4 hL ?_ | refine litA6 hL ?_) | ((with_reducible refine goJ rfl ?_); refine goP ?_))
  refine (HM.out _ hL.below).mono ?_
  rintro e _ ⟨rv, rfl, hb, hf⟩
  obtain ⟨ra, rn, rc, rfl, _⟩ := RegAt.shape hf.now
  replace hL := hL.callF hb hf
  clear hb hf
  by_cases hE1 : E1 = 0
  rotate_left
  · have q1 : (E1 != 0) = true := by simp [hE1]
    have q2 : (E1 == 0) = false := by simp [hE1]
    clear Hh Hm Hb
    go_wp2_with (first | (with_reducible first | (clear hL; intro _ _ _ hL; try dsimp only at hL) | (clear hL n1; intro b1 w1 hL) | (clear hL n2; intro b2 w2 hL) | (clear hL n3; intro b3 w3 hL) | (clear hL n4; intro b4 w4 hL) | (clear hL n5; intro b5 w5 hL) | (clear hL n6; intro b6 w6 hL) | (clear hL; intro _ _ hL) | (clear hL; intro _ hL)) | ((with_reducible refine wpA_lit rfl _ _ _ rfl ?_); first | refine litA1 hL ?_ | refine litA2 hL ?_ | refine litA3 hL ?_ | refine litA4 hL ?_ | refine litA6 hL ?_) | ((with_reducible refine goJ rfl ?_); refine goP ?_))
    go_ret
    exact ⟨ret_bool (by simp), hL.below⟩
  by_cases hE2 : E2 = 0
  rotate_left
  · have q1 : (E2 != 0) = true := by simp [hE2]
    have q2 : (E2 == 0) = false := by simp [hE2]
    subst hE1
    clear Hh Hm Hb
    go_wp2_with (first | (with_reducible first | (clear hL; intro _ _ _ hL; try dsimp only at hL) | (clear hL n1; intro b1 w1 hL) | (clear hL n2; intro b2 w2 hL) | (clear hL n3; intro b3 w3 hL) | (clear hL n4; intro b4 w4 hL) | (clear hL n5; intro b5 w5 hL) | (clear hL n6; intro b6 w6 hL) | (clear hL; intro _ _ hL) | (clear hL; intro _ hL)) | ((with_reducible refine wpA_lit rfl _ _ _ rfl ?_); first | refine litA1 hL ?_ | refine litA2 hL ?_ | refine litA3 hL ?_ | refine litA4 hL ?_ | refine litA6 hL ?_) | ((with_reducible refine goJ rfl ?_); refine goP ?_))
    go_ret
    exact ⟨ret_bool (by simp), hL.below⟩
  subst hE1
  subst hE2
  obtain ⟨g1, g2, g3, g4, e1, e2⟩ := Hh.out
  obtain ⟨hm1, hm2⟩ := Hm.out
  obtain ⟨hb1, hb2⟩ := Hb.out
  have hgx : gx = (W : Int) := by rw [← g1]; unfold pgW; rw [if_pos e1]
  have hgy : gy = (H : Int) := by rw [← g2]; unfold pgW; rw [if_pos e1]
  have hqx : qx = (W : Int) := by rw [← g3]; unfold pgW; rw [if_pos e2]
  have hqy : qy = (H : Int) := by rw [← g4]; unfold pgW; rw [if_pos e2]
  subst hgx hgy hqx hqy
  obtain ⟨hme, hmr⟩ := above_err e2
  rw [hm2] at hme
  rw [hm1] at hmr
  subst hme hmr
  have hxn : xn = 3 * W * H := by
    obtain ⟨_, _, e, _⟩ := BytesAt.parts hL.fact1
    injection e with _ e _
    rw [e, ← hb2, pg_len e2]
  have hyn : yn = 3 * W * H := by
    obtain ⟨_, _, e, _⟩ := BytesAt.parts hL.fact2
    injection e with _ e _
    rw [e, ← hb1, pg_len e1]
  subst hxn hyn
  have HAq := Lib.hid (fun w' (h : BytesAt w' (.slice xa (3 * W * H) xc) qb) x y hx hy => inkAt_calls hs xa xc qb w' h x y hx hy)
  have HAp := Lib.hid (fun w' (h : BytesAt w' (.slice ya (3 * W * H) yc) pb) x y hx hy => inkAt_calls hs ya yc pb w' h x y hx hy)
  have HHs := Lib.hid (fun w' (v : Value) (p : Nat → Nat → Bool) (h : RegAt w' v (pixReg W H p)) i j => pixRHas_calls hs w' v p h i j)
  have HAb := Lib.hid (fun x y (hx : x < W) (hy : y < H) => by
    have := above_ink e1 e2 hk hx hy
    rw [hb1, hb2] at this
    exact this)
  clear g1 g2 g3 g4 e1 e2 hm1 hm2 hb1 hb2 Hh Hm Hb
  have hmul : IntKind.i64.wrap ((W : Int) * (H : Int)) = ((W * H : Nat) : Int) := by
    have := Nat.mul_le_mul hX2 hY2
    rw [← Int.natCast_mul]
    exact wrapS (by omega) (by omega)
  generalize hmp : markP (wholeI A) = mp at *
  clear hmp
  have hN : W * H ≤ 576 := Nat.mul_le_mul hX2 hY2
  go_wp2_with (first | (with_reducible first | (clear hL; intro _ _ _ hL; try dsimp only at hL) | (clear hL n1; intro b1 w1 hL) | (clear hL n2; intro b2 w2 hL) | (clear hL n3; intro b3 w3 hL) | (clear hL n4; intro b4 w4 hL) | (clear hL n5; intro b5 w5 hL) | (clear hL n6; intro b6 w6 hL) | (clear hL; intro _ _ hL) | (clear hL; intro _ hL)) | ((with_reducible refine wpA_lit rfl _ _ _ rfl ?_); first | refine litA1 hL ?_ | refine litA2 hL ?_ | refine litA3 hL ?_ | refine litA4 hL ?_ | refine litA6 hL ?_) | ((with_reducible refine goJ rfl ?_); refine goP ?_))
  obtain ⟨n1, n2, n3, n4, n5, n6⟩ := tok6
  clear n1 n2 n3 n4
  go_loopw [17] (fun s17 wr => ∃ k : Nat, k ≤ W * H ∧ s17 = .int .i64 k ∧ Holds w wr [blk b4 #[.int .i64 W, .int .i64 H, .slice ra rn rc] 39, blk b13 #[.int .i64 W, .int .i64 H, .slice xa (3 * W * H) xc] 53, blk b3 #[.int .i64 W, .int .i64 H, .slice ya (3 * W * H) yc] 53, blk b1 #[.int .i64 A.kind, .slice pa A.path.length pc, .int .i64 A.rule, .int .i64 A.style.wide, .int .i64 A.style.cap, .int .i64 A.style.join, .int .i64 A.image.W, .int .i64 A.image.H, .int .i64 A.image.bits, .string A.image.data, .int .i64 A.mat.a, .int .i64 A.mat.b, .int .i64 A.mat.c, .int .i64 A.mat.d, .int .i64 A.mat.e, .int .i64 A.mat.f, .int .u8 A.ink.r, .int .u8 A.ink.g, .int .u8 A.ink.b, .int .u8 255, .slice ca A.clips.length cc] 33]
      [fun w => RegAt w (.agg #[.int .i64 W, .int .i64 H, .slice ra rn rc]) (pixReg W H mp), fun w => BytesAt w (.slice xa (3 * W * H) xc) qb, fun w => BytesAt w (.slice ya (3 * W * H) yc) pb])
    (fun s17 wr => W * H - (intOf s17).toNat)
  case atStart => exact ⟨0, by omega, rfl, hL⟩
  case round =>
    clear hL
    obtain ⟨k, hk9, rfl, hL⟩ := hrel
    by_cases hkt : k < W * H
    · have hkb : (k : Int) < ((W * H : Nat) : Int) := by omega
      obtain ⟨x, hxe⟩ : ∃ x, k % W = x := ⟨_, rfl⟩
      obtain ⟨y, hye⟩ : ∃ y, k / W = y := ⟨_, rfl⟩
      have hx : x < W := by rw [← hxe]; exact Nat.mod_lt _ (by omega)
      have hy : y < H := by rw [← hye]; exact Nat.div_lt_of_lt_mul hkt
      have t1 : (k : Int).tmod (W : Int) = (x : Int) := by rw [Int.tmod_eq_emod_of_nonneg (by omega), ← hxe]; rfl
      have t2 : (k : Int).tdiv (W : Int) = (y : Int) := by rw [Int.tdiv_eq_ediv_of_nonneg (by omega), ← hye]; rfl
      have q0 : ((W : Int) == 0) = false := by simp; omega
      have q00 : ¬ (W : Int) = 0 := by omega
      have q000 : ¬ W = 0 := by omega
      have wx : IntKind.i64.wrap (x : Int) = (x : Int) := wrapS (by omega) (by omega)
      have wy : IntKind.i64.wrap (y : Int) = (y : Int) := wrapS (by omega) (by omega)
      clear hxe hye
      have HQ1 := Lib.hid (fun w' h => HAq.out w' h x y hx hy)
      have HP1 := Lib.hid (fun w' h => HAp.out w' h x y hx hy)
      have hab := HAb.out x y hx hy
      unfold inkP at HQ1 HP1 hab
      generalize qb.getD (3 * (y * W + x)) 0 = q0 at *
      generalize qb.getD (3 * (y * W + x) + 1) 0 = q1 at *
      generalize qb.getD (3 * (y * W + x) + 2) 0 = q2 at *
      generalize pb.getD (3 * (y * W + x)) 0 = p0 at *
      generalize pb.getD (3 * (y * W + x) + 1) 0 = p1 at *
      generalize pb.getD (3 * (y * W + x) + 2) 0 = p2 at *
      have hat : atPix W H mp (x : Int) (y : Int) = mp y x := by
        unfold atPix
        rw [decide_eq_true (by omega), decide_eq_true (by omega), decide_eq_true (by omega), decide_eq_true (by omega), Int.toNat_natCast, Int.toNat_natCast]
        rfl
      obtain ⟨n1, n2, n3, n4, n5, n6, n7, n8⟩ := tok8
      clear n1 n2 n3 n4 n5 n6
      cases hm : mp y x
      · rw [hm] at hab hat
        have HH1 := Lib.hid (fun w' (v : Value) (h : RegAt w' v (pixReg W H mp)) => (by have h2 := HHs.out w' v mp h (x : Int) (y : Int); rw [hat] at h2; exact h2))
        simp only [Bool.false_eq_true, if_false] at hab
        injection hab with hab
        simp only [Array.mk.injEq, List.cons.injEq, Value.int.injEq, true_and, and_true] at hab
        obtain ⟨rfl, rfl, rfl⟩ := hab
        go_wp2_with (first | (with_reducible first | (clear hL; intro _ _ _ hL; try dsimp only at hL) | (clear hL n1; intro b1 w1 hL) | (clear hL n2; intro b2 w2 hL) | (clear hL n3; intro b3 w3 hL) | (clear hL n4; intro b4 w4 hL) | (clear hL n5; intro b5 w5 hL) | (clear hL n6; intro b6 w6 hL) | (clear hL n7; intro b7 w7 hL) | (clear hL n8; intro b8 w8 hL) | (clear hL; intro _ _ hL) | (clear hL; intro _ hL)) | ((with_reducible refine wpA_lit rfl _ _ _ rfl ?_); first | refine litA1 hL ?_ | refine litA2 hL ?_ | refine litA3 hL ?_ | refine litA4 hL ?_ | refine litA6 hL ?_) | ((with_reducible refine goJ rfl ?_); refine goP ?_))
        apply exContH hL (cs := #[.int .u8 q0, .int .u8 q1, .int .u8 q2, .int .u8 255]) (T := 30)
        · intro hC
          replace hL := hL.drew
          have hV : ∀ k, (VP w b13 W H xa xc) k _ := fun k' _ => hL.pick (by (repeat (first | with_reducible exact At.here | with_reducible apply At.there)))
          refine wpV_begin (by kernel_rfl) (VP w b13 W H xa xc) 12 ?_
          refine stV (i := 0) ?_ (fun k _ => hV k) (fun w' hw => ?_) ?_ (by repeat (first | exact pinned_none | refine pinned_put ?_)); rotate_left; (· (try replace hw := hw (by decide)); refine run_loadOp _ _ rfl _ rfl _ ?_; (first | refine loadA hw ?_ | refine loadU hw ?_ | refine loadR hw ?_ | refine loadP hw ?_ | refine loadC hw ?_ | refine loadE hw ?_ | refine loadD ?_ | refine loadF ?_); rfl)
          simp only [Act.put, setP]
          refine stV (i := 1) ?_ (fun k _ => hV k) (fun w' hw => ?_) ?_ (by repeat (first | exact pinned_none | refine pinned_put ?_)); rotate_left; (· (try replace hw := hw (by decide)); go_simp; try with_reducible rfl)
          simp only [Act.put, setP]
          refine stV (i := 2) ?_ (fun k _ => hV k) (fun w' hw => ?_) ?_ (by repeat (first | exact pinned_none | refine pinned_put ?_)); rotate_left; (· (try replace hw := hw (by decide)); go_simp; try with_reducible rfl)
          simp only [Act.put, setP]
          refine stV (i := 3) ?_ (fun k _ => hV k) (fun w' hw => ?_) ?_ (by repeat (first | exact pinned_none | refine pinned_put ?_)); rotate_left; (· (try replace hw := hw (by decide)); go_simp; try with_reducible rfl)
          simp only [Act.put, setP]
          refine stV (i := 4) ?_ (fun k _ => hV k) (fun w' hw => ?_) ?_ (by repeat (first | exact pinned_none | refine pinned_put ?_)); rotate_left; (· (try replace hw := hw (by decide)); go_simp; try with_reducible rfl)
          simp only [Act.put, setP]
          refine stV (i := 5) ?_ (fun k _ => hV k) (fun w' hw => ?_) ?_ (by repeat (first | exact pinned_none | refine pinned_put ?_)); rotate_left; (· (try replace hw := hw (by decide)); go_simp; try with_reducible rfl)
          simp only [Act.put, setP]
          refine stV (i := 6) ?_ (fun k _ => hV k) (fun w' hw => ?_) ?_ (by repeat (first | exact pinned_none | refine pinned_put ?_)); rotate_left; (· (try replace hw := hw (by decide)); go_simp; try with_reducible rfl)
          simp only [Act.put, setP]
          refine wpV_two (i := 7) (j := 11) (by kernel_rfl) (wpOp_of (by simp only [List.getElem?_toArray, List.getElem?_cons_zero, List.getElem?_cons_succ]; rfl) ?_) (wpOp_of (by simp only [List.getElem?_toArray, List.getElem?_cons_zero, List.getElem?_cons_succ]; rfl) ?_)
          · refine st_call rfl _ _ ?_ (HQ1.out _ hL.fact1) ?_
            (· go_simp; try with_reducible rfl)
            rintro e _ ⟨rfl, hb⟩
            replace hL := hL.call hb
            clear hb
            have hV2 : ∀ k, (VP w b13 W H xa xc) k _ := fun k' _ => hL.pick (by (repeat (first | with_reducible exact At.here | with_reducible apply At.there)))
            clear hV
            have hV := hV2
            clear hV2
            refine ⟨_, rfl, fun k _ => hV k, ?_⟩
            simp only [Act.put, setP]
            refine stV (i := 8) ?_ (fun k _ => hV k) (fun w' hw => ?_) ?_ (by repeat (first | exact pinned_none | refine pinned_put ?_)); rotate_left; (· (try replace hw := hw (by decide)); go_simp; try with_reducible rfl)
            simp only [Act.put, setP]
            refine stV (i := 9) ?_ (fun k _ => hV k) (fun w' hw => ?_) ?_ (by repeat (first | exact pinned_none | refine pinned_put ?_)); rotate_left; (· (try replace hw := hw (by decide)); go_simp; try with_reducible rfl)
            simp only [Act.put, setP]
            refine stV (i := 10) ?_ (fun k _ => hV k) (fun w' hw => ?_) ?_ (by repeat (first | exact pinned_none | refine pinned_put ?_)); rotate_left; (· (try replace hw := hw (by decide)); go_simp; try with_reducible rfl)
            simp only [Act.put, setP]
            refine wpV_one (i := 11) (by kernel_rfl) (wpOp_of (by simp only [List.getElem?_toArray, List.getElem?_cons_zero, List.getElem?_cons_succ]; rfl) ?_)
            refine st_alloc hL ?_
            intro bq w9 hb hL2
            clear hb hL
            have hL := hL2; clear hL2
            have hV2 : ∀ k, (VP w b13 W H xa xc) k _ := fun k' _ => hL.pick (by (repeat (first | with_reducible exact At.here | with_reducible apply At.there)))
            clear hV
            have hV := hV2
            clear hV2
            refine ⟨fun k _ => hV k, ?_⟩
            simp only [Act.put, setP]
            refine wpV_one (i := 12) (by kernel_rfl) (wpOp_of (by simp only [List.getElem?_toArray, List.getElem?_cons_zero, List.getElem?_cons_succ]; rfl) ?_)
            refine st_store rfl _ _ _ rfl _ rfl (.agg _) rfl ?_
            first | refine storeA hL ?_ | refine storeO hL ?_ | refine storeR hL ?_
            try clear hV
            clear hL; intro w9 hL
            refine ⟨fun k9 hk9 hm9 => ?_, ?_⟩
            (· exact absurd hm9 (pinned_off 12 10 hk9 (by kernel_rfl) (by decide) (by kernel_rfl)))
            try simp only [Act.put]
            refine wpV_one (i := 13) (by kernel_rfl) (wpOp_of (by simp only [List.getElem?_toArray, List.getElem?_cons_zero, List.getElem?_cons_succ]; rfl) ?_)
            refine st_easy rfl ?_ ?_ ?_; rotate_left; (· go_simp; try with_reducible rfl)
            refine ⟨fun k9 hk9 hm9 => ?_, ?_⟩
            (· exact absurd hm9 (pinned_off 12 10 hk9 (by kernel_rfl) (by decide) (by kernel_rfl)))
            simp only [Act.put, setP]
            refine wpV_done (by kernel_rfl) ?_
            exact hC bq _ hL
          · refine st_alloc hL ?_
            intro bq w9 hb hL2
            clear hb hL
            have hL := hL2; clear hL2
            have hV2 : ∀ k, (VP w b13 W H xa xc) k _ := fun k' _ => hL.pick (by (repeat (first | with_reducible exact At.here | with_reducible apply At.there)))
            clear hV
            have hV := hV2
            clear hV2
            refine ⟨fun k _ => hV k, ?_⟩
            simp only [Act.put, setP]
            refine wpV_one (i := 7) (by kernel_rfl) (wpOp_of (by simp only [List.getElem?_toArray, List.getElem?_cons_zero, List.getElem?_cons_succ]; rfl) ?_)
            refine st_call rfl _ _ ?_ (HQ1.out _ hL.fact1) ?_
            (· go_simp; try with_reducible rfl)
            rintro e _ ⟨rfl, hb⟩
            replace hL := hL.call hb
            clear hb
            have hV2 : ∀ k, (VP w b13 W H xa xc) k _ := fun k' _ => hL.pick (by (repeat (first | with_reducible exact At.here | with_reducible apply At.there)))
            clear hV
            have hV := hV2
            clear hV2
            refine ⟨_, rfl, fun k _ => hV k, ?_⟩
            simp only [Act.put, setP]
            refine stV (i := 8) ?_ (fun k _ => hV k) (fun w' hw => ?_) ?_ (by repeat (first | exact pinned_none | refine pinned_put ?_)); rotate_left; (· (try replace hw := hw (by decide)); go_simp; try with_reducible rfl)
            simp only [Act.put, setP]
            refine stV (i := 9) ?_ (fun k _ => hV k) (fun w' hw => ?_) ?_ (by repeat (first | exact pinned_none | refine pinned_put ?_)); rotate_left; (· (try replace hw := hw (by decide)); go_simp; try with_reducible rfl)
            simp only [Act.put, setP]
            refine stV (i := 10) ?_ (fun k _ => hV k) (fun w' hw => ?_) ?_ (by repeat (first | exact pinned_none | refine pinned_put ?_)); rotate_left; (· (try replace hw := hw (by decide)); go_simp; try with_reducible rfl)
            simp only [Act.put, setP]
            refine wpV_one (i := 12) (by kernel_rfl) (wpOp_of (by simp only [List.getElem?_toArray, List.getElem?_cons_zero, List.getElem?_cons_succ]; rfl) ?_)
            refine st_store rfl _ _ _ rfl _ rfl (.agg _) rfl ?_
            first | refine storeA hL ?_ | refine storeO hL ?_ | refine storeR hL ?_
            try clear hV
            clear hL; intro w9 hL
            refine ⟨fun k9 hk9 hm9 => ?_, ?_⟩
            (· exact absurd hm9 (pinned_off 12 10 hk9 (by kernel_rfl) (by decide) (by kernel_rfl)))
            try simp only [Act.put]
            refine wpV_one (i := 13) (by kernel_rfl) (wpOp_of (by simp only [List.getElem?_toArray, List.getElem?_cons_zero, List.getElem?_cons_succ]; rfl) ?_)
            refine st_easy rfl ?_ ?_ ?_; rotate_left; (· go_simp; try with_reducible rfl)
            refine ⟨fun k9 hk9 hm9 => ?_, ?_⟩
            (· exact absurd hm9 (pinned_off 12 10 hk9 (by kernel_rfl) (by decide) (by kernel_rfl)))
            simp only [Act.put, setP]
            refine wpV_done (by kernel_rfl) ?_
            exact hC bq _ hL
        intro b5 w5 hL
        go_wp2_with (first | (with_reducible first | (clear hL; intro _ _ _ hL; try dsimp only at hL) | (clear hL n1; intro b1 w1 hL) | (clear hL n2; intro b2 w2 hL) | (clear hL n3; intro b3 w3 hL) | (clear hL n4; intro b4 w4 hL) | (clear hL n5; intro b5 w5 hL) | (clear hL n6; intro b6 w6 hL) | (clear hL n7; intro b7 w7 hL) | (clear hL n8; intro b8 w8 hL) | (clear hL; intro _ _ hL) | (clear hL; intro _ hL)) | ((with_reducible refine wpA_lit rfl _ _ _ rfl ?_); first | refine litA1 hL ?_ | refine litA2 hL ?_ | refine litA3 hL ?_ | refine litA4 hL ?_ | refine litA6 hL ?_) | ((with_reducible refine goJ rfl ?_); refine goP ?_))
        apply exContH hL (cs := #[.int .u8 q0, .int .u8 q1, .int .u8 q2, .int .u8 255]) (T := 30)
        · intro hC
          replace hL := hL.drew
          have hV : ∀ k, (VP w b3 W H ya yc) k _ := fun k' _ => hL.pick (by (repeat (first | with_reducible exact At.here | with_reducible apply At.there)))
          refine wpV_begin (by kernel_rfl) (VP w b3 W H ya yc) 12 ?_
          refine stV (i := 0) ?_ (fun k _ => hV k) (fun w' hw => ?_) ?_ (by repeat (first | exact pinned_none | refine pinned_put ?_)); rotate_left; (· (try replace hw := hw (by decide)); refine run_loadOp _ _ rfl _ rfl _ ?_; (first | refine loadA hw ?_ | refine loadU hw ?_ | refine loadR hw ?_ | refine loadP hw ?_ | refine loadC hw ?_ | refine loadE hw ?_ | refine loadD ?_ | refine loadF ?_); rfl)
          simp only [Act.put, setP]
          refine stV (i := 1) ?_ (fun k _ => hV k) (fun w' hw => ?_) ?_ (by repeat (first | exact pinned_none | refine pinned_put ?_)); rotate_left; (· (try replace hw := hw (by decide)); go_simp; try with_reducible rfl)
          simp only [Act.put, setP]
          refine stV (i := 2) ?_ (fun k _ => hV k) (fun w' hw => ?_) ?_ (by repeat (first | exact pinned_none | refine pinned_put ?_)); rotate_left; (· (try replace hw := hw (by decide)); go_simp; try with_reducible rfl)
          simp only [Act.put, setP]
          refine stV (i := 3) ?_ (fun k _ => hV k) (fun w' hw => ?_) ?_ (by repeat (first | exact pinned_none | refine pinned_put ?_)); rotate_left; (· (try replace hw := hw (by decide)); go_simp; try with_reducible rfl)
          simp only [Act.put, setP]
          refine stV (i := 4) ?_ (fun k _ => hV k) (fun w' hw => ?_) ?_ (by repeat (first | exact pinned_none | refine pinned_put ?_)); rotate_left; (· (try replace hw := hw (by decide)); go_simp; try with_reducible rfl)
          simp only [Act.put, setP]
          refine stV (i := 5) ?_ (fun k _ => hV k) (fun w' hw => ?_) ?_ (by repeat (first | exact pinned_none | refine pinned_put ?_)); rotate_left; (· (try replace hw := hw (by decide)); go_simp; try with_reducible rfl)
          simp only [Act.put, setP]
          refine stV (i := 6) ?_ (fun k _ => hV k) (fun w' hw => ?_) ?_ (by repeat (first | exact pinned_none | refine pinned_put ?_)); rotate_left; (· (try replace hw := hw (by decide)); go_simp; try with_reducible rfl)
          simp only [Act.put, setP]
          refine wpV_two (i := 7) (j := 11) (by kernel_rfl) (wpOp_of (by simp only [List.getElem?_toArray, List.getElem?_cons_zero, List.getElem?_cons_succ]; rfl) ?_) (wpOp_of (by simp only [List.getElem?_toArray, List.getElem?_cons_zero, List.getElem?_cons_succ]; rfl) ?_)
          · refine st_call rfl _ _ ?_ (HP1.out _ hL.fact2) ?_
            (· go_simp; try with_reducible rfl)
            rintro e _ ⟨rfl, hb⟩
            replace hL := hL.call hb
            clear hb
            have hV2 : ∀ k, (VP w b3 W H ya yc) k _ := fun k' _ => hL.pick (by (repeat (first | with_reducible exact At.here | with_reducible apply At.there)))
            clear hV
            have hV := hV2
            clear hV2
            refine ⟨_, rfl, fun k _ => hV k, ?_⟩
            simp only [Act.put, setP]
            refine stV (i := 8) ?_ (fun k _ => hV k) (fun w' hw => ?_) ?_ (by repeat (first | exact pinned_none | refine pinned_put ?_)); rotate_left; (· (try replace hw := hw (by decide)); go_simp; try with_reducible rfl)
            simp only [Act.put, setP]
            refine stV (i := 9) ?_ (fun k _ => hV k) (fun w' hw => ?_) ?_ (by repeat (first | exact pinned_none | refine pinned_put ?_)); rotate_left; (· (try replace hw := hw (by decide)); go_simp; try with_reducible rfl)
            simp only [Act.put, setP]
            refine stV (i := 10) ?_ (fun k _ => hV k) (fun w' hw => ?_) ?_ (by repeat (first | exact pinned_none | refine pinned_put ?_)); rotate_left; (· (try replace hw := hw (by decide)); go_simp; try with_reducible rfl)
            simp only [Act.put, setP]
            refine wpV_one (i := 11) (by kernel_rfl) (wpOp_of (by simp only [List.getElem?_toArray, List.getElem?_cons_zero, List.getElem?_cons_succ]; rfl) ?_)
            refine st_alloc hL ?_
            intro bq w9 hb hL2
            clear hb hL
            have hL := hL2; clear hL2
            have hV2 : ∀ k, (VP w b3 W H ya yc) k _ := fun k' _ => hL.pick (by (repeat (first | with_reducible exact At.here | with_reducible apply At.there)))
            clear hV
            have hV := hV2
            clear hV2
            refine ⟨fun k _ => hV k, ?_⟩
            simp only [Act.put, setP]
            refine wpV_one (i := 12) (by kernel_rfl) (wpOp_of (by simp only [List.getElem?_toArray, List.getElem?_cons_zero, List.getElem?_cons_succ]; rfl) ?_)
            refine st_store rfl _ _ _ rfl _ rfl (.agg _) rfl ?_
            first | refine storeA hL ?_ | refine storeO hL ?_ | refine storeR hL ?_
            try clear hV
            clear hL; intro w9 hL
            refine ⟨fun k9 hk9 hm9 => ?_, ?_⟩
            (· exact absurd hm9 (pinned_off 12 10 hk9 (by kernel_rfl) (by decide) (by kernel_rfl)))
            try simp only [Act.put]
            refine wpV_one (i := 13) (by kernel_rfl) (wpOp_of (by simp only [List.getElem?_toArray, List.getElem?_cons_zero, List.getElem?_cons_succ]; rfl) ?_)
            refine st_easy rfl ?_ ?_ ?_; rotate_left; (· go_simp; try with_reducible rfl)
            refine ⟨fun k9 hk9 hm9 => ?_, ?_⟩
            (· exact absurd hm9 (pinned_off 12 10 hk9 (by kernel_rfl) (by decide) (by kernel_rfl)))
            simp only [Act.put, setP]
            refine wpV_done (by kernel_rfl) ?_
            exact hC bq _ hL
          · refine st_alloc hL ?_
            intro bq w9 hb hL2
            clear hb hL
            have hL := hL2; clear hL2
            have hV2 : ∀ k, (VP w b3 W H ya yc) k _ := fun k' _ => hL.pick (by (repeat (first | with_reducible exact At.here | with_reducible apply At.there)))
            clear hV
            have hV := hV2
            clear hV2
            refine ⟨fun k _ => hV k, ?_⟩
            simp only [Act.put, setP]
            refine wpV_one (i := 7) (by kernel_rfl) (wpOp_of (by simp only [List.getElem?_toArray, List.getElem?_cons_zero, List.getElem?_cons_succ]; rfl) ?_)
            refine st_call rfl _ _ ?_ (HP1.out _ hL.fact2) ?_
            (· go_simp; try with_reducible rfl)
            rintro e _ ⟨rfl, hb⟩
            replace hL := hL.call hb
            clear hb
            have hV2 : ∀ k, (VP w b3 W H ya yc) k _ := fun k' _ => hL.pick (by (repeat (first | with_reducible exact At.here | with_reducible apply At.there)))
            clear hV
            have hV := hV2
            clear hV2
            refine ⟨_, rfl, fun k _ => hV k, ?_⟩
            simp only [Act.put, setP]
            refine stV (i := 8) ?_ (fun k _ => hV k) (fun w' hw => ?_) ?_ (by repeat (first | exact pinned_none | refine pinned_put ?_)); rotate_left; (· (try replace hw := hw (by decide)); go_simp; try with_reducible rfl)
            simp only [Act.put, setP]
            refine stV (i := 9) ?_ (fun k _ => hV k) (fun w' hw => ?_) ?_ (by repeat (first | exact pinned_none | refine pinned_put ?_)); rotate_left; (· (try replace hw := hw (by decide)); go_simp; try with_reducible rfl)
            simp only [Act.put, setP]
            refine stV (i := 10) ?_ (fun k _ => hV k) (fun w' hw => ?_) ?_ (by repeat (first | exact pinned_none | refine pinned_put ?_)); rotate_left; (· (try replace hw := hw (by decide)); go_simp; try with_reducible rfl)
            simp only [Act.put, setP]
            refine wpV_one (i := 12) (by kernel_rfl) (wpOp_of (by simp only [List.getElem?_toArray, List.getElem?_cons_zero, List.getElem?_cons_succ]; rfl) ?_)
            refine st_store rfl _ _ _ rfl _ rfl (.agg _) rfl ?_
            first | refine storeA hL ?_ | refine storeO hL ?_ | refine storeR hL ?_
            try clear hV
            clear hL; intro w9 hL
            refine ⟨fun k9 hk9 hm9 => ?_, ?_⟩
            (· exact absurd hm9 (pinned_off 12 10 hk9 (by kernel_rfl) (by decide) (by kernel_rfl)))
            try simp only [Act.put]
            refine wpV_one (i := 13) (by kernel_rfl) (wpOp_of (by simp only [List.getElem?_toArray, List.getElem?_cons_zero, List.getElem?_cons_succ]; rfl) ?_)
            refine st_easy rfl ?_ ?_ ?_; rotate_left; (· go_simp; try with_reducible rfl)
            refine ⟨fun k9 hk9 hm9 => ?_, ?_⟩
            (· exact absurd hm9 (pinned_off 12 10 hk9 (by kernel_rfl) (by decide) (by kernel_rfl)))
            simp only [Act.put, setP]
            refine wpV_done (by kernel_rfl) ?_
            exact hC bq _ hL
        intro b6 w6 hL
        go_wp2_with (first | (with_reducible first | (clear hL; intro _ _ _ hL; try dsimp only at hL) | (clear hL n1; intro b1 w1 hL) | (clear hL n2; intro b2 w2 hL) | (clear hL n3; intro b3 w3 hL) | (clear hL n4; intro b4 w4 hL) | (clear hL n5; intro b5 w5 hL) | (clear hL n6; intro b6 w6 hL) | (clear hL n7; intro b7 w7 hL) | (clear hL n8; intro b8 w8 hL) | (clear hL; intro _ _ hL) | (clear hL; intro _ hL)) | ((with_reducible refine wpA_lit rfl _ _ _ rfl ?_); first | refine litA1 hL ?_ | refine litA2 hL ?_ | refine litA3 hL ?_ | refine litA4 hL ?_ | refine litA6 hL ?_) | ((with_reducible refine goJ rfl ?_); refine goP ?_))
        refine wpH_holds (by kernel_rfl) hL fun hS => ?_
        replace hL := hS
        refine stH (i := 0) ?_ hS (fun w' hw => ?_) ?_; rotate_left; (· refine run_loadOp _ _ rfl _ rfl _ ?_; (first | refine loadA hw ?_ | refine loadU hw ?_ | refine loadR hw ?_ | refine loadP hw ?_ | refine loadC hw ?_ | refine loadE hw ?_ | refine loadD ?_ | refine loadF ?_); rfl)
        simp only [Act.put, setP]
        refine deH 1 hS ?_
        refine deH 2 hS ?_
        refine deH 3 hS ?_
        refine deH 4 hS ?_
        refine deH 5 hS ?_
        refine deH 6 hS ?_
        refine wpH_one (i := 7) (by kernel_rfl) (wpOp_of (by simp only [List.getElem?_toArray, List.getElem?_cons_zero, List.getElem?_cons_succ]; rfl) ?_)
        refine st_call rfl _ _ ?_ (HH1.out _ _ hL.fact0) ?_
        (· go_simp; try with_reducible rfl)
        rintro e _ ⟨rfl, hb⟩
        replace hL := hL.call hb
        replace hS := hS.call hb
        clear hb
        refine ⟨_, rfl, hS, ?_⟩
        simp only [Act.put, setP]
        refine wpAnyH_done (by kernel_rfl) ?_ _
        clear hS
        go_wp2_with (first | (with_reducible first | (clear hL; intro _ _ _ hL; try dsimp only at hL) | (clear hL n1; intro b1 w1 hL) | (clear hL n2; intro b2 w2 hL) | (clear hL n3; intro b3 w3 hL) | (clear hL n4; intro b4 w4 hL) | (clear hL n5; intro b5 w5 hL) | (clear hL n6; intro b6 w6 hL) | (clear hL n7; intro b7 w7 hL) | (clear hL n8; intro b8 w8 hL) | (clear hL; intro _ _ hL) | (clear hL; intro _ hL)) | ((with_reducible refine wpA_lit rfl _ _ _ rfl ?_); first | refine litA1 hL ?_ | refine litA2 hL ?_ | refine litA3 hL ?_ | refine litA4 hL ?_ | refine litA6 hL ?_) | ((with_reducible refine goJ rfl ?_); refine goP ?_))
        go_roundw
        case rel => exact ⟨k + 1, by omega, by go_num, ((hL.drop .here).drop .here).drop .here⟩
        case measure => simp [intOf]; omega
      · rw [hm] at hab hat
        have HH1 := Lib.hid (fun w' (v : Value) (h : RegAt w' v (pixReg W H mp)) => (by have h2 := HHs.out w' v mp h (x : Int) (y : Int); rw [hat] at h2; exact h2))
        simp only [if_true] at hab
        injection hab with hab
        simp only [Array.mk.injEq, List.cons.injEq, Value.int.injEq, true_and, and_true] at hab
        obtain ⟨rfl, rfl, rfl⟩ := hab
        go_wp2_with (first | (with_reducible first | (clear hL; intro _ _ _ hL; try dsimp only at hL) | (clear hL n1; intro b1 w1 hL) | (clear hL n2; intro b2 w2 hL) | (clear hL n3; intro b3 w3 hL) | (clear hL n4; intro b4 w4 hL) | (clear hL n5; intro b5 w5 hL) | (clear hL n6; intro b6 w6 hL) | (clear hL n7; intro b7 w7 hL) | (clear hL n8; intro b8 w8 hL) | (clear hL; intro _ _ hL) | (clear hL; intro _ hL)) | ((with_reducible refine wpA_lit rfl _ _ _ rfl ?_); first | refine litA1 hL ?_ | refine litA2 hL ?_ | refine litA3 hL ?_ | refine litA4 hL ?_ | refine litA6 hL ?_) | ((with_reducible refine goJ rfl ?_); refine goP ?_))
        apply exContH hL (cs := #[.int .u8 A.ink.r, .int .u8 A.ink.g, .int .u8 A.ink.b, .int .u8 255]) (T := 30)
        · intro hC
          replace hL := hL.drew
          have hV : ∀ k, (VP w b13 W H xa xc) k _ := fun k' _ => hL.pick (by (repeat (first | with_reducible exact At.here | with_reducible apply At.there)))
          refine wpV_begin (by kernel_rfl) (VP w b13 W H xa xc) 12 ?_
          refine stV (i := 0) ?_ (fun k _ => hV k) (fun w' hw => ?_) ?_ (by repeat (first | exact pinned_none | refine pinned_put ?_)); rotate_left; (· (try replace hw := hw (by decide)); refine run_loadOp _ _ rfl _ rfl _ ?_; (first | refine loadA hw ?_ | refine loadU hw ?_ | refine loadR hw ?_ | refine loadP hw ?_ | refine loadC hw ?_ | refine loadE hw ?_ | refine loadD ?_ | refine loadF ?_); rfl)
          simp only [Act.put, setP]
          refine stV (i := 1) ?_ (fun k _ => hV k) (fun w' hw => ?_) ?_ (by repeat (first | exact pinned_none | refine pinned_put ?_)); rotate_left; (· (try replace hw := hw (by decide)); go_simp; try with_reducible rfl)
          simp only [Act.put, setP]
          refine stV (i := 2) ?_ (fun k _ => hV k) (fun w' hw => ?_) ?_ (by repeat (first | exact pinned_none | refine pinned_put ?_)); rotate_left; (· (try replace hw := hw (by decide)); go_simp; try with_reducible rfl)
          simp only [Act.put, setP]
          refine stV (i := 3) ?_ (fun k _ => hV k) (fun w' hw => ?_) ?_ (by repeat (first | exact pinned_none | refine pinned_put ?_)); rotate_left; (· (try replace hw := hw (by decide)); go_simp; try with_reducible rfl)
          simp only [Act.put, setP]
          refine stV (i := 4) ?_ (fun k _ => hV k) (fun w' hw => ?_) ?_ (by repeat (first | exact pinned_none | refine pinned_put ?_)); rotate_left; (· (try replace hw := hw (by decide)); go_simp; try with_reducible rfl)
          simp only [Act.put, setP]
          refine stV (i := 5) ?_ (fun k _ => hV k) (fun w' hw => ?_) ?_ (by repeat (first | exact pinned_none | refine pinned_put ?_)); rotate_left; (· (try replace hw := hw (by decide)); go_simp; try with_reducible rfl)
          simp only [Act.put, setP]
          refine stV (i := 6) ?_ (fun k _ => hV k) (fun w' hw => ?_) ?_ (by repeat (first | exact pinned_none | refine pinned_put ?_)); rotate_left; (· (try replace hw := hw (by decide)); go_simp; try with_reducible rfl)
          simp only [Act.put, setP]
          refine wpV_two (i := 7) (j := 11) (by kernel_rfl) (wpOp_of (by simp only [List.getElem?_toArray, List.getElem?_cons_zero, List.getElem?_cons_succ]; rfl) ?_) (wpOp_of (by simp only [List.getElem?_toArray, List.getElem?_cons_zero, List.getElem?_cons_succ]; rfl) ?_)
          · refine st_call rfl _ _ ?_ (HQ1.out _ hL.fact1) ?_
            (· go_simp; try with_reducible rfl)
            rintro e _ ⟨rfl, hb⟩
            replace hL := hL.call hb
            clear hb
            have hV2 : ∀ k, (VP w b13 W H xa xc) k _ := fun k' _ => hL.pick (by (repeat (first | with_reducible exact At.here | with_reducible apply At.there)))
            clear hV
            have hV := hV2
            clear hV2
            refine ⟨_, rfl, fun k _ => hV k, ?_⟩
            simp only [Act.put, setP]
            refine stV (i := 8) ?_ (fun k _ => hV k) (fun w' hw => ?_) ?_ (by repeat (first | exact pinned_none | refine pinned_put ?_)); rotate_left; (· (try replace hw := hw (by decide)); go_simp; try with_reducible rfl)
            simp only [Act.put, setP]
            refine stV (i := 9) ?_ (fun k _ => hV k) (fun w' hw => ?_) ?_ (by repeat (first | exact pinned_none | refine pinned_put ?_)); rotate_left; (· (try replace hw := hw (by decide)); go_simp; try with_reducible rfl)
            simp only [Act.put, setP]
            refine stV (i := 10) ?_ (fun k _ => hV k) (fun w' hw => ?_) ?_ (by repeat (first | exact pinned_none | refine pinned_put ?_)); rotate_left; (· (try replace hw := hw (by decide)); go_simp; try with_reducible rfl)
            simp only [Act.put, setP]
            refine wpV_one (i := 11) (by kernel_rfl) (wpOp_of (by simp only [List.getElem?_toArray, List.getElem?_cons_zero, List.getElem?_cons_succ]; rfl) ?_)
            refine st_alloc hL ?_
            intro bq w9 hb hL2
            clear hb hL
            have hL := hL2; clear hL2
            have hV2 : ∀ k, (VP w b13 W H xa xc) k _ := fun k' _ => hL.pick (by (repeat (first | with_reducible exact At.here | with_reducible apply At.there)))
            clear hV
            have hV := hV2
            clear hV2
            refine ⟨fun k _ => hV k, ?_⟩
            simp only [Act.put, setP]
            refine wpV_one (i := 12) (by kernel_rfl) (wpOp_of (by simp only [List.getElem?_toArray, List.getElem?_cons_zero, List.getElem?_cons_succ]; rfl) ?_)
            refine st_store rfl _ _ _ rfl _ rfl (.agg _) rfl ?_
            first | refine storeA hL ?_ | refine storeO hL ?_ | refine storeR hL ?_
            try clear hV
            clear hL; intro w9 hL
            refine ⟨fun k9 hk9 hm9 => ?_, ?_⟩
            (· exact absurd hm9 (pinned_off 12 10 hk9 (by kernel_rfl) (by decide) (by kernel_rfl)))
            try simp only [Act.put]
            refine wpV_one (i := 13) (by kernel_rfl) (wpOp_of (by simp only [List.getElem?_toArray, List.getElem?_cons_zero, List.getElem?_cons_succ]; rfl) ?_)
            refine st_easy rfl ?_ ?_ ?_; rotate_left; (· go_simp; try with_reducible rfl)
            refine ⟨fun k9 hk9 hm9 => ?_, ?_⟩
            (· exact absurd hm9 (pinned_off 12 10 hk9 (by kernel_rfl) (by decide) (by kernel_rfl)))
            simp only [Act.put, setP]
            refine wpV_done (by kernel_rfl) ?_
            exact hC bq _ hL
          · refine st_alloc hL ?_
            intro bq w9 hb hL2
            clear hb hL
            have hL := hL2; clear hL2
            have hV2 : ∀ k, (VP w b13 W H xa xc) k _ := fun k' _ => hL.pick (by (repeat (first | with_reducible exact At.here | with_reducible apply At.there)))
            clear hV
            have hV := hV2
            clear hV2
            refine ⟨fun k _ => hV k, ?_⟩
            simp only [Act.put, setP]
            refine wpV_one (i := 7) (by kernel_rfl) (wpOp_of (by simp only [List.getElem?_toArray, List.getElem?_cons_zero, List.getElem?_cons_succ]; rfl) ?_)
            refine st_call rfl _ _ ?_ (HQ1.out _ hL.fact1) ?_
            (· go_simp; try with_reducible rfl)
            rintro e _ ⟨rfl, hb⟩
            replace hL := hL.call hb
            clear hb
            have hV2 : ∀ k, (VP w b13 W H xa xc) k _ := fun k' _ => hL.pick (by (repeat (first | with_reducible exact At.here | with_reducible apply At.there)))
            clear hV
            have hV := hV2
            clear hV2
            refine ⟨_, rfl, fun k _ => hV k, ?_⟩
            simp only [Act.put, setP]
            refine stV (i := 8) ?_ (fun k _ => hV k) (fun w' hw => ?_) ?_ (by repeat (first | exact pinned_none | refine pinned_put ?_)); rotate_left; (· (try replace hw := hw (by decide)); go_simp; try with_reducible rfl)
            simp only [Act.put, setP]
            refine stV (i := 9) ?_ (fun k _ => hV k) (fun w' hw => ?_) ?_ (by repeat (first | exact pinned_none | refine pinned_put ?_)); rotate_left; (· (try replace hw := hw (by decide)); go_simp; try with_reducible rfl)
            simp only [Act.put, setP]
            refine stV (i := 10) ?_ (fun k _ => hV k) (fun w' hw => ?_) ?_ (by repeat (first | exact pinned_none | refine pinned_put ?_)); rotate_left; (· (try replace hw := hw (by decide)); go_simp; try with_reducible rfl)
            simp only [Act.put, setP]
            refine wpV_one (i := 12) (by kernel_rfl) (wpOp_of (by simp only [List.getElem?_toArray, List.getElem?_cons_zero, List.getElem?_cons_succ]; rfl) ?_)
            refine st_store rfl _ _ _ rfl _ rfl (.agg _) rfl ?_
            first | refine storeA hL ?_ | refine storeO hL ?_ | refine storeR hL ?_
            try clear hV
            clear hL; intro w9 hL
            refine ⟨fun k9 hk9 hm9 => ?_, ?_⟩
            (· exact absurd hm9 (pinned_off 12 10 hk9 (by kernel_rfl) (by decide) (by kernel_rfl)))
            try simp only [Act.put]
            refine wpV_one (i := 13) (by kernel_rfl) (wpOp_of (by simp only [List.getElem?_toArray, List.getElem?_cons_zero, List.getElem?_cons_succ]; rfl) ?_)
            refine st_easy rfl ?_ ?_ ?_; rotate_left; (· go_simp; try with_reducible rfl)
            refine ⟨fun k9 hk9 hm9 => ?_, ?_⟩
            (· exact absurd hm9 (pinned_off 12 10 hk9 (by kernel_rfl) (by decide) (by kernel_rfl)))
            simp only [Act.put, setP]
            refine wpV_done (by kernel_rfl) ?_
            exact hC bq _ hL
        intro b5 w5 hL
        go_wp2_with (first | (with_reducible first | (clear hL; intro _ _ _ hL; try dsimp only at hL) | (clear hL n1; intro b1 w1 hL) | (clear hL n2; intro b2 w2 hL) | (clear hL n3; intro b3 w3 hL) | (clear hL n4; intro b4 w4 hL) | (clear hL n5; intro b5 w5 hL) | (clear hL n6; intro b6 w6 hL) | (clear hL n7; intro b7 w7 hL) | (clear hL n8; intro b8 w8 hL) | (clear hL; intro _ _ hL) | (clear hL; intro _ hL)) | ((with_reducible refine wpA_lit rfl _ _ _ rfl ?_); first | refine litA1 hL ?_ | refine litA2 hL ?_ | refine litA3 hL ?_ | refine litA4 hL ?_ | refine litA6 hL ?_) | ((with_reducible refine goJ rfl ?_); refine goP ?_))
        apply exContH hL (cs := #[.int .u8 p0, .int .u8 p1, .int .u8 p2, .int .u8 255]) (T := 30)
        · intro hC
          replace hL := hL.drew
          have hV : ∀ k, (VP w b3 W H ya yc) k _ := fun k' _ => hL.pick (by (repeat (first | with_reducible exact At.here | with_reducible apply At.there)))
          refine wpV_begin (by kernel_rfl) (VP w b3 W H ya yc) 12 ?_
          refine stV (i := 0) ?_ (fun k _ => hV k) (fun w' hw => ?_) ?_ (by repeat (first | exact pinned_none | refine pinned_put ?_)); rotate_left; (· (try replace hw := hw (by decide)); refine run_loadOp _ _ rfl _ rfl _ ?_; (first | refine loadA hw ?_ | refine loadU hw ?_ | refine loadR hw ?_ | refine loadP hw ?_ | refine loadC hw ?_ | refine loadE hw ?_ | refine loadD ?_ | refine loadF ?_); rfl)
          simp only [Act.put, setP]
          refine stV (i := 1) ?_ (fun k _ => hV k) (fun w' hw => ?_) ?_ (by repeat (first | exact pinned_none | refine pinned_put ?_)); rotate_left; (· (try replace hw := hw (by decide)); go_simp; try with_reducible rfl)
          simp only [Act.put, setP]
          refine stV (i := 2) ?_ (fun k _ => hV k) (fun w' hw => ?_) ?_ (by repeat (first | exact pinned_none | refine pinned_put ?_)); rotate_left; (· (try replace hw := hw (by decide)); go_simp; try with_reducible rfl)
          simp only [Act.put, setP]
          refine stV (i := 3) ?_ (fun k _ => hV k) (fun w' hw => ?_) ?_ (by repeat (first | exact pinned_none | refine pinned_put ?_)); rotate_left; (· (try replace hw := hw (by decide)); go_simp; try with_reducible rfl)
          simp only [Act.put, setP]
          refine stV (i := 4) ?_ (fun k _ => hV k) (fun w' hw => ?_) ?_ (by repeat (first | exact pinned_none | refine pinned_put ?_)); rotate_left; (· (try replace hw := hw (by decide)); go_simp; try with_reducible rfl)
          simp only [Act.put, setP]
          refine stV (i := 5) ?_ (fun k _ => hV k) (fun w' hw => ?_) ?_ (by repeat (first | exact pinned_none | refine pinned_put ?_)); rotate_left; (· (try replace hw := hw (by decide)); go_simp; try with_reducible rfl)
          simp only [Act.put, setP]
          refine stV (i := 6) ?_ (fun k _ => hV k) (fun w' hw => ?_) ?_ (by repeat (first | exact pinned_none | refine pinned_put ?_)); rotate_left; (· (try replace hw := hw (by decide)); go_simp; try with_reducible rfl)
          simp only [Act.put, setP]
          refine wpV_two (i := 7) (j := 11) (by kernel_rfl) (wpOp_of (by simp only [List.getElem?_toArray, List.getElem?_cons_zero, List.getElem?_cons_succ]; rfl) ?_) (wpOp_of (by simp only [List.getElem?_toArray, List.getElem?_cons_zero, List.getElem?_cons_succ]; rfl) ?_)
          · refine st_call rfl _ _ ?_ (HP1.out _ hL.fact2) ?_
            (· go_simp; try with_reducible rfl)
            rintro e _ ⟨rfl, hb⟩
            replace hL := hL.call hb
            clear hb
            have hV2 : ∀ k, (VP w b3 W H ya yc) k _ := fun k' _ => hL.pick (by (repeat (first | with_reducible exact At.here | with_reducible apply At.there)))
            clear hV
            have hV := hV2
            clear hV2
            refine ⟨_, rfl, fun k _ => hV k, ?_⟩
            simp only [Act.put, setP]
            refine stV (i := 8) ?_ (fun k _ => hV k) (fun w' hw => ?_) ?_ (by repeat (first | exact pinned_none | refine pinned_put ?_)); rotate_left; (· (try replace hw := hw (by decide)); go_simp; try with_reducible rfl)
            simp only [Act.put, setP]
            refine stV (i := 9) ?_ (fun k _ => hV k) (fun w' hw => ?_) ?_ (by repeat (first | exact pinned_none | refine pinned_put ?_)); rotate_left; (· (try replace hw := hw (by decide)); go_simp; try with_reducible rfl)
            simp only [Act.put, setP]
            refine stV (i := 10) ?_ (fun k _ => hV k) (fun w' hw => ?_) ?_ (by repeat (first | exact pinned_none | refine pinned_put ?_)); rotate_left; (· (try replace hw := hw (by decide)); go_simp; try with_reducible rfl)
            simp only [Act.put, setP]
            refine wpV_one (i := 11) (by kernel_rfl) (wpOp_of (by simp only [List.getElem?_toArray, List.getElem?_cons_zero, List.getElem?_cons_succ]; rfl) ?_)
            refine st_alloc hL ?_
            intro bq w9 hb hL2
            clear hb hL
            have hL := hL2; clear hL2
            have hV2 : ∀ k, (VP w b3 W H ya yc) k _ := fun k' _ => hL.pick (by (repeat (first | with_reducible exact At.here | with_reducible apply At.there)))
            clear hV
            have hV := hV2
            clear hV2
            refine ⟨fun k _ => hV k, ?_⟩
            simp only [Act.put, setP]
            refine wpV_one (i := 12) (by kernel_rfl) (wpOp_of (by simp only [List.getElem?_toArray, List.getElem?_cons_zero, List.getElem?_cons_succ]; rfl) ?_)
            refine st_store rfl _ _ _ rfl _ rfl (.agg _) rfl ?_
            first | refine storeA hL ?_ | refine storeO hL ?_ | refine storeR hL ?_
            try clear hV
            clear hL; intro w9 hL
            refine ⟨fun k9 hk9 hm9 => ?_, ?_⟩
            (· exact absurd hm9 (pinned_off 12 10 hk9 (by kernel_rfl) (by decide) (by kernel_rfl)))
            try simp only [Act.put]
            refine wpV_one (i := 13) (by kernel_rfl) (wpOp_of (by simp only [List.getElem?_toArray, List.getElem?_cons_zero, List.getElem?_cons_succ]; rfl) ?_)
            refine st_easy rfl ?_ ?_ ?_; rotate_left; (· go_simp; try with_reducible rfl)
            refine ⟨fun k9 hk9 hm9 => ?_, ?_⟩
            (· exact absurd hm9 (pinned_off 12 10 hk9 (by kernel_rfl) (by decide) (by kernel_rfl)))
            simp only [Act.put, setP]
            refine wpV_done (by kernel_rfl) ?_
            exact hC bq _ hL
          · refine st_alloc hL ?_
            intro bq w9 hb hL2
            clear hb hL
            have hL := hL2; clear hL2
            have hV2 : ∀ k, (VP w b3 W H ya yc) k _ := fun k' _ => hL.pick (by (repeat (first | with_reducible exact At.here | with_reducible apply At.there)))
            clear hV
            have hV := hV2
            clear hV2
            refine ⟨fun k _ => hV k, ?_⟩
            simp only [Act.put, setP]
            refine wpV_one (i := 7) (by kernel_rfl) (wpOp_of (by simp only [List.getElem?_toArray, List.getElem?_cons_zero, List.getElem?_cons_succ]; rfl) ?_)
            refine st_call rfl _ _ ?_ (HP1.out _ hL.fact2) ?_
            (· go_simp; try with_reducible rfl)
            rintro e _ ⟨rfl, hb⟩
            replace hL := hL.call hb
            clear hb
            have hV2 : ∀ k, (VP w b3 W H ya yc) k _ := fun k' _ => hL.pick (by (repeat (first | with_reducible exact At.here | with_reducible apply At.there)))
            clear hV
            have hV := hV2
            clear hV2
            refine ⟨_, rfl, fun k _ => hV k, ?_⟩
            simp only [Act.put, setP]
            refine stV (i := 8) ?_ (fun k _ => hV k) (fun w' hw => ?_) ?_ (by repeat (first | exact pinned_none | refine pinned_put ?_)); rotate_left; (· (try replace hw := hw (by decide)); go_simp; try with_reducible rfl)
            simp only [Act.put, setP]
            refine stV (i := 9) ?_ (fun k _ => hV k) (fun w' hw => ?_) ?_ (by repeat (first | exact pinned_none | refine pinned_put ?_)); rotate_left; (· (try replace hw := hw (by decide)); go_simp; try with_reducible rfl)
            simp only [Act.put, setP]
            refine stV (i := 10) ?_ (fun k _ => hV k) (fun w' hw => ?_) ?_ (by repeat (first | exact pinned_none | refine pinned_put ?_)); rotate_left; (· (try replace hw := hw (by decide)); go_simp; try with_reducible rfl)
            simp only [Act.put, setP]
            refine wpV_one (i := 12) (by kernel_rfl) (wpOp_of (by simp only [List.getElem?_toArray, List.getElem?_cons_zero, List.getElem?_cons_succ]; rfl) ?_)
            refine st_store rfl _ _ _ rfl _ rfl (.agg _) rfl ?_
            first | refine storeA hL ?_ | refine storeO hL ?_ | refine storeR hL ?_
            try clear hV
            clear hL; intro w9 hL
            refine ⟨fun k9 hk9 hm9 => ?_, ?_⟩
            (· exact absurd hm9 (pinned_off 12 10 hk9 (by kernel_rfl) (by decide) (by kernel_rfl)))
            try simp only [Act.put]
            refine wpV_one (i := 13) (by kernel_rfl) (wpOp_of (by simp only [List.getElem?_toArray, List.getElem?_cons_zero, List.getElem?_cons_succ]; rfl) ?_)
            refine st_easy rfl ?_ ?_ ?_; rotate_left; (· go_simp; try with_reducible rfl)
            refine ⟨fun k9 hk9 hm9 => ?_, ?_⟩
            (· exact absurd hm9 (pinned_off 12 10 hk9 (by kernel_rfl) (by decide) (by kernel_rfl)))
            simp only [Act.put, setP]
            refine wpV_done (by kernel_rfl) ?_
            exact hC bq _ hL
        intro b6 w6 hL
        go_wp2_with (first | (with_reducible first | (clear hL; intro _ _ _ hL; try dsimp only at hL) | (clear hL n1; intro b1 w1 hL) | (clear hL n2; intro b2 w2 hL) | (clear hL n3; intro b3 w3 hL) | (clear hL n4; intro b4 w4 hL) | (clear hL n5; intro b5 w5 hL) | (clear hL n6; intro b6 w6 hL) | (clear hL n7; intro b7 w7 hL) | (clear hL n8; intro b8 w8 hL) | (clear hL; intro _ _ hL) | (clear hL; intro _ hL)) | ((with_reducible refine wpA_lit rfl _ _ _ rfl ?_); first | refine litA1 hL ?_ | refine litA2 hL ?_ | refine litA3 hL ?_ | refine litA4 hL ?_ | refine litA6 hL ?_) | ((with_reducible refine goJ rfl ?_); refine goP ?_))
        refine wpH_holds (by kernel_rfl) hL fun hS => ?_
        replace hL := hS
        refine stH (i := 0) ?_ hS (fun w' hw => ?_) ?_; rotate_left; (· refine run_loadOp _ _ rfl _ rfl _ ?_; (first | refine loadA hw ?_ | refine loadU hw ?_ | refine loadR hw ?_ | refine loadP hw ?_ | refine loadC hw ?_ | refine loadE hw ?_ | refine loadD ?_ | refine loadF ?_); rfl)
        simp only [Act.put, setP]
        refine deH 1 hS ?_
        refine deH 2 hS ?_
        refine deH 3 hS ?_
        refine deH 4 hS ?_
        refine deH 5 hS ?_
        refine deH 6 hS ?_
        refine wpH_one (i := 7) (by kernel_rfl) (wpOp_of (by simp only [List.getElem?_toArray, List.getElem?_cons_zero, List.getElem?_cons_succ]; rfl) ?_)
        refine st_call rfl _ _ ?_ (HH1.out _ _ hL.fact0) ?_
        (· go_simp; try with_reducible rfl)
        rintro e _ ⟨rfl, hb⟩
        replace hL := hL.call hb
        replace hS := hS.call hb
        clear hb
        refine ⟨_, rfl, hS, ?_⟩
        simp only [Act.put, setP]
        refine wpAnyH_done (by kernel_rfl) ?_ _
        clear hS
        go_wp2_with (first | (with_reducible first | (clear hL; intro _ _ _ hL; try dsimp only at hL) | (clear hL n1; intro b1 w1 hL) | (clear hL n2; intro b2 w2 hL) | (clear hL n3; intro b3 w3 hL) | (clear hL n4; intro b4 w4 hL) | (clear hL n5; intro b5 w5 hL) | (clear hL n6; intro b6 w6 hL) | (clear hL n7; intro b7 w7 hL) | (clear hL n8; intro b8 w8 hL) | (clear hL; intro _ _ hL) | (clear hL; intro _ hL)) | ((with_reducible refine wpA_lit rfl _ _ _ rfl ?_); first | refine litA1 hL ?_ | refine litA2 hL ?_ | refine litA3 hL ?_ | refine litA4 hL ?_ | refine litA6 hL ?_) | ((with_reducible refine goJ rfl ?_); refine goP ?_))
        go_roundw
        case rel => exact ⟨k + 1, by omega, by go_num, ((hL.drop .here).drop .here).drop .here⟩
        case measure => simp [intOf]; omega
    · have e : k = W * H := by omega
      subst e
      go_wp2_with (first | (with_reducible first | (clear hL; intro _ _ _ hL; try dsimp only at hL) | (clear hL n1; intro b1 w1 hL) | (clear hL n2; intro b2 w2 hL) | (clear hL n3; intro b3 w3 hL) | (clear hL n4; intro b4 w4 hL) | (clear hL n5; intro b5 w5 hL) | (clear hL n6; intro b6 w6 hL) | (clear hL n7; intro b7 w7 hL) | (clear hL n8; intro b8 w8 hL) | (clear hL; intro _ _ hL) | (clear hL; intro _ hL)) | ((with_reducible refine wpA_lit rfl _ _ _ rfl ?_); first | refine litA1 hL ?_ | refine litA2 hL ?_ | refine litA3 hL ?_ | refine litA4 hL ?_ | refine litA6 hL ?_) | ((with_reducible refine goJ rfl ?_); refine goP ?_))
      go_ret
      exact ⟨ret_bool (by simp), hL.below⟩
end Go.Proofs.YtmnoeoecjfhhbaaGreat
