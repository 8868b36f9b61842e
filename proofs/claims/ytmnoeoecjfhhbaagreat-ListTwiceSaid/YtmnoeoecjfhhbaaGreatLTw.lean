/- ListTwice returns true. -/
import Derived.Test.YtmnoeoecjfhhbaaGreatIm6
-- lit6
-- loadP
-- layer 43
namespace Go.Proofs.YtmnoeoecjfhhbaaGreat
open Go.RowKit

theorem ItmsAt.below' {w w' : World} {v : Value} {l : List Itm} (h : ItmsAt w v l) (hb : Below w.heap.size w w') : ItmsAt w' v l := ItmsAt.below hb h
set_option maxRecDepth 100000 in
set_option maxHeartbeats 16000000 in
theorem listTwice_calls (w : World) (v : Value) (l : List Itm) (hv : ItmsAt w v l) (z1 z2 : Int) (h1 : 0 ≤ z1 ∧ z1 ≤ 255) (h2 : 0 ≤ z2 ∧ z2 ≤ 255) : Calls Tryz.prog 4 #[v, .int .u8 z1, .int .u8 z2] w fun e w' => e = .returned (.bool true) ∧ Below w.heap.size w w' := by
  have hv' := hv
  obtain ⟨a, cap, rfl, hlc, hcm, _⟩ := hv
  unfold maxLen at hcm
  have HFw := Lib.hid (fun w' (hb : Below w.heap.size w w') => few_calls w' _ l (hv'.below hb))
  have hX : ∃ X : Int, 1 + z1 % 40 = X ∧ 1 ≤ X ∧ X ≤ 40 := ⟨_, rfl, by omega, by omega⟩
  have hY : ∃ Y : Int, 1 + z2 % 40 = Y ∧ 1 ≤ Y ∧ Y ≤ 40 := ⟨_, rfl, by omega, by omega⟩
  obtain ⟨X, hX, hX1, hX2⟩ := hX
  obtain ⟨Y, hY, hY1, hY2⟩ := hY
  have HP0 := Lib.hid (fun w' (hb : Below w.heap.size w w') => (listPaint_calls (wayPoint 0 (by decide)) w' _ l (hv'.below hb) X Y).mono fun e w2 h => PaintOut.any h)
  have HP1 := Lib.hid (fun w' (hb : Below w.heap.size w w') => (listPaint_calls wayLine w' _ l (hv'.below hb) X Y).mono fun e w2 h => PaintOut.any h)
  have HG := Lib.hid (fun k (hk : k < l.length) => ItmsAt.get hv' hk)
  have HM0 := Lib.hid (fun w' v i (h : ItmIs w' v i) => (listMarkAll_calls (wayPoint 0 (by decide)) w' v i h X Y).mono fun e w2 h => MarkOut.any h)
  have HM1 := Lib.hid (fun w' v i (h : ItmIs w' v i) => (listMarkAll_calls wayLine w' v i h X Y).mono fun e w2 h => MarkOut.any h)
  unfold PgOut at HP0 HP1
  generalize pgW l X Y X = gx at *
  generalize pgW l X Y Y = gy at *
  generalize hpb : pgB l X Y = pb at *
  clear hpb
  generalize paintErr l X Y = E at *
  have HPg := Lib.hid (fun w' (v u : Value) (h : BytesAt w' v pb) (k : BytesAt w' u pb) => helpPage_calls w' gx gy v u pb h k)
  have r1 : z1.tmod 40 = z1 % 40 := Int.tmod_eq_emod_of_nonneg (by omega)
  have r2 : z2.tmod 40 = z2 % 40 := Int.tmod_eq_emod_of_nonneg (by omega)
  have w1 : IntKind.i64.wrap z1 = z1 := wrapS (by omega) (by omega)
  have w2 : IntKind.i64.wrap z2 = z2 := wrapS (by omega) (by omega)
  have eE : (E == E) = true := beq_self_eq_true E
  have eN : (E != E) = false := by simp
  clear hv'
  generalize l.length = n at *
  have hL := Holds.start w
  have n1 : True := trivial; have n2 : True := trivial; have n3 : True := trivial; have n4 : True := trivial; have n5 : True := trivial; have n6 : True := trivial
  go_enter Tryz.func4, Tryz.ntmps4
  go_wp2_with (first | (go_at_call 11; (with_reducible refine (known_calls _).mono ?_); rintro e _ ⟨rfl, hb⟩; replace hL := hL.call hb; clear hb) | (go_at_call 12; (with_reducible refine (HFw.out _ hL.below).mono ?_); rintro e _ ⟨⟨bf, rfl⟩, hb⟩; replace hL := hL.call hb; clear hb; cases bf) | (go_at_call 22; (with_reducible first | refine (HP0.out _ hL.below).mono ?_ | refine (HP1.out _ hL.below).mono ?_); rintro e _ ⟨qa, qn, qc, rfl, hb, hf⟩; replace hL := hL.callF hb hf; clear hb hf) | (go_at_call 23; (with_reducible refine (HPg.out _ _ _ hL.fact1 hL.fact0).mono ?_); rintro e _ ⟨rfl, hb⟩; replace hL := hL.call hb; clear hb) | (with_reducible first | (clear hL n1; intro b1 w1 hL) | (clear hL n2; intro b2 w2 hL) | (clear hL n3; intro b3 w3 hL) | (clear hL n4; intro b4 w4 hL) | (clear hL n5; intro b5 w5 hL) | (clear hL n6; intro b6 w6 hL) | (clear hL; intro _ _ hL) | refine wpC_alloc rfl _ rfl _ _ inferInstance hL ?_) | ((with_reducible refine wpA_load rfl _ _ rfl _ rfl ?_); first | refine loadA hL ?_ | refine loadR hL ?_ | refine loadP hL ?_ | refine loadC hL ?_ | refine loadD ?_ | refine loadE hL ?_ | refine loadF ?_) | ((with_reducible refine wpA_store rfl _ _ _ rfl _ rfl (.agg _) rfl ?_); refine storeR hL ?_; clear hL; intro _ hL))
  · go_ret
    exact ⟨rfl, hL.below⟩
  go_loopw [13] (fun s13 wr => ∃ k : Nat, k ≤ n ∧ s13 = .int .i64 k ∧ Holds w wr [] [])
    (fun s13 wr => n - (intOf s13).toNat)
  case atStart => exact ⟨0, by omega, rfl, ((((hL.drop .here).drop .here).forget).forget)⟩
  case round =>
    clear hL
    obtain ⟨k, hk, rfl, hL⟩ := hrel
    by_cases hkt : k < n
    · obtain ⟨bi, oi, pa, pc, ca, cc, rfl, hr, hI, hp2, hp1, hc2, hc1, _⟩ := HG.out k hkt
      have hkb : (k : Int) < (n : Int) := by omega
      have HMk0 := Lib.hid (fun w' (hb : Below w.heap.size w w') => HM0.out w' _ _ (hI.below hb))
      have HMk1 := Lib.hid (fun w' (hb : Below w.heap.size w w') => HM1.out w' _ _ (hI.below hb))
      clear hI
      unfold maxLen at hp2 hc2
      generalize markReg (l.getD k default) X Y = R at *
      generalize markErr (l.getD k default) X Y = me at *
      generalize (l.getD k default) = it at *
      obtain ⟨kind, path, rule, ⟨wd, cp, join⟩, ⟨iw, ih, bits, data⟩, ⟨a, b, c, d, e, f⟩, ⟨kr, kg, kb, ka⟩, clips⟩ := it
      unfold itmC at hr
      unfold itmV at HMk0 HMk1
      dsimp only at *
      generalize path.length = pn at *
      generalize clips.length = cn at *
      have mE : (me == me) = true := beq_self_eq_true me
      have mN : (me != me) = false := by simp
      go_wp2_with (first | (go_at_call 15; (with_reducible first | refine (HMk0.out _ hL.below).mono ?_ | refine (HMk1.out _ hL.below).mono ?_); rintro e _ ⟨rv, rfl, hb, hf⟩; obtain ⟨ra, rn, rc, rfl, _⟩ := RegAt.shape hf.now; replace hL := hL.callF hb hf; clear hb hf) | (go_at_call 17; (with_reducible refine (helpReg_calls _ _ _ R hL.fact1 hL.fact0).mono ?_); rintro e _ ⟨rfl, hb⟩; replace hL := hL.call hb; clear hb) | (with_reducible first | (clear hL n1; intro b1 w1 hL) | (clear hL n2; intro b2 w2 hL) | (clear hL n3; intro b3 w3 hL) | (clear hL n4; intro b4 w4 hL) | (clear hL n5; intro b5 w5 hL) | (clear hL n6; intro b6 w6 hL) | (clear hL; intro _ _ hL) | refine wpC_alloc rfl _ rfl _ _ inferInstance hL ?_) | ((with_reducible refine wpA_load rfl _ _ rfl _ rfl ?_); first | refine loadA hL ?_ | refine loadR hL ?_ | refine loadP hL ?_ | refine loadC hL ?_ | refine loadD ?_ | refine loadE hL ?_ | refine loadF ?_) | ((with_reducible refine wpA_store rfl _ _ _ rfl _ rfl (.agg _) rfl ?_); refine storeR hL ?_; clear hL; intro _ hL))
      go_roundw
      case rel => exact ⟨k + 1, by omega, by go_num, ((((hL.drop .here).drop .here).forget).forget)⟩
      case measure => simp [intOf]; omega
    · have e : k = n := by omega
      subst e
      go_wp2_with (first | (with_reducible first | (clear hL n1; intro b1 w1 hL) | (clear hL n2; intro b2 w2 hL) | (clear hL n3; intro b3 w3 hL) | (clear hL n4; intro b4 w4 hL) | (clear hL n5; intro b5 w5 hL) | (clear hL n6; intro b6 w6 hL) | (clear hL; intro _ _ hL) | refine wpC_alloc rfl _ rfl _ _ inferInstance hL ?_) | ((with_reducible refine wpA_load rfl _ _ rfl _ rfl ?_); first | refine loadA hL ?_ | refine loadR hL ?_ | refine loadP hL ?_ | refine loadC hL ?_ | refine loadD ?_ | refine loadE hL ?_ | refine loadF ?_) | ((with_reducible refine wpA_store rfl _ _ _ rfl _ rfl (.agg _) rfl ?_); refine storeR hL ?_; clear hL; intro _ hL))
      go_ret
      exact ⟨rfl, hL.below⟩
end Go.Proofs.YtmnoeoecjfhhbaaGreat
