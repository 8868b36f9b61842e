/- RegionClips returns true. -/
import Derived.Test.YtjgnbmgdnfldeaaRgC
import Derived.Test.YtjgnbmgdnfldeaaBxPM
import Derived.Test.YtjgnbmgdnfldeaaShM
-- lit6
namespace Go.Proofs.Ytjgnbmgdnfldeaa
open Go.RowKit

def R14 (sa : Option Addr) (sn sc : Nat) (q : Nat → Nat → Bool) : World → Prop := RegF (.agg #[.int .i64 14, .int .i64 14, .slice sa sn sc]) (pixReg 14 14 q)
def P14 (q : Nat → Nat → Bool) (w : World) (e : Ending) (w' : World) : Prop :=
  ∃ sa sn sc, e = .returned (.tuple #[.agg #[.int .i64 14, .int .i64 14, .slice sa sn sc], .int .i64 0]) ∧ Below w.heap.size w w' ∧ Fresh w w' (R14 sa sn sc q)
theorem s14 : Sides 14 14 := ⟨by decide, by decide, by decide, by decide⟩
def rectQ (x0 y0 x1 y1 : Int) (j i : Nat) : Bool := decide (y0 ≤ (j : Int)) && (decide ((j : Int) < y1) && (decide (x0 ≤ (i : Int)) && decide ((i : Int) < x1)))
theorem r14_rect (w : World) (x0 y0 x1 y1 : Int) : Calls Try.prog 27 #[.int .i64 14, .int .i64 14, .int .i64 x0, .int .i64 y0, .int .i64 x1, .int .i64 y1] w (P14 (rectQ x0 y0 x1 y1) w) := pixRect_calls s14 w x0 y0 x1 y1
theorem r14_meet (w : World) {sa ta : Option Addr} {sn sc tn tc : Nat} {p q : Nat → Nat → Bool} (h : R14 sa sn sc p w) (k : R14 ta tn tc q w) : Calls Try.prog 17 #[.agg #[.int .i64 14, .int .i64 14, .slice sa sn sc], .agg #[.int .i64 14, .int .i64 14, .slice ta tn tc]] w (P14 (fun j i => p j i && q j i) w) := pixMeet_calls s14 w _ _ p q h k
theorem r14_same (w : World) {sa ta : Option Addr} {sn sc tn tc : Nat} {p q : Nat → Nat → Bool} (h : R14 sa sn sc p w) (k : R14 ta tn tc q w) (e : ∀ j i, p j i = q j i) : Calls Try.prog 35 #[.agg #[.int .i64 14, .int .i64 14, .slice sa sn sc], .agg #[.int .i64 14, .int .i64 14, .slice ta tn tc]] w fun e w' => e = .returned (.bool true) ∧ Below w.heap.size w w' := pixSame_calls w _ _ p q h k fun j _ i _ => e j i
theorem r14_has (w : World) {sa : Option Addr} {sn sc : Nat} {p : Nat → Nat → Bool} (h : R14 sa sn sc p w) (i j : Int) : Calls Try.prog 40 #[.agg #[.int .i64 14, .int .i64 14, .slice sa sn sc], .int .i64 i, .int .i64 j] w fun e w' => e = .returned (.bool (atPix 14 14 p i j)) ∧ Below w.heap.size w w' := pixRHas_calls s14 w _ p h i j
theorem r14_scan (w : World) (v : Value) (l : List Sg) (hv : SegsAt w v l) (hm : pathMay l = true) (rule : Int) (hr : rule = 0 ∨ rule = 1) : Calls Try.prog 57 #[v, .int .i64 rule, .int .i64 14, .int .i64 14] w (P14 (fun j => rowP (edgesS l) rule (16 * (j : Int) + 8)) w) := by
  refine (scanRegion_ok (W := 14) (H := 14) ⟨by decide, by decide, by decide, by decide⟩ w v l hv hm rule hr).mono ?_
  rintro e w' ⟨v', rfl, hb, hf⟩
  obtain ⟨sa, sn, sc, rfl, _⟩ := RegAt.shape hf.now
  exact ⟨sa, sn, sc, rfl, hb, hf⟩
theorem atPix14 {p : Nat → Nat → Bool} {i j : Nat} (hi : i < 14) (hj : j < 14) : atPix 14 14 p (i : Int) (j : Int) = p j i := by
  unfold atPix
  rw [Int.toNat_natCast, Int.toNat_natCast, decide_eq_true (show (0 : Int) ≤ i by omega), decide_eq_true (show (0 : Int) ≤ j by omega), decide_eq_true (show (i : Int) < (14 : Nat) by omega), decide_eq_true (show (j : Int) < (14 : Nat) by omega)]
  rfl
def place16 (p : Nat → Int) (j : Nat) : Int := p j % 16 - 1
def placedC (p : Nat → Int) (i : Nat) (j : Nat) : Int := if j < i then place16 p j else p j
theorem arrI_same {n : Nat} {p q : Nat → Int} (h : ∀ i, i < n → p i = q i) : arrI n p = arrI n q := by
  apply Array.ext_getElem?
  intro j
  by_cases h64 : j < n
  · rw [arrI_get _ h64, arrI_get _ h64, h j h64]
  · rw [Array.getElem?_eq_none (by rw [arrI_size]; omega), Array.getElem?_eq_none (by rw [arrI_size]; omega)]
theorem placedC_step (p : Nat → Int) (i : Nat) : arrI 4 (fun j => if j = i then p i % 16 - 1 else placedC p i j) = arrI 4 (placedC p (i + 1)) := by
  refine arrI_same fun j _ => ?_
  by_cases h : j = i
  · subst h; simp [placedC, place16]
  · have : j < i + 1 ↔ j < i := by omega
    simp [placedC, h, this]
theorem arrI_lits4 (p : Nat → Int) : arrI 4 p = #[.int .i64 (p 0), .int .i64 (p 1), .int .i64 (p 2), .int .i64 (p 3)] := by
  unfold arrI; rfl
set_option maxRecDepth 100000 in
set_option maxHeartbeats 8000000 in
theorem clips_calls (w : World) (va : Value) (na : List Int) (ha : NumsAt w va na) (vb : Value) (nb : List Int) (hb : NumsAt w vb nb) (vc : Value) (nc : List Int) (hc : NumsAt w vc nc) (pa : Nat → Int) : Calls Try.prog 11 #[va, vb, vc, .agg (arrI 4 pa)] w fun e w' => e = .returned (.bool true) ∧ Below w.heap.size w w' := by
  have hL := Holds.start w
  obtain ⟨a, cap, rfl, _⟩ := ha.parts
  obtain ⟨a', cap', rfl, _⟩ := hb.parts
  obtain ⟨a'', cap'', rfl, _⟩ := hc.parts
  have HMa := Lib.hid (fun w' hb => made_calls w' _ na (SliceAt.below ha hb) true)
  have HMb := Lib.hid (fun w' hb' => made_calls w' _ nb (SliceAt.below hb hb') true)
  have HMc := Lib.hid (fun w' hb => made_calls w' _ nc (SliceAt.below hc hb) true)
  have HRa := Lib.hid (made_may na true)
  have HRb := Lib.hid (made_may nb true)
  have HRc := Lib.hid (made_may nc true)
  clear ha hb hc
  generalize madeS na true = Sa at *
  generalize madeS nb true = Sb at *
  generalize madeS nc true = Sc at *
  generalize hq1 : (fun j : Nat => rowP (edgesS Sa) 0 (16 * (j : Int) + 8)) = p1
  generalize hq2 : (fun j : Nat => rowP (edgesS Sb) 1 (16 * (j : Int) + 8)) = p2
  generalize hq3 : (fun j : Nat => rowP (edgesS Sc) 0 (16 * (j : Int) + 8)) = p3
  have HS1 := Lib.hid (fun w v hv => r14_scan w v Sa hv HRa.out 0 (.inl rfl))
  have HS2 := Lib.hid (fun w v hv => r14_scan w v Sb hv HRb.out 1 (.inr rfl))
  have HS3 := Lib.hid (fun w v hv => r14_scan w v Sc hv HRc.out 0 (.inl rfl))
  rw [hq1] at HS1
  rw [hq2] at HS2
  rw [hq3] at HS3
  clear hq1 hq2 hq3 HRa HRb HRc
  have n1 : True := trivial; have n2 : True := trivial; have n3 : True := trivial; have n4 : True := trivial; have n5 : True := trivial; have n6 : True := trivial; have n7 : True := trivial; have n8 : True := trivial; have n9 : True := trivial; have n10 : True := trivial; have n11 : True := trivial; have n12 : True := trivial; have m1 : True := trivial; have m2 : True := trivial; have m3 : True := trivial; have m4 : True := trivial; have m5 : True := trivial; have m6 : True := trivial; have m7 : True := trivial; have m8 : True := trivial; have m9 : True := trivial; have m10 : True := trivial
  go_enter Try.func11, Try.ntmps11
  go_wp2_with (first | (go_at_call 13; (with_reducible refine (known_calls _).mono ?_); rintro e _ ⟨rfl, hb⟩; replace hL := hL.call hb; clear hb) | (go_at_call 58; (with_reducible first | refine (HMa.out _ hL.below).mono ?_ | refine (HMb.out _ hL.below).mono ?_ | refine (HMc.out _ hL.below).mono ?_); rintro e _ ⟨vs, rfl, hb, hf⟩; replace hL := hL.callF hb hf; clear hb hf) | (go_at_call 57; (with_reducible first | refine (HS1.out _ _ hL.fact0).mono ?_ | refine (HS2.out _ _ hL.fact0).mono ?_ | refine (HS3.out _ _ hL.fact0).mono ?_); (first | (clear m1; rintro e _ ⟨sa1, sn1, sc1, rfl, hb, hf⟩) | (clear m2; rintro e _ ⟨sa2, sn2, sc2, rfl, hb, hf⟩) | (clear m3; rintro e _ ⟨sa3, sn3, sc3, rfl, hb, hf⟩) | (clear m4; rintro e _ ⟨sa4, sn4, sc4, rfl, hb, hf⟩) | (clear m5; rintro e _ ⟨sa5, sn5, sc5, rfl, hb, hf⟩) | (clear m6; rintro e _ ⟨sa6, sn6, sc6, rfl, hb, hf⟩) | (clear m7; rintro e _ ⟨sa7, sn7, sc7, rfl, hb, hf⟩) | (clear m8; rintro e _ ⟨sa8, sn8, sc8, rfl, hb, hf⟩) | (clear m9; rintro e _ ⟨sa9, sn9, sc9, rfl, hb, hf⟩) | (clear m10; rintro e _ ⟨sa10, sn10, sc10, rfl, hb, hf⟩)); replace hL := hL.callF hb hf; clear hb hf) | (go_at_call 17; (with_reducible refine (r14_meet _ (hL.fact (by repeat (first | with_reducible exact List.mem_cons_self | with_reducible apply List.mem_cons_of_mem))) (hL.fact (by repeat (first | with_reducible exact List.mem_cons_self | with_reducible apply List.mem_cons_of_mem)))).mono ?_); (first | (clear m1; rintro e _ ⟨sa1, sn1, sc1, rfl, hb, hf⟩) | (clear m2; rintro e _ ⟨sa2, sn2, sc2, rfl, hb, hf⟩) | (clear m3; rintro e _ ⟨sa3, sn3, sc3, rfl, hb, hf⟩) | (clear m4; rintro e _ ⟨sa4, sn4, sc4, rfl, hb, hf⟩) | (clear m5; rintro e _ ⟨sa5, sn5, sc5, rfl, hb, hf⟩) | (clear m6; rintro e _ ⟨sa6, sn6, sc6, rfl, hb, hf⟩) | (clear m7; rintro e _ ⟨sa7, sn7, sc7, rfl, hb, hf⟩) | (clear m8; rintro e _ ⟨sa8, sn8, sc8, rfl, hb, hf⟩) | (clear m9; rintro e _ ⟨sa9, sn9, sc9, rfl, hb, hf⟩) | (clear m10; rintro e _ ⟨sa10, sn10, sc10, rfl, hb, hf⟩)); replace hL := hL.callF hb hf; clear hb hf) | (first | (clear hL n1; with_reducible intro b1 w1 hL) | (clear hL n2; with_reducible intro b2 w2 hL) | (clear hL n3; with_reducible intro b3 w3 hL) | (clear hL n4; with_reducible intro b4 w4 hL) | (clear hL n5; with_reducible intro b5 w5 hL) | (clear hL n6; with_reducible intro b6 w6 hL) | (clear hL n7; with_reducible intro b7 w7 hL) | (clear hL n8; with_reducible intro b8 w8 hL) | (clear hL n9; with_reducible intro b9 w9 hL) | (clear hL n10; with_reducible intro b10 w10 hL) | (clear hL n11; with_reducible intro b11 w11 hL) | (clear hL n12; with_reducible intro b12 w12 hL) | (clear hL; with_reducible intro _ _ hL)) | (with_reducible refine wpC_alloc rfl _ rfl _ _ inferInstance hL ?_) | (with_reducible first | refine wpB_agg rfl _ _ _ rfl rfl hL ?_ | refine wpB_one rfl _ _ (.int _ _) rfl rfl rfl hL ?_ | refine wpB_one rfl _ _ (.slice _ _ _) rfl rfl rfl hL ?_ | refine wpB_one rfl _ _ (.bool _) rfl rfl rfl hL ?_ | refine wpB_one rfl _ _ (.pointer _) rfl rfl rfl hL ?_ | refine wpB_one rfl _ _ (.func _ _ _) rfl rfl rfl hL ?_) | (with_reducible first | refine wpH_max rfl _ _ _ _ rfl _ _ rfl rfl ?_ | refine wpH_min rfl _ _ _ _ rfl _ _ rfl rfl ?_) | ((with_reducible refine wpA_load rfl _ _ rfl _ rfl ?_); first | refine loadA hL ?_ | refine loadR hL ?_ | refine loadC hL ?_ | refine loadD ?_ | refine loadE hL ?_ | refine loadF ?_) | ((with_reducible refine wpA_index rfl _ _ _ rfl _ rfl _ rfl ?_); first | (refine indexA ?_; try rw [Int.toNat_natCast]) | refine indexC ?_) | ((with_reducible refine wpA_store rfl _ _ _ rfl _ rfl (.agg _) rfl ?_); refine storeR hL ?_; clear hL; intro _ hL) | ((with_reducible first | refine wpA_store rfl _ _ _ rfl _ rfl (.int _ _) rfl ?_ | refine wpA_store rfl _ _ _ rfl _ rfl (.slice _ _ _) rfl ?_ | refine wpA_store rfl _ _ _ rfl _ rfl (.bool _) rfl ?_ | refine wpA_store rfl _ _ _ rfl _ rfl (.pointer _) rfl ?_ | refine wpA_store rfl _ _ _ rfl _ rfl (.func _ _ _) rfl ?_); (first | refine storeA hL ?_ | refine storeO hL ?_); (clear hL; intro _ hL)) | ((with_reducible refine wpA_lit rfl _ _ _ rfl ?_); first | refine litA1 hL ?_ | refine litA2 hL ?_ | refine litA3 hL ?_ | refine litA4 hL ?_ | refine litA6 hL ?_) | ((with_reducible refine wpA_append rfl _ _ _ rfl (.slice _ _ _) rfl ?_); intro vq hvq; simp [go_sem] at hvq; subst hvq; refine appendA hL ?_; clear hL; intro _ _ _ hL; try dsimp only at hL) | ((with_reducible refine wpA_make rfl _ _ _ rfl _ rfl rfl ?_); refine makeA hL ?_))
  replace hL := hL.facts (Ψ := [R14 sa8 sn8 sc8 (fun j i => ((p1 j i && p2 j i) && p3 j i) && p2 j i), R14 sa7 sn7 sc7 (fun j i => (p1 j i && p3 j i) && p2 j i), R14 sa6 sn6 sc6 (fun j i => p1 j i && p3 j i), R14 sa5 sn5 sc5 (fun j i => (p1 j i && p2 j i) && p3 j i), R14 sa4 sn4 sc4 (fun j i => p1 j i && p2 j i), R14 sa3 sn3 sc3 p3, R14 sa2 sn2 sc2 p2, R14 sa1 sn1 sc1 p1]) fun ψ hψ => hL.firm ψ (by simp only [List.mem_cons, List.not_mem_nil, or_false] at hψ; rcases hψ with rfl | rfl | rfl | rfl | rfl | rfl | rfl | rfl <;> (repeat (first | exact List.mem_cons_self | apply List.mem_cons_of_mem)))
  go_loopw [25] (fun s25 wr => ∃ k : Nat, k ≤ 4 ∧ s25 = .int .i64 k ∧ Holds w wr [blk b9 #[.int .i64 14, .int .i64 14, .slice sa8 sn8 sc8] 26, blk b8 #[.int .i64 14, .int .i64 14, .slice sa7 sn7 sc7] 26, blk b7 #[.int .i64 14, .int .i64 14, .slice sa6 sn6 sc6] 26, blk b6 #[.int .i64 14, .int .i64 14, .slice sa5 sn5 sc5] 26, blk b5 #[.int .i64 14, .int .i64 14, .slice sa4 sn4 sc4] 26, blk b4 #[.int .i64 14, .int .i64 14, .slice sa3 sn3 sc3] 26, blk b3 #[.int .i64 14, .int .i64 14, .slice sa2 sn2 sc2] 26, blk b2 #[.int .i64 14, .int .i64 14, .slice sa1 sn1 sc1] 26, blk b1 (arrI 4 (placedC pa k)) 40] [R14 sa8 sn8 sc8 (fun j i => ((p1 j i && p2 j i) && p3 j i) && p2 j i), R14 sa7 sn7 sc7 (fun j i => (p1 j i && p3 j i) && p2 j i), R14 sa6 sn6 sc6 (fun j i => p1 j i && p3 j i), R14 sa5 sn5 sc5 (fun j i => (p1 j i && p2 j i) && p3 j i), R14 sa4 sn4 sc4 (fun j i => p1 j i && p2 j i), R14 sa3 sn3 sc3 p3, R14 sa2 sn2 sc2 p2, R14 sa1 sn1 sc1 p1])
    (fun s25 wr => (4 - intOf s25).toNat)
  case atStart => exact ⟨0, by omega, rfl, (by rw [show arrI 4 (placedC pa 0) = arrI 4 pa from arrI_same fun i _ => by simp [placedC]]; exact hL)⟩
  case round =>
    clear hL
    obtain ⟨k, hk, rfl, hL⟩ := hrel
    by_cases hkt : k < 4
    · have hkb : (k : Int) < 4 := by omega
      have HP := Lib.hid (fun w => place_calls (pa k) 16 (by omega) (by omega) w)
      have q1 := Int.emod_nonneg (pa k) (show (16 : Int) ≠ 0 by omega)
      have q2 := Int.emod_lt_of_pos (pa k) (show (0 : Int) < 16 by omega)
      have HST := Lib.hid (placedC_step pa k)
      have HG := Lib.hid ((arrI_get (n := 4) (placedC pa k) hkt).trans (show some (Value.int .i64 (placedC pa k k)) = some (.int .i64 (pa k)) by simp [placedC]))
      generalize hz : pa k = z at *
      generalize z % 16 = y at *
      clear hz
      go_wp2_with (first | (refine wpA_load rfl _ _ rfl _ rfl ?_; refine loadA hL ?_ (.there (.there (.there (.there (.there (.there (.there (.there .here)))))))) HG.out) | (go_at_call 34; (with_reducible refine (HP.out _).mono ?_); rintro e _ ⟨rfl, rfl⟩) | (first | (clear hL n1; with_reducible intro b1 w1 hL) | (clear hL n2; with_reducible intro b2 w2 hL) | (clear hL n3; with_reducible intro b3 w3 hL) | (clear hL n4; with_reducible intro b4 w4 hL) | (clear hL n5; with_reducible intro b5 w5 hL) | (clear hL n6; with_reducible intro b6 w6 hL) | (clear hL n7; with_reducible intro b7 w7 hL) | (clear hL n8; with_reducible intro b8 w8 hL) | (clear hL n9; with_reducible intro b9 w9 hL) | (clear hL n10; with_reducible intro b10 w10 hL) | (clear hL n11; with_reducible intro b11 w11 hL) | (clear hL n12; with_reducible intro b12 w12 hL) | (clear hL; with_reducible intro _ _ hL)) | (with_reducible refine wpC_alloc rfl _ rfl _ _ inferInstance hL ?_) | (with_reducible first | refine wpB_agg rfl _ _ _ rfl rfl hL ?_ | refine wpB_one rfl _ _ (.int _ _) rfl rfl rfl hL ?_ | refine wpB_one rfl _ _ (.slice _ _ _) rfl rfl rfl hL ?_ | refine wpB_one rfl _ _ (.bool _) rfl rfl rfl hL ?_ | refine wpB_one rfl _ _ (.pointer _) rfl rfl rfl hL ?_ | refine wpB_one rfl _ _ (.func _ _ _) rfl rfl rfl hL ?_) | (with_reducible first | refine wpH_max rfl _ _ _ _ rfl _ _ rfl rfl ?_ | refine wpH_min rfl _ _ _ _ rfl _ _ rfl rfl ?_) | ((with_reducible refine wpA_load rfl _ _ rfl _ rfl ?_); first | refine loadA hL ?_ | refine loadR hL ?_ | refine loadC hL ?_ | refine loadD ?_ | refine loadE hL ?_ | refine loadF ?_) | ((with_reducible refine wpA_index rfl _ _ _ rfl _ rfl _ rfl ?_); first | (refine indexA ?_; try rw [Int.toNat_natCast]) | refine indexC ?_) | ((with_reducible refine wpA_store rfl _ _ _ rfl _ rfl (.agg _) rfl ?_); refine storeR hL ?_; clear hL; intro _ hL) | ((with_reducible first | refine wpA_store rfl _ _ _ rfl _ rfl (.int _ _) rfl ?_ | refine wpA_store rfl _ _ _ rfl _ rfl (.slice _ _ _) rfl ?_ | refine wpA_store rfl _ _ _ rfl _ rfl (.bool _) rfl ?_ | refine wpA_store rfl _ _ _ rfl _ rfl (.pointer _) rfl ?_ | refine wpA_store rfl _ _ _ rfl _ rfl (.func _ _ _) rfl ?_); (first | refine storeA hL ?_ | refine storeO hL ?_); (clear hL; intro _ hL)) | ((with_reducible refine wpA_lit rfl _ _ _ rfl ?_); first | refine litA1 hL ?_ | refine litA2 hL ?_ | refine litA3 hL ?_ | refine litA4 hL ?_ | refine litA6 hL ?_) | ((with_reducible refine wpA_append rfl _ _ _ rfl (.slice _ _ _) rfl ?_); intro vq hvq; simp [go_sem] at hvq; subst hvq; refine appendA hL ?_; clear hL; intro _ _ _ hL; try dsimp only at hL) | ((with_reducible refine wpA_make rfl _ _ _ rfl _ rfl rfl ?_); refine makeA hL ?_))
      go_roundw
      case rel => exact ⟨k + 1, by omega, by go_num, by rw [← HST.out]; exact hL⟩
      case measure => simp [intOf]; omega
    · have e : k = 4 := by omega
      subst e
      rw [arrI_lits4] at hL
      have q : ∀ k : Nat, k < 4 → -1 ≤ placedC pa 4 k ∧ placedC pa 4 k ≤ 14 := by
        intro k hk
        have p1 := Int.emod_nonneg (pa k) (show (16 : Int) ≠ 0 by omega)
        have p2 := Int.emod_lt_of_pos (pa k) (show (0 : Int) < 16 by omega)
        simp only [placedC, hk, if_true, place16]
        omega
      obtain ⟨qa0, ra0⟩ := q 0 (by omega)
      obtain ⟨qa1, ra1⟩ := q 1 (by omega)
      obtain ⟨qa2, ra2⟩ := q 2 (by omega)
      obtain ⟨qa3, ra3⟩ := q 3 (by omega)
      clear q
      generalize placedC pa 4 0 = a0 at *
      generalize placedC pa 4 1 = a1 at *
      generalize placedC pa 4 2 = a2 at *
      generalize placedC pa 4 3 = a3 at *
      go_wp2_with (first | (go_at_call 27; (with_reducible refine (r14_rect _ _ _ _ _).mono ?_); (first | (clear m1; rintro e _ ⟨sa1, sn1, sc1, rfl, hb, hf⟩) | (clear m2; rintro e _ ⟨sa2, sn2, sc2, rfl, hb, hf⟩) | (clear m3; rintro e _ ⟨sa3, sn3, sc3, rfl, hb, hf⟩) | (clear m4; rintro e _ ⟨sa4, sn4, sc4, rfl, hb, hf⟩) | (clear m5; rintro e _ ⟨sa5, sn5, sc5, rfl, hb, hf⟩) | (clear m6; rintro e _ ⟨sa6, sn6, sc6, rfl, hb, hf⟩) | (clear m7; rintro e _ ⟨sa7, sn7, sc7, rfl, hb, hf⟩) | (clear m8; rintro e _ ⟨sa8, sn8, sc8, rfl, hb, hf⟩) | (clear m9; rintro e _ ⟨sa9, sn9, sc9, rfl, hb, hf⟩) | (clear m10; rintro e _ ⟨sa10, sn10, sc10, rfl, hb, hf⟩)); replace hL := hL.callF hb hf; clear hb hf) | (go_at_call 17; (with_reducible refine (r14_meet _ (hL.fact (by repeat (first | with_reducible exact List.mem_cons_self | with_reducible apply List.mem_cons_of_mem))) (hL.fact (by repeat (first | with_reducible exact List.mem_cons_self | with_reducible apply List.mem_cons_of_mem)))).mono ?_); (first | (clear m1; rintro e _ ⟨sa1, sn1, sc1, rfl, hb, hf⟩) | (clear m2; rintro e _ ⟨sa2, sn2, sc2, rfl, hb, hf⟩) | (clear m3; rintro e _ ⟨sa3, sn3, sc3, rfl, hb, hf⟩) | (clear m4; rintro e _ ⟨sa4, sn4, sc4, rfl, hb, hf⟩) | (clear m5; rintro e _ ⟨sa5, sn5, sc5, rfl, hb, hf⟩) | (clear m6; rintro e _ ⟨sa6, sn6, sc6, rfl, hb, hf⟩) | (clear m7; rintro e _ ⟨sa7, sn7, sc7, rfl, hb, hf⟩) | (clear m8; rintro e _ ⟨sa8, sn8, sc8, rfl, hb, hf⟩) | (clear m9; rintro e _ ⟨sa9, sn9, sc9, rfl, hb, hf⟩) | (clear m10; rintro e _ ⟨sa10, sn10, sc10, rfl, hb, hf⟩)); replace hL := hL.callF hb hf; clear hb hf) | (go_at_call 35; (with_reducible refine (r14_same _ (hL.fact (by repeat (first | with_reducible exact List.mem_cons_self | with_reducible apply List.mem_cons_of_mem))) (hL.fact (by repeat (first | with_reducible exact List.mem_cons_self | with_reducible apply List.mem_cons_of_mem))) ?_).mono ?_); (· intro j i; generalize p1 j i = x1; generalize p2 j i = x2; generalize p3 j i = x3; cases x1 <;> cases x2 <;> cases x3 <;> rfl); rintro e _ ⟨rfl, hb⟩; replace hL := hL.call hb; clear hb) | (first | (clear hL n1; with_reducible intro b1 w1 hL) | (clear hL n2; with_reducible intro b2 w2 hL) | (clear hL n3; with_reducible intro b3 w3 hL) | (clear hL n4; with_reducible intro b4 w4 hL) | (clear hL n5; with_reducible intro b5 w5 hL) | (clear hL n6; with_reducible intro b6 w6 hL) | (clear hL n7; with_reducible intro b7 w7 hL) | (clear hL n8; with_reducible intro b8 w8 hL) | (clear hL n9; with_reducible intro b9 w9 hL) | (clear hL n10; with_reducible intro b10 w10 hL) | (clear hL n11; with_reducible intro b11 w11 hL) | (clear hL n12; with_reducible intro b12 w12 hL) | (clear hL; with_reducible intro _ _ hL)) | (with_reducible refine wpC_alloc rfl _ rfl _ _ inferInstance hL ?_) | (with_reducible first | refine wpB_agg rfl _ _ _ rfl rfl hL ?_ | refine wpB_one rfl _ _ (.int _ _) rfl rfl rfl hL ?_ | refine wpB_one rfl _ _ (.slice _ _ _) rfl rfl rfl hL ?_ | refine wpB_one rfl _ _ (.bool _) rfl rfl rfl hL ?_ | refine wpB_one rfl _ _ (.pointer _) rfl rfl rfl hL ?_ | refine wpB_one rfl _ _ (.func _ _ _) rfl rfl rfl hL ?_) | (with_reducible first | refine wpH_max rfl _ _ _ _ rfl _ _ rfl rfl ?_ | refine wpH_min rfl _ _ _ _ rfl _ _ rfl rfl ?_) | ((with_reducible refine wpA_load rfl _ _ rfl _ rfl ?_); first | refine loadA hL ?_ | refine loadR hL ?_ | refine loadC hL ?_ | refine loadD ?_ | refine loadE hL ?_ | refine loadF ?_) | ((with_reducible refine wpA_index rfl _ _ _ rfl _ rfl _ rfl ?_); first | (refine indexA ?_; try rw [Int.toNat_natCast]) | refine indexC ?_) | ((with_reducible refine wpA_store rfl _ _ _ rfl _ rfl (.agg _) rfl ?_); refine storeR hL ?_; clear hL; intro _ hL) | ((with_reducible first | refine wpA_store rfl _ _ _ rfl _ rfl (.int _ _) rfl ?_ | refine wpA_store rfl _ _ _ rfl _ rfl (.slice _ _ _) rfl ?_ | refine wpA_store rfl _ _ _ rfl _ rfl (.bool _) rfl ?_ | refine wpA_store rfl _ _ _ rfl _ rfl (.pointer _) rfl ?_ | refine wpA_store rfl _ _ _ rfl _ rfl (.func _ _ _) rfl ?_); (first | refine storeA hL ?_ | refine storeO hL ?_); (clear hL; intro _ hL)) | ((with_reducible refine wpA_lit rfl _ _ _ rfl ?_); first | refine litA1 hL ?_ | refine litA2 hL ?_ | refine litA3 hL ?_ | refine litA4 hL ?_ | refine litA6 hL ?_) | ((with_reducible refine wpA_append rfl _ _ _ rfl (.slice _ _ _) rfl ?_); intro vq hvq; simp [go_sem] at hvq; subst hvq; refine appendA hL ?_; clear hL; intro _ _ _ hL; try dsimp only at hL) | ((with_reducible refine wpA_make rfl _ _ _ rfl _ rfl rfl ?_); refine makeA hL ?_))
      go_loopw [30] (fun s30 wr => ∃ j : Nat, j ≤ 14 ∧ s30 = .int .i64 j ∧ Holds w wr [blk b11 #[.int .i64 14, .int .i64 14, .slice sa10 sn10 sc10] 26, blk b10 #[.int .i64 14, .int .i64 14, .slice sa9 sn9 sc9] 26, blk b9 #[.int .i64 14, .int .i64 14, .slice sa8 sn8 sc8] 26, blk b8 #[.int .i64 14, .int .i64 14, .slice sa7 sn7 sc7] 26, blk b7 #[.int .i64 14, .int .i64 14, .slice sa6 sn6 sc6] 26, blk b6 #[.int .i64 14, .int .i64 14, .slice sa5 sn5 sc5] 26, blk b5 #[.int .i64 14, .int .i64 14, .slice sa4 sn4 sc4] 26, blk b4 #[.int .i64 14, .int .i64 14, .slice sa3 sn3 sc3] 26, blk b3 #[.int .i64 14, .int .i64 14, .slice sa2 sn2 sc2] 26, blk b2 #[.int .i64 14, .int .i64 14, .slice sa1 sn1 sc1] 26, blk b1 #[.int .i64 a0, .int .i64 a1, .int .i64 a2, .int .i64 a3] 40] [R14 sa10 sn10 sc10 (fun j i => p1 j i && rectQ a0 a1 a2 a3 j i), R14 sa9 sn9 sc9 (rectQ a0 a1 a2 a3), R14 sa8 sn8 sc8 (fun j i => ((p1 j i && p2 j i) && p3 j i) && p2 j i), R14 sa7 sn7 sc7 (fun j i => (p1 j i && p3 j i) && p2 j i), R14 sa6 sn6 sc6 (fun j i => p1 j i && p3 j i), R14 sa5 sn5 sc5 (fun j i => (p1 j i && p2 j i) && p3 j i), R14 sa4 sn4 sc4 (fun j i => p1 j i && p2 j i), R14 sa3 sn3 sc3 p3, R14 sa2 sn2 sc2 p2, R14 sa1 sn1 sc1 p1])
        (fun s30 wr => (14 - intOf s30).toNat)
      case atStart => exact ⟨0, by omega, rfl, hL⟩
      case round =>
        clear hL
        obtain ⟨j, hj, rfl, hL⟩ := hrel
        by_cases hjt : j < 14
        · have hjb : (j : Int) < 14 := by omega
          go_wp2_with (first | (first | (clear hL n1; with_reducible intro b1 w1 hL) | (clear hL n2; with_reducible intro b2 w2 hL) | (clear hL n3; with_reducible intro b3 w3 hL) | (clear hL n4; with_reducible intro b4 w4 hL) | (clear hL n5; with_reducible intro b5 w5 hL) | (clear hL n6; with_reducible intro b6 w6 hL) | (clear hL n7; with_reducible intro b7 w7 hL) | (clear hL n8; with_reducible intro b8 w8 hL) | (clear hL n9; with_reducible intro b9 w9 hL) | (clear hL n10; with_reducible intro b10 w10 hL) | (clear hL n11; with_reducible intro b11 w11 hL) | (clear hL n12; with_reducible intro b12 w12 hL) | (clear hL; with_reducible intro _ _ hL)) | (with_reducible refine wpC_alloc rfl _ rfl _ _ inferInstance hL ?_) | (with_reducible first | refine wpB_agg rfl _ _ _ rfl rfl hL ?_ | refine wpB_one rfl _ _ (.int _ _) rfl rfl rfl hL ?_ | refine wpB_one rfl _ _ (.slice _ _ _) rfl rfl rfl hL ?_ | refine wpB_one rfl _ _ (.bool _) rfl rfl rfl hL ?_ | refine wpB_one rfl _ _ (.pointer _) rfl rfl rfl hL ?_ | refine wpB_one rfl _ _ (.func _ _ _) rfl rfl rfl hL ?_) | (with_reducible first | refine wpH_max rfl _ _ _ _ rfl _ _ rfl rfl ?_ | refine wpH_min rfl _ _ _ _ rfl _ _ rfl rfl ?_) | ((with_reducible refine wpA_load rfl _ _ rfl _ rfl ?_); first | refine loadA hL ?_ | refine loadR hL ?_ | refine loadC hL ?_ | refine loadD ?_ | refine loadE hL ?_ | refine loadF ?_) | ((with_reducible refine wpA_index rfl _ _ _ rfl _ rfl _ rfl ?_); first | (refine indexA ?_; try rw [Int.toNat_natCast]) | refine indexC ?_) | ((with_reducible refine wpA_store rfl _ _ _ rfl _ rfl (.agg _) rfl ?_); refine storeR hL ?_; clear hL; intro _ hL) | ((with_reducible first | refine wpA_store rfl _ _ _ rfl _ rfl (.int _ _) rfl ?_ | refine wpA_store rfl _ _ _ rfl _ rfl (.slice _ _ _) rfl ?_ | refine wpA_store rfl _ _ _ rfl _ rfl (.bool _) rfl ?_ | refine wpA_store rfl _ _ _ rfl _ rfl (.pointer _) rfl ?_ | refine wpA_store rfl _ _ _ rfl _ rfl (.func _ _ _) rfl ?_); (first | refine storeA hL ?_ | refine storeO hL ?_); (clear hL; intro _ hL)) | ((with_reducible refine wpA_lit rfl _ _ _ rfl ?_); first | refine litA1 hL ?_ | refine litA2 hL ?_ | refine litA3 hL ?_ | refine litA4 hL ?_ | refine litA6 hL ?_) | ((with_reducible refine wpA_append rfl _ _ _ rfl (.slice _ _ _) rfl ?_); intro vq hvq; simp [go_sem] at hvq; subst hvq; refine appendA hL ?_; clear hL; intro _ _ _ hL; try dsimp only at hL) | ((with_reducible refine wpA_make rfl _ _ _ rfl _ rfl rfl ?_); refine makeA hL ?_))
          go_loopw [31] (fun s31 wr => ∃ i : Nat, i ≤ 14 ∧ s31 = .int .i64 i ∧ Holds w wr [blk b11 #[.int .i64 14, .int .i64 14, .slice sa10 sn10 sc10] 26, blk b10 #[.int .i64 14, .int .i64 14, .slice sa9 sn9 sc9] 26, blk b9 #[.int .i64 14, .int .i64 14, .slice sa8 sn8 sc8] 26, blk b8 #[.int .i64 14, .int .i64 14, .slice sa7 sn7 sc7] 26, blk b7 #[.int .i64 14, .int .i64 14, .slice sa6 sn6 sc6] 26, blk b6 #[.int .i64 14, .int .i64 14, .slice sa5 sn5 sc5] 26, blk b5 #[.int .i64 14, .int .i64 14, .slice sa4 sn4 sc4] 26, blk b4 #[.int .i64 14, .int .i64 14, .slice sa3 sn3 sc3] 26, blk b3 #[.int .i64 14, .int .i64 14, .slice sa2 sn2 sc2] 26, blk b2 #[.int .i64 14, .int .i64 14, .slice sa1 sn1 sc1] 26, blk b1 #[.int .i64 a0, .int .i64 a1, .int .i64 a2, .int .i64 a3] 40] [R14 sa10 sn10 sc10 (fun j i => p1 j i && rectQ a0 a1 a2 a3 j i), R14 sa9 sn9 sc9 (rectQ a0 a1 a2 a3), R14 sa8 sn8 sc8 (fun j i => ((p1 j i && p2 j i) && p3 j i) && p2 j i), R14 sa7 sn7 sc7 (fun j i => (p1 j i && p3 j i) && p2 j i), R14 sa6 sn6 sc6 (fun j i => p1 j i && p3 j i), R14 sa5 sn5 sc5 (fun j i => (p1 j i && p2 j i) && p3 j i), R14 sa4 sn4 sc4 (fun j i => p1 j i && p2 j i), R14 sa3 sn3 sc3 p3, R14 sa2 sn2 sc2 p2, R14 sa1 sn1 sc1 p1])
            (fun s31 wr => (14 - intOf s31).toNat)
          case atStart => exact ⟨0, by omega, rfl, hL⟩
          case round =>
            clear hL
            obtain ⟨i, hi, rfl, hL⟩ := hrel
            by_cases hit : i < 14
            · have hib : (i : Int) < 14 := by omega
              cases hp : p1 j i with
              | false =>
                have H1 := Lib.hid (show atPix 14 14 p1 (i : Int) (j : Int) = false by rw [atPix14 hit hjt, hp])
                have H10 := Lib.hid (show atPix 14 14 (fun j i => p1 j i && rectQ a0 a1 a2 a3 j i) (i : Int) (j : Int) = false by rw [atPix14 hit hjt]; unfold rectQ; simp only [hp]; simp)
                go_wp2_with (first | (first | (clear hL n1; with_reducible intro b1 w1 hL) | (clear hL n2; with_reducible intro b2 w2 hL) | (clear hL n3; with_reducible intro b3 w3 hL) | (clear hL n4; with_reducible intro b4 w4 hL) | (clear hL n5; with_reducible intro b5 w5 hL) | (clear hL n6; with_reducible intro b6 w6 hL) | (clear hL n7; with_reducible intro b7 w7 hL) | (clear hL n8; with_reducible intro b8 w8 hL) | (clear hL n9; with_reducible intro b9 w9 hL) | (clear hL n10; with_reducible intro b10 w10 hL) | (clear hL n11; with_reducible intro b11 w11 hL) | (clear hL n12; with_reducible intro b12 w12 hL) | (clear hL; with_reducible intro _ _ hL)) | (with_reducible refine wpC_alloc rfl _ rfl _ _ inferInstance hL ?_) | (with_reducible first | refine wpB_agg rfl _ _ _ rfl rfl hL ?_ | refine wpB_one rfl _ _ (.int _ _) rfl rfl rfl hL ?_ | refine wpB_one rfl _ _ (.slice _ _ _) rfl rfl rfl hL ?_ | refine wpB_one rfl _ _ (.bool _) rfl rfl rfl hL ?_ | refine wpB_one rfl _ _ (.pointer _) rfl rfl rfl hL ?_ | refine wpB_one rfl _ _ (.func _ _ _) rfl rfl rfl hL ?_) | (with_reducible first | refine wpH_max rfl _ _ _ _ rfl _ _ rfl rfl ?_ | refine wpH_min rfl _ _ _ _ rfl _ _ rfl rfl ?_) | ((with_reducible refine wpA_load rfl _ _ rfl _ rfl ?_); first | refine loadA hL ?_ | refine loadR hL ?_ | refine loadC hL ?_ | refine loadD ?_ | refine loadE hL ?_ | refine loadF ?_) | ((with_reducible refine wpA_index rfl _ _ _ rfl _ rfl _ rfl ?_); first | (refine indexA ?_; try rw [Int.toNat_natCast]) | refine indexC ?_) | ((with_reducible refine wpA_store rfl _ _ _ rfl _ rfl (.agg _) rfl ?_); refine storeR hL ?_; clear hL; intro _ hL) | ((with_reducible first | refine wpA_store rfl _ _ _ rfl _ rfl (.int _ _) rfl ?_ | refine wpA_store rfl _ _ _ rfl _ rfl (.slice _ _ _) rfl ?_ | refine wpA_store rfl _ _ _ rfl _ rfl (.bool _) rfl ?_ | refine wpA_store rfl _ _ _ rfl _ rfl (.pointer _) rfl ?_ | refine wpA_store rfl _ _ _ rfl _ rfl (.func _ _ _) rfl ?_); (first | refine storeA hL ?_ | refine storeO hL ?_); (clear hL; intro _ hL)) | ((with_reducible refine wpA_lit rfl _ _ _ rfl ?_); first | refine litA1 hL ?_ | refine litA2 hL ?_ | refine litA3 hL ?_ | refine litA4 hL ?_ | refine litA6 hL ?_) | ((with_reducible refine wpA_append rfl _ _ _ rfl (.slice _ _ _) rfl ?_); intro vq hvq; simp [go_sem] at hvq; subst hvq; refine appendA hL ?_; clear hL; intro _ _ _ hL; try dsimp only at hL) | ((with_reducible refine wpA_make rfl _ _ _ rfl _ rfl rfl ?_); refine makeA hL ?_))
                replace hL := hL.drew
                have hS := (show (fun w' : World => w'.rangeAt b11 0 #[.int .i64 14, .int .i64 14, .slice sa10 sn10 sc10].toList ∧ w'.rangeAt b2 0 #[.int .i64 14, .int .i64 14, .slice sa1 sn1 sc1].toList ∧ w'.rangeAt b1 0 #[.int .i64 a0, .int .i64 a1, .int .i64 a2, .int .i64 a3].toList) _ from ⟨hL.range (by (repeat (first | with_reducible exact At.here | with_reducible apply At.there))), hL.range (by (repeat (first | with_reducible exact At.here | with_reducible apply At.there))), hL.range (by (repeat (first | with_reducible exact At.here | with_reducible apply At.there)))⟩)
                refine wpH_begin (by kernel_rfl) (fun w' : World => w'.rangeAt b11 0 #[.int .i64 14, .int .i64 14, .slice sa10 sn10 sc10].toList ∧ w'.rangeAt b2 0 #[.int .i64 14, .int .i64 14, .slice sa1 sn1 sc1].toList ∧ w'.rangeAt b1 0 #[.int .i64 a0, .int .i64 a1, .int .i64 a2, .int .i64 a3].toList) ?_
                refine stH (i := 0) (.agg #[.int .i64 14, .int .i64 14, .slice sa10 sn10 sc10]) hS ?_ ?_; (· exact fun w' hw => run_loadOp _ _ rfl _ rfl _ (load_range (cs := #[.int .i64 14, .int .i64 14, .slice sa10 sn10 sc10]) rfl hw.1)); simp only [Act.put, List.setIfInBounds_toArray, List.set_cons_zero, List.set_cons_succ]
                refine stH (i := 1) (.int .i64 i) hS ?_ ?_; (· exact fun w' _ => (by go_simp)); simp only [Act.put, List.setIfInBounds_toArray, List.set_cons_zero, List.set_cons_succ]
                refine stH (i := 2) (.int .i64 j) hS ?_ ?_; (· exact fun w' _ => (by go_simp)); simp only [Act.put, List.setIfInBounds_toArray, List.set_cons_zero, List.set_cons_succ]
                refine stH (i := 4) (.agg #[.int .i64 14, .int .i64 14, .slice sa1 sn1 sc1]) hS ?_ ?_; (· exact fun w' hw => run_loadOp _ _ rfl _ rfl _ (load_range (cs := #[.int .i64 14, .int .i64 14, .slice sa1 sn1 sc1]) rfl hw.2.1)); simp only [Act.put, List.setIfInBounds_toArray, List.set_cons_zero, List.set_cons_succ]
                refine stH (i := 5) (.int .i64 i) hS ?_ ?_; (· exact fun w' _ => (by go_simp)); simp only [Act.put, List.setIfInBounds_toArray, List.set_cons_zero, List.set_cons_succ]
                refine stH (i := 6) (.int .i64 j) hS ?_ ?_; (· exact fun w' _ => (by go_simp)); simp only [Act.put, List.setIfInBounds_toArray, List.set_cons_zero, List.set_cons_succ]
                refine wpH_one (i := 3) (by kernel_rfl) (wpOp_of (by simp only [List.getElem?_toArray, List.getElem?_cons_zero, List.getElem?_cons_succ]; rfl) ?_)
                refine st_call rfl 40 #[.agg #[.int .i64 14, .int .i64 14, .slice sa10 sn10 sc10], .int .i64 i, .int .i64 j] (by go_simp) ((r14_has _ (hL.fact (by repeat (first | with_reducible exact List.mem_cons_self | with_reducible apply List.mem_cons_of_mem))) _ _).mono fun _ _ h => h) ?_
                rintro e w' ⟨rfl, hb⟩
                rw [H10.out]
                replace hL := hL.call hb
                clear hb hS
                have hS := (show (fun w' : World => w'.rangeAt b11 0 #[.int .i64 14, .int .i64 14, .slice sa10 sn10 sc10].toList ∧ w'.rangeAt b2 0 #[.int .i64 14, .int .i64 14, .slice sa1 sn1 sc1].toList ∧ w'.rangeAt b1 0 #[.int .i64 a0, .int .i64 a1, .int .i64 a2, .int .i64 a3].toList) _ from ⟨hL.range (by (repeat (first | with_reducible exact At.here | with_reducible apply At.there))), hL.range (by (repeat (first | with_reducible exact At.here | with_reducible apply At.there))), hL.range (by (repeat (first | with_reducible exact At.here | with_reducible apply At.there)))⟩)
                refine ⟨_, rfl, hS, ?_⟩
                simp only [Act.put, List.setIfInBounds_toArray, List.set_cons_zero, List.set_cons_succ]
                refine wpH_one (i := 7) (by kernel_rfl) (wpOp_of (by simp only [List.getElem?_toArray, List.getElem?_cons_zero, List.getElem?_cons_succ]; rfl) ?_)
                refine st_call rfl 40 #[.agg #[.int .i64 14, .int .i64 14, .slice sa1 sn1 sc1], .int .i64 i, .int .i64 j] (by go_simp) ((r14_has _ (hL.fact (by repeat (first | with_reducible exact List.mem_cons_self | with_reducible apply List.mem_cons_of_mem))) _ _).mono fun _ _ h => h) ?_
                rintro e w' ⟨rfl, hb⟩
                rw [H1.out]
                replace hL := hL.call hb
                clear hb hS
                have hS := (show (fun w' : World => w'.rangeAt b11 0 #[.int .i64 14, .int .i64 14, .slice sa10 sn10 sc10].toList ∧ w'.rangeAt b2 0 #[.int .i64 14, .int .i64 14, .slice sa1 sn1 sc1].toList ∧ w'.rangeAt b1 0 #[.int .i64 a0, .int .i64 a1, .int .i64 a2, .int .i64 a3].toList) _ from ⟨hL.range (by (repeat (first | with_reducible exact At.here | with_reducible apply At.there))), hL.range (by (repeat (first | with_reducible exact At.here | with_reducible apply At.there))), hL.range (by (repeat (first | with_reducible exact At.here | with_reducible apply At.there)))⟩)
                refine ⟨_, rfl, hS, ?_⟩
                simp only [Act.put, List.setIfInBounds_toArray, List.set_cons_zero, List.set_cons_succ]
                refine stH (i := 8) (.bool false) hS ?_ ?_; (· exact fun w' _ => (by go_simp)); simp only [Act.put, List.setIfInBounds_toArray, List.set_cons_zero, List.set_cons_succ]
                refine skH (i := 9) hS ?_
                simp only [Act.put, List.setIfInBounds_toArray, List.set_cons_zero, List.set_cons_succ]
                refine skH (i := 10) hS ?_
                simp only [Act.put, List.setIfInBounds_toArray, List.set_cons_zero, List.set_cons_succ]
                refine skH (i := 11) hS ?_
                simp only [Act.put, List.setIfInBounds_toArray, List.set_cons_zero, List.set_cons_succ]
                refine skH (i := 12) hS ?_
                simp only [Act.put, List.setIfInBounds_toArray, List.set_cons_zero, List.set_cons_succ]
                refine stH (i := 13) (.bool false) hS ?_ ?_; (· exact fun w' _ => (by go_simp)); simp only [Act.put, List.setIfInBounds_toArray, List.set_cons_zero, List.set_cons_succ]
                refine stH (i := 14) (.bool false) hS ?_ ?_; (· exact fun w' _ => (by go_simp)); simp only [Act.put, List.setIfInBounds_toArray, List.set_cons_zero, List.set_cons_succ]
                refine skH (i := 15) hS ?_
                simp only [Act.put, List.setIfInBounds_toArray, List.set_cons_zero, List.set_cons_succ]
                refine skH (i := 16) hS ?_
                simp only [Act.put, List.setIfInBounds_toArray, List.set_cons_zero, List.set_cons_succ]
                refine skH (i := 17) hS ?_
                simp only [Act.put, List.setIfInBounds_toArray, List.set_cons_zero, List.set_cons_succ]
                refine skH (i := 18) hS ?_
                simp only [Act.put, List.setIfInBounds_toArray, List.set_cons_zero, List.set_cons_succ]
                refine stH (i := 19) (.bool false) hS ?_ ?_; (· exact fun w' _ => (by go_simp)); simp only [Act.put, List.setIfInBounds_toArray, List.set_cons_zero, List.set_cons_succ]
                refine stH (i := 20) (.bool false) hS ?_ ?_; (· exact fun w' _ => (by go_simp)); simp only [Act.put, List.setIfInBounds_toArray, List.set_cons_zero, List.set_cons_succ]
                refine skH (i := 21) hS ?_
                simp only [Act.put, List.setIfInBounds_toArray, List.set_cons_zero, List.set_cons_succ]
                refine skH (i := 22) hS ?_
                simp only [Act.put, List.setIfInBounds_toArray, List.set_cons_zero, List.set_cons_succ]
                refine skH (i := 23) hS ?_
                simp only [Act.put, List.setIfInBounds_toArray, List.set_cons_zero, List.set_cons_succ]
                refine skH (i := 24) hS ?_
                simp only [Act.put, List.setIfInBounds_toArray, List.set_cons_zero, List.set_cons_succ]
                refine stH (i := 25) (.bool false) hS ?_ ?_; (· exact fun w' _ => (by go_simp)); simp only [Act.put, List.setIfInBounds_toArray, List.set_cons_zero, List.set_cons_succ]
                refine stH (i := 26) (.bool false) hS ?_ ?_; (· exact fun w' _ => (by go_simp)); simp only [Act.put, List.setIfInBounds_toArray, List.set_cons_zero, List.set_cons_succ]
                refine skH (i := 27) hS ?_
                simp only [Act.put, List.setIfInBounds_toArray, List.set_cons_zero, List.set_cons_succ]
                refine skH (i := 28) hS ?_
                simp only [Act.put, List.setIfInBounds_toArray, List.set_cons_zero, List.set_cons_succ]
                refine skH (i := 29) hS ?_
                simp only [Act.put, List.setIfInBounds_toArray, List.set_cons_zero, List.set_cons_succ]
                refine skH (i := 30) hS ?_
                simp only [Act.put, List.setIfInBounds_toArray, List.set_cons_zero, List.set_cons_succ]
                refine stH (i := 31) (.bool false) hS ?_ ?_; (· exact fun w' _ => (by go_simp)); simp only [Act.put, List.setIfInBounds_toArray, List.set_cons_zero, List.set_cons_succ]
                refine stH (i := 32) (.bool false) hS ?_ ?_; (· exact fun w' _ => (by go_simp)); simp only [Act.put, List.setIfInBounds_toArray, List.set_cons_zero, List.set_cons_succ]
                refine wpAnyH_done (by kernel_rfl) ?_ _
                clear hS
                go_wp2
                go_roundw
                case rel => exact ⟨i + 1, by omega, by go_num, hL⟩
                case measure => simp [intOf]; omega
              | true =>
                rcases (by omega : ¬ a0 ≤ (i : Int) ∨ (a0 ≤ (i : Int) ∧ ¬ (i : Int) < a2) ∨ (a0 ≤ (i : Int) ∧ (i : Int) < a2 ∧ ¬ a1 ≤ (j : Int)) ∨ (a0 ≤ (i : Int) ∧ (i : Int) < a2 ∧ a1 ≤ (j : Int) ∧ ¬ (j : Int) < a3) ∨ (a0 ≤ (i : Int) ∧ (i : Int) < a2 ∧ a1 ≤ (j : Int) ∧ (j : Int) < a3)) with g | ⟨g, g1⟩ | ⟨g, g1, g2⟩ | ⟨g, g1, g2, g3⟩ | ⟨g, g1, g2, g3⟩
                · skip
                  have d0 : decide (a0 ≤ (i : Int)) = false := by simp; omega
                  have H1 := Lib.hid (show atPix 14 14 p1 (i : Int) (j : Int) = true by rw [atPix14 hit hjt, hp])
                  have H10 := Lib.hid (show atPix 14 14 (fun j i => p1 j i && rectQ a0 a1 a2 a3 j i) (i : Int) (j : Int) = false by rw [atPix14 hit hjt]; unfold rectQ; simp only [hp, d0]; simp)
                  go_wp2_with (first | (first | (clear hL n1; with_reducible intro b1 w1 hL) | (clear hL n2; with_reducible intro b2 w2 hL) | (clear hL n3; with_reducible intro b3 w3 hL) | (clear hL n4; with_reducible intro b4 w4 hL) | (clear hL n5; with_reducible intro b5 w5 hL) | (clear hL n6; with_reducible intro b6 w6 hL) | (clear hL n7; with_reducible intro b7 w7 hL) | (clear hL n8; with_reducible intro b8 w8 hL) | (clear hL n9; with_reducible intro b9 w9 hL) | (clear hL n10; with_reducible intro b10 w10 hL) | (clear hL n11; with_reducible intro b11 w11 hL) | (clear hL n12; with_reducible intro b12 w12 hL) | (clear hL; with_reducible intro _ _ hL)) | (with_reducible refine wpC_alloc rfl _ rfl _ _ inferInstance hL ?_) | (with_reducible first | refine wpB_agg rfl _ _ _ rfl rfl hL ?_ | refine wpB_one rfl _ _ (.int _ _) rfl rfl rfl hL ?_ | refine wpB_one rfl _ _ (.slice _ _ _) rfl rfl rfl hL ?_ | refine wpB_one rfl _ _ (.bool _) rfl rfl rfl hL ?_ | refine wpB_one rfl _ _ (.pointer _) rfl rfl rfl hL ?_ | refine wpB_one rfl _ _ (.func _ _ _) rfl rfl rfl hL ?_) | (with_reducible first | refine wpH_max rfl _ _ _ _ rfl _ _ rfl rfl ?_ | refine wpH_min rfl _ _ _ _ rfl _ _ rfl rfl ?_) | ((with_reducible refine wpA_load rfl _ _ rfl _ rfl ?_); first | refine loadA hL ?_ | refine loadR hL ?_ | refine loadC hL ?_ | refine loadD ?_ | refine loadE hL ?_ | refine loadF ?_) | ((with_reducible refine wpA_index rfl _ _ _ rfl _ rfl _ rfl ?_); first | (refine indexA ?_; try rw [Int.toNat_natCast]) | refine indexC ?_) | ((with_reducible refine wpA_store rfl _ _ _ rfl _ rfl (.agg _) rfl ?_); refine storeR hL ?_; clear hL; intro _ hL) | ((with_reducible first | refine wpA_store rfl _ _ _ rfl _ rfl (.int _ _) rfl ?_ | refine wpA_store rfl _ _ _ rfl _ rfl (.slice _ _ _) rfl ?_ | refine wpA_store rfl _ _ _ rfl _ rfl (.bool _) rfl ?_ | refine wpA_store rfl _ _ _ rfl _ rfl (.pointer _) rfl ?_ | refine wpA_store rfl _ _ _ rfl _ rfl (.func _ _ _) rfl ?_); (first | refine storeA hL ?_ | refine storeO hL ?_); (clear hL; intro _ hL)) | ((with_reducible refine wpA_lit rfl _ _ _ rfl ?_); first | refine litA1 hL ?_ | refine litA2 hL ?_ | refine litA3 hL ?_ | refine litA4 hL ?_ | refine litA6 hL ?_) | ((with_reducible refine wpA_append rfl _ _ _ rfl (.slice _ _ _) rfl ?_); intro vq hvq; simp [go_sem] at hvq; subst hvq; refine appendA hL ?_; clear hL; intro _ _ _ hL; try dsimp only at hL) | ((with_reducible refine wpA_make rfl _ _ _ rfl _ rfl rfl ?_); refine makeA hL ?_))
                  replace hL := hL.drew
                  have hS := (show (fun w' : World => w'.rangeAt b11 0 #[.int .i64 14, .int .i64 14, .slice sa10 sn10 sc10].toList ∧ w'.rangeAt b2 0 #[.int .i64 14, .int .i64 14, .slice sa1 sn1 sc1].toList ∧ w'.rangeAt b1 0 #[.int .i64 a0, .int .i64 a1, .int .i64 a2, .int .i64 a3].toList) _ from ⟨hL.range (by (repeat (first | with_reducible exact At.here | with_reducible apply At.there))), hL.range (by (repeat (first | with_reducible exact At.here | with_reducible apply At.there))), hL.range (by (repeat (first | with_reducible exact At.here | with_reducible apply At.there)))⟩)
                  refine wpH_begin (by kernel_rfl) (fun w' : World => w'.rangeAt b11 0 #[.int .i64 14, .int .i64 14, .slice sa10 sn10 sc10].toList ∧ w'.rangeAt b2 0 #[.int .i64 14, .int .i64 14, .slice sa1 sn1 sc1].toList ∧ w'.rangeAt b1 0 #[.int .i64 a0, .int .i64 a1, .int .i64 a2, .int .i64 a3].toList) ?_
                  refine stH (i := 0) (.agg #[.int .i64 14, .int .i64 14, .slice sa10 sn10 sc10]) hS ?_ ?_; (· exact fun w' hw => run_loadOp _ _ rfl _ rfl _ (load_range (cs := #[.int .i64 14, .int .i64 14, .slice sa10 sn10 sc10]) rfl hw.1)); simp only [Act.put, List.setIfInBounds_toArray, List.set_cons_zero, List.set_cons_succ]
                  refine stH (i := 1) (.int .i64 i) hS ?_ ?_; (· exact fun w' _ => (by go_simp)); simp only [Act.put, List.setIfInBounds_toArray, List.set_cons_zero, List.set_cons_succ]
                  refine stH (i := 2) (.int .i64 j) hS ?_ ?_; (· exact fun w' _ => (by go_simp)); simp only [Act.put, List.setIfInBounds_toArray, List.set_cons_zero, List.set_cons_succ]
                  refine stH (i := 4) (.agg #[.int .i64 14, .int .i64 14, .slice sa1 sn1 sc1]) hS ?_ ?_; (· exact fun w' hw => run_loadOp _ _ rfl _ rfl _ (load_range (cs := #[.int .i64 14, .int .i64 14, .slice sa1 sn1 sc1]) rfl hw.2.1)); simp only [Act.put, List.setIfInBounds_toArray, List.set_cons_zero, List.set_cons_succ]
                  refine stH (i := 5) (.int .i64 i) hS ?_ ?_; (· exact fun w' _ => (by go_simp)); simp only [Act.put, List.setIfInBounds_toArray, List.set_cons_zero, List.set_cons_succ]
                  refine stH (i := 6) (.int .i64 j) hS ?_ ?_; (· exact fun w' _ => (by go_simp)); simp only [Act.put, List.setIfInBounds_toArray, List.set_cons_zero, List.set_cons_succ]
                  refine wpH_one (i := 3) (by kernel_rfl) (wpOp_of (by simp only [List.getElem?_toArray, List.getElem?_cons_zero, List.getElem?_cons_succ]; rfl) ?_)
                  refine st_call rfl 40 #[.agg #[.int .i64 14, .int .i64 14, .slice sa10 sn10 sc10], .int .i64 i, .int .i64 j] (by go_simp) ((r14_has _ (hL.fact (by repeat (first | with_reducible exact List.mem_cons_self | with_reducible apply List.mem_cons_of_mem))) _ _).mono fun _ _ h => h) ?_
                  rintro e w' ⟨rfl, hb⟩
                  rw [H10.out]
                  replace hL := hL.call hb
                  clear hb hS
                  have hS := (show (fun w' : World => w'.rangeAt b11 0 #[.int .i64 14, .int .i64 14, .slice sa10 sn10 sc10].toList ∧ w'.rangeAt b2 0 #[.int .i64 14, .int .i64 14, .slice sa1 sn1 sc1].toList ∧ w'.rangeAt b1 0 #[.int .i64 a0, .int .i64 a1, .int .i64 a2, .int .i64 a3].toList) _ from ⟨hL.range (by (repeat (first | with_reducible exact At.here | with_reducible apply At.there))), hL.range (by (repeat (first | with_reducible exact At.here | with_reducible apply At.there))), hL.range (by (repeat (first | with_reducible exact At.here | with_reducible apply At.there)))⟩)
                  refine ⟨_, rfl, hS, ?_⟩
                  simp only [Act.put, List.setIfInBounds_toArray, List.set_cons_zero, List.set_cons_succ]
                  refine wpH_one (i := 7) (by kernel_rfl) (wpOp_of (by simp only [List.getElem?_toArray, List.getElem?_cons_zero, List.getElem?_cons_succ]; rfl) ?_)
                  refine st_call rfl 40 #[.agg #[.int .i64 14, .int .i64 14, .slice sa1 sn1 sc1], .int .i64 i, .int .i64 j] (by go_simp) ((r14_has _ (hL.fact (by repeat (first | with_reducible exact List.mem_cons_self | with_reducible apply List.mem_cons_of_mem))) _ _).mono fun _ _ h => h) ?_
                  rintro e w' ⟨rfl, hb⟩
                  rw [H1.out]
                  replace hL := hL.call hb
                  clear hb hS
                  have hS := (show (fun w' : World => w'.rangeAt b11 0 #[.int .i64 14, .int .i64 14, .slice sa10 sn10 sc10].toList ∧ w'.rangeAt b2 0 #[.int .i64 14, .int .i64 14, .slice sa1 sn1 sc1].toList ∧ w'.rangeAt b1 0 #[.int .i64 a0, .int .i64 a1, .int .i64 a2, .int .i64 a3].toList) _ from ⟨hL.range (by (repeat (first | with_reducible exact At.here | with_reducible apply At.there))), hL.range (by (repeat (first | with_reducible exact At.here | with_reducible apply At.there))), hL.range (by (repeat (first | with_reducible exact At.here | with_reducible apply At.there)))⟩)
                  refine ⟨_, rfl, hS, ?_⟩
                  simp only [Act.put, List.setIfInBounds_toArray, List.set_cons_zero, List.set_cons_succ]
                  refine stH (i := 8) (.bool true) hS ?_ ?_; (· exact fun w' _ => (by go_simp)); simp only [Act.put, List.setIfInBounds_toArray, List.set_cons_zero, List.set_cons_succ]
                  refine stH (i := 9) (.int .i64 i) hS ?_ ?_; (· exact fun w' _ => (by go_simp)); simp only [Act.put, List.setIfInBounds_toArray, List.set_cons_zero, List.set_cons_succ]
                  refine stH (i := 10) (.pointer (some ⟨b1, 0, none⟩)) hS ?_ ?_; (· exact fun w' _ => (by go_simp)); simp only [Act.put, List.setIfInBounds_toArray, List.set_cons_zero, List.set_cons_succ]
                  refine stH (i := 11) (.int .i64 a0) hS ?_ ?_; (· exact fun w' hw => run_loadOp _ _ rfl _ rfl _ (load_cell (hw.2.2 0 _ rfl))); simp only [Act.put, List.setIfInBounds_toArray, List.set_cons_zero, List.set_cons_succ]
                  refine stH (i := 12) (.bool false) hS ?_ ?_; (· exact fun w' _ => (by go_simp)); simp only [Act.put, List.setIfInBounds_toArray, List.set_cons_zero, List.set_cons_succ]
                  refine stH (i := 13) (.bool false) hS ?_ ?_; (· exact fun w' _ => (by go_simp)); simp only [Act.put, List.setIfInBounds_toArray, List.set_cons_zero, List.set_cons_succ]
                  refine stH (i := 14) (.bool false) hS ?_ ?_; (· exact fun w' _ => (by go_simp)); simp only [Act.put, List.setIfInBounds_toArray, List.set_cons_zero, List.set_cons_succ]
                  refine skH (i := 15) hS ?_
                  simp only [Act.put, List.setIfInBounds_toArray, List.set_cons_zero, List.set_cons_succ]
                  refine skH (i := 16) hS ?_
                  simp only [Act.put, List.setIfInBounds_toArray, List.set_cons_zero, List.set_cons_succ]
                  refine skH (i := 17) hS ?_
                  simp only [Act.put, List.setIfInBounds_toArray, List.set_cons_zero, List.set_cons_succ]
                  refine skH (i := 18) hS ?_
                  simp only [Act.put, List.setIfInBounds_toArray, List.set_cons_zero, List.set_cons_succ]
                  refine stH (i := 19) (.bool false) hS ?_ ?_; (· exact fun w' _ => (by go_simp)); simp only [Act.put, List.setIfInBounds_toArray, List.set_cons_zero, List.set_cons_succ]
                  refine stH (i := 20) (.bool false) hS ?_ ?_; (· exact fun w' _ => (by go_simp)); simp only [Act.put, List.setIfInBounds_toArray, List.set_cons_zero, List.set_cons_succ]
                  refine skH (i := 21) hS ?_
                  simp only [Act.put, List.setIfInBounds_toArray, List.set_cons_zero, List.set_cons_succ]
                  refine skH (i := 22) hS ?_
                  simp only [Act.put, List.setIfInBounds_toArray, List.set_cons_zero, List.set_cons_succ]
                  refine skH (i := 23) hS ?_
                  simp only [Act.put, List.setIfInBounds_toArray, List.set_cons_zero, List.set_cons_succ]
                  refine skH (i := 24) hS ?_
                  simp only [Act.put, List.setIfInBounds_toArray, List.set_cons_zero, List.set_cons_succ]
                  refine stH (i := 25) (.bool false) hS ?_ ?_; (· exact fun w' _ => (by go_simp)); simp only [Act.put, List.setIfInBounds_toArray, List.set_cons_zero, List.set_cons_succ]
                  refine stH (i := 26) (.bool false) hS ?_ ?_; (· exact fun w' _ => (by go_simp)); simp only [Act.put, List.setIfInBounds_toArray, List.set_cons_zero, List.set_cons_succ]
                  refine skH (i := 27) hS ?_
                  simp only [Act.put, List.setIfInBounds_toArray, List.set_cons_zero, List.set_cons_succ]
                  refine skH (i := 28) hS ?_
                  simp only [Act.put, List.setIfInBounds_toArray, List.set_cons_zero, List.set_cons_succ]
                  refine skH (i := 29) hS ?_
                  simp only [Act.put, List.setIfInBounds_toArray, List.set_cons_zero, List.set_cons_succ]
                  refine skH (i := 30) hS ?_
                  simp only [Act.put, List.setIfInBounds_toArray, List.set_cons_zero, List.set_cons_succ]
                  refine stH (i := 31) (.bool false) hS ?_ ?_; (· exact fun w' _ => (by go_simp)); simp only [Act.put, List.setIfInBounds_toArray, List.set_cons_zero, List.set_cons_succ]
                  refine stH (i := 32) (.bool false) hS ?_ ?_; (· exact fun w' _ => (by go_simp)); simp only [Act.put, List.setIfInBounds_toArray, List.set_cons_zero, List.set_cons_succ]
                  refine wpAnyH_done (by kernel_rfl) ?_ _
                  clear hS
                  go_wp2
                  go_roundw
                  case rel => exact ⟨i + 1, by omega, by go_num, hL⟩
                  case measure => simp [intOf]; omega
                · skip
                  have d0 : decide (a0 ≤ (i : Int)) = true := by simp; omega
                  have d1 : decide ((i : Int) < a2) = false := by simp; omega
                  have H1 := Lib.hid (show atPix 14 14 p1 (i : Int) (j : Int) = true by rw [atPix14 hit hjt, hp])
                  have H10 := Lib.hid (show atPix 14 14 (fun j i => p1 j i && rectQ a0 a1 a2 a3 j i) (i : Int) (j : Int) = false by rw [atPix14 hit hjt]; unfold rectQ; simp only [hp, d0, d1]; simp)
                  go_wp2_with (first | (first | (clear hL n1; with_reducible intro b1 w1 hL) | (clear hL n2; with_reducible intro b2 w2 hL) | (clear hL n3; with_reducible intro b3 w3 hL) | (clear hL n4; with_reducible intro b4 w4 hL) | (clear hL n5; with_reducible intro b5 w5 hL) | (clear hL n6; with_reducible intro b6 w6 hL) | (clear hL n7; with_reducible intro b7 w7 hL) | (clear hL n8; with_reducible intro b8 w8 hL) | (clear hL n9; with_reducible intro b9 w9 hL) | (clear hL n10; with_reducible intro b10 w10 hL) | (clear hL n11; with_reducible intro b11 w11 hL) | (clear hL n12; with_reducible intro b12 w12 hL) | (clear hL; with_reducible intro _ _ hL)) | (with_reducible refine wpC_alloc rfl _ rfl _ _ inferInstance hL ?_) | (with_reducible first | refine wpB_agg rfl _ _ _ rfl rfl hL ?_ | refine wpB_one rfl _ _ (.int _ _) rfl rfl rfl hL ?_ | refine wpB_one rfl _ _ (.slice _ _ _) rfl rfl rfl hL ?_ | refine wpB_one rfl _ _ (.bool _) rfl rfl rfl hL ?_ | refine wpB_one rfl _ _ (.pointer _) rfl rfl rfl hL ?_ | refine wpB_one rfl _ _ (.func _ _ _) rfl rfl rfl hL ?_) | (with_reducible first | refine wpH_max rfl _ _ _ _ rfl _ _ rfl rfl ?_ | refine wpH_min rfl _ _ _ _ rfl _ _ rfl rfl ?_) | ((with_reducible refine wpA_load rfl _ _ rfl _ rfl ?_); first | refine loadA hL ?_ | refine loadR hL ?_ | refine loadC hL ?_ | refine loadD ?_ | refine loadE hL ?_ | refine loadF ?_) | ((with_reducible refine wpA_index rfl _ _ _ rfl _ rfl _ rfl ?_); first | (refine indexA ?_; try rw [Int.toNat_natCast]) | refine indexC ?_) | ((with_reducible refine wpA_store rfl _ _ _ rfl _ rfl (.agg _) rfl ?_); refine storeR hL ?_; clear hL; intro _ hL) | ((with_reducible first | refine wpA_store rfl _ _ _ rfl _ rfl (.int _ _) rfl ?_ | refine wpA_store rfl _ _ _ rfl _ rfl (.slice _ _ _) rfl ?_ | refine wpA_store rfl _ _ _ rfl _ rfl (.bool _) rfl ?_ | refine wpA_store rfl _ _ _ rfl _ rfl (.pointer _) rfl ?_ | refine wpA_store rfl _ _ _ rfl _ rfl (.func _ _ _) rfl ?_); (first | refine storeA hL ?_ | refine storeO hL ?_); (clear hL; intro _ hL)) | ((with_reducible refine wpA_lit rfl _ _ _ rfl ?_); first | refine litA1 hL ?_ | refine litA2 hL ?_ | refine litA3 hL ?_ | refine litA4 hL ?_ | refine litA6 hL ?_) | ((with_reducible refine wpA_append rfl _ _ _ rfl (.slice _ _ _) rfl ?_); intro vq hvq; simp [go_sem] at hvq; subst hvq; refine appendA hL ?_; clear hL; intro _ _ _ hL; try dsimp only at hL) | ((with_reducible refine wpA_make rfl _ _ _ rfl _ rfl rfl ?_); refine makeA hL ?_))
                  replace hL := hL.drew
                  have hS := (show (fun w' : World => w'.rangeAt b11 0 #[.int .i64 14, .int .i64 14, .slice sa10 sn10 sc10].toList ∧ w'.rangeAt b2 0 #[.int .i64 14, .int .i64 14, .slice sa1 sn1 sc1].toList ∧ w'.rangeAt b1 0 #[.int .i64 a0, .int .i64 a1, .int .i64 a2, .int .i64 a3].toList) _ from ⟨hL.range (by (repeat (first | with_reducible exact At.here | with_reducible apply At.there))), hL.range (by (repeat (first | with_reducible exact At.here | with_reducible apply At.there))), hL.range (by (repeat (first | with_reducible exact At.here | with_reducible apply At.there)))⟩)
                  refine wpH_begin (by kernel_rfl) (fun w' : World => w'.rangeAt b11 0 #[.int .i64 14, .int .i64 14, .slice sa10 sn10 sc10].toList ∧ w'.rangeAt b2 0 #[.int .i64 14, .int .i64 14, .slice sa1 sn1 sc1].toList ∧ w'.rangeAt b1 0 #[.int .i64 a0, .int .i64 a1, .int .i64 a2, .int .i64 a3].toList) ?_
                  refine stH (i := 0) (.agg #[.int .i64 14, .int .i64 14, .slice sa10 sn10 sc10]) hS ?_ ?_; (· exact fun w' hw => run_loadOp _ _ rfl _ rfl _ (load_range (cs := #[.int .i64 14, .int .i64 14, .slice sa10 sn10 sc10]) rfl hw.1)); simp only [Act.put, List.setIfInBounds_toArray, List.set_cons_zero, List.set_cons_succ]
                  refine stH (i := 1) (.int .i64 i) hS ?_ ?_; (· exact fun w' _ => (by go_simp)); simp only [Act.put, List.setIfInBounds_toArray, List.set_cons_zero, List.set_cons_succ]
                  refine stH (i := 2) (.int .i64 j) hS ?_ ?_; (· exact fun w' _ => (by go_simp)); simp only [Act.put, List.setIfInBounds_toArray, List.set_cons_zero, List.set_cons_succ]
                  refine stH (i := 4) (.agg #[.int .i64 14, .int .i64 14, .slice sa1 sn1 sc1]) hS ?_ ?_; (· exact fun w' hw => run_loadOp _ _ rfl _ rfl _ (load_range (cs := #[.int .i64 14, .int .i64 14, .slice sa1 sn1 sc1]) rfl hw.2.1)); simp only [Act.put, List.setIfInBounds_toArray, List.set_cons_zero, List.set_cons_succ]
                  refine stH (i := 5) (.int .i64 i) hS ?_ ?_; (· exact fun w' _ => (by go_simp)); simp only [Act.put, List.setIfInBounds_toArray, List.set_cons_zero, List.set_cons_succ]
                  refine stH (i := 6) (.int .i64 j) hS ?_ ?_; (· exact fun w' _ => (by go_simp)); simp only [Act.put, List.setIfInBounds_toArray, List.set_cons_zero, List.set_cons_succ]
                  refine wpH_one (i := 3) (by kernel_rfl) (wpOp_of (by simp only [List.getElem?_toArray, List.getElem?_cons_zero, List.getElem?_cons_succ]; rfl) ?_)
                  refine st_call rfl 40 #[.agg #[.int .i64 14, .int .i64 14, .slice sa10 sn10 sc10], .int .i64 i, .int .i64 j] (by go_simp) ((r14_has _ (hL.fact (by repeat (first | with_reducible exact List.mem_cons_self | with_reducible apply List.mem_cons_of_mem))) _ _).mono fun _ _ h => h) ?_
                  rintro e w' ⟨rfl, hb⟩
                  rw [H10.out]
                  replace hL := hL.call hb
                  clear hb hS
                  have hS := (show (fun w' : World => w'.rangeAt b11 0 #[.int .i64 14, .int .i64 14, .slice sa10 sn10 sc10].toList ∧ w'.rangeAt b2 0 #[.int .i64 14, .int .i64 14, .slice sa1 sn1 sc1].toList ∧ w'.rangeAt b1 0 #[.int .i64 a0, .int .i64 a1, .int .i64 a2, .int .i64 a3].toList) _ from ⟨hL.range (by (repeat (first | with_reducible exact At.here | with_reducible apply At.there))), hL.range (by (repeat (first | with_reducible exact At.here | with_reducible apply At.there))), hL.range (by (repeat (first | with_reducible exact At.here | with_reducible apply At.there)))⟩)
                  refine ⟨_, rfl, hS, ?_⟩
                  simp only [Act.put, List.setIfInBounds_toArray, List.set_cons_zero, List.set_cons_succ]
                  refine wpH_one (i := 7) (by kernel_rfl) (wpOp_of (by simp only [List.getElem?_toArray, List.getElem?_cons_zero, List.getElem?_cons_succ]; rfl) ?_)
                  refine st_call rfl 40 #[.agg #[.int .i64 14, .int .i64 14, .slice sa1 sn1 sc1], .int .i64 i, .int .i64 j] (by go_simp) ((r14_has _ (hL.fact (by repeat (first | with_reducible exact List.mem_cons_self | with_reducible apply List.mem_cons_of_mem))) _ _).mono fun _ _ h => h) ?_
                  rintro e w' ⟨rfl, hb⟩
                  rw [H1.out]
                  replace hL := hL.call hb
                  clear hb hS
                  have hS := (show (fun w' : World => w'.rangeAt b11 0 #[.int .i64 14, .int .i64 14, .slice sa10 sn10 sc10].toList ∧ w'.rangeAt b2 0 #[.int .i64 14, .int .i64 14, .slice sa1 sn1 sc1].toList ∧ w'.rangeAt b1 0 #[.int .i64 a0, .int .i64 a1, .int .i64 a2, .int .i64 a3].toList) _ from ⟨hL.range (by (repeat (first | with_reducible exact At.here | with_reducible apply At.there))), hL.range (by (repeat (first | with_reducible exact At.here | with_reducible apply At.there))), hL.range (by (repeat (first | with_reducible exact At.here | with_reducible apply At.there)))⟩)
                  refine ⟨_, rfl, hS, ?_⟩
                  simp only [Act.put, List.setIfInBounds_toArray, List.set_cons_zero, List.set_cons_succ]
                  refine stH (i := 8) (.bool true) hS ?_ ?_; (· exact fun w' _ => (by go_simp)); simp only [Act.put, List.setIfInBounds_toArray, List.set_cons_zero, List.set_cons_succ]
                  refine stH (i := 9) (.int .i64 i) hS ?_ ?_; (· exact fun w' _ => (by go_simp)); simp only [Act.put, List.setIfInBounds_toArray, List.set_cons_zero, List.set_cons_succ]
                  refine stH (i := 10) (.pointer (some ⟨b1, 0, none⟩)) hS ?_ ?_; (· exact fun w' _ => (by go_simp)); simp only [Act.put, List.setIfInBounds_toArray, List.set_cons_zero, List.set_cons_succ]
                  refine stH (i := 11) (.int .i64 a0) hS ?_ ?_; (· exact fun w' hw => run_loadOp _ _ rfl _ rfl _ (load_cell (hw.2.2 0 _ rfl))); simp only [Act.put, List.setIfInBounds_toArray, List.set_cons_zero, List.set_cons_succ]
                  refine stH (i := 12) (.bool true) hS ?_ ?_; (· exact fun w' _ => (by go_simp)); simp only [Act.put, List.setIfInBounds_toArray, List.set_cons_zero, List.set_cons_succ]
                  refine stH (i := 13) (.bool true) hS ?_ ?_; (· exact fun w' _ => (by go_simp)); simp only [Act.put, List.setIfInBounds_toArray, List.set_cons_zero, List.set_cons_succ]
                  refine stH (i := 14) (.bool true) hS ?_ ?_; (· exact fun w' _ => (by go_simp)); simp only [Act.put, List.setIfInBounds_toArray, List.set_cons_zero, List.set_cons_succ]
                  refine stH (i := 15) (.int .i64 i) hS ?_ ?_; (· exact fun w' _ => (by go_simp)); simp only [Act.put, List.setIfInBounds_toArray, List.set_cons_zero, List.set_cons_succ]
                  refine stH (i := 16) (.pointer (some ⟨b1, 2, none⟩)) hS ?_ ?_; (· exact fun w' _ => (by go_simp)); simp only [Act.put, List.setIfInBounds_toArray, List.set_cons_zero, List.set_cons_succ]
                  refine stH (i := 17) (.int .i64 a2) hS ?_ ?_; (· exact fun w' hw => run_loadOp _ _ rfl _ rfl _ (load_cell (hw.2.2 2 _ rfl))); simp only [Act.put, List.setIfInBounds_toArray, List.set_cons_zero, List.set_cons_succ]
                  refine stH (i := 18) (.bool false) hS ?_ ?_; (· exact fun w' _ => (by go_simp)); simp only [Act.put, List.setIfInBounds_toArray, List.set_cons_zero, List.set_cons_succ]
                  refine stH (i := 19) (.bool false) hS ?_ ?_; (· exact fun w' _ => (by go_simp)); simp only [Act.put, List.setIfInBounds_toArray, List.set_cons_zero, List.set_cons_succ]
                  refine stH (i := 20) (.bool false) hS ?_ ?_; (· exact fun w' _ => (by go_simp)); simp only [Act.put, List.setIfInBounds_toArray, List.set_cons_zero, List.set_cons_succ]
                  refine skH (i := 21) hS ?_
                  simp only [Act.put, List.setIfInBounds_toArray, List.set_cons_zero, List.set_cons_succ]
                  refine skH (i := 22) hS ?_
                  simp only [Act.put, List.setIfInBounds_toArray, List.set_cons_zero, List.set_cons_succ]
                  refine skH (i := 23) hS ?_
                  simp only [Act.put, List.setIfInBounds_toArray, List.set_cons_zero, List.set_cons_succ]
                  refine skH (i := 24) hS ?_
                  simp only [Act.put, List.setIfInBounds_toArray, List.set_cons_zero, List.set_cons_succ]
                  refine stH (i := 25) (.bool false) hS ?_ ?_; (· exact fun w' _ => (by go_simp)); simp only [Act.put, List.setIfInBounds_toArray, List.set_cons_zero, List.set_cons_succ]
                  refine stH (i := 26) (.bool false) hS ?_ ?_; (· exact fun w' _ => (by go_simp)); simp only [Act.put, List.setIfInBounds_toArray, List.set_cons_zero, List.set_cons_succ]
                  refine skH (i := 27) hS ?_
                  simp only [Act.put, List.setIfInBounds_toArray, List.set_cons_zero, List.set_cons_succ]
                  refine skH (i := 28) hS ?_
                  simp only [Act.put, List.setIfInBounds_toArray, List.set_cons_zero, List.set_cons_succ]
                  refine skH (i := 29) hS ?_
                  simp only [Act.put, List.setIfInBounds_toArray, List.set_cons_zero, List.set_cons_succ]
                  refine skH (i := 30) hS ?_
                  simp only [Act.put, List.setIfInBounds_toArray, List.set_cons_zero, List.set_cons_succ]
                  refine stH (i := 31) (.bool false) hS ?_ ?_; (· exact fun w' _ => (by go_simp)); simp only [Act.put, List.setIfInBounds_toArray, List.set_cons_zero, List.set_cons_succ]
                  refine stH (i := 32) (.bool false) hS ?_ ?_; (· exact fun w' _ => (by go_simp)); simp only [Act.put, List.setIfInBounds_toArray, List.set_cons_zero, List.set_cons_succ]
                  refine wpAnyH_done (by kernel_rfl) ?_ _
                  clear hS
                  go_wp2
                  go_roundw
                  case rel => exact ⟨i + 1, by omega, by go_num, hL⟩
                  case measure => simp [intOf]; omega
                · skip
                  have d0 : decide (a0 ≤ (i : Int)) = true := by simp; omega
                  have d1 : decide ((i : Int) < a2) = true := by simp; omega
                  have d2 : decide (a1 ≤ (j : Int)) = false := by simp; omega
                  have H1 := Lib.hid (show atPix 14 14 p1 (i : Int) (j : Int) = true by rw [atPix14 hit hjt, hp])
                  have H10 := Lib.hid (show atPix 14 14 (fun j i => p1 j i && rectQ a0 a1 a2 a3 j i) (i : Int) (j : Int) = false by rw [atPix14 hit hjt]; unfold rectQ; simp only [hp, d0, d1, d2]; simp)
                  go_wp2_with (first | (first | (clear hL n1; with_reducible intro b1 w1 hL) | (clear hL n2; with_reducible intro b2 w2 hL) | (clear hL n3; with_reducible intro b3 w3 hL) | (clear hL n4; with_reducible intro b4 w4 hL) | (clear hL n5; with_reducible intro b5 w5 hL) | (clear hL n6; with_reducible intro b6 w6 hL) | (clear hL n7; with_reducible intro b7 w7 hL) | (clear hL n8; with_reducible intro b8 w8 hL) | (clear hL n9; with_reducible intro b9 w9 hL) | (clear hL n10; with_reducible intro b10 w10 hL) | (clear hL n11; with_reducible intro b11 w11 hL) | (clear hL n12; with_reducible intro b12 w12 hL) | (clear hL; with_reducible intro _ _ hL)) | (with_reducible refine wpC_alloc rfl _ rfl _ _ inferInstance hL ?_) | (with_reducible first | refine wpB_agg rfl _ _ _ rfl rfl hL ?_ | refine wpB_one rfl _ _ (.int _ _) rfl rfl rfl hL ?_ | refine wpB_one rfl _ _ (.slice _ _ _) rfl rfl rfl hL ?_ | refine wpB_one rfl _ _ (.bool _) rfl rfl rfl hL ?_ | refine wpB_one rfl _ _ (.pointer _) rfl rfl rfl hL ?_ | refine wpB_one rfl _ _ (.func _ _ _) rfl rfl rfl hL ?_) | (with_reducible first | refine wpH_max rfl _ _ _ _ rfl _ _ rfl rfl ?_ | refine wpH_min rfl _ _ _ _ rfl _ _ rfl rfl ?_) | ((with_reducible refine wpA_load rfl _ _ rfl _ rfl ?_); first | refine loadA hL ?_ | refine loadR hL ?_ | refine loadC hL ?_ | refine loadD ?_ | refine loadE hL ?_ | refine loadF ?_) | ((with_reducible refine wpA_index rfl _ _ _ rfl _ rfl _ rfl ?_); first | (refine indexA ?_; try rw [Int.toNat_natCast]) | refine indexC ?_) | ((with_reducible refine wpA_store rfl _ _ _ rfl _ rfl (.agg _) rfl ?_); refine storeR hL ?_; clear hL; intro _ hL) | ((with_reducible first | refine wpA_store rfl _ _ _ rfl _ rfl (.int _ _) rfl ?_ | refine wpA_store rfl _ _ _ rfl _ rfl (.slice _ _ _) rfl ?_ | refine wpA_store rfl _ _ _ rfl _ rfl (.bool _) rfl ?_ | refine wpA_store rfl _ _ _ rfl _ rfl (.pointer _) rfl ?_ | refine wpA_store rfl _ _ _ rfl _ rfl (.func _ _ _) rfl ?_); (first | refine storeA hL ?_ | refine storeO hL ?_); (clear hL; intro _ hL)) | ((with_reducible refine wpA_lit rfl _ _ _ rfl ?_); first | refine litA1 hL ?_ | refine litA2 hL ?_ | refine litA3 hL ?_ | refine litA4 hL ?_ | refine litA6 hL ?_) | ((with_reducible refine wpA_append rfl _ _ _ rfl (.slice _ _ _) rfl ?_); intro vq hvq; simp [go_sem] at hvq; subst hvq; refine appendA hL ?_; clear hL; intro _ _ _ hL; try dsimp only at hL) | ((with_reducible refine wpA_make rfl _ _ _ rfl _ rfl rfl ?_); refine makeA hL ?_))
                  replace hL := hL.drew
                  have hS := (show (fun w' : World => w'.rangeAt b11 0 #[.int .i64 14, .int .i64 14, .slice sa10 sn10 sc10].toList ∧ w'.rangeAt b2 0 #[.int .i64 14, .int .i64 14, .slice sa1 sn1 sc1].toList ∧ w'.rangeAt b1 0 #[.int .i64 a0, .int .i64 a1, .int .i64 a2, .int .i64 a3].toList) _ from ⟨hL.range (by (repeat (first | with_reducible exact At.here | with_reducible apply At.there))), hL.range (by (repeat (first | with_reducible exact At.here | with_reducible apply At.there))), hL.range (by (repeat (first | with_reducible exact At.here | with_reducible apply At.there)))⟩)
                  refine wpH_begin (by kernel_rfl) (fun w' : World => w'.rangeAt b11 0 #[.int .i64 14, .int .i64 14, .slice sa10 sn10 sc10].toList ∧ w'.rangeAt b2 0 #[.int .i64 14, .int .i64 14, .slice sa1 sn1 sc1].toList ∧ w'.rangeAt b1 0 #[.int .i64 a0, .int .i64 a1, .int .i64 a2, .int .i64 a3].toList) ?_
                  refine stH (i := 0) (.agg #[.int .i64 14, .int .i64 14, .slice sa10 sn10 sc10]) hS ?_ ?_; (· exact fun w' hw => run_loadOp _ _ rfl _ rfl _ (load_range (cs := #[.int .i64 14, .int .i64 14, .slice sa10 sn10 sc10]) rfl hw.1)); simp only [Act.put, List.setIfInBounds_toArray, List.set_cons_zero, List.set_cons_succ]
                  refine stH (i := 1) (.int .i64 i) hS ?_ ?_; (· exact fun w' _ => (by go_simp)); simp only [Act.put, List.setIfInBounds_toArray, List.set_cons_zero, List.set_cons_succ]
                  refine stH (i := 2) (.int .i64 j) hS ?_ ?_; (· exact fun w' _ => (by go_simp)); simp only [Act.put, List.setIfInBounds_toArray, List.set_cons_zero, List.set_cons_succ]
                  refine stH (i := 4) (.agg #[.int .i64 14, .int .i64 14, .slice sa1 sn1 sc1]) hS ?_ ?_; (· exact fun w' hw => run_loadOp _ _ rfl _ rfl _ (load_range (cs := #[.int .i64 14, .int .i64 14, .slice sa1 sn1 sc1]) rfl hw.2.1)); simp only [Act.put, List.setIfInBounds_toArray, List.set_cons_zero, List.set_cons_succ]
                  refine stH (i := 5) (.int .i64 i) hS ?_ ?_; (· exact fun w' _ => (by go_simp)); simp only [Act.put, List.setIfInBounds_toArray, List.set_cons_zero, List.set_cons_succ]
                  refine stH (i := 6) (.int .i64 j) hS ?_ ?_; (· exact fun w' _ => (by go_simp)); simp only [Act.put, List.setIfInBounds_toArray, List.set_cons_zero, List.set_cons_succ]
                  refine wpH_one (i := 3) (by kernel_rfl) (wpOp_of (by simp only [List.getElem?_toArray, List.getElem?_cons_zero, List.getElem?_cons_succ]; rfl) ?_)
                  refine st_call rfl 40 #[.agg #[.int .i64 14, .int .i64 14, .slice sa10 sn10 sc10], .int .i64 i, .int .i64 j] (by go_simp) ((r14_has _ (hL.fact (by repeat (first | with_reducible exact List.mem_cons_self | with_reducible apply List.mem_cons_of_mem))) _ _).mono fun _ _ h => h) ?_
                  rintro e w' ⟨rfl, hb⟩
                  rw [H10.out]
                  replace hL := hL.call hb
                  clear hb hS
                  have hS := (show (fun w' : World => w'.rangeAt b11 0 #[.int .i64 14, .int .i64 14, .slice sa10 sn10 sc10].toList ∧ w'.rangeAt b2 0 #[.int .i64 14, .int .i64 14, .slice sa1 sn1 sc1].toList ∧ w'.rangeAt b1 0 #[.int .i64 a0, .int .i64 a1, .int .i64 a2, .int .i64 a3].toList) _ from ⟨hL.range (by (repeat (first | with_reducible exact At.here | with_reducible apply At.there))), hL.range (by (repeat (first | with_reducible exact At.here | with_reducible apply At.there))), hL.range (by (repeat (first | with_reducible exact At.here | with_reducible apply At.there)))⟩)
                  refine ⟨_, rfl, hS, ?_⟩
                  simp only [Act.put, List.setIfInBounds_toArray, List.set_cons_zero, List.set_cons_succ]
                  refine wpH_one (i := 7) (by kernel_rfl) (wpOp_of (by simp only [List.getElem?_toArray, List.getElem?_cons_zero, List.getElem?_cons_succ]; rfl) ?_)
                  refine st_call rfl 40 #[.agg #[.int .i64 14, .int .i64 14, .slice sa1 sn1 sc1], .int .i64 i, .int .i64 j] (by go_simp) ((r14_has _ (hL.fact (by repeat (first | with_reducible exact List.mem_cons_self | with_reducible apply List.mem_cons_of_mem))) _ _).mono fun _ _ h => h) ?_
                  rintro e w' ⟨rfl, hb⟩
                  rw [H1.out]
                  replace hL := hL.call hb
                  clear hb hS
                  have hS := (show (fun w' : World => w'.rangeAt b11 0 #[.int .i64 14, .int .i64 14, .slice sa10 sn10 sc10].toList ∧ w'.rangeAt b2 0 #[.int .i64 14, .int .i64 14, .slice sa1 sn1 sc1].toList ∧ w'.rangeAt b1 0 #[.int .i64 a0, .int .i64 a1, .int .i64 a2, .int .i64 a3].toList) _ from ⟨hL.range (by (repeat (first | with_reducible exact At.here | with_reducible apply At.there))), hL.range (by (repeat (first | with_reducible exact At.here | with_reducible apply At.there))), hL.range (by (repeat (first | with_reducible exact At.here | with_reducible apply At.there)))⟩)
                  refine ⟨_, rfl, hS, ?_⟩
                  simp only [Act.put, List.setIfInBounds_toArray, List.set_cons_zero, List.set_cons_succ]
                  refine stH (i := 8) (.bool true) hS ?_ ?_; (· exact fun w' _ => (by go_simp)); simp only [Act.put, List.setIfInBounds_toArray, List.set_cons_zero, List.set_cons_succ]
                  refine stH (i := 9) (.int .i64 i) hS ?_ ?_; (· exact fun w' _ => (by go_simp)); simp only [Act.put, List.setIfInBounds_toArray, List.set_cons_zero, List.set_cons_succ]
                  refine stH (i := 10) (.pointer (some ⟨b1, 0, none⟩)) hS ?_ ?_; (· exact fun w' _ => (by go_simp)); simp only [Act.put, List.setIfInBounds_toArray, List.set_cons_zero, List.set_cons_succ]
                  refine stH (i := 11) (.int .i64 a0) hS ?_ ?_; (· exact fun w' hw => run_loadOp _ _ rfl _ rfl _ (load_cell (hw.2.2 0 _ rfl))); simp only [Act.put, List.setIfInBounds_toArray, List.set_cons_zero, List.set_cons_succ]
                  refine stH (i := 12) (.bool true) hS ?_ ?_; (· exact fun w' _ => (by go_simp)); simp only [Act.put, List.setIfInBounds_toArray, List.set_cons_zero, List.set_cons_succ]
                  refine stH (i := 13) (.bool true) hS ?_ ?_; (· exact fun w' _ => (by go_simp)); simp only [Act.put, List.setIfInBounds_toArray, List.set_cons_zero, List.set_cons_succ]
                  refine stH (i := 14) (.bool true) hS ?_ ?_; (· exact fun w' _ => (by go_simp)); simp only [Act.put, List.setIfInBounds_toArray, List.set_cons_zero, List.set_cons_succ]
                  refine stH (i := 15) (.int .i64 i) hS ?_ ?_; (· exact fun w' _ => (by go_simp)); simp only [Act.put, List.setIfInBounds_toArray, List.set_cons_zero, List.set_cons_succ]
                  refine stH (i := 16) (.pointer (some ⟨b1, 2, none⟩)) hS ?_ ?_; (· exact fun w' _ => (by go_simp)); simp only [Act.put, List.setIfInBounds_toArray, List.set_cons_zero, List.set_cons_succ]
                  refine stH (i := 17) (.int .i64 a2) hS ?_ ?_; (· exact fun w' hw => run_loadOp _ _ rfl _ rfl _ (load_cell (hw.2.2 2 _ rfl))); simp only [Act.put, List.setIfInBounds_toArray, List.set_cons_zero, List.set_cons_succ]
                  refine stH (i := 18) (.bool true) hS ?_ ?_; (· exact fun w' _ => (by go_simp)); simp only [Act.put, List.setIfInBounds_toArray, List.set_cons_zero, List.set_cons_succ]
                  refine stH (i := 19) (.bool true) hS ?_ ?_; (· exact fun w' _ => (by go_simp)); simp only [Act.put, List.setIfInBounds_toArray, List.set_cons_zero, List.set_cons_succ]
                  refine stH (i := 20) (.bool true) hS ?_ ?_; (· exact fun w' _ => (by go_simp)); simp only [Act.put, List.setIfInBounds_toArray, List.set_cons_zero, List.set_cons_succ]
                  refine stH (i := 21) (.int .i64 j) hS ?_ ?_; (· exact fun w' _ => (by go_simp)); simp only [Act.put, List.setIfInBounds_toArray, List.set_cons_zero, List.set_cons_succ]
                  refine stH (i := 22) (.pointer (some ⟨b1, 1, none⟩)) hS ?_ ?_; (· exact fun w' _ => (by go_simp)); simp only [Act.put, List.setIfInBounds_toArray, List.set_cons_zero, List.set_cons_succ]
                  refine stH (i := 23) (.int .i64 a1) hS ?_ ?_; (· exact fun w' hw => run_loadOp _ _ rfl _ rfl _ (load_cell (hw.2.2 1 _ rfl))); simp only [Act.put, List.setIfInBounds_toArray, List.set_cons_zero, List.set_cons_succ]
                  refine stH (i := 24) (.bool false) hS ?_ ?_; (· exact fun w' _ => (by go_simp)); simp only [Act.put, List.setIfInBounds_toArray, List.set_cons_zero, List.set_cons_succ]
                  refine stH (i := 25) (.bool false) hS ?_ ?_; (· exact fun w' _ => (by go_simp)); simp only [Act.put, List.setIfInBounds_toArray, List.set_cons_zero, List.set_cons_succ]
                  refine stH (i := 26) (.bool false) hS ?_ ?_; (· exact fun w' _ => (by go_simp)); simp only [Act.put, List.setIfInBounds_toArray, List.set_cons_zero, List.set_cons_succ]
                  refine skH (i := 27) hS ?_
                  simp only [Act.put, List.setIfInBounds_toArray, List.set_cons_zero, List.set_cons_succ]
                  refine skH (i := 28) hS ?_
                  simp only [Act.put, List.setIfInBounds_toArray, List.set_cons_zero, List.set_cons_succ]
                  refine skH (i := 29) hS ?_
                  simp only [Act.put, List.setIfInBounds_toArray, List.set_cons_zero, List.set_cons_succ]
                  refine skH (i := 30) hS ?_
                  simp only [Act.put, List.setIfInBounds_toArray, List.set_cons_zero, List.set_cons_succ]
                  refine stH (i := 31) (.bool false) hS ?_ ?_; (· exact fun w' _ => (by go_simp)); simp only [Act.put, List.setIfInBounds_toArray, List.set_cons_zero, List.set_cons_succ]
                  refine stH (i := 32) (.bool false) hS ?_ ?_; (· exact fun w' _ => (by go_simp)); simp only [Act.put, List.setIfInBounds_toArray, List.set_cons_zero, List.set_cons_succ]
                  refine wpAnyH_done (by kernel_rfl) ?_ _
                  clear hS
                  go_wp2
                  go_roundw
                  case rel => exact ⟨i + 1, by omega, by go_num, hL⟩
                  case measure => simp [intOf]; omega
                · skip
                  have d0 : decide (a0 ≤ (i : Int)) = true := by simp; omega
                  have d1 : decide ((i : Int) < a2) = true := by simp; omega
                  have d2 : decide (a1 ≤ (j : Int)) = true := by simp; omega
                  have d3 : decide ((j : Int) < a3) = false := by simp; omega
                  have H1 := Lib.hid (show atPix 14 14 p1 (i : Int) (j : Int) = true by rw [atPix14 hit hjt, hp])
                  have H10 := Lib.hid (show atPix 14 14 (fun j i => p1 j i && rectQ a0 a1 a2 a3 j i) (i : Int) (j : Int) = false by rw [atPix14 hit hjt]; unfold rectQ; simp only [hp, d0, d1, d2, d3]; simp)
                  go_wp2_with (first | (first | (clear hL n1; with_reducible intro b1 w1 hL) | (clear hL n2; with_reducible intro b2 w2 hL) | (clear hL n3; with_reducible intro b3 w3 hL) | (clear hL n4; with_reducible intro b4 w4 hL) | (clear hL n5; with_reducible intro b5 w5 hL) | (clear hL n6; with_reducible intro b6 w6 hL) | (clear hL n7; with_reducible intro b7 w7 hL) | (clear hL n8; with_reducible intro b8 w8 hL) | (clear hL n9; with_reducible intro b9 w9 hL) | (clear hL n10; with_reducible intro b10 w10 hL) | (clear hL n11; with_reducible intro b11 w11 hL) | (clear hL n12; with_reducible intro b12 w12 hL) | (clear hL; with_reducible intro _ _ hL)) | (with_reducible refine wpC_alloc rfl _ rfl _ _ inferInstance hL ?_) | (with_reducible first | refine wpB_agg rfl _ _ _ rfl rfl hL ?_ | refine wpB_one rfl _ _ (.int _ _) rfl rfl rfl hL ?_ | refine wpB_one rfl _ _ (.slice _ _ _) rfl rfl rfl hL ?_ | refine wpB_one rfl _ _ (.bool _) rfl rfl rfl hL ?_ | refine wpB_one rfl _ _ (.pointer _) rfl rfl rfl hL ?_ | refine wpB_one rfl _ _ (.func _ _ _) rfl rfl rfl hL ?_) | (with_reducible first | refine wpH_max rfl _ _ _ _ rfl _ _ rfl rfl ?_ | refine wpH_min rfl _ _ _ _ rfl _ _ rfl rfl ?_) | ((with_reducible refine wpA_load rfl _ _ rfl _ rfl ?_); first | refine loadA hL ?_ | refine loadR hL ?_ | refine loadC hL ?_ | refine loadD ?_ | refine loadE hL ?_ | refine loadF ?_) | ((with_reducible refine wpA_index rfl _ _ _ rfl _ rfl _ rfl ?_); first | (refine indexA ?_; try rw [Int.toNat_natCast]) | refine indexC ?_) | ((with_reducible refine wpA_store rfl _ _ _ rfl _ rfl (.agg _) rfl ?_); refine storeR hL ?_; clear hL; intro _ hL) | ((with_reducible first | refine wpA_store rfl _ _ _ rfl _ rfl (.int _ _) rfl ?_ | refine wpA_store rfl _ _ _ rfl _ rfl (.slice _ _ _) rfl ?_ | refine wpA_store rfl _ _ _ rfl _ rfl (.bool _) rfl ?_ | refine wpA_store rfl _ _ _ rfl _ rfl (.pointer _) rfl ?_ | refine wpA_store rfl _ _ _ rfl _ rfl (.func _ _ _) rfl ?_); (first | refine storeA hL ?_ | refine storeO hL ?_); (clear hL; intro _ hL)) | ((with_reducible refine wpA_lit rfl _ _ _ rfl ?_); first | refine litA1 hL ?_ | refine litA2 hL ?_ | refine litA3 hL ?_ | refine litA4 hL ?_ | refine litA6 hL ?_) | ((with_reducible refine wpA_append rfl _ _ _ rfl (.slice _ _ _) rfl ?_); intro vq hvq; simp [go_sem] at hvq; subst hvq; refine appendA hL ?_; clear hL; intro _ _ _ hL; try dsimp only at hL) | ((with_reducible refine wpA_make rfl _ _ _ rfl _ rfl rfl ?_); refine makeA hL ?_))
                  replace hL := hL.drew
                  have hS := (show (fun w' : World => w'.rangeAt b11 0 #[.int .i64 14, .int .i64 14, .slice sa10 sn10 sc10].toList ∧ w'.rangeAt b2 0 #[.int .i64 14, .int .i64 14, .slice sa1 sn1 sc1].toList ∧ w'.rangeAt b1 0 #[.int .i64 a0, .int .i64 a1, .int .i64 a2, .int .i64 a3].toList) _ from ⟨hL.range (by (repeat (first | with_reducible exact At.here | with_reducible apply At.there))), hL.range (by (repeat (first | with_reducible exact At.here | with_reducible apply At.there))), hL.range (by (repeat (first | with_reducible exact At.here | with_reducible apply At.there)))⟩)
                  refine wpH_begin (by kernel_rfl) (fun w' : World => w'.rangeAt b11 0 #[.int .i64 14, .int .i64 14, .slice sa10 sn10 sc10].toList ∧ w'.rangeAt b2 0 #[.int .i64 14, .int .i64 14, .slice sa1 sn1 sc1].toList ∧ w'.rangeAt b1 0 #[.int .i64 a0, .int .i64 a1, .int .i64 a2, .int .i64 a3].toList) ?_
                  refine stH (i := 0) (.agg #[.int .i64 14, .int .i64 14, .slice sa10 sn10 sc10]) hS ?_ ?_; (· exact fun w' hw => run_loadOp _ _ rfl _ rfl _ (load_range (cs := #[.int .i64 14, .int .i64 14, .slice sa10 sn10 sc10]) rfl hw.1)); simp only [Act.put, List.setIfInBounds_toArray, List.set_cons_zero, List.set_cons_succ]
                  refine stH (i := 1) (.int .i64 i) hS ?_ ?_; (· exact fun w' _ => (by go_simp)); simp only [Act.put, List.setIfInBounds_toArray, List.set_cons_zero, List.set_cons_succ]
                  refine stH (i := 2) (.int .i64 j) hS ?_ ?_; (· exact fun w' _ => (by go_simp)); simp only [Act.put, List.setIfInBounds_toArray, List.set_cons_zero, List.set_cons_succ]
                  refine stH (i := 4) (.agg #[.int .i64 14, .int .i64 14, .slice sa1 sn1 sc1]) hS ?_ ?_; (· exact fun w' hw => run_loadOp _ _ rfl _ rfl _ (load_range (cs := #[.int .i64 14, .int .i64 14, .slice sa1 sn1 sc1]) rfl hw.2.1)); simp only [Act.put, List.setIfInBounds_toArray, List.set_cons_zero, List.set_cons_succ]
                  refine stH (i := 5) (.int .i64 i) hS ?_ ?_; (· exact fun w' _ => (by go_simp)); simp only [Act.put, List.setIfInBounds_toArray, List.set_cons_zero, List.set_cons_succ]
                  refine stH (i := 6) (.int .i64 j) hS ?_ ?_; (· exact fun w' _ => (by go_simp)); simp only [Act.put, List.setIfInBounds_toArray, List.set_cons_zero, List.set_cons_succ]
                  refine wpH_one (i := 3) (by kernel_rfl) (wpOp_of (by simp only [List.getElem?_toArray, List.getElem?_cons_zero, List.getElem?_cons_succ]; rfl) ?_)
                  refine st_call rfl 40 #[.agg #[.int .i64 14, .int .i64 14, .slice sa10 sn10 sc10], .int .i64 i, .int .i64 j] (by go_simp) ((r14_has _ (hL.fact (by repeat (first | with_reducible exact List.mem_cons_self | with_reducible apply List.mem_cons_of_mem))) _ _).mono fun _ _ h => h) ?_
                  rintro e w' ⟨rfl, hb⟩
                  rw [H10.out]
                  replace hL := hL.call hb
                  clear hb hS
                  have hS := (show (fun w' : World => w'.rangeAt b11 0 #[.int .i64 14, .int .i64 14, .slice sa10 sn10 sc10].toList ∧ w'.rangeAt b2 0 #[.int .i64 14, .int .i64 14, .slice sa1 sn1 sc1].toList ∧ w'.rangeAt b1 0 #[.int .i64 a0, .int .i64 a1, .int .i64 a2, .int .i64 a3].toList) _ from ⟨hL.range (by (repeat (first | with_reducible exact At.here | with_reducible apply At.there))), hL.range (by (repeat (first | with_reducible exact At.here | with_reducible apply At.there))), hL.range (by (repeat (first | with_reducible exact At.here | with_reducible apply At.there)))⟩)
                  refine ⟨_, rfl, hS, ?_⟩
                  simp only [Act.put, List.setIfInBounds_toArray, List.set_cons_zero, List.set_cons_succ]
                  refine wpH_one (i := 7) (by kernel_rfl) (wpOp_of (by simp only [List.getElem?_toArray, List.getElem?_cons_zero, List.getElem?_cons_succ]; rfl) ?_)
                  refine st_call rfl 40 #[.agg #[.int .i64 14, .int .i64 14, .slice sa1 sn1 sc1], .int .i64 i, .int .i64 j] (by go_simp) ((r14_has _ (hL.fact (by repeat (first | with_reducible exact List.mem_cons_self | with_reducible apply List.mem_cons_of_mem))) _ _).mono fun _ _ h => h) ?_
                  rintro e w' ⟨rfl, hb⟩
                  rw [H1.out]
                  replace hL := hL.call hb
                  clear hb hS
                  have hS := (show (fun w' : World => w'.rangeAt b11 0 #[.int .i64 14, .int .i64 14, .slice sa10 sn10 sc10].toList ∧ w'.rangeAt b2 0 #[.int .i64 14, .int .i64 14, .slice sa1 sn1 sc1].toList ∧ w'.rangeAt b1 0 #[.int .i64 a0, .int .i64 a1, .int .i64 a2, .int .i64 a3].toList) _ from ⟨hL.range (by (repeat (first | with_reducible exact At.here | with_reducible apply At.there))), hL.range (by (repeat (first | with_reducible exact At.here | with_reducible apply At.there))), hL.range (by (repeat (first | with_reducible exact At.here | with_reducible apply At.there)))⟩)
                  refine ⟨_, rfl, hS, ?_⟩
                  simp only [Act.put, List.setIfInBounds_toArray, List.set_cons_zero, List.set_cons_succ]
                  refine stH (i := 8) (.bool true) hS ?_ ?_; (· exact fun w' _ => (by go_simp)); simp only [Act.put, List.setIfInBounds_toArray, List.set_cons_zero, List.set_cons_succ]
                  refine stH (i := 9) (.int .i64 i) hS ?_ ?_; (· exact fun w' _ => (by go_simp)); simp only [Act.put, List.setIfInBounds_toArray, List.set_cons_zero, List.set_cons_succ]
                  refine stH (i := 10) (.pointer (some ⟨b1, 0, none⟩)) hS ?_ ?_; (· exact fun w' _ => (by go_simp)); simp only [Act.put, List.setIfInBounds_toArray, List.set_cons_zero, List.set_cons_succ]
                  refine stH (i := 11) (.int .i64 a0) hS ?_ ?_; (· exact fun w' hw => run_loadOp _ _ rfl _ rfl _ (load_cell (hw.2.2 0 _ rfl))); simp only [Act.put, List.setIfInBounds_toArray, List.set_cons_zero, List.set_cons_succ]
                  refine stH (i := 12) (.bool true) hS ?_ ?_; (· exact fun w' _ => (by go_simp)); simp only [Act.put, List.setIfInBounds_toArray, List.set_cons_zero, List.set_cons_succ]
                  refine stH (i := 13) (.bool true) hS ?_ ?_; (· exact fun w' _ => (by go_simp)); simp only [Act.put, List.setIfInBounds_toArray, List.set_cons_zero, List.set_cons_succ]
                  refine stH (i := 14) (.bool true) hS ?_ ?_; (· exact fun w' _ => (by go_simp)); simp only [Act.put, List.setIfInBounds_toArray, List.set_cons_zero, List.set_cons_succ]
                  refine stH (i := 15) (.int .i64 i) hS ?_ ?_; (· exact fun w' _ => (by go_simp)); simp only [Act.put, List.setIfInBounds_toArray, List.set_cons_zero, List.set_cons_succ]
                  refine stH (i := 16) (.pointer (some ⟨b1, 2, none⟩)) hS ?_ ?_; (· exact fun w' _ => (by go_simp)); simp only [Act.put, List.setIfInBounds_toArray, List.set_cons_zero, List.set_cons_succ]
                  refine stH (i := 17) (.int .i64 a2) hS ?_ ?_; (· exact fun w' hw => run_loadOp _ _ rfl _ rfl _ (load_cell (hw.2.2 2 _ rfl))); simp only [Act.put, List.setIfInBounds_toArray, List.set_cons_zero, List.set_cons_succ]
                  refine stH (i := 18) (.bool true) hS ?_ ?_; (· exact fun w' _ => (by go_simp)); simp only [Act.put, List.setIfInBounds_toArray, List.set_cons_zero, List.set_cons_succ]
                  refine stH (i := 19) (.bool true) hS ?_ ?_; (· exact fun w' _ => (by go_simp)); simp only [Act.put, List.setIfInBounds_toArray, List.set_cons_zero, List.set_cons_succ]
                  refine stH (i := 20) (.bool true) hS ?_ ?_; (· exact fun w' _ => (by go_simp)); simp only [Act.put, List.setIfInBounds_toArray, List.set_cons_zero, List.set_cons_succ]
                  refine stH (i := 21) (.int .i64 j) hS ?_ ?_; (· exact fun w' _ => (by go_simp)); simp only [Act.put, List.setIfInBounds_toArray, List.set_cons_zero, List.set_cons_succ]
                  refine stH (i := 22) (.pointer (some ⟨b1, 1, none⟩)) hS ?_ ?_; (· exact fun w' _ => (by go_simp)); simp only [Act.put, List.setIfInBounds_toArray, List.set_cons_zero, List.set_cons_succ]
                  refine stH (i := 23) (.int .i64 a1) hS ?_ ?_; (· exact fun w' hw => run_loadOp _ _ rfl _ rfl _ (load_cell (hw.2.2 1 _ rfl))); simp only [Act.put, List.setIfInBounds_toArray, List.set_cons_zero, List.set_cons_succ]
                  refine stH (i := 24) (.bool true) hS ?_ ?_; (· exact fun w' _ => (by go_simp)); simp only [Act.put, List.setIfInBounds_toArray, List.set_cons_zero, List.set_cons_succ]
                  refine stH (i := 25) (.bool true) hS ?_ ?_; (· exact fun w' _ => (by go_simp)); simp only [Act.put, List.setIfInBounds_toArray, List.set_cons_zero, List.set_cons_succ]
                  refine stH (i := 26) (.bool true) hS ?_ ?_; (· exact fun w' _ => (by go_simp)); simp only [Act.put, List.setIfInBounds_toArray, List.set_cons_zero, List.set_cons_succ]
                  refine stH (i := 27) (.int .i64 j) hS ?_ ?_; (· exact fun w' _ => (by go_simp)); simp only [Act.put, List.setIfInBounds_toArray, List.set_cons_zero, List.set_cons_succ]
                  refine stH (i := 28) (.pointer (some ⟨b1, 3, none⟩)) hS ?_ ?_; (· exact fun w' _ => (by go_simp)); simp only [Act.put, List.setIfInBounds_toArray, List.set_cons_zero, List.set_cons_succ]
                  refine stH (i := 29) (.int .i64 a3) hS ?_ ?_; (· exact fun w' hw => run_loadOp _ _ rfl _ rfl _ (load_cell (hw.2.2 3 _ rfl))); simp only [Act.put, List.setIfInBounds_toArray, List.set_cons_zero, List.set_cons_succ]
                  refine stH (i := 30) (.bool false) hS ?_ ?_; (· exact fun w' _ => (by go_simp)); simp only [Act.put, List.setIfInBounds_toArray, List.set_cons_zero, List.set_cons_succ]
                  refine stH (i := 31) (.bool false) hS ?_ ?_; (· exact fun w' _ => (by go_simp)); simp only [Act.put, List.setIfInBounds_toArray, List.set_cons_zero, List.set_cons_succ]
                  refine stH (i := 32) (.bool false) hS ?_ ?_; (· exact fun w' _ => (by go_simp)); simp only [Act.put, List.setIfInBounds_toArray, List.set_cons_zero, List.set_cons_succ]
                  refine wpAnyH_done (by kernel_rfl) ?_ _
                  clear hS
                  go_wp2
                  go_roundw
                  case rel => exact ⟨i + 1, by omega, by go_num, hL⟩
                  case measure => simp [intOf]; omega
                · skip
                  have d0 : decide (a0 ≤ (i : Int)) = true := by simp; omega
                  have d1 : decide ((i : Int) < a2) = true := by simp; omega
                  have d2 : decide (a1 ≤ (j : Int)) = true := by simp; omega
                  have d3 : decide ((j : Int) < a3) = true := by simp; omega
                  have H1 := Lib.hid (show atPix 14 14 p1 (i : Int) (j : Int) = true by rw [atPix14 hit hjt, hp])
                  have H10 := Lib.hid (show atPix 14 14 (fun j i => p1 j i && rectQ a0 a1 a2 a3 j i) (i : Int) (j : Int) = true by rw [atPix14 hit hjt]; unfold rectQ; simp only [hp, d0, d1, d2, d3]; simp)
                  go_wp2_with (first | (first | (clear hL n1; with_reducible intro b1 w1 hL) | (clear hL n2; with_reducible intro b2 w2 hL) | (clear hL n3; with_reducible intro b3 w3 hL) | (clear hL n4; with_reducible intro b4 w4 hL) | (clear hL n5; with_reducible intro b5 w5 hL) | (clear hL n6; with_reducible intro b6 w6 hL) | (clear hL n7; with_reducible intro b7 w7 hL) | (clear hL n8; with_reducible intro b8 w8 hL) | (clear hL n9; with_reducible intro b9 w9 hL) | (clear hL n10; with_reducible intro b10 w10 hL) | (clear hL n11; with_reducible intro b11 w11 hL) | (clear hL n12; with_reducible intro b12 w12 hL) | (clear hL; with_reducible intro _ _ hL)) | (with_reducible refine wpC_alloc rfl _ rfl _ _ inferInstance hL ?_) | (with_reducible first | refine wpB_agg rfl _ _ _ rfl rfl hL ?_ | refine wpB_one rfl _ _ (.int _ _) rfl rfl rfl hL ?_ | refine wpB_one rfl _ _ (.slice _ _ _) rfl rfl rfl hL ?_ | refine wpB_one rfl _ _ (.bool _) rfl rfl rfl hL ?_ | refine wpB_one rfl _ _ (.pointer _) rfl rfl rfl hL ?_ | refine wpB_one rfl _ _ (.func _ _ _) rfl rfl rfl hL ?_) | (with_reducible first | refine wpH_max rfl _ _ _ _ rfl _ _ rfl rfl ?_ | refine wpH_min rfl _ _ _ _ rfl _ _ rfl rfl ?_) | ((with_reducible refine wpA_load rfl _ _ rfl _ rfl ?_); first | refine loadA hL ?_ | refine loadR hL ?_ | refine loadC hL ?_ | refine loadD ?_ | refine loadE hL ?_ | refine loadF ?_) | ((with_reducible refine wpA_index rfl _ _ _ rfl _ rfl _ rfl ?_); first | (refine indexA ?_; try rw [Int.toNat_natCast]) | refine indexC ?_) | ((with_reducible refine wpA_store rfl _ _ _ rfl _ rfl (.agg _) rfl ?_); refine storeR hL ?_; clear hL; intro _ hL) | ((with_reducible first | refine wpA_store rfl _ _ _ rfl _ rfl (.int _ _) rfl ?_ | refine wpA_store rfl _ _ _ rfl _ rfl (.slice _ _ _) rfl ?_ | refine wpA_store rfl _ _ _ rfl _ rfl (.bool _) rfl ?_ | refine wpA_store rfl _ _ _ rfl _ rfl (.pointer _) rfl ?_ | refine wpA_store rfl _ _ _ rfl _ rfl (.func _ _ _) rfl ?_); (first | refine storeA hL ?_ | refine storeO hL ?_); (clear hL; intro _ hL)) | ((with_reducible refine wpA_lit rfl _ _ _ rfl ?_); first | refine litA1 hL ?_ | refine litA2 hL ?_ | refine litA3 hL ?_ | refine litA4 hL ?_ | refine litA6 hL ?_) | ((with_reducible refine wpA_append rfl _ _ _ rfl (.slice _ _ _) rfl ?_); intro vq hvq; simp [go_sem] at hvq; subst hvq; refine appendA hL ?_; clear hL; intro _ _ _ hL; try dsimp only at hL) | ((with_reducible refine wpA_make rfl _ _ _ rfl _ rfl rfl ?_); refine makeA hL ?_))
                  replace hL := hL.drew
                  have hS := (show (fun w' : World => w'.rangeAt b11 0 #[.int .i64 14, .int .i64 14, .slice sa10 sn10 sc10].toList ∧ w'.rangeAt b2 0 #[.int .i64 14, .int .i64 14, .slice sa1 sn1 sc1].toList ∧ w'.rangeAt b1 0 #[.int .i64 a0, .int .i64 a1, .int .i64 a2, .int .i64 a3].toList) _ from ⟨hL.range (by (repeat (first | with_reducible exact At.here | with_reducible apply At.there))), hL.range (by (repeat (first | with_reducible exact At.here | with_reducible apply At.there))), hL.range (by (repeat (first | with_reducible exact At.here | with_reducible apply At.there)))⟩)
                  refine wpH_begin (by kernel_rfl) (fun w' : World => w'.rangeAt b11 0 #[.int .i64 14, .int .i64 14, .slice sa10 sn10 sc10].toList ∧ w'.rangeAt b2 0 #[.int .i64 14, .int .i64 14, .slice sa1 sn1 sc1].toList ∧ w'.rangeAt b1 0 #[.int .i64 a0, .int .i64 a1, .int .i64 a2, .int .i64 a3].toList) ?_
                  refine stH (i := 0) (.agg #[.int .i64 14, .int .i64 14, .slice sa10 sn10 sc10]) hS ?_ ?_; (· exact fun w' hw => run_loadOp _ _ rfl _ rfl _ (load_range (cs := #[.int .i64 14, .int .i64 14, .slice sa10 sn10 sc10]) rfl hw.1)); simp only [Act.put, List.setIfInBounds_toArray, List.set_cons_zero, List.set_cons_succ]
                  refine stH (i := 1) (.int .i64 i) hS ?_ ?_; (· exact fun w' _ => (by go_simp)); simp only [Act.put, List.setIfInBounds_toArray, List.set_cons_zero, List.set_cons_succ]
                  refine stH (i := 2) (.int .i64 j) hS ?_ ?_; (· exact fun w' _ => (by go_simp)); simp only [Act.put, List.setIfInBounds_toArray, List.set_cons_zero, List.set_cons_succ]
                  refine stH (i := 4) (.agg #[.int .i64 14, .int .i64 14, .slice sa1 sn1 sc1]) hS ?_ ?_; (· exact fun w' hw => run_loadOp _ _ rfl _ rfl _ (load_range (cs := #[.int .i64 14, .int .i64 14, .slice sa1 sn1 sc1]) rfl hw.2.1)); simp only [Act.put, List.setIfInBounds_toArray, List.set_cons_zero, List.set_cons_succ]
                  refine stH (i := 5) (.int .i64 i) hS ?_ ?_; (· exact fun w' _ => (by go_simp)); simp only [Act.put, List.setIfInBounds_toArray, List.set_cons_zero, List.set_cons_succ]
                  refine stH (i := 6) (.int .i64 j) hS ?_ ?_; (· exact fun w' _ => (by go_simp)); simp only [Act.put, List.setIfInBounds_toArray, List.set_cons_zero, List.set_cons_succ]
                  refine wpH_one (i := 3) (by kernel_rfl) (wpOp_of (by simp only [List.getElem?_toArray, List.getElem?_cons_zero, List.getElem?_cons_succ]; rfl) ?_)
                  refine st_call rfl 40 #[.agg #[.int .i64 14, .int .i64 14, .slice sa10 sn10 sc10], .int .i64 i, .int .i64 j] (by go_simp) ((r14_has _ (hL.fact (by repeat (first | with_reducible exact List.mem_cons_self | with_reducible apply List.mem_cons_of_mem))) _ _).mono fun _ _ h => h) ?_
                  rintro e w' ⟨rfl, hb⟩
                  rw [H10.out]
                  replace hL := hL.call hb
                  clear hb hS
                  have hS := (show (fun w' : World => w'.rangeAt b11 0 #[.int .i64 14, .int .i64 14, .slice sa10 sn10 sc10].toList ∧ w'.rangeAt b2 0 #[.int .i64 14, .int .i64 14, .slice sa1 sn1 sc1].toList ∧ w'.rangeAt b1 0 #[.int .i64 a0, .int .i64 a1, .int .i64 a2, .int .i64 a3].toList) _ from ⟨hL.range (by (repeat (first | with_reducible exact At.here | with_reducible apply At.there))), hL.range (by (repeat (first | with_reducible exact At.here | with_reducible apply At.there))), hL.range (by (repeat (first | with_reducible exact At.here | with_reducible apply At.there)))⟩)
                  refine ⟨_, rfl, hS, ?_⟩
                  simp only [Act.put, List.setIfInBounds_toArray, List.set_cons_zero, List.set_cons_succ]
                  refine wpH_one (i := 7) (by kernel_rfl) (wpOp_of (by simp only [List.getElem?_toArray, List.getElem?_cons_zero, List.getElem?_cons_succ]; rfl) ?_)
                  refine st_call rfl 40 #[.agg #[.int .i64 14, .int .i64 14, .slice sa1 sn1 sc1], .int .i64 i, .int .i64 j] (by go_simp) ((r14_has _ (hL.fact (by repeat (first | with_reducible exact List.mem_cons_self | with_reducible apply List.mem_cons_of_mem))) _ _).mono fun _ _ h => h) ?_
                  rintro e w' ⟨rfl, hb⟩
                  rw [H1.out]
                  replace hL := hL.call hb
                  clear hb hS
                  have hS := (show (fun w' : World => w'.rangeAt b11 0 #[.int .i64 14, .int .i64 14, .slice sa10 sn10 sc10].toList ∧ w'.rangeAt b2 0 #[.int .i64 14, .int .i64 14, .slice sa1 sn1 sc1].toList ∧ w'.rangeAt b1 0 #[.int .i64 a0, .int .i64 a1, .int .i64 a2, .int .i64 a3].toList) _ from ⟨hL.range (by (repeat (first | with_reducible exact At.here | with_reducible apply At.there))), hL.range (by (repeat (first | with_reducible exact At.here | with_reducible apply At.there))), hL.range (by (repeat (first | with_reducible exact At.here | with_reducible apply At.there)))⟩)
                  refine ⟨_, rfl, hS, ?_⟩
                  simp only [Act.put, List.setIfInBounds_toArray, List.set_cons_zero, List.set_cons_succ]
                  refine stH (i := 8) (.bool true) hS ?_ ?_; (· exact fun w' _ => (by go_simp)); simp only [Act.put, List.setIfInBounds_toArray, List.set_cons_zero, List.set_cons_succ]
                  refine stH (i := 9) (.int .i64 i) hS ?_ ?_; (· exact fun w' _ => (by go_simp)); simp only [Act.put, List.setIfInBounds_toArray, List.set_cons_zero, List.set_cons_succ]
                  refine stH (i := 10) (.pointer (some ⟨b1, 0, none⟩)) hS ?_ ?_; (· exact fun w' _ => (by go_simp)); simp only [Act.put, List.setIfInBounds_toArray, List.set_cons_zero, List.set_cons_succ]
                  refine stH (i := 11) (.int .i64 a0) hS ?_ ?_; (· exact fun w' hw => run_loadOp _ _ rfl _ rfl _ (load_cell (hw.2.2 0 _ rfl))); simp only [Act.put, List.setIfInBounds_toArray, List.set_cons_zero, List.set_cons_succ]
                  refine stH (i := 12) (.bool true) hS ?_ ?_; (· exact fun w' _ => (by go_simp)); simp only [Act.put, List.setIfInBounds_toArray, List.set_cons_zero, List.set_cons_succ]
                  refine stH (i := 13) (.bool true) hS ?_ ?_; (· exact fun w' _ => (by go_simp)); simp only [Act.put, List.setIfInBounds_toArray, List.set_cons_zero, List.set_cons_succ]
                  refine stH (i := 14) (.bool true) hS ?_ ?_; (· exact fun w' _ => (by go_simp)); simp only [Act.put, List.setIfInBounds_toArray, List.set_cons_zero, List.set_cons_succ]
                  refine stH (i := 15) (.int .i64 i) hS ?_ ?_; (· exact fun w' _ => (by go_simp)); simp only [Act.put, List.setIfInBounds_toArray, List.set_cons_zero, List.set_cons_succ]
                  refine stH (i := 16) (.pointer (some ⟨b1, 2, none⟩)) hS ?_ ?_; (· exact fun w' _ => (by go_simp)); simp only [Act.put, List.setIfInBounds_toArray, List.set_cons_zero, List.set_cons_succ]
                  refine stH (i := 17) (.int .i64 a2) hS ?_ ?_; (· exact fun w' hw => run_loadOp _ _ rfl _ rfl _ (load_cell (hw.2.2 2 _ rfl))); simp only [Act.put, List.setIfInBounds_toArray, List.set_cons_zero, List.set_cons_succ]
                  refine stH (i := 18) (.bool true) hS ?_ ?_; (· exact fun w' _ => (by go_simp)); simp only [Act.put, List.setIfInBounds_toArray, List.set_cons_zero, List.set_cons_succ]
                  refine stH (i := 19) (.bool true) hS ?_ ?_; (· exact fun w' _ => (by go_simp)); simp only [Act.put, List.setIfInBounds_toArray, List.set_cons_zero, List.set_cons_succ]
                  refine stH (i := 20) (.bool true) hS ?_ ?_; (· exact fun w' _ => (by go_simp)); simp only [Act.put, List.setIfInBounds_toArray, List.set_cons_zero, List.set_cons_succ]
                  refine stH (i := 21) (.int .i64 j) hS ?_ ?_; (· exact fun w' _ => (by go_simp)); simp only [Act.put, List.setIfInBounds_toArray, List.set_cons_zero, List.set_cons_succ]
                  refine stH (i := 22) (.pointer (some ⟨b1, 1, none⟩)) hS ?_ ?_; (· exact fun w' _ => (by go_simp)); simp only [Act.put, List.setIfInBounds_toArray, List.set_cons_zero, List.set_cons_succ]
                  refine stH (i := 23) (.int .i64 a1) hS ?_ ?_; (· exact fun w' hw => run_loadOp _ _ rfl _ rfl _ (load_cell (hw.2.2 1 _ rfl))); simp only [Act.put, List.setIfInBounds_toArray, List.set_cons_zero, List.set_cons_succ]
                  refine stH (i := 24) (.bool true) hS ?_ ?_; (· exact fun w' _ => (by go_simp)); simp only [Act.put, List.setIfInBounds_toArray, List.set_cons_zero, List.set_cons_succ]
                  refine stH (i := 25) (.bool true) hS ?_ ?_; (· exact fun w' _ => (by go_simp)); simp only [Act.put, List.setIfInBounds_toArray, List.set_cons_zero, List.set_cons_succ]
                  refine stH (i := 26) (.bool true) hS ?_ ?_; (· exact fun w' _ => (by go_simp)); simp only [Act.put, List.setIfInBounds_toArray, List.set_cons_zero, List.set_cons_succ]
                  refine stH (i := 27) (.int .i64 j) hS ?_ ?_; (· exact fun w' _ => (by go_simp)); simp only [Act.put, List.setIfInBounds_toArray, List.set_cons_zero, List.set_cons_succ]
                  refine stH (i := 28) (.pointer (some ⟨b1, 3, none⟩)) hS ?_ ?_; (· exact fun w' _ => (by go_simp)); simp only [Act.put, List.setIfInBounds_toArray, List.set_cons_zero, List.set_cons_succ]
                  refine stH (i := 29) (.int .i64 a3) hS ?_ ?_; (· exact fun w' hw => run_loadOp _ _ rfl _ rfl _ (load_cell (hw.2.2 3 _ rfl))); simp only [Act.put, List.setIfInBounds_toArray, List.set_cons_zero, List.set_cons_succ]
                  refine stH (i := 30) (.bool true) hS ?_ ?_; (· exact fun w' _ => (by go_simp)); simp only [Act.put, List.setIfInBounds_toArray, List.set_cons_zero, List.set_cons_succ]
                  refine stH (i := 31) (.bool true) hS ?_ ?_; (· exact fun w' _ => (by go_simp)); simp only [Act.put, List.setIfInBounds_toArray, List.set_cons_zero, List.set_cons_succ]
                  refine stH (i := 32) (.bool false) hS ?_ ?_; (· exact fun w' _ => (by go_simp)); simp only [Act.put, List.setIfInBounds_toArray, List.set_cons_zero, List.set_cons_succ]
                  refine wpAnyH_done (by kernel_rfl) ?_ _
                  clear hS
                  go_wp2
                  go_roundw
                  case rel => exact ⟨i + 1, by omega, by go_num, hL⟩
                  case measure => simp [intOf]; omega
            · go_wp2_with (first | (first | (clear hL n1; with_reducible intro b1 w1 hL) | (clear hL n2; with_reducible intro b2 w2 hL) | (clear hL n3; with_reducible intro b3 w3 hL) | (clear hL n4; with_reducible intro b4 w4 hL) | (clear hL n5; with_reducible intro b5 w5 hL) | (clear hL n6; with_reducible intro b6 w6 hL) | (clear hL n7; with_reducible intro b7 w7 hL) | (clear hL n8; with_reducible intro b8 w8 hL) | (clear hL n9; with_reducible intro b9 w9 hL) | (clear hL n10; with_reducible intro b10 w10 hL) | (clear hL n11; with_reducible intro b11 w11 hL) | (clear hL n12; with_reducible intro b12 w12 hL) | (clear hL; with_reducible intro _ _ hL)) | (with_reducible refine wpC_alloc rfl _ rfl _ _ inferInstance hL ?_) | (with_reducible first | refine wpB_agg rfl _ _ _ rfl rfl hL ?_ | refine wpB_one rfl _ _ (.int _ _) rfl rfl rfl hL ?_ | refine wpB_one rfl _ _ (.slice _ _ _) rfl rfl rfl hL ?_ | refine wpB_one rfl _ _ (.bool _) rfl rfl rfl hL ?_ | refine wpB_one rfl _ _ (.pointer _) rfl rfl rfl hL ?_ | refine wpB_one rfl _ _ (.func _ _ _) rfl rfl rfl hL ?_) | (with_reducible first | refine wpH_max rfl _ _ _ _ rfl _ _ rfl rfl ?_ | refine wpH_min rfl _ _ _ _ rfl _ _ rfl rfl ?_) | ((with_reducible refine wpA_load rfl _ _ rfl _ rfl ?_); first | refine loadA hL ?_ | refine loadR hL ?_ | refine loadC hL ?_ | refine loadD ?_ | refine loadE hL ?_ | refine loadF ?_) | ((with_reducible refine wpA_index rfl _ _ _ rfl _ rfl _ rfl ?_); first | (refine indexA ?_; try rw [Int.toNat_natCast]) | refine indexC ?_) | ((with_reducible refine wpA_store rfl _ _ _ rfl _ rfl (.agg _) rfl ?_); refine storeR hL ?_; clear hL; intro _ hL) | ((with_reducible first | refine wpA_store rfl _ _ _ rfl _ rfl (.int _ _) rfl ?_ | refine wpA_store rfl _ _ _ rfl _ rfl (.slice _ _ _) rfl ?_ | refine wpA_store rfl _ _ _ rfl _ rfl (.bool _) rfl ?_ | refine wpA_store rfl _ _ _ rfl _ rfl (.pointer _) rfl ?_ | refine wpA_store rfl _ _ _ rfl _ rfl (.func _ _ _) rfl ?_); (first | refine storeA hL ?_ | refine storeO hL ?_); (clear hL; intro _ hL)) | ((with_reducible refine wpA_lit rfl _ _ _ rfl ?_); first | refine litA1 hL ?_ | refine litA2 hL ?_ | refine litA3 hL ?_ | refine litA4 hL ?_ | refine litA6 hL ?_) | ((with_reducible refine wpA_append rfl _ _ _ rfl (.slice _ _ _) rfl ?_); intro vq hvq; simp [go_sem] at hvq; subst hvq; refine appendA hL ?_; clear hL; intro _ _ _ hL; try dsimp only at hL) | ((with_reducible refine wpA_make rfl _ _ _ rfl _ rfl rfl ?_); refine makeA hL ?_))
              go_roundw
              case rel => exact ⟨j + 1, by omega, by go_num, hL⟩
              case measure => simp [intOf]; omega
        · go_wp2_with (first | (first | (clear hL n1; with_reducible intro b1 w1 hL) | (clear hL n2; with_reducible intro b2 w2 hL) | (clear hL n3; with_reducible intro b3 w3 hL) | (clear hL n4; with_reducible intro b4 w4 hL) | (clear hL n5; with_reducible intro b5 w5 hL) | (clear hL n6; with_reducible intro b6 w6 hL) | (clear hL n7; with_reducible intro b7 w7 hL) | (clear hL n8; with_reducible intro b8 w8 hL) | (clear hL n9; with_reducible intro b9 w9 hL) | (clear hL n10; with_reducible intro b10 w10 hL) | (clear hL n11; with_reducible intro b11 w11 hL) | (clear hL n12; with_reducible intro b12 w12 hL) | (clear hL; with_reducible intro _ _ hL)) | (with_reducible refine wpC_alloc rfl _ rfl _ _ inferInstance hL ?_) | (with_reducible first | refine wpB_agg rfl _ _ _ rfl rfl hL ?_ | refine wpB_one rfl _ _ (.int _ _) rfl rfl rfl hL ?_ | refine wpB_one rfl _ _ (.slice _ _ _) rfl rfl rfl hL ?_ | refine wpB_one rfl _ _ (.bool _) rfl rfl rfl hL ?_ | refine wpB_one rfl _ _ (.pointer _) rfl rfl rfl hL ?_ | refine wpB_one rfl _ _ (.func _ _ _) rfl rfl rfl hL ?_) | (with_reducible first | refine wpH_max rfl _ _ _ _ rfl _ _ rfl rfl ?_ | refine wpH_min rfl _ _ _ _ rfl _ _ rfl rfl ?_) | ((with_reducible refine wpA_load rfl _ _ rfl _ rfl ?_); first | refine loadA hL ?_ | refine loadR hL ?_ | refine loadC hL ?_ | refine loadD ?_ | refine loadE hL ?_ | refine loadF ?_) | ((with_reducible refine wpA_index rfl _ _ _ rfl _ rfl _ rfl ?_); first | (refine indexA ?_; try rw [Int.toNat_natCast]) | refine indexC ?_) | ((with_reducible refine wpA_store rfl _ _ _ rfl _ rfl (.agg _) rfl ?_); refine storeR hL ?_; clear hL; intro _ hL) | ((with_reducible first | refine wpA_store rfl _ _ _ rfl _ rfl (.int _ _) rfl ?_ | refine wpA_store rfl _ _ _ rfl _ rfl (.slice _ _ _) rfl ?_ | refine wpA_store rfl _ _ _ rfl _ rfl (.bool _) rfl ?_ | refine wpA_store rfl _ _ _ rfl _ rfl (.pointer _) rfl ?_ | refine wpA_store rfl _ _ _ rfl _ rfl (.func _ _ _) rfl ?_); (first | refine storeA hL ?_ | refine storeO hL ?_); (clear hL; intro _ hL)) | ((with_reducible refine wpA_lit rfl _ _ _ rfl ?_); first | refine litA1 hL ?_ | refine litA2 hL ?_ | refine litA3 hL ?_ | refine litA4 hL ?_ | refine litA6 hL ?_) | ((with_reducible refine wpA_append rfl _ _ _ rfl (.slice _ _ _) rfl ?_); intro vq hvq; simp [go_sem] at hvq; subst hvq; refine appendA hL ?_; clear hL; intro _ _ _ hL; try dsimp only at hL) | ((with_reducible refine wpA_make rfl _ _ _ rfl _ rfl rfl ?_); refine makeA hL ?_))
          go_ret
          exact ⟨rfl, hL.below⟩
end Go.Proofs.Ytjgnbmgdnfldeaa
