/- CoverSums returns true. -/
import Derived.Test.YtneddfiohekhiaaJnL
import Derived.Test.YtneddfiohekhiaaBoxM
import Derived.Test.YtneddfiohekhiaaKn
-- uses arrU
-- lit6
namespace Go.Proofs.Ytneddfiohekhiaa
open Go.RowKit

/-- a fact on a value that stands in the list: found by itself -/
class SegFact (Φ : List (World → Prop)) (v : Value) (l : List Sg) : Prop where
  out : (fun w => SegsAt w v l) ∈ Φ
instance (priority := high) SegFact.here {Φ : List (World → Prop)} {v : Value} {l : List Sg} : SegFact ((fun w => SegsAt w v l) :: Φ) v l := ⟨List.mem_cons_self⟩
instance (priority := low) SegFact.there {Φ : List (World → Prop)} {φ : World → Prop} {v : Value} {l : List Sg} [h : SegFact Φ v l] : SegFact (φ :: Φ) v l := ⟨List.mem_cons_of_mem _ h.out⟩
class MaskFact (Φ : List (World → Prop)) (v : Value) (m : outParam Msk) : Prop where
  out : MaskF v m ∈ Φ
instance (priority := high) MaskFact.here {Φ : List (World → Prop)} {v : Value} {m : Msk} : MaskFact (MaskF v m :: Φ) v m := ⟨List.mem_cons_self⟩
instance (priority := low) MaskFact.there {Φ : List (World → Prop)} {φ : World → Prop} {v : Value} {m : Msk} [h : MaskFact Φ v m] : MaskFact (φ :: Φ) v m := ⟨List.mem_cons_of_mem _ h.out⟩
theorem Holds.segs {w0 w : World} {M : List Res} {Φ : List (World → Prop)} {v : Value} {l : List Sg} (hL : Holds w0 w M Φ) [h : SegFact Φ v l] : SegsAt w v l := hL.fact h.out
theorem Holds.maskK {w0 w : World} {M : List Res} {Φ : List (World → Prop)} {v : Value} {m : Msk} (hL : Holds w0 w M Φ) [h : MaskFact Φ v m] : MaskF v m w := hL.fact h.out
theorem back_len {l : List Sg} (h : pathMay l = true) : (backS l).length ≤ l.length := by
  have hc : contoursS l = ctFold l [] none 0 0 := by unfold contoursS; rw [h]; rfl
  unfold backS
  rw [hc, backs_len]
  have := ctFold_pieces l [] none 0 0
  simpa using this
def maskQ (r : Int) (l : List Sg) (j i : Nat) : Bool := isIn r (windG (edgesS l) (16 * (i : Int) + 8) (16 * (j : Int) + 8))
theorem nz_two (k : Int) : isIn 0 (k + k) = isIn 0 k := by
  have h : ∀ n : Int, isIn 0 n = decide (n ≠ 0) := fun _ => rfl
  rw [h, h]; exact decide_eq_decide.2 (by omega)
theorem ev_two (k : Int) : isIn 1 (k + k) = false := by
  have h : ∀ n : Int, isIn 1 n = decide (n % 2 ≠ 0) := fun _ => rfl
  rw [h]; exact decide_eq_false (by omega)
theorem count_none : pixCount 10 (fun _ _ => false) 10 = 0 := by decide

set_option maxRecDepth 100000 in
set_option maxHeartbeats 8000000 in
theorem coverSums_calls (w : World) (va vb : Value) (na nb : List Int) (ha : NumsAt w va na) (hb : NumsAt w vb nb) : Calls Try.prog 12 #[va, vb] w fun e w' => e = .returned (.bool true) ∧ Below w.heap.size w w' := by
  have hs : Sides 10 10 := ⟨by decide, by decide, by decide, by decide⟩
  have hL := Holds.start w
  obtain ⟨a, cap, rfl, _⟩ := ha.parts
  obtain ⟨a', cap', rfl, _⟩ := hb.parts
  have HM1 := Lib.hid (fun w' hb => made_calls w' _ na (SliceAt.below ha hb) true)
  have HM2 := Lib.hid (fun w' h => made_calls w' _ nb (SliceAt.below hb h) true)
  clear ha hb
  have m1 := made_may na true
  have m2 := made_may nb true
  have l1 := (made_good na true).2
  have l2 := (made_good nb true).2
  generalize madeS na true = S1 at *
  generalize madeS nb true = S2 at *
  have mb := (back_contours m1).1
  have lb := back_len m1
  obtain ⟨mj, ej⟩ := join_law m1 m2 (by omega)
  obtain ⟨mt, et⟩ := join_law m1 m1 (by omega)
  obtain ⟨mz, ez⟩ := join_law m1 mb (by omega)
  have HJ := Lib.hid (fun w' v u hv hu => join_calls w' v u S1 S2 hv hu m1 m2 (by omega))
  have HT := Lib.hid (fun w' v u hv hu => join_calls w' v u S1 S1 hv hu m1 m1 (by omega))
  have HZ := Lib.hid (fun w' v u hv hu => join_calls w' v u S1 (backS S1) hv hu m1 mb (by omega))
  have HB := Lib.hid (fun w' v hv => back_calls w' v S1 hv)
  have qj : maskQ 1 (joinS S1 S2) = fun j i => maskQ 1 S1 j i != maskQ 1 S2 j i := by
    funext j i; unfold maskQ; rw [ej, windG_append, odd_add]
  have qt : maskQ 0 (joinS S1 S1) = maskQ 0 S1 := by
    funext j i; unfold maskQ; rw [et, windG_append, nz_two]
  have qu : maskQ 1 (joinS S1 S1) = fun _ _ => false := by
    funext j i; unfold maskQ; rw [et, windG_append, ev_two]
  have qz : maskQ 0 (joinS S1 (backS S1)) = fun _ _ => false := by
    funext j i; unfold maskQ; rw [ez, windG_append, back_wind m1, Int.add_right_neg]; rfl
  have mk : ∀ (r : Int) (l : List Sg), (r = 0 ∨ r = 1) → pathMay l = true → ∀ w' v, SegsAt w' v l → Calls Try.prog 14 #[v, .int .i64 r, .int .i64 10, .int .i64 10] w' (MaskOutK 10 10 10 10 100 (maskQ r l) w') := fun r l hr hm w' v hv => coverMaskK_calls (W := 10) (H := 10) (Wi := 10) (Hi := 10) (n := 100) rfl rfl rfl hs w' v l hv hm r hr
  have A1 := Lib.hid (mk 1 S1 (.inr rfl) m1)
  have A2 := Lib.hid (mk 1 S2 (.inr rfl) m2)
  have A3 := Lib.hid (mk 1 _ (.inr rfl) mj)
  have A4 := Lib.hid (mk 0 S1 (.inl rfl) m1)
  have A5 := Lib.hid (mk 0 _ (.inl rfl) mt)
  have A6 := Lib.hid (mk 0 _ (.inl rfl) mz)
  have A7 := Lib.hid (mk 1 _ (.inr rfl) mt)
  rw [qj] at A3
  rw [qt] at A5
  rw [qz] at A6
  rw [qu] at A7
  have HCn := Lib.hid (fun w' ma h => countK_calls (W := 10) (H := 10) (Wi := 10) (Hi := 10) (n := 100) rfl rfl rfl hs w' ma (fun _ _ => false) h)
  rw [count_none] at HCn
  clear qj qt qu qz mk m1 m2 mb mj mt mz ej et ez lb l1 l2
  generalize maskQ 1 S1 = Q1 at *
  generalize maskQ 1 S2 = Q2 at *
  generalize maskQ 0 S1 = Q3 at *
  generalize joinS S1 S2 = J at *
  generalize joinS S1 S1 = T at *
  generalize joinS S1 (backS S1) = Z at *
  generalize backS S1 = B at *
  have n1 : True := trivial; have n2 : True := trivial; have n3 : True := trivial; have n4 : True := trivial; have n5 : True := trivial; have n6 : True := trivial; have n7 : True := trivial; have n8 : True := trivial
  go_enter Try.func12, Try.ntmps12
  go_wp2_with (first | (go_at_call 13; (with_reducible refine (known_calls _).mono ?_); rintro e _ ⟨rfl, hb⟩; replace hL := hL.call hb; clear hb) | (go_at_call 17; (first | ((with_reducible refine (HM1.out _ hL.below).mono ?_); rintro e _ ⟨vs, rfl, hb, hf⟩) | ((with_reducible refine (HM2.out _ hL.below).mono ?_); rintro e _ ⟨vt, rfl, hb, hf⟩)); replace hL := hL.callF hb hf; clear hb hf) | (go_at_call 37; (with_reducible refine (HB.out _ vs hL.segs).mono ?_); rintro e _ ⟨vk, rfl, hb, hf⟩; replace hL := hL.callF hb hf; clear hb hf) | (go_at_call 38; (first | ((with_reducible refine (HJ.out _ vs vt hL.segs hL.segs).mono ?_); rintro e _ ⟨vj, rfl, hb, hf⟩) | ((with_reducible refine (HT.out _ vs vs hL.segs hL.segs).mono ?_); rintro e _ ⟨vw, rfl, hb, hf⟩) | ((with_reducible refine (HZ.out _ vs vk hL.segs hL.segs).mono ?_); rintro e _ ⟨vz, rfl, hb, hf⟩)); replace hL := hL.callF hb hf; clear hb hf) | (go_at_call 14; (with_reducible first | refine (A1.out _ vs hL.segs).mono ?_ | refine (A2.out _ vt hL.segs).mono ?_ | refine (A3.out _ vj hL.segs).mono ?_ | refine (A4.out _ vs hL.segs).mono ?_ | refine (A5.out _ vw hL.segs).mono ?_ | refine (A6.out _ vz hL.segs).mono ?_ | refine (A7.out _ vw hL.segs).mono ?_); rintro e _ ⟨mx, rfl, hb, hf⟩; replace hL := hL.callF hb hf; clear hb hf) | (go_at_call 26; (with_reducible refine (otherK_calls (W := 10) (H := 10) (Wi := 10) (Hi := 10) (n := 100) rfl rfl rfl hs _ _ _ _ _ (hL.maskK) (hL.maskK)).mono ?_); rintro e _ ⟨mo, rfl, hb, hf⟩; replace hL := hL.callF hb hf; clear hb hf) | (go_at_call 21; (with_reducible refine (sameK_calls (W := 10) (H := 10) (Wi := 10) (Hi := 10) (n := 100) rfl rfl rfl hs _ _ _ _ _ (hL.maskK) (hL.maskK) (fun _ _ _ _ => rfl)).mono ?_); rintro e _ ⟨rfl, hb⟩; replace hL := hL.call hb; clear hb) | (go_at_call 22; (with_reducible refine (HCn.out _ _ (hL.maskK)).mono ?_); rintro e _ ⟨rfl, hb⟩; replace hL := hL.call hb; clear hb) | (first | (clear hL n1; with_reducible intro b1 w1 hL) | (clear hL n2; with_reducible intro b2 w2 hL) | (clear hL n3; with_reducible intro b3 w3 hL) | (clear hL n4; with_reducible intro b4 w4 hL) | (clear hL n5; with_reducible intro b5 w5 hL) | (clear hL n6; with_reducible intro b6 w6 hL) | (clear hL n7; with_reducible intro b7 w7 hL) | (clear hL n8; with_reducible intro b8 w8 hL) | (clear hL; with_reducible intro _ _ hL)) | (with_reducible refine wpC_alloc rfl _ rfl _ _ inferInstance hL ?_) | (with_reducible first | refine wpB_agg rfl _ _ _ rfl rfl hL ?_ | refine wpB_one rfl _ _ (.int _ _) rfl rfl rfl hL ?_ | refine wpB_one rfl _ _ (.slice _ _ _) rfl rfl rfl hL ?_ | refine wpB_one rfl _ _ (.bool _) rfl rfl rfl hL ?_ | refine wpB_one rfl _ _ (.pointer _) rfl rfl rfl hL ?_ | refine wpB_one rfl _ _ (.func _ _ _) rfl rfl rfl hL ?_) | (with_reducible first | refine wpH_max rfl _ _ _ _ rfl _ _ rfl rfl ?_ | refine wpH_min rfl _ _ _ _ rfl _ _ rfl rfl ?_) | ((with_reducible refine wpA_load rfl _ _ rfl _ rfl ?_); first | refine loadA hL ?_ | refine loadR hL ?_ | refine loadC hL ?_ | refine loadD ?_ | refine loadE hL ?_ | refine loadF ?_) | ((with_reducible refine wpA_index rfl _ _ _ rfl _ rfl _ rfl ?_); first | (refine indexA ?_; try rw [Int.toNat_natCast]) | refine indexC ?_) | ((with_reducible refine wpA_store rfl _ _ _ rfl _ rfl (.agg _) rfl ?_); refine storeR hL ?_; clear hL; intro _ hL) | ((with_reducible first | refine wpA_store rfl _ _ _ rfl _ rfl (.int _ _) rfl ?_ | refine wpA_store rfl _ _ _ rfl _ rfl (.slice _ _ _) rfl ?_ | refine wpA_store rfl _ _ _ rfl _ rfl (.bool _) rfl ?_ | refine wpA_store rfl _ _ _ rfl _ rfl (.pointer _) rfl ?_ | refine wpA_store rfl _ _ _ rfl _ rfl (.func _ _ _) rfl ?_); (first | refine storeA hL ?_ | refine storeO hL ?_); (clear hL; intro _ hL)) | ((with_reducible refine wpA_lit rfl _ _ _ rfl ?_); first | refine litA1 hL ?_ | refine litA2 hL ?_ | refine litA3 hL ?_ | refine litA4 hL ?_ | refine litA6 hL ?_) | ((with_reducible refine wpA_append rfl _ _ _ rfl (.slice _ _ _) rfl ?_); intro vq hvq; simp [go_sem] at hvq; subst hvq; refine appendA hL ?_; clear hL; intro _ _ _ hL; try dsimp only at hL) | ((with_reducible refine wpA_make rfl _ _ _ rfl _ rfl rfl ?_); refine makeA hL ?_))
  go_ret
  exact ⟨rfl, hL.below⟩
end Go.Proofs.Ytneddfiohekhiaa
