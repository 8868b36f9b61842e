/- HemPieces returns true. -/
import Derived.Test.YtfnolaoohmecbaaHmM
import Derived.Test.YtfnolaoohmecbaaJnM
-- lit6
namespace Go.Proofs.Ytfnolaoohmecbaa
open Go.RowKit

def place400 (p : Nat → Int) (j : Nat) : Int := p j % 400 - 50
def placedH (p : Nat → Int) (i : Nat) (j : Nat) : Int := if j < i then place400 p j else p j
theorem arrI_sameH {n : Nat} {p q : Nat → Int} (h : ∀ i, i < n → p i = q i) : arrI n p = arrI n q := by
  apply Array.ext_getElem?
  intro j
  by_cases h64 : j < n
  · rw [arrI_get _ h64, arrI_get _ h64, h j h64]
  · rw [Array.getElem?_eq_none (by rw [arrI_size]; omega), Array.getElem?_eq_none (by rw [arrI_size]; omega)]
theorem placedH_step (p : Nat → Int) (i : Nat) : arrI 4 (fun j => if j = i then p i % 400 - 50 else placedH p i j) = arrI 4 (placedH p (i + 1)) := by
  refine arrI_sameH fun j _ => ?_
  by_cases h : j = i
  · subst h; simp [placedH, place400]
  · have : j < i + 1 ↔ j < i := by omega
    simp [placedH, h, this]
theorem arrI_litsH (p : Nat → Int) : arrI 4 p = #[.int .i64 (p 0), .int .i64 (p 1), .int .i64 (p 2), .int .i64 (p 3)] := by
  unfold arrI; rfl
set_option maxRecDepth 100000 in
set_option maxHeartbeats 8000000 in
theorem pieces_calls (w : World) (pa : Nat → Int) (va : Value) (na : List Int) (ha : NumsAt w va na) (vb : Value) (nb : List Int) (hb : NumsAt w vb nb) (vs vt : Int) : Calls Try.prog 7 #[.agg (arrI 4 pa), va, vb, .int .i64 vs, .int .i64 vt] w fun e w' => e = .returned (.bool true) ∧ Below w.heap.size w w' := by
  have hL := Holds.start w
  obtain ⟨a, ac, rfl, _⟩ := ha.parts
  obtain ⟨a', ac', rfl, _⟩ := hb.parts
  have HMa := Lib.hid (fun w' hb => made_calls w' _ na (SliceAt.below ha hb) false)
  have HMb := Lib.hid (fun w' hb' => made_calls w' _ nb (SliceAt.below hb hb') false)
  clear ha hb
  have m1 := made_may na false
  have m2 := made_may nb false
  have k1 := (made_good na false).2
  have k2 := (made_good nb false).2
  have t1 := made_straight na
  have t2 := made_straight nb
  generalize madeS na false = Sa at *
  generalize madeS nb false = Sb at *
  have q4a := Int.emod_nonneg vt (show (480 : Int) ≠ 0 by omega)
  have q4b := Int.emod_lt_of_pos vt (show (0 : Int) < 480 by omega)
  have HP4 := Lib.hid (fun w => place_calls vt 480 (by omega) (by omega) w)
  generalize vt % 480 = t0 at *
  have hy : -8191 ≤ t0 - 100 ∧ t0 - 100 ≤ 8191 := by omega
  have hsm := styN_may vs
  have hsc := (styN_bd vs).2.2.1
  have HSt := Lib.hid (fun w => style_calls vs w)
  have HA := Lib.hid (fun w v hv => lnLine_calls w v Sa hv (styN vs) (t0 - 100) 24 24 rfl t1 hsm hy (by decide))
  have HB := Lib.hid (fun w v hv => lnLine_calls w v Sb hv (styN vs) (t0 - 100) 24 24 rfl t2 hsm hy (by decide))
  have HJ := Lib.hid (fun w v hv => lnLine_calls w v (joinS Sa Sb) hv (styN vs) (t0 - 100) 24 24 rfl (straight_join t1 t2 (by omega)) hsm hy (by decide))
  have HPJ := Lib.hid (show ∀ i, lineB (joinS Sa Sb) (styN vs) (t0 - 100) i = (lineB Sa (styN vs) (t0 - 100) i || lineB Sb (styN vs) (t0 - 100) i) from fun i => allS_join (styN vs) m1 m2 (by omega) _ _)
  have HO := Lib.hid (show ∀ a b c d, NearP' a b → NearP' c d → ∀ w v, SegsAt w v (pieceP a b c d) → Calls Try.prog 14 #[v, .agg #[.int .i64 (styN vs).wide, .int .i64 (styN vs).cap, .int .i64 (styN vs).join], .int .i64 (t0 - 100), .int .i64 24] w fun e w' => ∃ oa oc N1, N1 ≤ 1 ∧ e = .returned (.slice oa N1 oc) ∧ Below w.heap.size w w' from fun a b c d h1 h2 w v hv => by
    refine (lnLine_calls w v _ hv (styN vs) (t0 - 100) 24 24 rfl (one_may h1 h2).2 hsm hy (by decide)).mono ?_
    rintro e w' ⟨v', rfl, hb, hf⟩
    obtain ⟨oa, oc, rfl, _⟩ := hf.now
    refine ⟨oa, oc, _, ?_, rfl, hb⟩
    rw [List.length_map]
    refine runs_one fun i j k e1 e2 e3 e4 e5 => ?_
    exact one_cvx h1 h2 (styN vs) hsc (t0 - 100) (16 * (i : Int) + 8) (16 * (j : Int) + 8) (16 * (k : Int) + 8) (by omega) (by omega) e4 e5)
  have HJn := Lib.hid (fun w' va vb h1 h2 => join_calls w' va vb Sa Sb h1 h2 m1 m2 (by omega))
  clear m1 m2 k1 k2 t1 t2 hsm hsc
  generalize lineB Sa (styN vs) (t0 - 100) = PA at *
  generalize lineB Sb (styN vs) (t0 - 100) = PB at *
  generalize lineB (joinS Sa Sb) (styN vs) (t0 - 100) = PJ at *
  generalize joinS Sa Sb = Sj at *
  generalize styN vs = sty at *
  obtain ⟨wd, cap, join⟩ := sty
  dsimp only at *
  generalize ht : t0 - 100 = t at *
  have n1 : True := trivial; have n2 : True := trivial; have n3 : True := trivial
  go_enter Try.func7, Try.ntmps7
  go_wp2_with (first | (go_at_call 12; (with_reducible refine (known_calls _).mono ?_); rintro e _ ⟨rfl, hb⟩; replace hL := hL.call hb; clear hb) | (first | (clear hL n1; with_reducible intro b1 w1 hL) | (clear hL n2; with_reducible intro b2 w2 hL) | (clear hL n3; with_reducible intro b3 w3 hL) | (clear hL; with_reducible intro _ _ hL)) | (with_reducible refine wpC_alloc rfl _ rfl _ _ inferInstance hL ?_) | (with_reducible first | refine wpB_agg rfl _ _ _ rfl rfl hL ?_ | refine wpB_one rfl _ _ (.int _ _) rfl rfl rfl hL ?_ | refine wpB_one rfl _ _ (.slice _ _ _) rfl rfl rfl hL ?_ | refine wpB_one rfl _ _ (.bool _) rfl rfl rfl hL ?_ | refine wpB_one rfl _ _ (.pointer _) rfl rfl rfl hL ?_ | refine wpB_one rfl _ _ (.func _ _ _) rfl rfl rfl hL ?_) | (with_reducible first | refine wpH_max rfl _ _ _ _ rfl _ _ rfl rfl ?_ | refine wpH_min rfl _ _ _ _ rfl _ _ rfl rfl ?_) | ((with_reducible refine wpA_load rfl _ _ rfl _ rfl ?_); first | refine loadA hL ?_ | refine loadR hL ?_ | refine loadC hL ?_ | refine loadD ?_ | refine loadE hL ?_ | refine loadF ?_) | ((with_reducible refine wpA_index rfl _ _ _ rfl _ rfl _ rfl ?_); first | (refine indexA ?_; try rw [Int.toNat_natCast]) | refine indexC ?_) | ((with_reducible refine wpA_store rfl _ _ _ rfl _ rfl (.agg _) rfl ?_); refine storeR hL ?_; clear hL; intro _ hL) | ((with_reducible first | refine wpA_store rfl _ _ _ rfl _ rfl (.int _ _) rfl ?_ | refine wpA_store rfl _ _ _ rfl _ rfl (.slice _ _ _) rfl ?_ | refine wpA_store rfl _ _ _ rfl _ rfl (.bool _) rfl ?_ | refine wpA_store rfl _ _ _ rfl _ rfl (.pointer _) rfl ?_ | refine wpA_store rfl _ _ _ rfl _ rfl (.func _ _ _) rfl ?_); (first | refine storeA hL ?_ | refine storeO hL ?_); (clear hL; intro _ hL)) | ((with_reducible refine wpA_lit rfl _ _ _ rfl ?_); first | refine litA1 hL ?_ | refine litA2 hL ?_ | refine litA3 hL ?_ | refine litA4 hL ?_ | refine litA6 hL ?_) | ((with_reducible refine wpA_append rfl _ _ _ rfl (.slice _ _ _) rfl ?_); intro vq hvq; simp [go_sem] at hvq; subst hvq; refine appendA hL ?_; clear hL; intro _ _ _ hL; try dsimp only at hL) | ((with_reducible refine wpA_make rfl _ _ _ rfl _ rfl rfl ?_); refine makeA hL ?_))
  go_loopw [11] (fun s11 wr => ∃ k : Nat, k ≤ 4 ∧ s11 = .int .i64 k ∧ Holds w wr [blk b1 (arrI 4 (placedH pa k)) 55] [])
    (fun s11 wr => 4 - (intOf s11).toNat)
  case atStart => exact ⟨0, by omega, rfl, by rw [show arrI 4 (placedH pa 0) = arrI 4 pa from arrI_sameH fun i _ => by simp [placedH]]; exact hL⟩
  case round =>
    clear hL
    obtain ⟨k, hk, rfl, hL⟩ := hrel
    by_cases hkt : k < 4
    · have hkb : (k : Int) < 4 := by omega
      have HP := Lib.hid (fun w => place_calls (pa k) 400 (by omega) (by omega) w)
      have q1 := Int.emod_nonneg (pa k) (show (400 : Int) ≠ 0 by omega)
      have q2 := Int.emod_lt_of_pos (pa k) (show (0 : Int) < 400 by omega)
      have HST := Lib.hid (placedH_step pa k)
      have HG := Lib.hid ((arrI_get (n := 4) (placedH pa k) hkt).trans (show some (Value.int .i64 (placedH pa k k)) = some (.int .i64 (pa k)) by simp [placedH]))
      generalize hz : pa k = z at *
      generalize z % 400 = y at *
      clear hz
      go_wp2_with (first | (refine wpA_load rfl _ _ rfl _ rfl ?_; refine loadA hL ?_ .here HG.out) | (go_at_call 21; (with_reducible refine (HP.out _).mono ?_); rintro e _ ⟨rfl, rfl⟩) | (first | (clear hL n1; with_reducible intro b1 w1 hL) | (clear hL n2; with_reducible intro b2 w2 hL) | (clear hL n3; with_reducible intro b3 w3 hL) | (clear hL; with_reducible intro _ _ hL)) | (with_reducible refine wpC_alloc rfl _ rfl _ _ inferInstance hL ?_) | (with_reducible first | refine wpB_agg rfl _ _ _ rfl rfl hL ?_ | refine wpB_one rfl _ _ (.int _ _) rfl rfl rfl hL ?_ | refine wpB_one rfl _ _ (.slice _ _ _) rfl rfl rfl hL ?_ | refine wpB_one rfl _ _ (.bool _) rfl rfl rfl hL ?_ | refine wpB_one rfl _ _ (.pointer _) rfl rfl rfl hL ?_ | refine wpB_one rfl _ _ (.func _ _ _) rfl rfl rfl hL ?_) | (with_reducible first | refine wpH_max rfl _ _ _ _ rfl _ _ rfl rfl ?_ | refine wpH_min rfl _ _ _ _ rfl _ _ rfl rfl ?_) | ((with_reducible refine wpA_load rfl _ _ rfl _ rfl ?_); first | refine loadA hL ?_ | refine loadR hL ?_ | refine loadC hL ?_ | refine loadD ?_ | refine loadE hL ?_ | refine loadF ?_) | ((with_reducible refine wpA_index rfl _ _ _ rfl _ rfl _ rfl ?_); first | (refine indexA ?_; try rw [Int.toNat_natCast]) | refine indexC ?_) | ((with_reducible refine wpA_store rfl _ _ _ rfl _ rfl (.agg _) rfl ?_); refine storeR hL ?_; clear hL; intro _ hL) | ((with_reducible first | refine wpA_store rfl _ _ _ rfl _ rfl (.int _ _) rfl ?_ | refine wpA_store rfl _ _ _ rfl _ rfl (.slice _ _ _) rfl ?_ | refine wpA_store rfl _ _ _ rfl _ rfl (.bool _) rfl ?_ | refine wpA_store rfl _ _ _ rfl _ rfl (.pointer _) rfl ?_ | refine wpA_store rfl _ _ _ rfl _ rfl (.func _ _ _) rfl ?_); (first | refine storeA hL ?_ | refine storeO hL ?_); (clear hL; intro _ hL)) | ((with_reducible refine wpA_lit rfl _ _ _ rfl ?_); first | refine litA1 hL ?_ | refine litA2 hL ?_ | refine litA3 hL ?_ | refine litA4 hL ?_ | refine litA6 hL ?_) | ((with_reducible refine wpA_append rfl _ _ _ rfl (.slice _ _ _) rfl ?_); intro vq hvq; simp [go_sem] at hvq; subst hvq; refine appendA hL ?_; clear hL; intro _ _ _ hL; try dsimp only at hL) | ((with_reducible refine wpA_make rfl _ _ _ rfl _ rfl rfl ?_); refine makeA hL ?_))
      go_roundw
      case rel => exact ⟨k + 1, by omega, by go_num, by rw [← HST.out]; exact hL⟩
      case measure => simp [intOf] <;> omega
    · have e : k = 4 := by omega
      subst e
      rw [arrI_litsH] at hL
      have q : ∀ k : Nat, k < 4 → -50 ≤ placedH pa 4 k ∧ placedH pa 4 k ≤ 349 := by
        intro k hk
        have p1 := Int.emod_nonneg (pa k) (show (400 : Int) ≠ 0 by omega)
        have p2 := Int.emod_lt_of_pos (pa k) (show (0 : Int) < 400 by omega)
        simp only [placedH, hk, if_true, place400]
        omega
      obtain ⟨qa0, ra0⟩ := q 0 (by omega)
      obtain ⟨qa1, ra1⟩ := q 1 (by omega)
      obtain ⟨qa2, ra2⟩ := q 2 (by omega)
      obtain ⟨qa3, ra3⟩ := q 3 (by omega)
      clear q
      generalize placedH pa 4 0 = a0 at *
      generalize placedH pa 4 1 = a1 at *
      generalize placedH pa 4 2 = a2 at *
      generalize placedH pa 4 3 = a3 at *
      have HOl := Lib.hid (HO.out a0 a1 a2 a3 ⟨by omega, by omega⟩ ⟨by omega, by omega⟩)

      go_wp2_with (first | (go_at_call 24; (with_reducible refine (HSt.out _).mono ?_); rintro e _ ⟨rfl, hb⟩; replace hL := hL.call hb; clear hb) | (go_at_call 21; (with_reducible refine (HP4.out _).mono ?_); rintro e _ ⟨rfl, rfl⟩) | (go_at_call 14; (with_reducible refine (HOl.out _ _ ?_).mono ?_); (· exact segs_blk hL .here rfl rfl (by unfold maxLen; omega)); rintro e _ ⟨oa, oc, N1, hN1, rfl, hb⟩; replace hL := hL.call hb; clear hb) | (go_at_call 25; (with_reducible refine (HMa.out _ hL.below).mono ?_); rintro e _ ⟨va2, rfl, hb, hf⟩; replace hL := hL.callF hb hf; clear hb hf) | (go_at_call 25; (with_reducible refine (HMb.out _ hL.below).mono ?_); rintro e _ ⟨vb2, rfl, hb, hf⟩; replace hL := hL.callF hb hf; clear hb hf) | (go_at_call 26; (with_reducible refine (HJn.out _ _ _ hL.fact1 hL.fact0).mono ?_); rintro e _ ⟨vj, rfl, hb, hf⟩; replace hL := hL.callF hb hf; clear hb hf) | (first | (clear hL n1; with_reducible intro b1 w1 hL) | (clear hL n2; with_reducible intro b2 w2 hL) | (clear hL n3; with_reducible intro b3 w3 hL) | (clear hL; with_reducible intro _ _ hL)) | (with_reducible refine wpC_alloc rfl _ rfl _ _ inferInstance hL ?_) | (with_reducible first | refine wpB_agg rfl _ _ _ rfl rfl hL ?_ | refine wpB_one rfl _ _ (.int _ _) rfl rfl rfl hL ?_ | refine wpB_one rfl _ _ (.slice _ _ _) rfl rfl rfl hL ?_ | refine wpB_one rfl _ _ (.bool _) rfl rfl rfl hL ?_ | refine wpB_one rfl _ _ (.pointer _) rfl rfl rfl hL ?_ | refine wpB_one rfl _ _ (.func _ _ _) rfl rfl rfl hL ?_) | (with_reducible first | refine wpH_max rfl _ _ _ _ rfl _ _ rfl rfl ?_ | refine wpH_min rfl _ _ _ _ rfl _ _ rfl rfl ?_) | ((with_reducible refine wpA_load rfl _ _ rfl _ rfl ?_); first | refine loadA hL ?_ | refine loadR hL ?_ | refine loadC hL ?_ | refine loadD ?_ | refine loadE hL ?_ | refine loadF ?_) | ((with_reducible refine wpA_index rfl _ _ _ rfl _ rfl _ rfl ?_); first | (refine indexA ?_; try rw [Int.toNat_natCast]) | refine indexC ?_) | ((with_reducible refine wpA_store rfl _ _ _ rfl _ rfl (.agg _) rfl ?_); refine storeR hL ?_; clear hL; intro _ hL) | ((with_reducible first | refine wpA_store rfl _ _ _ rfl _ rfl (.int _ _) rfl ?_ | refine wpA_store rfl _ _ _ rfl _ rfl (.slice _ _ _) rfl ?_ | refine wpA_store rfl _ _ _ rfl _ rfl (.bool _) rfl ?_ | refine wpA_store rfl _ _ _ rfl _ rfl (.pointer _) rfl ?_ | refine wpA_store rfl _ _ _ rfl _ rfl (.func _ _ _) rfl ?_); (first | refine storeA hL ?_ | refine storeO hL ?_); (clear hL; intro _ hL)) | ((with_reducible refine wpA_lit rfl _ _ _ rfl ?_); first | refine litA1 hL ?_ | refine litA2 hL ?_ | refine litA3 hL ?_ | refine litA4 hL ?_ | refine litA6 hL ?_) | ((with_reducible refine wpA_append rfl _ _ _ rfl (.slice _ _ _) rfl ?_); intro vq hvq; simp [go_sem] at hvq; subst hvq; refine appendA hL ?_; clear hL; intro _ _ _ hL; try dsimp only at hL) | ((with_reducible refine wpA_make rfl _ _ _ rfl _ rfl rfl ?_); refine makeA hL ?_))
      have hN2 : (N1 : Int) ≤ 1 := by omega
      replace hL := hL.drew
      have hS := (show (fun w' : World => w'.rangeAt b2 0 #[.int .i64 wd, .int .i64 cap, .int .i64 join].toList) _ from hL.range (by (repeat (first | with_reducible exact At.here | with_reducible apply At.there))))
      refine wpH_begin (by kernel_rfl) (fun w' : World => w'.rangeAt b2 0 #[.int .i64 wd, .int .i64 cap, .int .i64 join].toList) ?_
      refine stH (i := 0) (.slice oa N1 oc) hS ?_ ?_; (· exact fun w' _ => (by go_simp)); simp only [Act.put, List.setIfInBounds_toArray, List.set_cons_zero, List.set_cons_succ]
      refine stH (i := 1) (.int .i64 (N1 : Nat)) hS ?_ ?_; (· exact fun w' _ => (by go_simp)); simp only [Act.put, List.setIfInBounds_toArray, List.set_cons_zero, List.set_cons_succ]
      refine stH (i := 2) (.bool true) hS ?_ ?_; (· exact fun w' _ => (by go_simp)); simp only [Act.put, List.setIfInBounds_toArray, List.set_cons_zero, List.set_cons_succ]
      refine stH (i := 3) (.bool true) hS ?_ ?_; (· exact fun w' _ => (by go_simp)); simp only [Act.put, List.setIfInBounds_toArray, List.set_cons_zero, List.set_cons_succ]
      refine stH (i := 4) (.int .i64 0) hS ?_ ?_; (· exact fun w' _ => (by go_simp)); simp only [Act.put, List.setIfInBounds_toArray, List.set_cons_zero, List.set_cons_succ]
      refine stH (i := 5) (.bool true) hS ?_ ?_; (· exact fun w' _ => (by go_simp)); simp only [Act.put, List.setIfInBounds_toArray, List.set_cons_zero, List.set_cons_succ]
      refine stH (i := 6) (.bool true) hS ?_ ?_; (· exact fun w' _ => (by go_simp)); simp only [Act.put, List.setIfInBounds_toArray, List.set_cons_zero, List.set_cons_succ]
      refine stH (i := 7) (.bool true) hS ?_ ?_; (· exact fun w' _ => (by go_simp)); simp only [Act.put, List.setIfInBounds_toArray, List.set_cons_zero, List.set_cons_succ]
      refine stH (i := 8) (vj) hS ?_ ?_; (· exact fun w' _ => (by go_simp)); simp only [Act.put, List.setIfInBounds_toArray, List.set_cons_zero, List.set_cons_succ]
      refine stH (i := 9) (.agg #[.int .i64 wd, .int .i64 cap, .int .i64 join]) hS ?_ ?_; (· exact fun w' hw => run_loadOp _ _ rfl _ rfl _ (load_range (cs := #[.int .i64 wd, .int .i64 cap, .int .i64 join]) rfl hw)); simp only [Act.put, List.setIfInBounds_toArray, List.set_cons_zero, List.set_cons_succ]
      refine stH (i := 10) (.int .i64 t) hS ?_ ?_; (· exact fun w' _ => (by go_simp)); simp only [Act.put, List.setIfInBounds_toArray, List.set_cons_zero, List.set_cons_succ]
      refine stH (i := 12) (va2) hS ?_ ?_; (· exact fun w' _ => (by go_simp)); simp only [Act.put, List.setIfInBounds_toArray, List.set_cons_zero, List.set_cons_succ]
      refine stH (i := 13) (.agg #[.int .i64 wd, .int .i64 cap, .int .i64 join]) hS ?_ ?_; (· exact fun w' hw => run_loadOp _ _ rfl _ rfl _ (load_range (cs := #[.int .i64 wd, .int .i64 cap, .int .i64 join]) rfl hw)); simp only [Act.put, List.setIfInBounds_toArray, List.set_cons_zero, List.set_cons_succ]
      refine stH (i := 14) (.int .i64 t) hS ?_ ?_; (· exact fun w' _ => (by go_simp)); simp only [Act.put, List.setIfInBounds_toArray, List.set_cons_zero, List.set_cons_succ]
      refine stH (i := 16) (vb2) hS ?_ ?_; (· exact fun w' _ => (by go_simp)); simp only [Act.put, List.setIfInBounds_toArray, List.set_cons_zero, List.set_cons_succ]
      refine stH (i := 17) (.agg #[.int .i64 wd, .int .i64 cap, .int .i64 join]) hS ?_ ?_; (· exact fun w' hw => run_loadOp _ _ rfl _ rfl _ (load_range (cs := #[.int .i64 wd, .int .i64 cap, .int .i64 join]) rfl hw)); simp only [Act.put, List.setIfInBounds_toArray, List.set_cons_zero, List.set_cons_succ]
      refine stH (i := 18) (.int .i64 t) hS ?_ ?_; (· exact fun w' _ => (by go_simp)); simp only [Act.put, List.setIfInBounds_toArray, List.set_cons_zero, List.set_cons_succ]
      refine wpH_one (i := 11) (by kernel_rfl) (wpOp_of (by simp only [List.getElem?_toArray, List.getElem?_cons_zero, List.getElem?_cons_succ]; rfl) ?_)
      refine st_call rfl 14 #[vj, .agg #[.int .i64 wd, .int .i64 cap, .int .i64 join], .int .i64 t, .int .i64 24] (by go_simp) (HJ.out _ _ (hL.fact (.head _))) ?_
      rintro e w' ⟨uj, rfl, hb, hf⟩
      replace hL := hL.callF hb hf
      clear hb hf hS
      have hS := (show (fun w' : World => w'.rangeAt b2 0 #[.int .i64 wd, .int .i64 cap, .int .i64 join].toList) _ from hL.range (by (repeat (first | with_reducible exact At.here | with_reducible apply At.there))))
      refine ⟨_, rfl, hS, ?_⟩
      simp only [Act.put, List.setIfInBounds_toArray, List.set_cons_zero, List.set_cons_succ]
      refine wpH_one (i := 15) (by kernel_rfl) (wpOp_of (by simp only [List.getElem?_toArray, List.getElem?_cons_zero, List.getElem?_cons_succ]; rfl) ?_)
      refine st_call rfl 14 #[va2, .agg #[.int .i64 wd, .int .i64 cap, .int .i64 join], .int .i64 t, .int .i64 24] (by go_simp) (HA.out _ _ (hL.fact (.tail _ (.tail _ (.tail _ (.head _)))))) ?_
      rintro e w' ⟨ua, rfl, hb, hf⟩
      replace hL := hL.callF hb hf
      clear hb hf hS
      have hS := (show (fun w' : World => w'.rangeAt b2 0 #[.int .i64 wd, .int .i64 cap, .int .i64 join].toList) _ from hL.range (by (repeat (first | with_reducible exact At.here | with_reducible apply At.there))))
      refine ⟨_, rfl, hS, ?_⟩
      simp only [Act.put, List.setIfInBounds_toArray, List.set_cons_zero, List.set_cons_succ]
      refine wpH_one (i := 19) (by kernel_rfl) (wpOp_of (by simp only [List.getElem?_toArray, List.getElem?_cons_zero, List.getElem?_cons_succ]; rfl) ?_)
      refine st_call rfl 14 #[vb2, .agg #[.int .i64 wd, .int .i64 cap, .int .i64 join], .int .i64 t, .int .i64 24] (by go_simp) (HB.out _ _ (hL.fact (.tail _ (.tail _ (.tail _ (.head _)))))) ?_
      rintro e w' ⟨ub, rfl, hb, hf⟩
      replace hL := hL.callF hb hf
      clear hb hf hS
      have hS := (show (fun w' : World => w'.rangeAt b2 0 #[.int .i64 wd, .int .i64 cap, .int .i64 join].toList) _ from hL.range (by (repeat (first | with_reducible exact At.here | with_reducible apply At.there))))
      refine ⟨_, rfl, hS, ?_⟩
      simp only [Act.put, List.setIfInBounds_toArray, List.set_cons_zero, List.set_cons_succ]
      refine wpH_one (i := 20) (by kernel_rfl) (wpOp_of (by simp only [List.getElem?_toArray, List.getElem?_cons_zero, List.getElem?_cons_succ]; rfl) ?_)
      refine st_call rfl 27 #[ua, ub] (by go_simp) (lnJoin_calls _ (n := 24) (by decide) (P := PA) (Q := PB) (hL.fact (by repeat (first | with_reducible exact List.mem_cons_self | with_reducible apply List.mem_cons_of_mem))) (hL.fact (by repeat (first | with_reducible exact List.mem_cons_self | with_reducible apply List.mem_cons_of_mem)))) ?_
      rintro e w' ⟨uo, rfl, hb, hf⟩
      replace hL := hL.callF hb hf
      clear hb hf hS
      have hS := (show (fun w' : World => w'.rangeAt b2 0 #[.int .i64 wd, .int .i64 cap, .int .i64 join].toList) _ from hL.range (by (repeat (first | with_reducible exact At.here | with_reducible apply At.there))))
      refine ⟨_, rfl, hS, ?_⟩
      simp only [Act.put, List.setIfInBounds_toArray, List.set_cons_zero, List.set_cons_succ]
      refine wpH_one (i := 21) (by kernel_rfl) (wpOp_of (by simp only [List.getElem?_toArray, List.getElem?_cons_zero, List.getElem?_cons_succ]; rfl) ?_)
      refine st_call rfl 15 #[uj, uo] (by go_simp) (lnSame_calls _ (n := 24) (P := PJ) (Q := fun i => PA i || PB i) (hL.fact (by repeat (first | with_reducible exact List.mem_cons_self | with_reducible apply List.mem_cons_of_mem))) (hL.fact (by repeat (first | with_reducible exact List.mem_cons_self | with_reducible apply List.mem_cons_of_mem))) (fun i _ => HPJ.out i)) ?_
      rintro e w' ⟨rfl, hb⟩
      replace hL := hL.call hb
      clear hb hS
      have hS := (show (fun w' : World => w'.rangeAt b2 0 #[.int .i64 wd, .int .i64 cap, .int .i64 join].toList) _ from hL.range (by (repeat (first | with_reducible exact At.here | with_reducible apply At.there))))
      refine ⟨_, rfl, hS, ?_⟩
      simp only [Act.put, List.setIfInBounds_toArray, List.set_cons_zero, List.set_cons_succ]
      refine stH (i := 22) (.bool true) hS ?_ ?_; (· exact fun w' _ => (by go_simp)); simp only [Act.put, List.setIfInBounds_toArray, List.set_cons_zero, List.set_cons_succ]
      refine stH (i := 23) (.bool true) hS ?_ ?_; (· exact fun w' _ => (by go_simp)); simp only [Act.put, List.setIfInBounds_toArray, List.set_cons_zero, List.set_cons_succ]
      refine wpAnyH_done (by kernel_rfl) ?_ _
      clear hS
      go_wp2
      go_ret
      exact ⟨rfl, hL.below⟩
end Go.Proofs.Ytfnolaoohmecbaa
