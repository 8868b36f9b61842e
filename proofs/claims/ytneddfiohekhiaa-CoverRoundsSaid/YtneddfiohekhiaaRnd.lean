/- CoverRounds returns true. -/
import Derived.Test.YtneddfiohekhiaaRndL
import Derived.Test.YtneddfiohekhiaaKn
-- uses arrU
-- lit6
namespace Go.Proofs.Ytneddfiohekhiaa
open Go.RowKit

/-- a fact on a value that stands in the list: found by itself -/
class SegFact (Φ : List (World → Prop)) (v : Value) (l : List Sg) : Prop where
  out : (fun w => SegsAt w v l) ∈ Φ
instance (priority := high) SegFact.here {Φ : List (World → Prop)} {v : Value} {l : List Sg} : SegFact ((fun w => SegsAt w v l) :: Φ) v l := ⟨List.mem_cons_self⟩
instance (priority := low) SegFact.there {Φ : List (World → Prop)} {φ : World → Prop} {v : Value} {l : List Sg} [h : SegFact Φ v l] : SegFact (φ :: Φ) v l := ⟨List.mem_cons_of_mem _ h.out⟩
class MaskFact (Φ : List (World → Prop)) (v : Value) (m : outParam Msk) : Prop where
  out : MaskF v m ∈ Φ
instance (priority := high) MaskFact.here {Φ : List (World → Prop)} {v : Value} {m : Msk} : MaskFact (MaskF v m :: Φ) v m := ⟨List.mem_cons_self⟩
instance (priority := low) MaskFact.there {Φ : List (World → Prop)} {φ : World → Prop} {v : Value} {m : Msk} [h : MaskFact Φ v m] : MaskFact (φ :: Φ) v m := ⟨List.mem_cons_of_mem _ h.out⟩
theorem Holds.segs {w0 w : World} {M : List Res} {Φ : List (World → Prop)} {v : Value} {l : List Sg} (hL : Holds w0 w M Φ) [h : SegFact Φ v l] : SegsAt w v l := hL.fact h.out
theorem Holds.maskK {w0 w : World} {M : List Res} {Φ : List (World → Prop)} {v : Value} {m : Msk} (hL : Holds w0 w M Φ) [h : MaskFact Φ v m] : MaskF v m w := hL.fact h.out
def maskQ (r : Int) (l : List Sg) (j i : Nat) : Bool := isIn r (windG (edgesS l) (16 * (i : Int) + 8) (16 * (j : Int) + 8))
/-- what the turned path is, pieces of it -/
def turnedS (b : Pnt) (m : List Pnt) : List Sg := pathP b m false
theorem turnedS_len (b : Pnt) (m : List Pnt) : (turnedS b m).length = m.length + 1 := by unfold turnedS pathP; simp
theorem segs_range {w : World} {be oe n c i : Nat} {S : List Sg} (h : SegsAt w (.slice (some ⟨be, oe, none⟩) n c) S) (hi : i < n) : w.rangeAt be (oe + i * 5) (segC (S.getD i default)) := by
  obtain ⟨a', c', he, _, _, hel⟩ := SegsAt.parts h
  injection he with h1 h2 _
  subst h1; subst h2
  obtain ⟨b', o', e, hr⟩ := hel i hi
  cases e
  exact hr
theorem pathP_get {a : Pnt} {l : List Pnt} {sh : Bool} {i : Nat} (h : i < l.length + 1) : ∃ kd, (pathP a l sh).getD i default = ⟨kd, ((a :: l).getD i (0, 0)).1, ((a :: l).getD i (0, 0)).2, 0, 0⟩ := by
  cases i with
  | zero => exact ⟨1, rfl⟩
  | succ i =>
    have hi : i < l.length := by omega
    refine ⟨2, ?_⟩
    have e : (l.map lineSg ++ (if sh then [(⟨4, 0, 0, 0, 0⟩ : Sg)] else [])).getD i default = lineSg l[i] := by simp [List.getD, List.getElem?_append_left, hi]
    unfold pathP
    simp only [List.getD_cons_succ]
    rw [e]
    simp [lineSg, hi]
theorem turnedS_get {b : Pnt} {m : List Pnt} {i : Nat} (h0 : 1 ≤ i) (h : i < m.length + 1) : (turnedS b m).getD i default = lineSg ((b :: m).getD i (0, 0)) := by
  obtain ⟨i, rfl⟩ : ∃ j, i = j + 1 := ⟨i - 1, by omega⟩
  have hi : i < m.length := by omega
  unfold turnedS pathP
  simp [hi]

set_option maxRecDepth 100000 in
set_option maxHeartbeats 8000000 in
theorem coverRounds_calls (w : World) (va : Value) (na : List Int) (ha : NumsAt w va na) (rule by_ : Int) : Calls Try.prog 11 #[va, .int .i64 rule, .int .i64 by_] w fun e w' => e = .returned (.bool true) ∧ Below w.heap.size w w' := by
  have hs : Sides 14 14 := ⟨by decide, by decide, by decide, by decide⟩
  have hL := Holds.start w
  obtain ⟨a, cap, rfl, _⟩ := ha.parts
  have HM := Lib.hid (fun w' hb => loop_calls w' _ na (SliceAt.below ha hb))
  clear ha
  obtain ⟨p0, l, hS, hsm, hl8⟩ := loop_points na
  have hmay := loop_may na
  rw [hS] at HM hmay
  clear hS
  obtain ⟨k, hk⟩ : ∃ k, l.length + 1 = k := ⟨_, rfl⟩
  have hk1 : 1 ≤ k := by omega
  have hk9 : k ≤ 9 := by omega
  have q1 := Int.emod_nonneg rule (show (2 : Int) ≠ 0 by omega)
  have q2 := Int.emod_lt_of_pos rule (show (0 : Int) < 2 by omega)
  have q3 := Int.emod_nonneg by_ (show (k : Int) ≠ 0 by omega)
  have q4 := Int.emod_lt_of_pos by_ (show (0 : Int) < (k : Int) by omega)
  have HP1 := Lib.hid (fun w => place_calls rule 2 (by omega) (by omega) w)
  have HP2 := Lib.hid (fun w => place_calls by_ (k : Int) (by omega) (by omega) w)
  obtain ⟨s, hs0⟩ : ∃ s : Nat, by_ % (k : Int) = s := ⟨(by_ % (k : Int)).toNat, by omega⟩
  rw [hs0] at HP2 q3 q4
  generalize rule % 2 = r at *
  have hr : r = 0 ∨ r = 1 := by omega
  have hsk : s < k := by omega
  obtain ⟨b, m, hrot⟩ : ∃ b m, rotP (p0 :: l) s = b :: m := by
    cases h : rotP (p0 :: l) s with
    | nil =>
      have := rotP_len (ps := p0 :: l) (s := s) (by simp; omega)
      rw [h] at this
      simp at this
    | cons b m => exact ⟨b, m, rfl⟩
  have hml : m.length + 1 = k := by
    have := rotP_len (ps := p0 :: l) (s := s) (by simp; omega)
    rw [hrot] at this
    simp at this
    omega
  have hget : ∀ i, i < k → (b :: m).getD i (0, 0) = (p0 :: l).getD ((s + i) % k) (0, 0) := by
    intro i hi
    have := rotP_get (ps := p0 :: l) (s := s) (i := i) (by simp; omega) (by simp; omega)
    rw [hrot] at this
    simpa [hk] using this
  have hsm2 : ∀ p ∈ b :: m, smallP p := by
    intro p hp
    rw [← hrot] at hp
    unfold rotP at hp
    rcases List.mem_append.1 hp with hp | hp
    · exact hsm p (List.mem_of_mem_drop hp)
    · exact hsm p (List.mem_of_mem_take hp)
  have hmT : pathMay (turnedS b m) = true := pathP_may false hsm2 (by omega)
  have htake : (pathP p0 l true).take k = pathP p0 l false := by
    unfold pathP
    rw [← hk]
    simp
  have hmD : pathMay (pathP p0 l false) = true := pathP_may false hsm (by omega)
  have hlenS : (pathP p0 l true).length = k + 1 := by unfold pathP; simp; omega
  have hmB := (back_contours hmay).1
  have eB : maskQ r (backS (pathP p0 l true)) = maskQ r (pathP p0 l true) := by
    funext j i; unfold maskQ; rw [back_wind hmay, isIn_neg hr]
  have eT : maskQ r (turnedS b m) = maskQ r (pathP p0 l true) := by
    funext j i; unfold maskQ turnedS; rw [pathP_wind hmT, pathP_wind hmay, cyc_rotP (by omega) hrot]
  have eD : maskQ r (pathP p0 l false) = maskQ r (pathP p0 l true) := by
    funext j i; unfold maskQ; rw [pathP_wind hmD, pathP_wind hmay]
  have mk : ∀ (l : List Sg), pathMay l = true → ∀ w' v, SegsAt w' v l → Calls Try.prog 14 #[v, .int .i64 r, .int .i64 14, .int .i64 14] w' (MaskOutK 14 14 14 14 196 (maskQ r l) w') := fun l hm w' v hv => coverMaskK_calls (W := 14) (H := 14) (Wi := 14) (Hi := 14) (n := 196) rfl rfl rfl hs w' v l hv hm r hr
  have A1 := Lib.hid (mk _ hmay)
  have A2 := Lib.hid (mk _ hmB)
  have A3 := Lib.hid (mk _ hmT)
  have A4 := Lib.hid (mk _ hmD)
  rw [eB] at A2
  rw [eT] at A3
  rw [eD] at A4
  have HB := Lib.hid (fun w' v hv => back_calls w' v (pathP p0 l true) hv)
  have hcell : ∀ i, i < k → ∃ kd, (pathP p0 l true).getD i default = ⟨kd, ((p0 :: l).getD i (0, 0)).1, ((p0 :: l).getD i (0, 0)).2, 0, 0⟩ := fun i hi => pathP_get (by omega)
  have HCl := Lib.hid hcell
  have HGt := Lib.hid hget
  have HTk := Lib.hid htake
  have htg : ∀ i, 1 ≤ i → i < k → (turnedS b m).getD i default = lineSg ((b :: m).getD i (0, 0)) := fun i h0 h => turnedS_get h0 (by omega)
  have htl : (turnedS b m).length = k := by rw [turnedS_len]; exact hml
  have ht1 : (turnedS b m).take 1 = [⟨1, ((b :: m).getD 0 (0, 0)).1, ((b :: m).getD 0 (0, 0)).2, 0, 0⟩] := by unfold turnedS pathP; rfl
  have HTg := Lib.hid htg
  have HTl := Lib.hid htl
  have HT1 := Lib.hid ht1
  clear mk eB eT eD hmB hmD hmT hcell hget htake htg htl ht1 hsm hsm2 hrot hmay hs0 hml hk hl8 hr
  generalize maskQ r (pathP p0 l true) = Q at *
  generalize turnedS b m = T at *
  generalize pathP p0 l false = DD at *
  generalize pathP p0 l true = S at *
  generalize backS S = BB at *
  have n1 : True := trivial; have n2 : True := trivial; have n3 : True := trivial; have n4 : True := trivial
  go_enter Try.func11, Try.ntmps11
  go_wp2_with (first | (go_at_call 13; (with_reducible refine (known_calls _).mono ?_); rintro e _ ⟨rfl, hb⟩; replace hL := hL.call hb; clear hb) | (go_at_call 24; (with_reducible refine (HM.out _ hL.below).mono ?_); rintro e _ ⟨vs, rfl, hb, hf⟩; obtain ⟨ea, ec, rfl, hec, _⟩ := SegsAt.parts hf.now; replace hL := hL.callF hb hf; clear hb hf; rw [hlenS] at hL hec ⊢) | (go_at_call 18; (with_reducible first | refine (HP1.out _).mono ?_ | refine (HP2.out _).mono ?_); rintro e _ ⟨rfl, rfl⟩) | (first | (clear hL n1; with_reducible intro b1 w1 hL) | (clear hL n2; with_reducible intro b2 w2 hL) | (clear hL n3; with_reducible intro b3 w3 hL) | (clear hL n4; with_reducible intro b4 w4 hL) | (clear hL; with_reducible intro _ _ hL)) | (with_reducible refine wpC_alloc rfl _ rfl _ _ inferInstance hL ?_) | (with_reducible first | refine wpB_agg rfl _ _ _ rfl rfl hL ?_ | refine wpB_one rfl _ _ (.int _ _) rfl rfl rfl hL ?_ | refine wpB_one rfl _ _ (.slice _ _ _) rfl rfl rfl hL ?_ | refine wpB_one rfl _ _ (.bool _) rfl rfl rfl hL ?_ | refine wpB_one rfl _ _ (.pointer _) rfl rfl rfl hL ?_ | refine wpB_one rfl _ _ (.func _ _ _) rfl rfl rfl hL ?_) | (with_reducible first | refine wpH_max rfl _ _ _ _ rfl _ _ rfl rfl ?_ | refine wpH_min rfl _ _ _ _ rfl _ _ rfl rfl ?_) | ((with_reducible refine wpA_load rfl _ _ rfl _ rfl ?_); first | refine loadA hL ?_ | refine loadR hL ?_ | refine loadC hL ?_ | refine loadD ?_ | refine loadE hL ?_ | refine loadF ?_) | ((with_reducible refine wpA_index rfl _ _ _ rfl _ rfl _ rfl ?_); first | (refine indexA ?_; try rw [Int.toNat_natCast]) | refine indexC ?_) | ((with_reducible refine wpA_store rfl _ _ _ rfl _ rfl (.agg _) rfl ?_); refine storeR hL ?_; clear hL; intro _ hL) | ((with_reducible first | refine wpA_store rfl _ _ _ rfl _ rfl (.int _ _) rfl ?_ | refine wpA_store rfl _ _ _ rfl _ rfl (.slice _ _ _) rfl ?_ | refine wpA_store rfl _ _ _ rfl _ rfl (.bool _) rfl ?_ | refine wpA_store rfl _ _ _ rfl _ rfl (.pointer _) rfl ?_ | refine wpA_store rfl _ _ _ rfl _ rfl (.func _ _ _) rfl ?_); (first | refine storeA hL ?_ | refine storeO hL ?_); (clear hL; intro _ hL)) | ((with_reducible refine wpA_lit rfl _ _ _ rfl ?_); first | refine litA1 hL ?_ | refine litA2 hL ?_ | refine litA3 hL ?_ | refine litA4 hL ?_ | refine litA6 hL ?_) | ((with_reducible refine wpA_append rfl _ _ _ rfl (.slice _ _ _) rfl ?_); intro vq hvq; simp [go_sem] at hvq; subst hvq; refine appendA hL ?_; clear hL; intro _ _ _ hL; try dsimp only at hL) | ((with_reducible refine wpA_make rfl _ _ _ rfl _ rfl rfl ?_); refine makeA hL ?_))
  obtain ⟨be, oe, rfl, _⟩ : ∃ be oe, ea = some ⟨be, oe, none⟩ ∧ True := by
    obtain ⟨a', c', he, _, _, hel⟩ := SegsAt.parts hL.fact0
    injection he with h1 h2 _
    subst h1
    obtain ⟨b, o, e, _⟩ := hel 0 (by omega)
    exact ⟨b, o, e, trivial⟩
  have HCap := Lib.hid hec
  have hT1 : T.take 1 = [⟨1, ((p0 :: l).getD s (0, 0)).1, ((p0 :: l).getD s (0, 0)).2, 0, 0⟩] := by rw [HT1.out, HGt.out 0 (by omega), Nat.add_zero, Nat.mod_eq_of_lt hsk]
  obtain ⟨kd, hkd⟩ := HCl.out s hsk
  replace hL := (hL.dup).map (χ := fun w => w.rangeAt be (oe + s * 5) [.int .i64 kd, .int .i64 ((p0 :: l).getD s (0, 0)).1, .int .i64 ((p0 :: l).getD s (0, 0)).2, .int .i64 0, .int .i64 0]) fun w h => by
    have := segs_range h (i := s) (by omega)
    rw [hkd] at this
    exact this
  clear hkd
  generalize ((p0 :: l).getD s (0, 0)).1 = x0 at *
  generalize ((p0 :: l).getD s (0, 0)).2 = y0 at *
  have HT1' := Lib.hid hT1
  clear hT1 HT1
  have hsb0 : (0 : Int) ≤ (s : Int) := by omega
  have hsb1 : (s : Int) < (k : Int) + 1 := by omega
  have hsb2 : (s : Int) < ((k + 1 : Nat) : Int) := by omega
  replace hL := hL.drew
  have hS := (show (fun w' : World => w'.rangeAt be (oe + s * 5) [.int .i64 kd, .int .i64 x0, .int .i64 y0, .int .i64 0, .int .i64 0]) _ from hL.fact0)
  refine wpH_begin (by kernel_rfl) (fun w' : World => w'.rangeAt be (oe + s * 5) [.int .i64 kd, .int .i64 x0, .int .i64 y0, .int .i64 0, .int .i64 0]) ?_
  refine stH (i := 0) (.slice (some ⟨be, oe, none⟩) (k + 1) ec) hS ?_ ?_; (· exact fun w' _ => (by go_simp)); simp only [Act.put, List.setIfInBounds_toArray, List.set_cons_zero, List.set_cons_succ]
  refine stH (i := 1) (.int .i64 s) hS ?_ ?_; (· exact fun w' _ => (by go_simp)); simp only [Act.put, List.setIfInBounds_toArray, List.set_cons_zero, List.set_cons_succ]
  refine stH (i := 2) (.pointer (some ⟨be, oe + s * 5, none⟩)) hS ?_ ?_; (· exact fun w' _ => (by go_simp)); simp only [Act.put, List.setIfInBounds_toArray, List.set_cons_zero, List.set_cons_succ]
  refine stH (i := 3) (.pointer (some ⟨be, oe + s * 5 + 1, none⟩)) hS ?_ ?_; (· exact fun w' _ => (by go_simp)); simp only [Act.put, List.setIfInBounds_toArray, List.set_cons_zero, List.set_cons_succ]
  refine stH (i := 4) (.int .i64 x0) hS ?_ ?_; (· exact fun w' hw => run_loadOp _ _ rfl _ rfl _ (load_cell (hw 1 _ rfl))); simp only [Act.put, List.setIfInBounds_toArray, List.set_cons_zero, List.set_cons_succ]
  refine stH (i := 5) (.slice (some ⟨be, oe, none⟩) (k + 1) ec) hS ?_ ?_; (· exact fun w' _ => (by go_simp)); simp only [Act.put, List.setIfInBounds_toArray, List.set_cons_zero, List.set_cons_succ]
  refine stH (i := 6) (.int .i64 s) hS ?_ ?_; (· exact fun w' _ => (by go_simp)); simp only [Act.put, List.setIfInBounds_toArray, List.set_cons_zero, List.set_cons_succ]
  refine stH (i := 7) (.pointer (some ⟨be, oe + s * 5, none⟩)) hS ?_ ?_; (· exact fun w' _ => (by go_simp)); simp only [Act.put, List.setIfInBounds_toArray, List.set_cons_zero, List.set_cons_succ]
  refine stH (i := 8) (.pointer (some ⟨be, oe + s * 5 + 2, none⟩)) hS ?_ ?_; (· exact fun w' _ => (by go_simp)); simp only [Act.put, List.setIfInBounds_toArray, List.set_cons_zero, List.set_cons_succ]
  refine stH (i := 9) (.int .i64 y0) hS ?_ ?_; (· exact fun w' hw => run_loadOp _ _ rfl _ rfl _ (load_cell (hw 2 _ rfl))); simp only [Act.put, List.setIfInBounds_toArray, List.set_cons_zero, List.set_cons_succ]
  refine stH (i := 10) (.agg #[.int .i64 1, .int .i64 x0, .int .i64 y0, .int .i64 0, .int .i64 0]) hS ?_ ?_; (· exact fun w' _ => (by go_simp)); simp only [Act.put, List.setIfInBounds_toArray, List.set_cons_zero, List.set_cons_succ]
  refine wpH_one (i := 11) (by kernel_rfl) (wpOp_of (by simp only [List.getElem?_toArray, List.getElem?_cons_zero, List.getElem?_cons_succ]; rfl) ?_)
  refine st_lit rfl _ _ _ rfl (litA1 hL ?_)
  clear hL hS
  intro bq wq hL
  have hS := (show (fun w' : World => w'.rangeAt be (oe + s * 5) [.int .i64 kd, .int .i64 x0, .int .i64 y0, .int .i64 0, .int .i64 0]) wq from hL.fact0)
  refine ⟨hS, ?_⟩
  simp only [Act.put, List.setIfInBounds_toArray, List.set_cons_zero, List.set_cons_succ]
  refine stH (i := 12) (.slice (some ⟨bq, 0, none⟩) 1 1) hS ?_ ?_; (· exact fun w' _ => (by go_simp)); simp only [Act.put, List.setIfInBounds_toArray, List.set_cons_zero, List.set_cons_succ]
  refine wpAnyH_done (by kernel_rfl) ?_ _
  clear hS
  replace hL := (hL.forget).litOwn (k := 5) (n := 1) .here rfl (by decide)
  go_wp2_with (first | (first | (clear hL n1; with_reducible intro b1 w1 hL) | (clear hL n2; with_reducible intro b2 w2 hL) | (clear hL n3; with_reducible intro b3 w3 hL) | (clear hL n4; with_reducible intro b4 w4 hL) | (clear hL; with_reducible intro _ _ hL)) | (with_reducible refine wpC_alloc rfl _ rfl _ _ inferInstance hL ?_) | (with_reducible first | refine wpB_agg rfl _ _ _ rfl rfl hL ?_ | refine wpB_one rfl _ _ (.int _ _) rfl rfl rfl hL ?_ | refine wpB_one rfl _ _ (.slice _ _ _) rfl rfl rfl hL ?_ | refine wpB_one rfl _ _ (.bool _) rfl rfl rfl hL ?_ | refine wpB_one rfl _ _ (.pointer _) rfl rfl rfl hL ?_ | refine wpB_one rfl _ _ (.func _ _ _) rfl rfl rfl hL ?_) | (with_reducible first | refine wpH_max rfl _ _ _ _ rfl _ _ rfl rfl ?_ | refine wpH_min rfl _ _ _ _ rfl _ _ rfl rfl ?_) | ((with_reducible refine wpA_load rfl _ _ rfl _ rfl ?_); first | refine loadA hL ?_ | refine loadR hL ?_ | refine loadC hL ?_ | refine loadD ?_ | refine loadE hL ?_ | refine loadF ?_) | ((with_reducible refine wpA_index rfl _ _ _ rfl _ rfl _ rfl ?_); first | (refine indexA ?_; try rw [Int.toNat_natCast]) | refine indexC ?_) | ((with_reducible refine wpA_store rfl _ _ _ rfl _ rfl (.agg _) rfl ?_); refine storeR hL ?_; clear hL; intro _ hL) | ((with_reducible first | refine wpA_store rfl _ _ _ rfl _ rfl (.int _ _) rfl ?_ | refine wpA_store rfl _ _ _ rfl _ rfl (.slice _ _ _) rfl ?_ | refine wpA_store rfl _ _ _ rfl _ rfl (.bool _) rfl ?_ | refine wpA_store rfl _ _ _ rfl _ rfl (.pointer _) rfl ?_ | refine wpA_store rfl _ _ _ rfl _ rfl (.func _ _ _) rfl ?_); (first | refine storeA hL ?_ | refine storeO hL ?_); (clear hL; intro _ hL)) | ((with_reducible refine wpA_lit rfl _ _ _ rfl ?_); first | refine litA1 hL ?_ | refine litA2 hL ?_ | refine litA3 hL ?_ | refine litA4 hL ?_ | refine litA6 hL ?_) | ((with_reducible refine wpA_append rfl _ _ _ rfl (.slice _ _ _) rfl ?_); intro vq hvq; simp [go_sem] at hvq; subst hvq; refine appendA hL ?_; clear hL; intro _ _ _ hL; try dsimp only at hL) | ((with_reducible refine wpA_make rfl _ _ _ rfl _ rfl rfl ?_); refine makeA hL ?_))
  go_loopw [11, 12] (fun s11 s12 wr => ∃ i : Nat, 1 ≤ i ∧ i ≤ k ∧ s12 = .int .i64 i ∧ Holds w wr [own w.heap.size 45 5 s11 i ((T.take i).map segC).flatten] [fun w => SegsAt w (.slice (some ⟨be, oe, none⟩) (k + 1) ec) S])
    (fun s11 s12 wr => k - (intOf s12).toNat)
  case atStart => exact ⟨1, by omega, by omega, rfl, by rw [HT1'.out]; exact hL⟩
  case round =>
    clear hL
    obtain ⟨i, hi1, hik, rfl, hL⟩ := hrel
    obtain ⟨ga, gc, rfl⟩ := own_slice hL .here
    by_cases hit : i < k
    · have hib : (i : Int) < (k : Int) := by omega
      have hstep : T.take (i + 1) = T.take i ++ [⟨2, ((p0 :: l).getD ((s + i) % k) (0, 0)).1, ((p0 :: l).getD ((s + i) % k) (0, 0)).2, 0, 0⟩] := by
        have hlt : i < T.length := by rw [HTl.out]; exact hit
        have h1 := HTg.out i hi1 hit
        rw [HGt.out i hit] at h1
        rw [List.take_succ_eq_append_getElem hlt]
        have h2 : T.getD i default = T[i] := by simp [hlt]
        rw [← h2, h1]
        rfl
      have hdk : (s + i) % k < k := Nat.mod_lt _ (by omega)
      have hrem : ((s : Int) + (i : Int)).tmod (k : Int) = (((s + i) % k : Nat) : Int) := by
        rw [← Int.natCast_add, Int.tmod_eq_emod_of_nonneg (by omega)]; rfl
      obtain ⟨kd, hkd⟩ := HCl.out ((s + i) % k) hdk
      generalize (s + i) % k = d at *
      replace hL := (hL.dup).map (χ := fun w => w.rangeAt be (oe + d * 5) [.int .i64 kd, .int .i64 ((p0 :: l).getD d (0, 0)).1, .int .i64 ((p0 :: l).getD d (0, 0)).2, .int .i64 0, .int .i64 0]) fun w h => by
        have := segs_range h (i := d) (by omega)
        rw [hkd] at this
        exact this
      clear hkd
      generalize ((p0 :: l).getD d (0, 0)).1 = x0 at *
      generalize ((p0 :: l).getD d (0, 0)).2 = y0 at *
      have HN := Lib.hid hstep
      clear hstep
      have hdb0 : (0 : Int) ≤ (d : Int) := by omega
      have hdb1 : (d : Int) < (k : Int) + 1 := by omega
      have hdb2 : (d : Int) < ((k + 1 : Nat) : Int) := by omega
      have hk0 : ¬ (k : Int) = 0 := by omega
      have hk0' : ¬ k = 0 := by omega
      have hwr1 : IntKind.i64.wrap ((s : Int) + (i : Int)) = (s : Int) + (i : Int) := by rw [IntKind.wrap_i64]; omega
      have hwr2 : IntKind.i64.wrap (d : Int) = (d : Int) := by rw [IntKind.wrap_i64]; omega
      go_wp2_with (first | (first | (clear hL n1; with_reducible intro b1 w1 hL) | (clear hL n2; with_reducible intro b2 w2 hL) | (clear hL n3; with_reducible intro b3 w3 hL) | (clear hL n4; with_reducible intro b4 w4 hL) | (clear hL; with_reducible intro _ _ hL)) | (with_reducible refine wpC_alloc rfl _ rfl _ _ inferInstance hL ?_) | (with_reducible first | refine wpB_agg rfl _ _ _ rfl rfl hL ?_ | refine wpB_one rfl _ _ (.int _ _) rfl rfl rfl hL ?_ | refine wpB_one rfl _ _ (.slice _ _ _) rfl rfl rfl hL ?_ | refine wpB_one rfl _ _ (.bool _) rfl rfl rfl hL ?_ | refine wpB_one rfl _ _ (.pointer _) rfl rfl rfl hL ?_ | refine wpB_one rfl _ _ (.func _ _ _) rfl rfl rfl hL ?_) | (with_reducible first | refine wpH_max rfl _ _ _ _ rfl _ _ rfl rfl ?_ | refine wpH_min rfl _ _ _ _ rfl _ _ rfl rfl ?_) | ((with_reducible refine wpA_load rfl _ _ rfl _ rfl ?_); first | refine loadA hL ?_ | refine loadR hL ?_ | refine loadC hL ?_ | refine loadD ?_ | refine loadE hL ?_ | refine loadF ?_) | ((with_reducible refine wpA_index rfl _ _ _ rfl _ rfl _ rfl ?_); first | (refine indexA ?_; try rw [Int.toNat_natCast]) | refine indexC ?_) | ((with_reducible refine wpA_store rfl _ _ _ rfl _ rfl (.agg _) rfl ?_); refine storeR hL ?_; clear hL; intro _ hL) | ((with_reducible first | refine wpA_store rfl _ _ _ rfl _ rfl (.int _ _) rfl ?_ | refine wpA_store rfl _ _ _ rfl _ rfl (.slice _ _ _) rfl ?_ | refine wpA_store rfl _ _ _ rfl _ rfl (.bool _) rfl ?_ | refine wpA_store rfl _ _ _ rfl _ rfl (.pointer _) rfl ?_ | refine wpA_store rfl _ _ _ rfl _ rfl (.func _ _ _) rfl ?_); (first | refine storeA hL ?_ | refine storeO hL ?_); (clear hL; intro _ hL)) | ((with_reducible refine wpA_lit rfl _ _ _ rfl ?_); first | refine litA1 hL ?_ | refine litA2 hL ?_ | refine litA3 hL ?_ | refine litA4 hL ?_ | refine litA6 hL ?_) | ((with_reducible refine wpA_append rfl _ _ _ rfl (.slice _ _ _) rfl ?_); intro vq hvq; simp [go_sem] at hvq; subst hvq; refine appendA hL ?_; clear hL; intro _ _ _ hL; try dsimp only at hL) | ((with_reducible refine wpA_make rfl _ _ _ rfl _ rfl rfl ?_); refine makeA hL ?_))
      replace hL := hL.drew
      have hS := (show (fun w' : World => w'.rangeAt be (oe + d * 5) [.int .i64 kd, .int .i64 x0, .int .i64 y0, .int .i64 0, .int .i64 0]) _ from hL.fact0)
      refine wpH_begin (by kernel_rfl) (fun w' : World => w'.rangeAt be (oe + d * 5) [.int .i64 kd, .int .i64 x0, .int .i64 y0, .int .i64 0, .int .i64 0]) ?_
      refine stH (i := 0) (.slice ga i gc) hS ?_ ?_; (· exact fun w' _ => (by go_simp)); simp only [Act.put, List.setIfInBounds_toArray, List.set_cons_zero, List.set_cons_succ]
      refine stH (i := 1) (.slice (some ⟨be, oe, none⟩) (k + 1) ec) hS ?_ ?_; (· exact fun w' _ => (by go_simp)); simp only [Act.put, List.setIfInBounds_toArray, List.set_cons_zero, List.set_cons_succ]
      refine stH (i := 2) (.int .i64 s) hS ?_ ?_; (· exact fun w' _ => (by go_simp)); simp only [Act.put, List.setIfInBounds_toArray, List.set_cons_zero, List.set_cons_succ]
      refine stH (i := 3) (.int .i64 i) hS ?_ ?_; (· exact fun w' _ => (by go_simp)); simp only [Act.put, List.setIfInBounds_toArray, List.set_cons_zero, List.set_cons_succ]
      refine stH (i := 4) (.int .i64 ((s : Int) + (i : Int))) hS ?_ ?_; (· exact fun w' _ => (by go_simp)); simp only [Act.put, List.setIfInBounds_toArray, List.set_cons_zero, List.set_cons_succ]
      refine stH (i := 5) (.int .i64 k) hS ?_ ?_; (· exact fun w' _ => (by go_simp)); simp only [Act.put, List.setIfInBounds_toArray, List.set_cons_zero, List.set_cons_succ]
      refine stH (i := 6) (.int .i64 d) hS ?_ ?_; (· exact fun w' _ => (by go_simp)); simp only [Act.put, List.setIfInBounds_toArray, List.set_cons_zero, List.set_cons_succ]
      refine stH (i := 7) (.pointer (some ⟨be, oe + d * 5, none⟩)) hS ?_ ?_; (· exact fun w' _ => (by go_simp)); simp only [Act.put, List.setIfInBounds_toArray, List.set_cons_zero, List.set_cons_succ]
      refine stH (i := 8) (.pointer (some ⟨be, oe + d * 5 + 1, none⟩)) hS ?_ ?_; (· exact fun w' _ => (by go_simp)); simp only [Act.put, List.setIfInBounds_toArray, List.set_cons_zero, List.set_cons_succ]
      refine stH (i := 9) (.int .i64 x0) hS ?_ ?_; (· exact fun w' hw => run_loadOp _ _ rfl _ rfl _ (load_cell (hw 1 _ rfl))); simp only [Act.put, List.setIfInBounds_toArray, List.set_cons_zero, List.set_cons_succ]
      refine stH (i := 10) (.slice (some ⟨be, oe, none⟩) (k + 1) ec) hS ?_ ?_; (· exact fun w' _ => (by go_simp)); simp only [Act.put, List.setIfInBounds_toArray, List.set_cons_zero, List.set_cons_succ]
      refine stH (i := 11) (.int .i64 s) hS ?_ ?_; (· exact fun w' _ => (by go_simp)); simp only [Act.put, List.setIfInBounds_toArray, List.set_cons_zero, List.set_cons_succ]
      refine stH (i := 12) (.int .i64 i) hS ?_ ?_; (· exact fun w' _ => (by go_simp)); simp only [Act.put, List.setIfInBounds_toArray, List.set_cons_zero, List.set_cons_succ]
      refine stH (i := 13) (.int .i64 ((s : Int) + (i : Int))) hS ?_ ?_; (· exact fun w' _ => (by go_simp)); simp only [Act.put, List.setIfInBounds_toArray, List.set_cons_zero, List.set_cons_succ]
      refine stH (i := 14) (.int .i64 k) hS ?_ ?_; (· exact fun w' _ => (by go_simp)); simp only [Act.put, List.setIfInBounds_toArray, List.set_cons_zero, List.set_cons_succ]
      refine stH (i := 15) (.int .i64 d) hS ?_ ?_; (· exact fun w' _ => (by go_simp)); simp only [Act.put, List.setIfInBounds_toArray, List.set_cons_zero, List.set_cons_succ]
      refine stH (i := 16) (.pointer (some ⟨be, oe + d * 5, none⟩)) hS ?_ ?_; (· exact fun w' _ => (by go_simp)); simp only [Act.put, List.setIfInBounds_toArray, List.set_cons_zero, List.set_cons_succ]
      refine stH (i := 17) (.pointer (some ⟨be, oe + d * 5 + 2, none⟩)) hS ?_ ?_; (· exact fun w' _ => (by go_simp)); simp only [Act.put, List.setIfInBounds_toArray, List.set_cons_zero, List.set_cons_succ]
      refine stH (i := 18) (.int .i64 y0) hS ?_ ?_; (· exact fun w' hw => run_loadOp _ _ rfl _ rfl _ (load_cell (hw 2 _ rfl))); simp only [Act.put, List.setIfInBounds_toArray, List.set_cons_zero, List.set_cons_succ]
      refine stH (i := 19) (.agg #[.int .i64 2, .int .i64 x0, .int .i64 y0, .int .i64 0, .int .i64 0]) hS ?_ ?_; (· exact fun w' _ => (by go_simp)); simp only [Act.put, List.setIfInBounds_toArray, List.set_cons_zero, List.set_cons_succ]
      refine wpH_one (i := 20) (by kernel_rfl) (wpOp_of (by simp only [List.getElem?_toArray, List.getElem?_cons_zero, List.getElem?_cons_succ]; rfl) ?_)
      refine st_lit rfl _ _ _ rfl (litA1 hL ?_)
      clear hL hS
      intro bq wq hL
      have hS := (show (fun w' : World => w'.rangeAt be (oe + d * 5) [.int .i64 kd, .int .i64 x0, .int .i64 y0, .int .i64 0, .int .i64 0]) wq from hL.fact0)
      refine ⟨hS, ?_⟩
      simp only [Act.put, List.setIfInBounds_toArray, List.set_cons_zero, List.set_cons_succ]
      refine wpH_one (i := 21) (by kernel_rfl) (wpOp_of (by simp only [List.getElem?_toArray, List.getElem?_cons_zero, List.getElem?_cons_succ]; rfl) ?_)
      refine st_append rfl _ _ _ rfl (.slice ga i gc) (.slice (some ⟨bq, 0, none⟩) 1 1) rfl rfl (appendAt inferInstance inferInstance hL _ _ .here _ _ _ (fun r' => .here) rfl (by decide) rfl (by simp [go_sem, Value.oneCell']) (by omega) (by unfold maxLen; omega) (by omega) ?_)
      clear hL hS
      intro ng ncap w8 hL
      have hS := (show (fun w' : World => w'.rangeAt be (oe + d * 5) [.int .i64 kd, .int .i64 x0, .int .i64 y0, .int .i64 0, .int .i64 0]) w8 from hL.fact0)
      refine ⟨hS, ?_⟩
      simp only [Act.put, List.setIfInBounds_toArray, List.set_cons_zero, List.set_cons_succ]
      refine stH (i := 22) (.slice (some ⟨ng, 0, none⟩) (i + 1) ncap) hS ?_ ?_; (· exact fun w' _ => (by go_simp)); simp only [Act.put, List.setIfInBounds_toArray, List.set_cons_zero, List.set_cons_succ]
      refine wpAnyH_done (by kernel_rfl) ?_ _
      clear hS
      go_wp2
      go_roundw
      case rel => exact ⟨i + 1, by omega, by omega, by go_num, by rw [HN.out, List.map_append, List.flatten_append]; exact hL.forget⟩
      case measure => simp [intOf]; omega
    · have e : i = k := by omega
      subst e
      have hkk : ¬ (i : Int) < (i : Int) := by omega
      replace hL := hL.settle .here (φ := fun w => SegsAt w (.slice ga i gc) T) fun w h => own_sliceAt h (by rw [List.length_map]; exact HTl.out.symm) (by rw [← HTl.out, List.take_length]) (segC_len T)
      replace hL := (hL.swap.dup).map (χ := fun w => SegsAt w (.slice (some ⟨be, oe, none⟩) i ec) DD) fun w h => by
        have h2 := SliceAt.part h (Nat.zero_le i) (show i ≤ i + 1 by omega)
        rw [List.drop_zero, ← List.map_take, HTk.out] at h2
        have e : sliced (some ⟨be, oe, none⟩) 0 i ec 5 = .slice (some ⟨be, oe, none⟩) i ec := by have := HCap.out; unfold sliced; rw [if_neg (by omega)]; simp [Addr.add]
        rw [e] at h2
        exact h2
      have hcap1 : ¬ ec = 0 := by have := HCap.out; omega
      have hcap2 : i ≤ ec := by have := HCap.out; omega
      have n1 : True := trivial; have n2 : True := trivial; have n3 : True := trivial; have n4 : True := trivial
      go_wp2_with (first | (go_at_call 37; (with_reducible refine (HB.out _ (.slice (some ⟨be, oe, none⟩) (i + 1) ec) hL.segs).mono ?_); rintro e _ ⟨vk, rfl, hb, hf⟩; replace hL := hL.callF hb hf; clear hb hf) | (go_at_call 14; (with_reducible first | refine (A1.out _ (.slice (some ⟨be, oe, none⟩) (i + 1) ec) hL.segs).mono ?_ | refine (A3.out _ (.slice ga i gc) hL.segs).mono ?_ | refine (A4.out _ (.slice (some ⟨be, oe, none⟩) i ec) hL.segs).mono ?_ | refine (A2.out _ vk hL.segs).mono ?_); rintro e _ ⟨mx, rfl, hb, hf⟩; replace hL := hL.callF hb hf; clear hb hf) | (go_at_call 21; (with_reducible refine (sameK_calls (W := 14) (H := 14) (Wi := 14) (Hi := 14) (n := 196) rfl rfl rfl hs _ _ _ _ _ (hL.maskK) (hL.maskK) (fun _ _ _ _ => rfl)).mono ?_); rintro e _ ⟨rfl, hb⟩; replace hL := hL.call hb; clear hb) | (first | (clear hL n1; with_reducible intro b1 w1 hL) | (clear hL n2; with_reducible intro b2 w2 hL) | (clear hL n3; with_reducible intro b3 w3 hL) | (clear hL n4; with_reducible intro b4 w4 hL) | (clear hL; with_reducible intro _ _ hL)) | (with_reducible refine wpC_alloc rfl _ rfl _ _ inferInstance hL ?_) | (with_reducible first | refine wpB_agg rfl _ _ _ rfl rfl hL ?_ | refine wpB_one rfl _ _ (.int _ _) rfl rfl rfl hL ?_ | refine wpB_one rfl _ _ (.slice _ _ _) rfl rfl rfl hL ?_ | refine wpB_one rfl _ _ (.bool _) rfl rfl rfl hL ?_ | refine wpB_one rfl _ _ (.pointer _) rfl rfl rfl hL ?_ | refine wpB_one rfl _ _ (.func _ _ _) rfl rfl rfl hL ?_) | (with_reducible first | refine wpH_max rfl _ _ _ _ rfl _ _ rfl rfl ?_ | refine wpH_min rfl _ _ _ _ rfl _ _ rfl rfl ?_) | ((with_reducible refine wpA_load rfl _ _ rfl _ rfl ?_); first | refine loadA hL ?_ | refine loadR hL ?_ | refine loadC hL ?_ | refine loadD ?_ | refine loadE hL ?_ | refine loadF ?_) | ((with_reducible refine wpA_index rfl _ _ _ rfl _ rfl _ rfl ?_); first | (refine indexA ?_; try rw [Int.toNat_natCast]) | refine indexC ?_) | ((with_reducible refine wpA_store rfl _ _ _ rfl _ rfl (.agg _) rfl ?_); refine storeR hL ?_; clear hL; intro _ hL) | ((with_reducible first | refine wpA_store rfl _ _ _ rfl _ rfl (.int _ _) rfl ?_ | refine wpA_store rfl _ _ _ rfl _ rfl (.slice _ _ _) rfl ?_ | refine wpA_store rfl _ _ _ rfl _ rfl (.bool _) rfl ?_ | refine wpA_store rfl _ _ _ rfl _ rfl (.pointer _) rfl ?_ | refine wpA_store rfl _ _ _ rfl _ rfl (.func _ _ _) rfl ?_); (first | refine storeA hL ?_ | refine storeO hL ?_); (clear hL; intro _ hL)) | ((with_reducible refine wpA_lit rfl _ _ _ rfl ?_); first | refine litA1 hL ?_ | refine litA2 hL ?_ | refine litA3 hL ?_ | refine litA4 hL ?_ | refine litA6 hL ?_) | ((with_reducible refine wpA_append rfl _ _ _ rfl (.slice _ _ _) rfl ?_); intro vq hvq; simp [go_sem] at hvq; subst hvq; refine appendA hL ?_; clear hL; intro _ _ _ hL; try dsimp only at hL) | ((with_reducible refine wpA_make rfl _ _ _ rfl _ rfl rfl ?_); refine makeA hL ?_))
      go_ret
      exact ⟨rfl, hL.below⟩
end Go.Proofs.Ytneddfiohekhiaa
