/- CoverWithin returns true. -/
import Derived.Test.YtneddfiohekhiaaBxPM
import Derived.Test.YtneddfiohekhiaaHulM
import Derived.Test.YtneddfiohekhiaaWBox
import Derived.Test.YtneddfiohekhiaaKn
-- uses arrU
-- lit6
namespace Go.Proofs.Ytneddfiohekhiaa
open Go.RowKit

theorem arrI_congrW {n : Nat} {p q : Nat → Int} (h : ∀ i, i < n → p i = q i) : arrI n p = arrI n q := by
  apply Array.ext_getElem?
  intro j
  by_cases h64 : j < n
  · rw [arrI_get _ h64, arrI_get _ h64, h j h64]
  · rw [Array.getElem?_eq_none (by rw [arrI_size]; omega), Array.getElem?_eq_none (by rw [arrI_size]; omega)]
theorem atPix_natW {W H : Nat} (q : Nat → Nat → Bool) {i j : Nat} (hi : i < W) (hj : j < H) : atPix W H q (i : Int) (j : Int) = q j i := by
  unfold atPix
  rw [decide_eq_true (show (0 : Int) ≤ (i : Int) by omega), decide_eq_true (show (i : Int) < (W : Int) by omega), decide_eq_true (show (0 : Int) ≤ (j : Int) by omega), decide_eq_true (show (j : Int) < (H : Int) by omega)]
  simp
def pl300W (v : Int) : Int := v % 300 - 20
theorem pl300W_bd (v : Int) : -20 ≤ pl300W v ∧ pl300W v ≤ 279 := by
  have p1 := Int.emod_nonneg v (show (300 : Int) ≠ 0 by omega)
  have p2 := Int.emod_lt_of_pos v (show (0 : Int) < 300 by omega)
  unfold pl300W; omega
theorem count_noneW : pixCount 20 (fun _ _ => false) 20 = 0 := by decide
theorem isIn_zero (r : Int) : isIn r 0 = false := by unfold isIn; simp
/-- there and back -/
def pairS (a b c d : Int) : List Sg := [⟨1, a, b, 0, 0⟩, ⟨2, c, d, 0, 0⟩]
theorem pair_edges (a b c d : Int) (h : pathMay (pairS a b c d) = true) : edgesS (pairS a b c d) = if c = a ∧ d = b then [lineE a b c d] else [lineE a b c d, lineE c d a b] := by
  unfold edgesS contoursS
  rw [h]
  simp [pairS, ctFold, segE, edgesC, endE, lineE]
theorem pair_wind (a b c d x y : Int) (h : pathMay (pairS a b c d) = true) : windG (edgesS (pairS a b c d)) x y = 0 := by
  rw [pair_edges a b c d h]
  split
  · rename_i e
    obtain ⟨rfl, rfl⟩ := e
    simp [windG, turnG_dot]
  · have := turnG_line_rev a b c d x y
    simp only [windG, List.map_cons, List.map_nil, List.sum_cons, List.sum_nil]
    omega
theorem pair_may {a b c d : Int} (h0 : -20 ≤ a ∧ a ≤ 279) (h1 : -20 ≤ b ∧ b ≤ 279) (h2 : -20 ≤ c ∧ c ≤ 279) (h3 : -20 ≤ d ∧ d ≤ 279) : pathMay (pairS a b c d) = true ∧ pathMay [⟨1, a, b, 0, 0⟩] = true := by
  have n : ∀ {v : Int}, -20 ≤ v ∧ v ≤ 279 → near1 v = true := fun {v} h => by unfold near1; simp; omega
  have z : near1 0 = true := by decide
  constructor <;> simp [pathMay, pairS, maySF, rightS, n h0, n h1, n h2, n h3, z]
theorem dot_edges (a b : Int) (h : pathMay [⟨1, a, b, 0, 0⟩] = true) : edgesS [⟨1, a, b, 0, 0⟩] = [] := by
  unfold edgesS contoursS
  rw [h]
  simp [ctFold, edgesC]
theorem cover_none {r : Int} {l : List Sg} (h : ∀ x y, windG (edgesS l) x y = 0) : (fun j i : Nat => isIn r (windG (edgesS l) (16 * (i : Int) + 8) (16 * (j : Int) + 8))) = fun _ _ => false := by
  funext j i
  rw [h, isIn_zero]
theorem blk_segs {w : World} {b : Nat} {cs : Array Value} {T : TypeId} (l : List Sg) (h : (blk b cs T).ok w) (hcs : cs.toList = (l.map segC).flatten) (hm : l.length ≤ maxLen) : SegsAt w (.slice (some ⟨b, 0, none⟩) l.length l.length) l := by
  refine ⟨_, l.length, by simp, by simp, hm, fun i hi => ⟨b, 0, rfl, fun j v hj => ?_⟩⟩
  rw [cell_of_row w b _ cs T (0, 0) h, Nat.zero_add, ← Array.getElem?_toList, hcs]
  exact flatten_get (segC_len l) i hi j v hj
/-- a part of a list of pieces: its first -/
theorem first_at {w : World} {b : Nat} {s t : Sg} (h : SegsAt w (.slice (some ⟨b, 0, none⟩) 2 2) [s, t]) : SegsAt w (.slice (some ⟨b, 0, none⟩) 1 2) [s] := by
  obtain ⟨a', c', e, h1, h2, hel⟩ := h
  injection e with e1 e2 e3
  subst e1; subst e3
  refine ⟨_, 2, rfl, by simp, h2, fun i hi => ?_⟩
  have hi0 : i = 0 := by simpa using hi
  subst hi0
  obtain ⟨b', o', e', hr⟩ := hel 0 (by simp)
  exact ⟨b', o', e', hr⟩
set_option maxRecDepth 100000 in
set_option maxHeartbeats 8000000 in
theorem coverWithin_calls (w : World) (va : Value) (na : List Int) (ha : NumsAt w va na) (rule : Int) (pa : Nat → Int) : Calls Try.prog 6 #[va, .int .i64 rule, .agg (arrI 4 pa)] w fun e w' => e = .returned (.bool true) ∧ Below w.heap.size w w' := by
  have hs : Sides 20 20 := ⟨by decide, by decide, by decide, by decide⟩
  have hL := Holds.start w
  obtain ⟨a, cap, rfl, _⟩ := ha.parts
  have HM := Lib.hid (fun w' hb => made_calls w' _ na (SliceAt.below ha hb) true)
  clear ha
  have hgood := (made_good na true).1.small
  have hmay := made_may na true
  generalize madeS na true = S at *
  have q1a := Int.emod_nonneg rule (show (2 : Int) ≠ 0 by omega)
  have q1b := Int.emod_lt_of_pos rule (show (0 : Int) < 2 by omega)
  have HP1 := Lib.hid (fun w => place_calls rule 2 (by omega) (by omega) w)
  generalize rule % 2 = r at *
  have hr : r = 0 ∨ r = 1 := by omega
  have HA := Lib.hid (fun w' v' hv => coverMaskK_calls (W := 20) (H := 20) (Wi := 20) (Hi := 20) (n := 400) rfl rfl rfl hs w' v' S hv hmay r hr)
  have hB : ∃ X0 Y0 X1 Y1 ok, boxRet S = .tuple #[.int .i64 X0, .int .i64 Y0, .int .i64 X1, .int .i64 Y1, .bool ok] ∧ ∀ j i : Nat, isIn r (windG (edgesS S) (16 * (i : Int) + 8) (16 * (j : Int) + 8)) = true → ok = true ∧ X0 ≤ 16 * (i : Int) + 8 ∧ 16 * (i : Int) + 8 < X1 ∧ Y0 ≤ 16 * (j : Int) + 8 ∧ 16 * (j : Int) + 8 < Y1 := by
    by_cases h0 : S.length = 0
    · refine ⟨0, 0, 0, 0, false, by unfold boxRet; rw [if_pos h0], fun j i h => ?_⟩
      rw [List.length_eq_zero_iff.1 h0, nil_edges] at h
      rw [windG_nil, isIn_zero] at h
      cases h
    · refine ⟨_, _, _, _, true, by unfold boxRet; rw [if_neg h0], fun j i h => ⟨rfl, ?_⟩⟩
      have hz := fun h => wind_box hmay (x := 16 * (i : Int) + 8) (y := 16 * (j : Int) + 8) h
      by_cases hc : 16 * (i : Int) + 8 < (boxOf S).x0 ∨ (boxOf S).x1 ≤ 16 * (i : Int) + 8 ∨ 16 * (j : Int) + 8 < (boxOf S).y0 ∨ (boxOf S).y1 ≤ 16 * (j : Int) + 8
      · rw [hz hc, isIn_zero] at h; cases h
      · omega
  obtain ⟨X0, Y0, X1, Y1, ok, hb, hin⟩ := hB
  have hBx := fun w' v hv => pathBox_calls w' v S hv hmay
  rw [hb] at hBx
  have HB := Lib.hid hBx
  have HIn := Lib.hid (show ∀ j i : Nat, (fun j i : Nat => isIn r (windG (edgesS S) (16 * (i : Int) + 8) (16 * (j : Int) + 8))) j i = true → ok = true ∧ X0 ≤ 16 * (i : Int) + 8 ∧ 16 * (i : Int) + 8 < X1 ∧ Y0 ≤ 16 * (j : Int) + 8 ∧ 16 * (j : Int) + 8 < Y1 from hin)
  clear hBx hb hin hgood hmay
  generalize (fun j i : Nat => isIn r (windG (edgesS S) (16 * (i : Int) + 8) (16 * (j : Int) + 8))) = P at *
  have n1 : True := trivial; have n2 : True := trivial; have n3 : True := trivial; have n4 : True := trivial; have n5 : True := trivial
  go_enter Try.func6, Try.ntmps6
  go_wp2_with (first | (go_at_call 13; (with_reducible refine (known_calls _).mono ?_); rintro e _ ⟨rfl, hb⟩; replace hL := hL.call hb; clear hb) | (go_at_call 17; (with_reducible refine (HM.out _ hL.below).mono ?_); rintro e _ ⟨vs, rfl, hb, hf⟩; replace hL := hL.callF hb hf; clear hb hf) | (go_at_call 18; (with_reducible refine (HP1.out _).mono ?_); rintro e _ ⟨rfl, rfl⟩) | (go_at_call 14; (with_reducible refine (HA.out _ vs hL.fact0).mono ?_); rintro e _ ⟨mm, rfl, hb, hf⟩; replace hL := hL.callF hb hf; clear hb hf) | (go_at_call 27; (with_reducible refine (HB.out _ vs hL.fact1).mono ?_); rintro e _ ⟨rfl, hb⟩; replace hL := hL.call hb; clear hb) | (first | (clear hL n1; with_reducible intro b1 w1 hL) | (clear hL n2; with_reducible intro b2 w2 hL) | (clear hL n3; with_reducible intro b3 w3 hL) | (clear hL n4; with_reducible intro b4 w4 hL) | (clear hL n5; with_reducible intro b5 w5 hL) | (clear hL; with_reducible intro _ _ hL)) | (with_reducible refine wpC_alloc rfl _ rfl _ _ inferInstance hL ?_) | (with_reducible first | refine wpB_agg rfl _ _ _ rfl rfl hL ?_ | refine wpB_one rfl _ _ (.int _ _) rfl rfl rfl hL ?_ | refine wpB_one rfl _ _ (.slice _ _ _) rfl rfl rfl hL ?_ | refine wpB_one rfl _ _ (.bool _) rfl rfl rfl hL ?_ | refine wpB_one rfl _ _ (.pointer _) rfl rfl rfl hL ?_ | refine wpB_one rfl _ _ (.func _ _ _) rfl rfl rfl hL ?_) | (with_reducible first | refine wpH_max rfl _ _ _ _ rfl _ _ rfl rfl ?_ | refine wpH_min rfl _ _ _ _ rfl _ _ rfl rfl ?_) | ((with_reducible refine wpA_load rfl _ _ rfl _ rfl ?_); first | refine loadA hL ?_ | refine loadR hL ?_ | refine loadC hL ?_ | refine loadD ?_ | refine loadE hL ?_ | refine loadF ?_) | ((with_reducible refine wpA_index rfl _ _ _ rfl _ rfl _ rfl ?_); first | (refine indexA ?_; try rw [Int.toNat_natCast]) | refine indexC ?_) | ((with_reducible refine wpA_store rfl _ _ _ rfl _ rfl (.agg _) rfl ?_); refine storeR hL ?_; clear hL; intro _ hL) | ((with_reducible first | refine wpA_store rfl _ _ _ rfl _ rfl (.int _ _) rfl ?_ | refine wpA_store rfl _ _ _ rfl _ rfl (.slice _ _ _) rfl ?_ | refine wpA_store rfl _ _ _ rfl _ rfl (.bool _) rfl ?_ | refine wpA_store rfl _ _ _ rfl _ rfl (.pointer _) rfl ?_ | refine wpA_store rfl _ _ _ rfl _ rfl (.func _ _ _) rfl ?_); (first | refine storeA hL ?_ | refine storeO hL ?_); (clear hL; intro _ hL)) | ((with_reducible refine wpA_lit rfl _ _ _ rfl ?_); first | refine litA1 hL ?_ | refine litA2 hL ?_ | refine litA3 hL ?_ | refine litA4 hL ?_ | refine litA6 hL ?_) | ((with_reducible refine wpA_append rfl _ _ _ rfl (.slice _ _ _) rfl ?_); intro vq hvq; simp [go_sem] at hvq; subst hvq; refine appendA hL ?_; clear hL; intro _ _ _ hL; try dsimp only at hL) | ((with_reducible refine wpA_make rfl _ _ _ rfl _ rfl rfl ?_); refine makeA hL ?_))
  replace hL := hL.facts (Ψ := [MaskF (.agg #[.int .i64 20, .int .i64 20, .slice mm 400 400]) (pixMask 20 20 P)]) fun θ hθ => by rw [List.mem_singleton.1 hθ]; exact hL.firm _ (by simp)
  go_loopw [16] (fun s16 wr => ∃ j : Nat, j ≤ 20 ∧ s16 = .int .i64 j ∧ Holds w wr [blk b2 #[.int .i64 20, .int .i64 20, .slice mm 400 400] 26, blk b1 (arrI 4 pa) 50] [MaskF (.agg #[.int .i64 20, .int .i64 20, .slice mm 400 400]) (pixMask 20 20 P)])
    (fun s16 wr => 20 - (intOf s16).toNat)
  case atStart => exact ⟨0, by omega, rfl, hL⟩
  case round =>
    clear hL
    obtain ⟨j, hj, rfl, hL⟩ := hrel
    by_cases hjt : j < 20
    · have hjb : (j : Int) < 20 := by omega
      go_wp2_with (first | (first | (clear hL n1; with_reducible intro b1 w1 hL) | (clear hL n2; with_reducible intro b2 w2 hL) | (clear hL n3; with_reducible intro b3 w3 hL) | (clear hL n4; with_reducible intro b4 w4 hL) | (clear hL n5; with_reducible intro b5 w5 hL) | (clear hL; with_reducible intro _ _ hL)) | (with_reducible refine wpC_alloc rfl _ rfl _ _ inferInstance hL ?_) | (with_reducible first | refine wpB_agg rfl _ _ _ rfl rfl hL ?_ | refine wpB_one rfl _ _ (.int _ _) rfl rfl rfl hL ?_ | refine wpB_one rfl _ _ (.slice _ _ _) rfl rfl rfl hL ?_ | refine wpB_one rfl _ _ (.bool _) rfl rfl rfl hL ?_ | refine wpB_one rfl _ _ (.pointer _) rfl rfl rfl hL ?_ | refine wpB_one rfl _ _ (.func _ _ _) rfl rfl rfl hL ?_) | (with_reducible first | refine wpH_max rfl _ _ _ _ rfl _ _ rfl rfl ?_ | refine wpH_min rfl _ _ _ _ rfl _ _ rfl rfl ?_) | ((with_reducible refine wpA_load rfl _ _ rfl _ rfl ?_); first | refine loadA hL ?_ | refine loadR hL ?_ | refine loadC hL ?_ | refine loadD ?_ | refine loadE hL ?_ | refine loadF ?_) | ((with_reducible refine wpA_index rfl _ _ _ rfl _ rfl _ rfl ?_); first | (refine indexA ?_; try rw [Int.toNat_natCast]) | refine indexC ?_) | ((with_reducible refine wpA_store rfl _ _ _ rfl _ rfl (.agg _) rfl ?_); refine storeR hL ?_; clear hL; intro _ hL) | ((with_reducible first | refine wpA_store rfl _ _ _ rfl _ rfl (.int _ _) rfl ?_ | refine wpA_store rfl _ _ _ rfl _ rfl (.slice _ _ _) rfl ?_ | refine wpA_store rfl _ _ _ rfl _ rfl (.bool _) rfl ?_ | refine wpA_store rfl _ _ _ rfl _ rfl (.pointer _) rfl ?_ | refine wpA_store rfl _ _ _ rfl _ rfl (.func _ _ _) rfl ?_); (first | refine storeA hL ?_ | refine storeO hL ?_); (clear hL; intro _ hL)) | ((with_reducible refine wpA_lit rfl _ _ _ rfl ?_); first | refine litA1 hL ?_ | refine litA2 hL ?_ | refine litA3 hL ?_ | refine litA4 hL ?_ | refine litA6 hL ?_) | ((with_reducible refine wpA_append rfl _ _ _ rfl (.slice _ _ _) rfl ?_); intro vq hvq; simp [go_sem] at hvq; subst hvq; refine appendA hL ?_; clear hL; intro _ _ _ hL; try dsimp only at hL) | ((with_reducible refine wpA_make rfl _ _ _ rfl _ rfl rfl ?_); refine makeA hL ?_))
      go_loopw [17] (fun s17 wr => ∃ i : Nat, i ≤ 20 ∧ s17 = .int .i64 i ∧ Holds w wr [blk b2 #[.int .i64 20, .int .i64 20, .slice mm 400 400] 26, blk b1 (arrI 4 pa) 50] [MaskF (.agg #[.int .i64 20, .int .i64 20, .slice mm 400 400]) (pixMask 20 20 P)])
        (fun s17 wr => 20 - (intOf s17).toNat)
      case atStart => exact ⟨0, by omega, rfl, hL⟩
      case round =>
        clear hL
        obtain ⟨i, hi, rfl, hL⟩ := hrel
        by_cases hit : i < 20
        · have hib : (i : Int) < 20 := by omega
          have hX := fun w' h => hasK_calls (W := 20) (H := 20) (Wi := 20) (Hi := 20) (n := 400) rfl rfl rfl hs w' mm P h (i : Int) (j : Int)
          rw [atPix_natW P hit hjt] at hX
          have HX := Lib.hid hX
          clear hX
          have hin := HIn.out j i
          cases hp : P j i with
          | false =>
            rw [hp] at HX
            clear hp hin
            go_wp2_with (first | (go_at_call 28; (with_reducible refine (HX.out _ hL.fact0).mono ?_); rintro e _ ⟨rfl, hb⟩; replace hL := hL.call hb; clear hb) | (first | (clear hL n1; with_reducible intro b1 w1 hL) | (clear hL n2; with_reducible intro b2 w2 hL) | (clear hL n3; with_reducible intro b3 w3 hL) | (clear hL n4; with_reducible intro b4 w4 hL) | (clear hL n5; with_reducible intro b5 w5 hL) | (clear hL; with_reducible intro _ _ hL)) | (with_reducible refine wpC_alloc rfl _ rfl _ _ inferInstance hL ?_) | (with_reducible first | refine wpB_agg rfl _ _ _ rfl rfl hL ?_ | refine wpB_one rfl _ _ (.int _ _) rfl rfl rfl hL ?_ | refine wpB_one rfl _ _ (.slice _ _ _) rfl rfl rfl hL ?_ | refine wpB_one rfl _ _ (.bool _) rfl rfl rfl hL ?_ | refine wpB_one rfl _ _ (.pointer _) rfl rfl rfl hL ?_ | refine wpB_one rfl _ _ (.func _ _ _) rfl rfl rfl hL ?_) | (with_reducible first | refine wpH_max rfl _ _ _ _ rfl _ _ rfl rfl ?_ | refine wpH_min rfl _ _ _ _ rfl _ _ rfl rfl ?_) | ((with_reducible refine wpA_load rfl _ _ rfl _ rfl ?_); first | refine loadA hL ?_ | refine loadR hL ?_ | refine loadC hL ?_ | refine loadD ?_ | refine loadE hL ?_ | refine loadF ?_) | ((with_reducible refine wpA_index rfl _ _ _ rfl _ rfl _ rfl ?_); first | (refine indexA ?_; try rw [Int.toNat_natCast]) | refine indexC ?_) | ((with_reducible refine wpA_store rfl _ _ _ rfl _ rfl (.agg _) rfl ?_); refine storeR hL ?_; clear hL; intro _ hL) | ((with_reducible first | refine wpA_store rfl _ _ _ rfl _ rfl (.int _ _) rfl ?_ | refine wpA_store rfl _ _ _ rfl _ rfl (.slice _ _ _) rfl ?_ | refine wpA_store rfl _ _ _ rfl _ rfl (.bool _) rfl ?_ | refine wpA_store rfl _ _ _ rfl _ rfl (.pointer _) rfl ?_ | refine wpA_store rfl _ _ _ rfl _ rfl (.func _ _ _) rfl ?_); (first | refine storeA hL ?_ | refine storeO hL ?_); (clear hL; intro _ hL)) | ((with_reducible refine wpA_lit rfl _ _ _ rfl ?_); first | refine litA1 hL ?_ | refine litA2 hL ?_ | refine litA3 hL ?_ | refine litA4 hL ?_ | refine litA6 hL ?_) | ((with_reducible refine wpA_append rfl _ _ _ rfl (.slice _ _ _) rfl ?_); intro vq hvq; simp [go_sem] at hvq; subst hvq; refine appendA hL ?_; clear hL; intro _ _ _ hL; try dsimp only at hL) | ((with_reducible refine wpA_make rfl _ _ _ rfl _ rfl rfl ?_); refine makeA hL ?_))
            go_roundw
            case rel => exact ⟨i + 1, by omega, by go_num, hL⟩
            case measure => simp [intOf]; omega
          | true =>
            rw [hp] at HX
            obtain ⟨g0, g1, g2, g3, g4⟩ := hin hp
            subst g0
            clear hp hin
            have d1 : decide (16 * (i : Int) + 8 < X0) = false := decide_eq_false (by omega)
            have d2 : decide (X1 ≤ 16 * (i : Int) + 8) = false := decide_eq_false (by omega)
            have d3 : decide (16 * (j : Int) + 8 < Y0) = false := decide_eq_false (by omega)
            have d4 : decide (Y1 ≤ 16 * (j : Int) + 8) = false := decide_eq_false (by omega)
            go_wp2_with (first | (go_at_call 28; (with_reducible refine (HX.out _ hL.fact0).mono ?_); rintro e _ ⟨rfl, hb⟩; replace hL := hL.call hb; clear hb) | (first | (clear hL n1; with_reducible intro b1 w1 hL) | (clear hL n2; with_reducible intro b2 w2 hL) | (clear hL n3; with_reducible intro b3 w3 hL) | (clear hL n4; with_reducible intro b4 w4 hL) | (clear hL n5; with_reducible intro b5 w5 hL) | (clear hL; with_reducible intro _ _ hL)) | (with_reducible refine wpC_alloc rfl _ rfl _ _ inferInstance hL ?_) | (with_reducible first | refine wpB_agg rfl _ _ _ rfl rfl hL ?_ | refine wpB_one rfl _ _ (.int _ _) rfl rfl rfl hL ?_ | refine wpB_one rfl _ _ (.slice _ _ _) rfl rfl rfl hL ?_ | refine wpB_one rfl _ _ (.bool _) rfl rfl rfl hL ?_ | refine wpB_one rfl _ _ (.pointer _) rfl rfl rfl hL ?_ | refine wpB_one rfl _ _ (.func _ _ _) rfl rfl rfl hL ?_) | (with_reducible first | refine wpH_max rfl _ _ _ _ rfl _ _ rfl rfl ?_ | refine wpH_min rfl _ _ _ _ rfl _ _ rfl rfl ?_) | ((with_reducible refine wpA_load rfl _ _ rfl _ rfl ?_); first | refine loadA hL ?_ | refine loadR hL ?_ | refine loadC hL ?_ | refine loadD ?_ | refine loadE hL ?_ | refine loadF ?_) | ((with_reducible refine wpA_index rfl _ _ _ rfl _ rfl _ rfl ?_); first | (refine indexA ?_; try rw [Int.toNat_natCast]) | refine indexC ?_) | ((with_reducible refine wpA_store rfl _ _ _ rfl _ rfl (.agg _) rfl ?_); refine storeR hL ?_; clear hL; intro _ hL) | ((with_reducible first | refine wpA_store rfl _ _ _ rfl _ rfl (.int _ _) rfl ?_ | refine wpA_store rfl _ _ _ rfl _ rfl (.slice _ _ _) rfl ?_ | refine wpA_store rfl _ _ _ rfl _ rfl (.bool _) rfl ?_ | refine wpA_store rfl _ _ _ rfl _ rfl (.pointer _) rfl ?_ | refine wpA_store rfl _ _ _ rfl _ rfl (.func _ _ _) rfl ?_); (first | refine storeA hL ?_ | refine storeO hL ?_); (clear hL; intro _ hL)) | ((with_reducible refine wpA_lit rfl _ _ _ rfl ?_); first | refine litA1 hL ?_ | refine litA2 hL ?_ | refine litA3 hL ?_ | refine litA4 hL ?_ | refine litA6 hL ?_) | ((with_reducible refine wpA_append rfl _ _ _ rfl (.slice _ _ _) rfl ?_); intro vq hvq; simp [go_sem] at hvq; subst hvq; refine appendA hL ?_; clear hL; intro _ _ _ hL; try dsimp only at hL) | ((with_reducible refine wpA_make rfl _ _ _ rfl _ rfl rfl ?_); refine makeA hL ?_))
            go_roundw
            case rel => exact ⟨i + 1, by omega, by go_num, hL⟩
            case measure => simp [intOf]; omega
        · have e : i = 20 := by omega
          subst e
          go_wp2_with (first | (first | (clear hL n1; with_reducible intro b1 w1 hL) | (clear hL n2; with_reducible intro b2 w2 hL) | (clear hL n3; with_reducible intro b3 w3 hL) | (clear hL n4; with_reducible intro b4 w4 hL) | (clear hL n5; with_reducible intro b5 w5 hL) | (clear hL; with_reducible intro _ _ hL)) | (with_reducible refine wpC_alloc rfl _ rfl _ _ inferInstance hL ?_) | (with_reducible first | refine wpB_agg rfl _ _ _ rfl rfl hL ?_ | refine wpB_one rfl _ _ (.int _ _) rfl rfl rfl hL ?_ | refine wpB_one rfl _ _ (.slice _ _ _) rfl rfl rfl hL ?_ | refine wpB_one rfl _ _ (.bool _) rfl rfl rfl hL ?_ | refine wpB_one rfl _ _ (.pointer _) rfl rfl rfl hL ?_ | refine wpB_one rfl _ _ (.func _ _ _) rfl rfl rfl hL ?_) | (with_reducible first | refine wpH_max rfl _ _ _ _ rfl _ _ rfl rfl ?_ | refine wpH_min rfl _ _ _ _ rfl _ _ rfl rfl ?_) | ((with_reducible refine wpA_load rfl _ _ rfl _ rfl ?_); first | refine loadA hL ?_ | refine loadR hL ?_ | refine loadC hL ?_ | refine loadD ?_ | refine loadE hL ?_ | refine loadF ?_) | ((with_reducible refine wpA_index rfl _ _ _ rfl _ rfl _ rfl ?_); first | (refine indexA ?_; try rw [Int.toNat_natCast]) | refine indexC ?_) | ((with_reducible refine wpA_store rfl _ _ _ rfl _ rfl (.agg _) rfl ?_); refine storeR hL ?_; clear hL; intro _ hL) | ((with_reducible first | refine wpA_store rfl _ _ _ rfl _ rfl (.int _ _) rfl ?_ | refine wpA_store rfl _ _ _ rfl _ rfl (.slice _ _ _) rfl ?_ | refine wpA_store rfl _ _ _ rfl _ rfl (.bool _) rfl ?_ | refine wpA_store rfl _ _ _ rfl _ rfl (.pointer _) rfl ?_ | refine wpA_store rfl _ _ _ rfl _ rfl (.func _ _ _) rfl ?_); (first | refine storeA hL ?_ | refine storeO hL ?_); (clear hL; intro _ hL)) | ((with_reducible refine wpA_lit rfl _ _ _ rfl ?_); first | refine litA1 hL ?_ | refine litA2 hL ?_ | refine litA3 hL ?_ | refine litA4 hL ?_ | refine litA6 hL ?_) | ((with_reducible refine wpA_append rfl _ _ _ rfl (.slice _ _ _) rfl ?_); intro vq hvq; simp [go_sem] at hvq; subst hvq; refine appendA hL ?_; clear hL; intro _ _ _ hL; try dsimp only at hL) | ((with_reducible refine wpA_make rfl _ _ _ rfl _ rfl rfl ?_); refine makeA hL ?_))
          go_roundw
          case rel => exact ⟨j + 1, by omega, by go_num, hL⟩
          case measure => simp [intOf]; omega
    · have e : j = 20 := by omega
      subst e
      clear HB HIn HA HM
      go_wp2_with (first | (first | (clear hL n1; with_reducible intro b1 w1 hL) | (clear hL n2; with_reducible intro b2 w2 hL) | (clear hL n3; with_reducible intro b3 w3 hL) | (clear hL n4; with_reducible intro b4 w4 hL) | (clear hL n5; with_reducible intro b5 w5 hL) | (clear hL; with_reducible intro _ _ hL)) | (with_reducible refine wpC_alloc rfl _ rfl _ _ inferInstance hL ?_) | (with_reducible first | refine wpB_agg rfl _ _ _ rfl rfl hL ?_ | refine wpB_one rfl _ _ (.int _ _) rfl rfl rfl hL ?_ | refine wpB_one rfl _ _ (.slice _ _ _) rfl rfl rfl hL ?_ | refine wpB_one rfl _ _ (.bool _) rfl rfl rfl hL ?_ | refine wpB_one rfl _ _ (.pointer _) rfl rfl rfl hL ?_ | refine wpB_one rfl _ _ (.func _ _ _) rfl rfl rfl hL ?_) | (with_reducible first | refine wpH_max rfl _ _ _ _ rfl _ _ rfl rfl ?_ | refine wpH_min rfl _ _ _ _ rfl _ _ rfl rfl ?_) | ((with_reducible refine wpA_load rfl _ _ rfl _ rfl ?_); first | refine loadA hL ?_ | refine loadR hL ?_ | refine loadC hL ?_ | refine loadD ?_ | refine loadE hL ?_ | refine loadF ?_) | ((with_reducible refine wpA_index rfl _ _ _ rfl _ rfl _ rfl ?_); first | (refine indexA ?_; try rw [Int.toNat_natCast]) | refine indexC ?_) | ((with_reducible refine wpA_store rfl _ _ _ rfl _ rfl (.agg _) rfl ?_); refine storeR hL ?_; clear hL; intro _ hL) | ((with_reducible first | refine wpA_store rfl _ _ _ rfl _ rfl (.int _ _) rfl ?_ | refine wpA_store rfl _ _ _ rfl _ rfl (.slice _ _ _) rfl ?_ | refine wpA_store rfl _ _ _ rfl _ rfl (.bool _) rfl ?_ | refine wpA_store rfl _ _ _ rfl _ rfl (.pointer _) rfl ?_ | refine wpA_store rfl _ _ _ rfl _ rfl (.func _ _ _) rfl ?_); (first | refine storeA hL ?_ | refine storeO hL ?_); (clear hL; intro _ hL)) | ((with_reducible refine wpA_lit rfl _ _ _ rfl ?_); first | refine litA1 hL ?_ | refine litA2 hL ?_ | refine litA3 hL ?_ | refine litA4 hL ?_ | refine litA6 hL ?_) | ((with_reducible refine wpA_append rfl _ _ _ rfl (.slice _ _ _) rfl ?_); intro vq hvq; simp [go_sem] at hvq; subst hvq; refine appendA hL ?_; clear hL; intro _ _ _ hL; try dsimp only at hL) | ((with_reducible refine wpA_make rfl _ _ _ rfl _ rfl rfl ?_); refine makeA hL ?_))
      go_loopw [18] (fun s18 wr => ∃ (k : Nat), k ≤ 4 ∧ s18 = .int .i64 k ∧ Holds w wr [blk b2 #[.int .i64 20, .int .i64 20, .slice mm 400 400] 26, blk b1 (arrI 4 fun j => if j < k then pl300W (pa j) else pa j) 50] [])
        (fun s18 wr => 4 - (intOf s18).toNat)
      case atStart => exact ⟨0, by omega, rfl, by rw [show arrI 4 (fun j => if j < 0 then pl300W (pa j) else pa j) = arrI 4 pa from arrI_congrW fun j _ => by simp]; exact hL.forget⟩
      case round =>
        clear hL
        obtain ⟨k, hk, rfl, hL⟩ := hrel
        by_cases hkt : k < 4
        · have hkb : (k : Int) < 4 := by omega
          have hk0 : (0 : Int) ≤ (k : Int) := by omega
          have HA := Lib.hid (show ∀ z : Int, z = pl300W (pa k) → arrI 4 (fun j => if j = k then z else if j < k then pl300W (pa j) else pa j) = arrI 4 (fun j => if j < k + 1 then pl300W (pa j) else pa j) from fun z hz => arrI_congrW fun j _ => by
            subst hz
            by_cases h1 : j = k
            · subst h1; simp
            · have : j < k + 1 ↔ j < k := by omega
              simp [h1, this])
          have HB := Lib.hid (show (if k < k then pl300W (pa k) else pa k) = pa k by simp)
          have p1 := Int.emod_nonneg (pa k) (show (300 : Int) ≠ 0 by omega)
          have p2 := Int.emod_lt_of_pos (pa k) (show (0 : Int) < 300 by omega)
          go_wp2_with (first | (go_at_call 18; (with_reducible refine (place_calls _ 300 (by omega) (by omega) _).mono ?_); rintro e _ ⟨rfl, rfl⟩; try rw [HB.out]) | (first | (clear hL n1; with_reducible intro b1 w1 hL) | (clear hL n2; with_reducible intro b2 w2 hL) | (clear hL n3; with_reducible intro b3 w3 hL) | (clear hL n4; with_reducible intro b4 w4 hL) | (clear hL n5; with_reducible intro b5 w5 hL) | (clear hL; with_reducible intro _ _ hL)) | (with_reducible refine wpC_alloc rfl _ rfl _ _ inferInstance hL ?_) | (with_reducible first | refine wpB_agg rfl _ _ _ rfl rfl hL ?_ | refine wpB_one rfl _ _ (.int _ _) rfl rfl rfl hL ?_ | refine wpB_one rfl _ _ (.slice _ _ _) rfl rfl rfl hL ?_ | refine wpB_one rfl _ _ (.bool _) rfl rfl rfl hL ?_ | refine wpB_one rfl _ _ (.pointer _) rfl rfl rfl hL ?_ | refine wpB_one rfl _ _ (.func _ _ _) rfl rfl rfl hL ?_) | (with_reducible first | refine wpH_max rfl _ _ _ _ rfl _ _ rfl rfl ?_ | refine wpH_min rfl _ _ _ _ rfl _ _ rfl rfl ?_) | ((with_reducible refine wpA_load rfl _ _ rfl _ rfl ?_); first | refine loadA hL ?_ | refine loadR hL ?_ | refine loadC hL ?_ | refine loadD ?_ | refine loadE hL ?_ | refine loadF ?_) | ((with_reducible refine wpA_index rfl _ _ _ rfl _ rfl _ rfl ?_); first | (refine indexA ?_; try rw [Int.toNat_natCast]) | refine indexC ?_) | ((with_reducible refine wpA_store rfl _ _ _ rfl _ rfl (.agg _) rfl ?_); refine storeR hL ?_; clear hL; intro _ hL) | ((with_reducible first | refine wpA_store rfl _ _ _ rfl _ rfl (.int _ _) rfl ?_ | refine wpA_store rfl _ _ _ rfl _ rfl (.slice _ _ _) rfl ?_ | refine wpA_store rfl _ _ _ rfl _ rfl (.bool _) rfl ?_ | refine wpA_store rfl _ _ _ rfl _ rfl (.pointer _) rfl ?_ | refine wpA_store rfl _ _ _ rfl _ rfl (.func _ _ _) rfl ?_); (first | refine storeA hL ?_ | refine storeO hL ?_); (clear hL; intro _ hL)) | ((with_reducible refine wpA_lit rfl _ _ _ rfl ?_); first | refine litA1 hL ?_ | refine litA2 hL ?_ | refine litA3 hL ?_ | refine litA4 hL ?_ | refine litA6 hL ?_) | ((with_reducible refine wpA_append rfl _ _ _ rfl (.slice _ _ _) rfl ?_); intro vq hvq; simp [go_sem] at hvq; subst hvq; refine appendA hL ?_; clear hL; intro _ _ _ hL; try dsimp only at hL) | ((with_reducible refine wpA_make rfl _ _ _ rfl _ rfl rfl ?_); refine makeA hL ?_))
          go_roundw
          case rel =>
            rw [HA.out (pa k % 300 - 20) rfl] at hL
            exact ⟨_, _, _, _, _, _, _, _, _, _, _, _, ⟨k + 1, by omega, by go_num, hL⟩, rfl⟩
          case measure => simp [intOf]; omega
        · have e : k = 4 := by omega
          subst e
          rw [show arrI 4 (fun j => if j < 4 then pl300W (pa j) else pa j) = arrI 4 (fun j => pl300W (pa j)) from arrI_congrW fun j hj => by simp [hj]] at hL
          have hA : arrI 4 (fun j => pl300W (pa j)) = #[.int .i64 (pl300W (pa 0)), .int .i64 (pl300W (pa 1)), .int .i64 (pl300W (pa 2)), .int .i64 (pl300W (pa 3))] := by unfold arrI; rfl
          rw [hA] at hL
          obtain ⟨hm2, hm1⟩ := pair_may (pl300W_bd (pa 0)) (pl300W_bd (pa 1)) (pl300W_bd (pa 2)) (pl300W_bd (pa 3))
          clear hA
          generalize pl300W (pa 0) = a0 at *
          generalize pl300W (pa 1) = a1 at *
          generalize pl300W (pa 2) = a2 at *
          generalize pl300W (pa 3) = a3 at *
          have hO := fun w' v' (hv : SegsAt w' v' [⟨1, a0, a1, 0, 0⟩, ⟨2, a2, a3, 0, 0⟩]) => coverMaskK_calls (W := 20) (H := 20) (Wi := 20) (Hi := 20) (n := 400) rfl rfl rfl hs w' v' (pairS a0 a1 a2 a3) hv hm2 r hr
          rw [cover_none (r := r) fun x y => pair_wind a0 a1 a2 a3 x y hm2] at hO
          have HO := Lib.hid hO
          clear hO
          have HP := Lib.hid (fun w' v' hv => coverMaskK_calls (W := 20) (H := 20) (Wi := 20) (Hi := 20) (n := 400) rfl rfl rfl hs w' v' [⟨1, a0, a1, 0, 0⟩] hv hm1 r hr)
          rw [cover_none (r := r) fun x y => by rw [dot_edges _ _ hm1]; rfl] at HP
          have HQ := Lib.hid (fun w' => coverMaskK_calls (W := 20) (H := 20) (Wi := 20) (Hi := 20) (n := 400) rfl rfl rfl hs w' (.slice none 0 0) [] (nilSegs_at w') nil_may r hr)
          rw [cover_none (r := r) fun x y => by rw [nil_edges]; rfl] at HQ
          have HCn := Lib.hid (fun w' ma h => countK_calls (W := 20) (H := 20) (Wi := 20) (Hi := 20) (n := 400) rfl rfl rfl hs w' ma (fun _ _ => false) h)
          rw [count_noneW] at HCn
          clear hm1 hm2
          go_wp2_with (first | ((with_reducible refine wpA_lit rfl _ _ _ rfl ?_); refine litA2 hL ?_; clear hL; intro bt wt hL; replace hL := hL.settle .here (φ := fun w => SegsAt w (.slice (some ⟨bt, 0, none⟩) 2 2) [⟨1, a0, a1, 0, 0⟩, ⟨2, a2, a3, 0, 0⟩]) (fun w h => blk_segs [⟨1, a0, a1, 0, 0⟩, ⟨2, a2, a3, 0, 0⟩] h rfl (by unfold maxLen; simp))) | (go_at_call 14; (first | ((with_reducible refine (HO.out _ _ hL.fact0).mono ?_); rintro e _ ⟨mo, rfl, hb, hf⟩) | ((with_reducible refine (HP.out _ _ (first_at hL.fact1)).mono ?_); rintro e _ ⟨mp, rfl, hb, hf⟩) | ((with_reducible refine (HQ.out _).mono ?_); rintro e _ ⟨mq, rfl, hb, hf⟩)); replace hL := hL.callF hb hf; clear hb hf) | (first | (clear hL n1; with_reducible intro b1 w1 hL) | (clear hL n2; with_reducible intro b2 w2 hL) | (clear hL n3; with_reducible intro b3 w3 hL) | (clear hL n4; with_reducible intro b4 w4 hL) | (clear hL n5; with_reducible intro b5 w5 hL) | (clear hL; with_reducible intro _ _ hL)) | (with_reducible refine wpC_alloc rfl _ rfl _ _ inferInstance hL ?_) | (with_reducible first | refine wpB_agg rfl _ _ _ rfl rfl hL ?_ | refine wpB_one rfl _ _ (.int _ _) rfl rfl rfl hL ?_ | refine wpB_one rfl _ _ (.slice _ _ _) rfl rfl rfl hL ?_ | refine wpB_one rfl _ _ (.bool _) rfl rfl rfl hL ?_ | refine wpB_one rfl _ _ (.pointer _) rfl rfl rfl hL ?_ | refine wpB_one rfl _ _ (.func _ _ _) rfl rfl rfl hL ?_) | (with_reducible first | refine wpH_max rfl _ _ _ _ rfl _ _ rfl rfl ?_ | refine wpH_min rfl _ _ _ _ rfl _ _ rfl rfl ?_) | ((with_reducible refine wpA_load rfl _ _ rfl _ rfl ?_); first | refine loadA hL ?_ | refine loadR hL ?_ | refine loadC hL ?_ | refine loadD ?_ | refine loadE hL ?_ | refine loadF ?_) | ((with_reducible refine wpA_index rfl _ _ _ rfl _ rfl _ rfl ?_); first | (refine indexA ?_; try rw [Int.toNat_natCast]) | refine indexC ?_) | ((with_reducible refine wpA_store rfl _ _ _ rfl _ rfl (.agg _) rfl ?_); refine storeR hL ?_; clear hL; intro _ hL) | ((with_reducible first | refine wpA_store rfl _ _ _ rfl _ rfl (.int _ _) rfl ?_ | refine wpA_store rfl _ _ _ rfl _ rfl (.slice _ _ _) rfl ?_ | refine wpA_store rfl _ _ _ rfl _ rfl (.bool _) rfl ?_ | refine wpA_store rfl _ _ _ rfl _ rfl (.pointer _) rfl ?_ | refine wpA_store rfl _ _ _ rfl _ rfl (.func _ _ _) rfl ?_); (first | refine storeA hL ?_ | refine storeO hL ?_); (clear hL; intro _ hL)) | ((with_reducible refine wpA_lit rfl _ _ _ rfl ?_); first | refine litA1 hL ?_ | refine litA2 hL ?_ | refine litA3 hL ?_ | refine litA4 hL ?_ | refine litA6 hL ?_) | ((with_reducible refine wpA_append rfl _ _ _ rfl (.slice _ _ _) rfl ?_); intro vq hvq; simp [go_sem] at hvq; subst hvq; refine appendA hL ?_; clear hL; intro _ _ _ hL; try dsimp only at hL) | ((with_reducible refine wpA_make rfl _ _ _ rfl _ rfl rfl ?_); refine makeA hL ?_))
          replace hL := hL.drew
          have hw0 : IntKind.i64.wrap 0 = 0 := rfl
          have hS := (show (fun w' : World => w'.rangeAt b3 0 #[.int .i64 20, .int .i64 20, .slice mo 400 400].toList ∧ w'.rangeAt b4 0 #[.int .i64 20, .int .i64 20, .slice mp 400 400].toList ∧ w'.rangeAt b5 0 #[.int .i64 20, .int .i64 20, .slice mq 400 400].toList) _ from ⟨hL.range (by (repeat (first | with_reducible exact At.here | with_reducible apply At.there))), hL.range (by (repeat (first | with_reducible exact At.here | with_reducible apply At.there))), hL.range (by (repeat (first | with_reducible exact At.here | with_reducible apply At.there)))⟩)
          refine wpH_begin (by kernel_rfl) (fun w' : World => w'.rangeAt b3 0 #[.int .i64 20, .int .i64 20, .slice mo 400 400].toList ∧ w'.rangeAt b4 0 #[.int .i64 20, .int .i64 20, .slice mp 400 400].toList ∧ w'.rangeAt b5 0 #[.int .i64 20, .int .i64 20, .slice mq 400 400].toList) ?_
          refine stH (i := 0) (.int .i64 0) hS ?_ ?_; (· exact fun w' _ => (by go_simp)); simp only [Act.put, List.setIfInBounds_toArray, List.set_cons_zero, List.set_cons_succ]
          refine stH (i := 1) (.int .i64 0) hS ?_ ?_; (· exact fun w' _ => (by go_simp)); simp only [Act.put, List.setIfInBounds_toArray, List.set_cons_zero, List.set_cons_succ]
          refine stH (i := 2) (.int .i64 0) hS ?_ ?_; (· exact fun w' _ => (by go_simp)); simp only [Act.put, List.setIfInBounds_toArray, List.set_cons_zero, List.set_cons_succ]
          refine stH (i := 3) (.int .i64 0) hS ?_ ?_; (· exact fun w' _ => (by go_simp)); simp only [Act.put, List.setIfInBounds_toArray, List.set_cons_zero, List.set_cons_succ]
          refine stH (i := 4) (.int .i64 0) hS ?_ ?_; (· exact fun w' _ => (by go_simp)); simp only [Act.put, List.setIfInBounds_toArray, List.set_cons_zero, List.set_cons_succ]
          refine stH (i := 5) (.int .i64 0) hS ?_ ?_; (· exact fun w' _ => (by go_simp)); simp only [Act.put, List.setIfInBounds_toArray, List.set_cons_zero, List.set_cons_succ]
          refine stH (i := 6) (.int .i64 0) hS ?_ ?_; (· exact fun w' _ => (by go_simp)); simp only [Act.put, List.setIfInBounds_toArray, List.set_cons_zero, List.set_cons_succ]
          refine stH (i := 7) (.bool true) hS ?_ ?_; (· exact fun w' _ => (by go_simp)); simp only [Act.put, List.setIfInBounds_toArray, List.set_cons_zero, List.set_cons_succ]
          refine stH (i := 8) (.bool true) hS ?_ ?_; (· exact fun w' _ => (by go_simp)); simp only [Act.put, List.setIfInBounds_toArray, List.set_cons_zero, List.set_cons_succ]
          refine stH (i := 9) (.agg #[.int .i64 20, .int .i64 20, .slice mo 400 400]) hS ?_ ?_; (· exact fun w' hw => run_loadOp _ _ rfl _ rfl _ (load_range (cs := #[.int .i64 20, .int .i64 20, .slice mo 400 400]) rfl hw.1)); simp only [Act.put, List.setIfInBounds_toArray, List.set_cons_zero, List.set_cons_succ]
          refine stH (i := 11) (.agg #[.int .i64 20, .int .i64 20, .slice mp 400 400]) hS ?_ ?_; (· exact fun w' hw => run_loadOp _ _ rfl _ rfl _ (load_range (cs := #[.int .i64 20, .int .i64 20, .slice mp 400 400]) rfl hw.2.1)); simp only [Act.put, List.setIfInBounds_toArray, List.set_cons_zero, List.set_cons_succ]
          refine stH (i := 14) (.agg #[.int .i64 20, .int .i64 20, .slice mq 400 400]) hS ?_ ?_; (· exact fun w' hw => run_loadOp _ _ rfl _ rfl _ (load_range (cs := #[.int .i64 20, .int .i64 20, .slice mq 400 400]) rfl hw.2.2)); simp only [Act.put, List.setIfInBounds_toArray, List.set_cons_zero, List.set_cons_succ]
          refine wpH_one (i := 10) (by kernel_rfl) (wpOp_of (by simp only [List.getElem?_toArray, List.getElem?_cons_zero, List.getElem?_cons_succ]; rfl) ?_)
          refine st_call rfl 22 #[.agg #[.int .i64 20, .int .i64 20, .slice mo 400 400]] (by go_simp) (HCn.out _ _ hL.fact2) ?_
          rintro e w' ⟨rfl, hb⟩
          replace hL := hL.call hb
          clear hb hS
          have hS := (show (fun w' : World => w'.rangeAt b3 0 #[.int .i64 20, .int .i64 20, .slice mo 400 400].toList ∧ w'.rangeAt b4 0 #[.int .i64 20, .int .i64 20, .slice mp 400 400].toList ∧ w'.rangeAt b5 0 #[.int .i64 20, .int .i64 20, .slice mq 400 400].toList) _ from ⟨hL.range (by (repeat (first | with_reducible exact At.here | with_reducible apply At.there))), hL.range (by (repeat (first | with_reducible exact At.here | with_reducible apply At.there))), hL.range (by (repeat (first | with_reducible exact At.here | with_reducible apply At.there)))⟩)
          refine ⟨_, rfl, hS, ?_⟩
          simp only [Act.put, List.setIfInBounds_toArray, List.set_cons_zero, List.set_cons_succ]
          refine wpH_one (i := 12) (by kernel_rfl) (wpOp_of (by simp only [List.getElem?_toArray, List.getElem?_cons_zero, List.getElem?_cons_succ]; rfl) ?_)
          refine st_call rfl 22 #[.agg #[.int .i64 20, .int .i64 20, .slice mp 400 400]] (by go_simp) (HCn.out _ _ hL.fact1) ?_
          rintro e w' ⟨rfl, hb⟩
          replace hL := hL.call hb
          clear hb hS
          have hS := (show (fun w' : World => w'.rangeAt b3 0 #[.int .i64 20, .int .i64 20, .slice mo 400 400].toList ∧ w'.rangeAt b4 0 #[.int .i64 20, .int .i64 20, .slice mp 400 400].toList ∧ w'.rangeAt b5 0 #[.int .i64 20, .int .i64 20, .slice mq 400 400].toList) _ from ⟨hL.range (by (repeat (first | with_reducible exact At.here | with_reducible apply At.there))), hL.range (by (repeat (first | with_reducible exact At.here | with_reducible apply At.there))), hL.range (by (repeat (first | with_reducible exact At.here | with_reducible apply At.there)))⟩)
          refine ⟨_, rfl, hS, ?_⟩
          simp only [Act.put, List.setIfInBounds_toArray, List.set_cons_zero, List.set_cons_succ]
          refine stH (i := 13) (.int .i64 0) hS ?_ ?_; (· exact fun w' _ => (by go_simp)); simp only [Act.put, List.setIfInBounds_toArray, List.set_cons_zero, List.set_cons_succ]
          refine wpH_one (i := 15) (by kernel_rfl) (wpOp_of (by simp only [List.getElem?_toArray, List.getElem?_cons_zero, List.getElem?_cons_succ]; rfl) ?_)
          refine st_call rfl 22 #[.agg #[.int .i64 20, .int .i64 20, .slice mq 400 400]] (by go_simp) (HCn.out _ _ hL.fact0) ?_
          rintro e w' ⟨rfl, hb⟩
          replace hL := hL.call hb
          clear hb hS
          have hS := (show (fun w' : World => w'.rangeAt b3 0 #[.int .i64 20, .int .i64 20, .slice mo 400 400].toList ∧ w'.rangeAt b4 0 #[.int .i64 20, .int .i64 20, .slice mp 400 400].toList ∧ w'.rangeAt b5 0 #[.int .i64 20, .int .i64 20, .slice mq 400 400].toList) _ from ⟨hL.range (by (repeat (first | with_reducible exact At.here | with_reducible apply At.there))), hL.range (by (repeat (first | with_reducible exact At.here | with_reducible apply At.there))), hL.range (by (repeat (first | with_reducible exact At.here | with_reducible apply At.there)))⟩)
          refine ⟨_, rfl, hS, ?_⟩
          simp only [Act.put, List.setIfInBounds_toArray, List.set_cons_zero, List.set_cons_succ]
          refine stH (i := 16) (.int .i64 0) hS ?_ ?_; (· exact fun w' _ => (by go_simp)); simp only [Act.put, List.setIfInBounds_toArray, List.set_cons_zero, List.set_cons_succ]
          refine stH (i := 17) (.bool true) hS ?_ ?_; (· exact fun w' _ => (by go_simp)); simp only [Act.put, List.setIfInBounds_toArray, List.set_cons_zero, List.set_cons_succ]
          refine stH (i := 18) (.bool true) hS ?_ ?_; (· exact fun w' _ => (by go_simp)); simp only [Act.put, List.setIfInBounds_toArray, List.set_cons_zero, List.set_cons_succ]
          refine stH (i := 19) (.bool true) hS ?_ ?_; (· exact fun w' _ => (by go_simp)); simp only [Act.put, List.setIfInBounds_toArray, List.set_cons_zero, List.set_cons_succ]
          refine wpAnyH_done (by kernel_rfl) ?_ _
          clear hS
          go_wp2
          go_ret
          exact ⟨rfl, hL.below⟩
end Go.Proofs.Ytneddfiohekhiaa
