/- CoverFan returns true. -/
import Derived.Test.YtneddfiohekhiaaTrG
import Derived.Test.YtneddfiohekhiaaKn
-- uses arrU
-- lit6
namespace Go.Proofs.Ytneddfiohekhiaa
open Go.RowKit

theorem Holds.forget3 {w0 w : World} {M : List Res} {Φ : List (World → Prop)} {a b c : World → Prop} (h : Holds w0 w M (a :: b :: c :: Φ)) : Holds w0 w M (a :: b :: Φ) := h.facts fun θ hθ => h.firm θ (by simp only [List.mem_cons] at hθ ⊢; rcases hθ with h | h | h <;> simp [h])
/-- what the first triangles of a fan cover, by EvenOdd -/
def fanQ (u v : Int) (E : List Edg) (k : Nat) (j i : Nat) : Bool := isIn 1 ((E.take k).map (fanG u v (16 * (i : Int) + 8) (16 * (j : Int) + 8))).sum
theorem fanQ_zero (u v : Int) (E : List Edg) : fanQ u v E 0 = fun _ _ => false := by
  funext j i; rfl
theorem fanQ_succ {u v : Int} {E : List Edg} {k : Nat} (h : k < E.length) {x0 y0 x1 y1 : Int} (he : E.getD k default = lineE x0 y0 x1 y1) (hm : pathMay (triS u v x0 y0 x1 y1) = true) :
    (fun j i => fanQ u v E k j i != (fun j i : Nat => isIn 1 (windG (edgesS (triS u v x0 y0 x1 y1)) (16 * (i : Int) + 8) (16 * (j : Int) + 8))) j i) = fanQ u v E (k + 1) := by
  funext j i
  unfold fanQ
  rw [sum_stepG _ h, he, odd_add]
  dsimp only
  rw [triS_wind hm]
  rfl

set_option maxRecDepth 100000 in
set_option maxHeartbeats 8000000 in
theorem coverFan_calls (w : World) (va : Value) (na : List Int) (ha : NumsAt w va na) (px py : Int) : Calls Try.prog 5 #[va, .int .i64 px, .int .i64 py] w fun e w' => e = .returned (.bool true) ∧ Below w.heap.size w w' := by
  have hs : Sides 11 11 := ⟨by decide, by decide, by decide, by decide⟩
  have hL := Holds.start w
  obtain ⟨a, cap, rfl, _⟩ := ha.parts
  have HM := Lib.hid (fun w' hb => loop_calls w' _ na (SliceAt.below ha hb))
  clear ha
  have hgood := (loop_good na).1.small
  have hmay := loop_may na
  have hline := loop_line na
  generalize loopS na = S at *
  have q1 := Int.emod_nonneg px (show (300 : Int) ≠ 0 by omega)
  have q2 := Int.emod_lt_of_pos px (show (0 : Int) < 300 by omega)
  have q3 := Int.emod_nonneg py (show (300 : Int) ≠ 0 by omega)
  have q4 := Int.emod_lt_of_pos py (show (0 : Int) < 300 by omega)
  have HP1 := Lib.hid (fun w => place_calls px 300 (by omega) (by omega) w)
  have HP2 := Lib.hid (fun w => place_calls py 300 (by omega) (by omega) w)
  generalize px % 300 = du at *
  generalize py % 300 = dv at *
  have hlen := edgesS_len S
  have HE := Lib.hid (fun w' v => edges_calls w' v S)
  have HN0 := Lib.hid (fun w' => coverMaskK_calls (W := 11) (H := 11) (Wi := 11) (Hi := 11) (n := 121) rfl rfl rfl hs w' (.slice none 0 0) [] (nilSegs_at w') nil_may 1 (.inr rfl))
  rw [show (fun j i : Nat => isIn 1 (windG (edgesS []) (16 * (i : Int) + 8) (16 * (j : Int) + 8))) = fanQ (du - 30) (dv - 30) (edgesS S) 0 by rw [fanQ_zero, nil_edges]; rfl] at HN0
  have HML := Lib.hid (fun w' v' hv => coverMaskK_calls (W := 11) (H := 11) (Wi := 11) (Hi := 11) (n := 121) rfl rfl rfl hs w' v' S hv hmay 1 (.inr rfl))
  rw [show (fun j i : Nat => isIn 1 (windG (edgesS S) (16 * (i : Int) + 8) (16 * (j : Int) + 8))) = fanQ (du - 30) (dv - 30) (edgesS S) (edgesS S).length by funext j i; unfold fanQ; rw [List.take_length, fanG_law _ _ _ _ hline]] at HML
  have hsm := edges_small hgood
  clear hmay hgood
  generalize edgesS S = E at *
  have HLn := Lib.hid hline
  have HSm := Lib.hid hsm
  clear hline hsm
  have n1 : True := trivial; have n2 : True := trivial
  go_enter Try.func5, Try.ntmps5
  go_wp2_with (first | (go_at_call 13; (with_reducible refine (known_calls _).mono ?_); rintro e _ ⟨rfl, hb⟩; replace hL := hL.call hb; clear hb) | (go_at_call 24; (with_reducible refine (HM.out _ hL.below).mono ?_); rintro e _ ⟨vs, rfl, hb, hf⟩; replace hL := hL.callF hb hf; clear hb hf) | (go_at_call 25; (with_reducible refine (HE.out _ _ hL.fact0).mono ?_); rintro e _ ⟨ve, rfl, hb, hf⟩; obtain ⟨ea, ec, rfl, _⟩ := EdgesAt.parts hf.now; replace hL := hL.callF hb hf; clear hb hf) | (go_at_call 18; (with_reducible first | refine (HP1.out _).mono ?_ | refine (HP2.out _).mono ?_); rintro e _ ⟨rfl, rfl⟩) | (go_at_call 14; (with_reducible refine (HN0.out _).mono ?_); rintro e _ ⟨m0, rfl, hb, hf⟩; replace hL := hL.callF hb hf; clear hb hf) | (first | (clear hL n1; with_reducible intro b1 w1 hL) | (clear hL n2; with_reducible intro b2 w2 hL) | (clear hL; with_reducible intro _ _ hL)) | (with_reducible refine wpC_alloc rfl _ rfl _ _ inferInstance hL ?_) | (with_reducible first | refine wpB_agg rfl _ _ _ rfl rfl hL ?_ | refine wpB_one rfl _ _ (.int _ _) rfl rfl rfl hL ?_ | refine wpB_one rfl _ _ (.slice _ _ _) rfl rfl rfl hL ?_ | refine wpB_one rfl _ _ (.bool _) rfl rfl rfl hL ?_ | refine wpB_one rfl _ _ (.pointer _) rfl rfl rfl hL ?_ | refine wpB_one rfl _ _ (.func _ _ _) rfl rfl rfl hL ?_) | (with_reducible first | refine wpH_max rfl _ _ _ _ rfl _ _ rfl rfl ?_ | refine wpH_min rfl _ _ _ _ rfl _ _ rfl rfl ?_) | ((with_reducible refine wpA_load rfl _ _ rfl _ rfl ?_); first | refine loadA hL ?_ | refine loadR hL ?_ | refine loadC hL ?_ | refine loadD ?_ | refine loadE hL ?_ | refine loadF ?_) | ((with_reducible refine wpA_index rfl _ _ _ rfl _ rfl _ rfl ?_); first | (refine indexA ?_; try rw [Int.toNat_natCast]) | refine indexC ?_) | ((with_reducible refine wpA_store rfl _ _ _ rfl _ rfl (.agg _) rfl ?_); refine storeR hL ?_; clear hL; intro _ hL) | ((with_reducible first | refine wpA_store rfl _ _ _ rfl _ rfl (.int _ _) rfl ?_ | refine wpA_store rfl _ _ _ rfl _ rfl (.slice _ _ _) rfl ?_ | refine wpA_store rfl _ _ _ rfl _ rfl (.bool _) rfl ?_ | refine wpA_store rfl _ _ _ rfl _ rfl (.pointer _) rfl ?_ | refine wpA_store rfl _ _ _ rfl _ rfl (.func _ _ _) rfl ?_); (first | refine storeA hL ?_ | refine storeO hL ?_); (clear hL; intro _ hL)) | ((with_reducible refine wpA_lit rfl _ _ _ rfl ?_); first | refine litA1 hL ?_ | refine litA2 hL ?_ | refine litA3 hL ?_ | refine litA4 hL ?_ | refine litA6 hL ?_) | ((with_reducible refine wpA_append rfl _ _ _ rfl (.slice _ _ _) rfl ?_); intro vq hvq; simp [go_sem] at hvq; subst hvq; refine appendA hL ?_; clear hL; intro _ _ _ hL; try dsimp only at hL) | ((with_reducible refine wpA_make rfl _ _ _ rfl _ rfl rfl ?_); refine makeA hL ?_))
  go_loopw [13] (fun s13 wr => ∃ (i : Nat) (m : Option Addr), i ≤ E.length ∧ s13 = .int .i64 i ∧ Holds w wr [blk b1 #[.int .i64 11, .int .i64 11, .slice m 121 121] 26] [MaskF (.agg #[.int .i64 11, .int .i64 11, .slice m 121 121]) (pixMask 11 11 (fanQ (du - 30) (dv - 30) E i)), fun w => EdgesAt w (.slice ea E.length ec) E, fun w => SegsAt w vs S])
    (fun s13 wr => E.length - (intOf s13).toNat)
  case atStart => exact ⟨0, m0, by omega, rfl, hL⟩
  case round =>
    clear hL
    obtain ⟨i, m, hi, rfl, hL⟩ := hrel
    by_cases hit : i < E.length
    · have hib : (i : Int) < (E.length : Int) := by omega
      have hib0 : (0 : Int) ≤ (i : Int) := by omega
      have hmem : E.getD i default ∈ E := by rw [show E.getD i default = E[i] by simp [hit]]; exact List.getElem_mem hit
      have hln := HLn.out _ hmem
      have hsm := HSm.out _ hmem
      clear hmem
      have HQ := Lib.hid (fun x0 y0 x1 y1 he hm => fanQ_succ (u := du - 30) (v := dv - 30) hit (x0 := x0) (y0 := y0) (x1 := x1) (y1 := y1) he hm)
      obtain ⟨be, oe, rfl, _⟩ : ∃ be oe, ea = some ⟨be, oe, none⟩ ∧ True := by
        obtain ⟨a', c', he, _, _, hel⟩ := EdgesAt.parts hL.fact1
        injection he with he _ _
        subst he
        obtain ⟨b, o, e, _⟩ := hel i hit
        exact ⟨b, o, e, trivial⟩
      replace hL := (hL.swap.dup).map (χ := fun w => w.rangeAt be (oe + i * 7) (edgeC (E.getD i default))) fun w h => by
        obtain ⟨a', c', he, _, _, h5⟩ := EdgesAt.parts h
        injection he with he _ _
        subst he
        obtain ⟨b', o', e, hr⟩ := h5 i hit
        cases e
        exact hr
      generalize E.getD i default = e at *
      obtain ⟨x0, y0, bt, ex, ey, x1, y1⟩ := e
      have hl2 : (⟨x0, y0, bt, ex, ey, x1, y1⟩ : Edg) = lineE x0 y0 x1 y1 := hln
      unfold lineE at hl2
      injection hl2 with _ _ hb1 hb2 hb3 _ _
      subst hb1; subst hb2; subst hb3
      obtain ⟨⟨s1, s2⟩, _, s3, s4⟩ := hsm
      unfold smallI at s1 s2 s3 s4
      dsimp only at s1 s2 s3 s4
      have hmt : pathMay (triS (du - 30) (dv - 30) x0 y0 x1 y1) = true := triS_may (by omega) (by omega) (by omega) (by omega) (by omega) (by omega)
      have hn := HQ.out x0 y0 x1 y1 rfl hmt
      have HT := Lib.hid (fun w' v' hv => coverMaskK_calls (W := 11) (H := 11) (Wi := 11) (Hi := 11) (n := 121) rfl rfl rfl hs w' v' (triS (du - 30) (dv - 30) x0 y0 x1 y1) hv hmt 1 (.inr rfl))
      generalize (fun j i : Nat => isIn 1 (windG (edgesS (triS (du - 30) (dv - 30) x0 y0 x1 y1)) (16 * (i : Int) + 8) (16 * (j : Int) + 8))) = tq at *
      have HN := Lib.hid hn
      clear hn hmt hln
      unfold edgeC at hL
      dsimp only at hL
      have n1 : True := trivial; have n2 : True := trivial; have n3 : True := trivial; have n4 : True := trivial; have n5 : True := trivial; have n6 : True := trivial
      clear n1 n2 n3
      go_wp2_with (first | (first | (clear hL n1; with_reducible intro b1 w1 hL) | (clear hL n2; with_reducible intro b2 w2 hL) | (clear hL n3; with_reducible intro b3 w3 hL) | (clear hL n4; with_reducible intro b4 w4 hL) | (clear hL n5; with_reducible intro b5 w5 hL) | (clear hL n6; with_reducible intro b6 w6 hL) | (clear hL; with_reducible intro _ _ hL)) | (with_reducible refine wpC_alloc rfl _ rfl _ _ inferInstance hL ?_) | (with_reducible first | refine wpB_agg rfl _ _ _ rfl rfl hL ?_ | refine wpB_one rfl _ _ (.int _ _) rfl rfl rfl hL ?_ | refine wpB_one rfl _ _ (.slice _ _ _) rfl rfl rfl hL ?_ | refine wpB_one rfl _ _ (.bool _) rfl rfl rfl hL ?_ | refine wpB_one rfl _ _ (.pointer _) rfl rfl rfl hL ?_ | refine wpB_one rfl _ _ (.func _ _ _) rfl rfl rfl hL ?_) | (with_reducible first | refine wpH_max rfl _ _ _ _ rfl _ _ rfl rfl ?_ | refine wpH_min rfl _ _ _ _ rfl _ _ rfl rfl ?_) | ((with_reducible refine wpA_load rfl _ _ rfl _ rfl ?_); first | refine loadA hL ?_ | refine loadR hL ?_ | refine loadC hL ?_ | refine loadD ?_ | refine loadE hL ?_ | refine loadF ?_) | ((with_reducible refine wpA_index rfl _ _ _ rfl _ rfl _ rfl ?_); first | (refine indexA ?_; try rw [Int.toNat_natCast]) | refine indexC ?_) | ((with_reducible refine wpA_store rfl _ _ _ rfl _ rfl (.agg _) rfl ?_); refine storeR hL ?_; clear hL; intro _ hL) | ((with_reducible first | refine wpA_store rfl _ _ _ rfl _ rfl (.int _ _) rfl ?_ | refine wpA_store rfl _ _ _ rfl _ rfl (.slice _ _ _) rfl ?_ | refine wpA_store rfl _ _ _ rfl _ rfl (.bool _) rfl ?_ | refine wpA_store rfl _ _ _ rfl _ rfl (.pointer _) rfl ?_ | refine wpA_store rfl _ _ _ rfl _ rfl (.func _ _ _) rfl ?_); (first | refine storeA hL ?_ | refine storeO hL ?_); (clear hL; intro _ hL)) | ((with_reducible refine wpA_lit rfl _ _ _ rfl ?_); first | refine litA1 hL ?_ | refine litA2 hL ?_ | refine litA3 hL ?_ | refine litA4 hL ?_ | refine litA6 hL ?_) | ((with_reducible refine wpA_append rfl _ _ _ rfl (.slice _ _ _) rfl ?_); intro vq hvq; simp [go_sem] at hvq; subst hvq; refine appendA hL ?_; clear hL; intro _ _ _ hL; try dsimp only at hL) | ((with_reducible refine wpA_make rfl _ _ _ rfl _ rfl rfl ?_); refine makeA hL ?_))
      replace hL := hL.drew
      have hS := (show (fun w' : World => w'.rangeAt be (oe + i * 7) [.int .i64 x0, .int .i64 y0, .bool false, .int .i64 0, .int .i64 0, .int .i64 x1, .int .i64 y1]) _ from hL.fact0)
      refine wpH_begin (by kernel_rfl) (fun w' : World => w'.rangeAt be (oe + i * 7) [.int .i64 x0, .int .i64 y0, .bool false, .int .i64 0, .int .i64 0, .int .i64 x1, .int .i64 y1]) ?_
      refine stH (i := 0) (.int .i64 (du - 30)) hS ?_ ?_; (· exact fun w' _ => (by go_simp)); simp only [Act.put, List.setIfInBounds_toArray, List.set_cons_zero, List.set_cons_succ]
      refine stH (i := 1) (.int .i64 (dv - 30)) hS ?_ ?_; (· exact fun w' _ => (by go_simp)); simp only [Act.put, List.setIfInBounds_toArray, List.set_cons_zero, List.set_cons_succ]
      refine stH (i := 2) (.agg #[.int .i64 1, .int .i64 (du - 30), .int .i64 (dv - 30), .int .i64 0, .int .i64 0]) hS ?_ ?_; (· exact fun w' _ => (by go_simp)); simp only [Act.put, List.setIfInBounds_toArray, List.set_cons_zero, List.set_cons_succ]
      refine stH (i := 3) (.slice (some ⟨be, oe, none⟩) E.length ec) hS ?_ ?_; (· exact fun w' _ => (by go_simp)); simp only [Act.put, List.setIfInBounds_toArray, List.set_cons_zero, List.set_cons_succ]
      refine stH (i := 4) (.int .i64 i) hS ?_ ?_; (· exact fun w' _ => (by go_simp)); simp only [Act.put, List.setIfInBounds_toArray, List.set_cons_zero, List.set_cons_succ]
      refine stH (i := 5) (.pointer (some ⟨be, oe + i * 7, none⟩)) hS ?_ ?_; (· exact fun w' _ => (by go_simp)); simp only [Act.put, List.setIfInBounds_toArray, List.set_cons_zero, List.set_cons_succ]
      refine stH (i := 6) (.pointer (some ⟨be, oe + i * 7, none⟩)) hS ?_ ?_; (· exact fun w' _ => (by go_simp)); simp only [Act.put, List.setIfInBounds_toArray, List.set_cons_zero, List.set_cons_succ]
      refine stH (i := 7) (.int .i64 x0) hS ?_ ?_; (· exact fun w' hw => run_loadOp _ _ rfl _ rfl _ (load_cell (hw 0 _ rfl))); simp only [Act.put, List.setIfInBounds_toArray, List.set_cons_zero, List.set_cons_succ]
      refine stH (i := 8) (.slice (some ⟨be, oe, none⟩) E.length ec) hS ?_ ?_; (· exact fun w' _ => (by go_simp)); simp only [Act.put, List.setIfInBounds_toArray, List.set_cons_zero, List.set_cons_succ]
      refine stH (i := 9) (.int .i64 i) hS ?_ ?_; (· exact fun w' _ => (by go_simp)); simp only [Act.put, List.setIfInBounds_toArray, List.set_cons_zero, List.set_cons_succ]
      refine stH (i := 10) (.pointer (some ⟨be, oe + i * 7, none⟩)) hS ?_ ?_; (· exact fun w' _ => (by go_simp)); simp only [Act.put, List.setIfInBounds_toArray, List.set_cons_zero, List.set_cons_succ]
      refine stH (i := 11) (.pointer (some ⟨be, oe + i * 7 + 1, none⟩)) hS ?_ ?_; (· exact fun w' _ => (by go_simp)); simp only [Act.put, List.setIfInBounds_toArray, List.set_cons_zero, List.set_cons_succ]
      refine stH (i := 12) (.int .i64 y0) hS ?_ ?_; (· exact fun w' hw => run_loadOp _ _ rfl _ rfl _ (load_cell (hw 1 _ rfl))); simp only [Act.put, List.setIfInBounds_toArray, List.set_cons_zero, List.set_cons_succ]
      refine stH (i := 13) (.agg #[.int .i64 2, .int .i64 x0, .int .i64 y0, .int .i64 0, .int .i64 0]) hS ?_ ?_; (· exact fun w' _ => (by go_simp)); simp only [Act.put, List.setIfInBounds_toArray, List.set_cons_zero, List.set_cons_succ]
      refine stH (i := 14) (.slice (some ⟨be, oe, none⟩) E.length ec) hS ?_ ?_; (· exact fun w' _ => (by go_simp)); simp only [Act.put, List.setIfInBounds_toArray, List.set_cons_zero, List.set_cons_succ]
      refine stH (i := 15) (.int .i64 i) hS ?_ ?_; (· exact fun w' _ => (by go_simp)); simp only [Act.put, List.setIfInBounds_toArray, List.set_cons_zero, List.set_cons_succ]
      refine stH (i := 16) (.pointer (some ⟨be, oe + i * 7, none⟩)) hS ?_ ?_; (· exact fun w' _ => (by go_simp)); simp only [Act.put, List.setIfInBounds_toArray, List.set_cons_zero, List.set_cons_succ]
      refine stH (i := 17) (.pointer (some ⟨be, oe + i * 7 + 5, none⟩)) hS ?_ ?_; (· exact fun w' _ => (by go_simp)); simp only [Act.put, List.setIfInBounds_toArray, List.set_cons_zero, List.set_cons_succ]
      refine stH (i := 18) (.int .i64 x1) hS ?_ ?_; (· exact fun w' hw => run_loadOp _ _ rfl _ rfl _ (load_cell (hw 5 _ rfl))); simp only [Act.put, List.setIfInBounds_toArray, List.set_cons_zero, List.set_cons_succ]
      refine stH (i := 19) (.slice (some ⟨be, oe, none⟩) E.length ec) hS ?_ ?_; (· exact fun w' _ => (by go_simp)); simp only [Act.put, List.setIfInBounds_toArray, List.set_cons_zero, List.set_cons_succ]
      refine stH (i := 20) (.int .i64 i) hS ?_ ?_; (· exact fun w' _ => (by go_simp)); simp only [Act.put, List.setIfInBounds_toArray, List.set_cons_zero, List.set_cons_succ]
      refine stH (i := 21) (.pointer (some ⟨be, oe + i * 7, none⟩)) hS ?_ ?_; (· exact fun w' _ => (by go_simp)); simp only [Act.put, List.setIfInBounds_toArray, List.set_cons_zero, List.set_cons_succ]
      refine stH (i := 22) (.pointer (some ⟨be, oe + i * 7 + 6, none⟩)) hS ?_ ?_; (· exact fun w' _ => (by go_simp)); simp only [Act.put, List.setIfInBounds_toArray, List.set_cons_zero, List.set_cons_succ]
      refine stH (i := 23) (.int .i64 y1) hS ?_ ?_; (· exact fun w' hw => run_loadOp _ _ rfl _ rfl _ (load_cell (hw 6 _ rfl))); simp only [Act.put, List.setIfInBounds_toArray, List.set_cons_zero, List.set_cons_succ]
      refine stH (i := 24) (.agg #[.int .i64 2, .int .i64 x1, .int .i64 y1, .int .i64 0, .int .i64 0]) hS ?_ ?_; (· exact fun w' _ => (by go_simp)); simp only [Act.put, List.setIfInBounds_toArray, List.set_cons_zero, List.set_cons_succ]
      refine stH (i := 25) (.agg #[.int .i64 4, .int .i64 0, .int .i64 0, .int .i64 0, .int .i64 0]) hS ?_ ?_; (· exact fun w' _ => (by go_simp)); simp only [Act.put, List.setIfInBounds_toArray, List.set_cons_zero, List.set_cons_succ]
      refine wpH_one (i := 26) (by kernel_rfl) (wpOp_of (by simp only [List.getElem?_toArray, List.getElem?_cons_zero, List.getElem?_cons_succ]; rfl) ?_)
      refine st_lit rfl _ _ _ rfl (litA4 hL ?_)
      clear hL hS
      intro bq wq hL
      have hS := (show (fun w' : World => w'.rangeAt be (oe + i * 7) [.int .i64 x0, .int .i64 y0, .bool false, .int .i64 0, .int .i64 0, .int .i64 x1, .int .i64 y1]) wq from hL.fact0)
      refine ⟨hS, ?_⟩
      simp only [Act.put, List.setIfInBounds_toArray, List.set_cons_zero, List.set_cons_succ]
      refine stH (i := 27) (.slice (some ⟨bq, 0, none⟩) 4 4) hS ?_ ?_; (· exact fun w' _ => (by go_simp)); simp only [Act.put, List.setIfInBounds_toArray, List.set_cons_zero, List.set_cons_succ]
      refine wpAnyH_done (by kernel_rfl) ?_ _
      clear hS
      replace hL := hL.forget
      have hTri : SegsAt wq (.slice (some ⟨bq, 0, none⟩) 4 4) (triS (du - 30) (dv - 30) x0 y0 x1 y1) := hL.segsLit (triS (du - 30) (dv - 30) x0 y0 x1 y1) .here rfl (by unfold triS maxLen; simp)
      have HTri := Lib.hid hTri
      clear hTri
      go_wp2_with (first | (go_at_call 14; (with_reducible refine (HT.out _ _ HTri.out).mono ?_); rintro e _ ⟨ma, rfl, hb, hf⟩; replace hL := hL.callF hb hf; clear hb hf) | (go_at_call 26; (with_reducible refine (otherK_calls (W := 11) (H := 11) (Wi := 11) (Hi := 11) (n := 121) rfl rfl rfl hs _ _ _ _ _ hL.fact2 hL.fact0).mono ?_); rintro e _ ⟨mo, rfl, hb, hf⟩; replace hL := hL.callF hb hf; clear hb hf) | (first | (clear hL n1; with_reducible intro b1 w1 hL) | (clear hL n2; with_reducible intro b2 w2 hL) | (clear hL n3; with_reducible intro b3 w3 hL) | (clear hL n4; with_reducible intro b4 w4 hL) | (clear hL n5; with_reducible intro b5 w5 hL) | (clear hL n6; with_reducible intro b6 w6 hL) | (clear hL; with_reducible intro _ _ hL)) | (with_reducible refine wpC_alloc rfl _ rfl _ _ inferInstance hL ?_) | (with_reducible first | refine wpB_agg rfl _ _ _ rfl rfl hL ?_ | refine wpB_one rfl _ _ (.int _ _) rfl rfl rfl hL ?_ | refine wpB_one rfl _ _ (.slice _ _ _) rfl rfl rfl hL ?_ | refine wpB_one rfl _ _ (.bool _) rfl rfl rfl hL ?_ | refine wpB_one rfl _ _ (.pointer _) rfl rfl rfl hL ?_ | refine wpB_one rfl _ _ (.func _ _ _) rfl rfl rfl hL ?_) | (with_reducible first | refine wpH_max rfl _ _ _ _ rfl _ _ rfl rfl ?_ | refine wpH_min rfl _ _ _ _ rfl _ _ rfl rfl ?_) | ((with_reducible refine wpA_load rfl _ _ rfl _ rfl ?_); first | refine loadA hL ?_ | refine loadR hL ?_ | refine loadC hL ?_ | refine loadD ?_ | refine loadE hL ?_ | refine loadF ?_) | ((with_reducible refine wpA_index rfl _ _ _ rfl _ rfl _ rfl ?_); first | (refine indexA ?_; try rw [Int.toNat_natCast]) | refine indexC ?_) | ((with_reducible refine wpA_store rfl _ _ _ rfl _ rfl (.agg _) rfl ?_); refine storeR hL ?_; clear hL; intro _ hL) | ((with_reducible first | refine wpA_store rfl _ _ _ rfl _ rfl (.int _ _) rfl ?_ | refine wpA_store rfl _ _ _ rfl _ rfl (.slice _ _ _) rfl ?_ | refine wpA_store rfl _ _ _ rfl _ rfl (.bool _) rfl ?_ | refine wpA_store rfl _ _ _ rfl _ rfl (.pointer _) rfl ?_ | refine wpA_store rfl _ _ _ rfl _ rfl (.func _ _ _) rfl ?_); (first | refine storeA hL ?_ | refine storeO hL ?_); (clear hL; intro _ hL)) | ((with_reducible refine wpA_lit rfl _ _ _ rfl ?_); first | refine litA1 hL ?_ | refine litA2 hL ?_ | refine litA3 hL ?_ | refine litA4 hL ?_ | refine litA6 hL ?_) | ((with_reducible refine wpA_append rfl _ _ _ rfl (.slice _ _ _) rfl ?_); intro vq hvq; simp [go_sem] at hvq; subst hvq; refine appendA hL ?_; clear hL; intro _ _ _ hL; try dsimp only at hL) | ((with_reducible refine wpA_make rfl _ _ _ rfl _ rfl rfl ?_); refine makeA hL ?_))
      go_roundw
      case rel =>
        refine ⟨i + 1, mo, by omega, by go_num, ?_⟩
        rw [← HN.out]
        exact ((((hL.drop .here).drop .here).drop .here).swap.forget).forget3
      case measure => simp [intOf]; omega
    · have e : i = E.length := by omega
      subst e
      have n1 : True := trivial; have n2 : True := trivial
      go_wp2_with (first | (go_at_call 14; (with_reducible refine (HML.out _ _ hL.fact2).mono ?_); rintro e _ ⟨ml, rfl, hb, hf⟩; replace hL := hL.callF hb hf; clear hb hf) | (go_at_call 21; (with_reducible refine (sameK_calls (W := 11) (H := 11) (Wi := 11) (Hi := 11) (n := 121) rfl rfl rfl hs _ _ _ _ _ hL.fact1 hL.fact0 (fun _ _ _ _ => rfl)).mono ?_); rintro e _ ⟨rfl, hb⟩; replace hL := hL.call hb; clear hb) | (first | (clear hL n1; with_reducible intro b1 w1 hL) | (clear hL n2; with_reducible intro b2 w2 hL) | (clear hL n3; with_reducible intro b3 w3 hL) | (clear hL n4; with_reducible intro b4 w4 hL) | (clear hL n5; with_reducible intro b5 w5 hL) | (clear hL n6; with_reducible intro b6 w6 hL) | (clear hL; with_reducible intro _ _ hL)) | (with_reducible refine wpC_alloc rfl _ rfl _ _ inferInstance hL ?_) | (with_reducible first | refine wpB_agg rfl _ _ _ rfl rfl hL ?_ | refine wpB_one rfl _ _ (.int _ _) rfl rfl rfl hL ?_ | refine wpB_one rfl _ _ (.slice _ _ _) rfl rfl rfl hL ?_ | refine wpB_one rfl _ _ (.bool _) rfl rfl rfl hL ?_ | refine wpB_one rfl _ _ (.pointer _) rfl rfl rfl hL ?_ | refine wpB_one rfl _ _ (.func _ _ _) rfl rfl rfl hL ?_) | (with_reducible first | refine wpH_max rfl _ _ _ _ rfl _ _ rfl rfl ?_ | refine wpH_min rfl _ _ _ _ rfl _ _ rfl rfl ?_) | ((with_reducible refine wpA_load rfl _ _ rfl _ rfl ?_); first | refine loadA hL ?_ | refine loadR hL ?_ | refine loadC hL ?_ | refine loadD ?_ | refine loadE hL ?_ | refine loadF ?_) | ((with_reducible refine wpA_index rfl _ _ _ rfl _ rfl _ rfl ?_); first | (refine indexA ?_; try rw [Int.toNat_natCast]) | refine indexC ?_) | ((with_reducible refine wpA_store rfl _ _ _ rfl _ rfl (.agg _) rfl ?_); refine storeR hL ?_; clear hL; intro _ hL) | ((with_reducible first | refine wpA_store rfl _ _ _ rfl _ rfl (.int _ _) rfl ?_ | refine wpA_store rfl _ _ _ rfl _ rfl (.slice _ _ _) rfl ?_ | refine wpA_store rfl _ _ _ rfl _ rfl (.bool _) rfl ?_ | refine wpA_store rfl _ _ _ rfl _ rfl (.pointer _) rfl ?_ | refine wpA_store rfl _ _ _ rfl _ rfl (.func _ _ _) rfl ?_); (first | refine storeA hL ?_ | refine storeO hL ?_); (clear hL; intro _ hL)) | ((with_reducible refine wpA_lit rfl _ _ _ rfl ?_); first | refine litA1 hL ?_ | refine litA2 hL ?_ | refine litA3 hL ?_ | refine litA4 hL ?_ | refine litA6 hL ?_) | ((with_reducible refine wpA_append rfl _ _ _ rfl (.slice _ _ _) rfl ?_); intro vq hvq; simp [go_sem] at hvq; subst hvq; refine appendA hL ?_; clear hL; intro _ _ _ hL; try dsimp only at hL) | ((with_reducible refine wpA_make rfl _ _ _ rfl _ rfl rfl ?_); refine makeA hL ?_))
      go_ret
      exact ⟨rfl, hL.below⟩
end Go.Proofs.Ytneddfiohekhiaa
