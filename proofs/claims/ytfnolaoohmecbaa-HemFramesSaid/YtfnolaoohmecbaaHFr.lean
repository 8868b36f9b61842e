/- HemFrames returns true. -/
import Derived.Test.YtfnolaoohmecbaaHmK
import Derived.Test.YtfnolaoohmecbaaHFrP
import Derived.Test.YtfnolaoohmecbaaRgC
import Derived.Deep.CutRange
-- lit6
namespace Go.Proofs.Ytfnolaoohmecbaa
open Go.RowKit

def place220 (p : Nat → Int) (j : Nat) : Int := p j % 220 + 10
def placedF (p : Nat → Int) (i : Nat) (j : Nat) : Int := if j < i then place220 p j else p j
theorem arrI_sameF {n : Nat} {p q : Nat → Int} (h : ∀ i, i < n → p i = q i) : arrI n p = arrI n q := by
  apply Array.ext_getElem?
  intro j
  by_cases h64 : j < n
  · rw [arrI_get _ h64, arrI_get _ h64, h j h64]
  · rw [Array.getElem?_eq_none (by rw [arrI_size]; omega), Array.getElem?_eq_none (by rw [arrI_size]; omega)]
theorem placedF_step (p : Nat → Int) (i : Nat) : arrI 4 (fun j => if j = i then p i % 220 + 10 else placedF p i j) = arrI 4 (placedF p (i + 1)) := by
  refine arrI_sameF fun j _ => ?_
  by_cases h : j = i
  · subst h; simp [placedF, place220]
  · have : j < i + 1 ↔ j < i := by omega
    simp [placedF, h, this]
theorem arrI_litsF (p : Nat → Int) : arrI 4 p = #[.int .i64 (p 0), .int .i64 (p 1), .int .i64 (p 2), .int .i64 (p 3)] := by
  unfold arrI; rfl
def R18 (sa : Option Addr) (sn sc : Nat) (q : Nat → Nat → Bool) : World → Prop := RegF (.agg #[.int .i64 18, .int .i64 18, .slice sa sn sc]) (pixReg 18 18 q)
theorem s18 : Sides 18 18 := ⟨by decide, by decide, by decide, by decide⟩
theorem r18_has (w : World) {sa : Option Addr} {sn sc : Nat} {p : Nat → Nat → Bool} (h : R18 sa sn sc p w) (i j : Int) : Calls Try.prog 23 #[.agg #[.int .i64 18, .int .i64 18, .slice sa sn sc], .int .i64 i, .int .i64 j] w fun e w' => e = .returned (.bool (atPix 18 18 p i j)) ∧ Below w.heap.size w w' := pixRHas_calls s18 w _ p h i j
theorem atPix18 {p : Nat → Nat → Bool} {i j : Nat} (hi : i < 18) (hj : j < 18) : atPix 18 18 p (i : Int) (j : Int) = p j i := by
  unfold atPix
  rw [Int.toNat_natCast, Int.toNat_natCast, decide_eq_true (show (0 : Int) ≤ i by omega), decide_eq_true (show (0 : Int) ≤ j by omega), decide_eq_true (show (i : Int) < (18 : Nat) by omega), decide_eq_true (show (j : Int) < (18 : Nat) by omega)]
  rfl
set_option maxRecDepth 100000 in
set_option maxHeartbeats 8000000 in
theorem frames_calls (w : World) (pa : Nat → Int) (vk : Int) : Calls Try.prog 6 #[.agg (arrI 4 pa), .int .i64 vk] w fun e w' => e = .returned (.bool true) ∧ Below w.heap.size w w' := by
  have hL := Holds.start w
  have q4a := Int.emod_nonneg vk (show (30 : Int) ≠ 0 by omega)
  have q4b := Int.emod_lt_of_pos vk (show (0 : Int) < 30 by omega)
  have HP4 := Lib.hid (fun w => place_calls vk 30 (by omega) (by omega) w)
  generalize vk % 30 = k at *
  have n1 : True := trivial; have n2 : True := trivial; have n3 : True := trivial; have n4 : True := trivial
  go_enter Try.func6, Try.ntmps6
  go_wp2_with (first | (go_at_call 12; (with_reducible refine (known_calls _).mono ?_); rintro e _ ⟨rfl, hb⟩; replace hL := hL.call hb; clear hb) | (first | (clear hL n1; with_reducible intro b1 w1 hL) | (clear hL n2; with_reducible intro b2 w2 hL) | (clear hL n3; with_reducible intro b3 w3 hL) | (clear hL n4; with_reducible intro b4 w4 hL) | (clear hL; with_reducible intro _ _ hL)) | (with_reducible refine wpC_alloc rfl _ rfl _ _ inferInstance hL ?_) | (with_reducible first | refine wpB_agg rfl _ _ _ rfl rfl hL ?_ | refine wpB_one rfl _ _ (.int _ _) rfl rfl rfl hL ?_ | refine wpB_one rfl _ _ (.slice _ _ _) rfl rfl rfl hL ?_ | refine wpB_one rfl _ _ (.bool _) rfl rfl rfl hL ?_ | refine wpB_one rfl _ _ (.pointer _) rfl rfl rfl hL ?_ | refine wpB_one rfl _ _ (.func _ _ _) rfl rfl rfl hL ?_) | (with_reducible first | refine wpH_max rfl _ _ _ _ rfl _ _ rfl rfl ?_ | refine wpH_min rfl _ _ _ _ rfl _ _ rfl rfl ?_) | ((with_reducible refine wpA_load rfl _ _ rfl _ rfl ?_); first | refine loadA hL ?_ | refine loadR hL ?_ | refine loadC hL ?_ | refine loadD ?_ | refine loadE hL ?_ | refine loadF ?_) | ((with_reducible refine wpA_index rfl _ _ _ rfl _ rfl _ rfl ?_); first | (refine indexA ?_; try rw [Int.toNat_natCast]) | refine indexC ?_) | ((with_reducible refine wpA_store rfl _ _ _ rfl _ rfl (.agg _) rfl ?_); refine storeR hL ?_; clear hL; intro _ hL) | ((with_reducible first | refine wpA_store rfl _ _ _ rfl _ rfl (.int _ _) rfl ?_ | refine wpA_store rfl _ _ _ rfl _ rfl (.slice _ _ _) rfl ?_ | refine wpA_store rfl _ _ _ rfl _ rfl (.bool _) rfl ?_ | refine wpA_store rfl _ _ _ rfl _ rfl (.pointer _) rfl ?_ | refine wpA_store rfl _ _ _ rfl _ rfl (.func _ _ _) rfl ?_); (first | refine storeA hL ?_ | refine storeO hL ?_); (clear hL; intro _ hL)) | ((with_reducible refine wpA_lit rfl _ _ _ rfl ?_); first | refine litA1 hL ?_ | refine litA2 hL ?_ | refine litA3 hL ?_ | refine litA4 hL ?_ | refine litA6 hL ?_) | ((with_reducible refine wpA_append rfl _ _ _ rfl (.slice _ _ _) rfl ?_); intro vq hvq; simp [go_sem] at hvq; subst hvq; refine appendA hL ?_; clear hL; intro _ _ _ hL; try dsimp only at hL) | ((with_reducible refine wpA_make rfl _ _ _ rfl _ rfl rfl ?_); refine makeA hL ?_))
  go_loopw [5] (fun s5 wr => ∃ n : Nat, n ≤ 4 ∧ s5 = .int .i64 n ∧ Holds w wr [blk b1 (arrI 4 (placedF pa n)) 55] [])
    (fun s5 wr => 4 - (intOf s5).toNat)
  case atStart => exact ⟨0, by omega, rfl, by rw [show arrI 4 (placedF pa 0) = arrI 4 pa from arrI_sameF fun i _ => by simp [placedF]]; exact hL⟩
  case round =>
    clear hL
    obtain ⟨n, hn, rfl, hL⟩ := hrel
    by_cases hkt : n < 4
    · have hkb : (n : Int) < 4 := by omega
      have HP := Lib.hid (fun w => place_calls (pa n) 220 (by omega) (by omega) w)
      have q1 := Int.emod_nonneg (pa n) (show (220 : Int) ≠ 0 by omega)
      have q2 := Int.emod_lt_of_pos (pa n) (show (0 : Int) < 220 by omega)
      have HST := Lib.hid (placedF_step pa n)
      have HG := Lib.hid ((arrI_get (n := 4) (placedF pa n) hkt).trans (show some (Value.int .i64 (placedF pa n n)) = some (.int .i64 (pa n)) by simp [placedF]))
      generalize hz : pa n = z at *
      generalize z % 220 = y at *
      clear hz
      go_wp2_with (first | (refine wpA_load rfl _ _ rfl _ rfl ?_; refine loadA hL ?_ .here HG.out) | (go_at_call 21; (with_reducible refine (HP.out _).mono ?_); rintro e _ ⟨rfl, rfl⟩) | (first | (clear hL n1; with_reducible intro b1 w1 hL) | (clear hL n2; with_reducible intro b2 w2 hL) | (clear hL n3; with_reducible intro b3 w3 hL) | (clear hL n4; with_reducible intro b4 w4 hL) | (clear hL; with_reducible intro _ _ hL)) | (with_reducible refine wpC_alloc rfl _ rfl _ _ inferInstance hL ?_) | (with_reducible first | refine wpB_agg rfl _ _ _ rfl rfl hL ?_ | refine wpB_one rfl _ _ (.int _ _) rfl rfl rfl hL ?_ | refine wpB_one rfl _ _ (.slice _ _ _) rfl rfl rfl hL ?_ | refine wpB_one rfl _ _ (.bool _) rfl rfl rfl hL ?_ | refine wpB_one rfl _ _ (.pointer _) rfl rfl rfl hL ?_ | refine wpB_one rfl _ _ (.func _ _ _) rfl rfl rfl hL ?_) | (with_reducible first | refine wpH_max rfl _ _ _ _ rfl _ _ rfl rfl ?_ | refine wpH_min rfl _ _ _ _ rfl _ _ rfl rfl ?_) | ((with_reducible refine wpA_load rfl _ _ rfl _ rfl ?_); first | refine loadA hL ?_ | refine loadR hL ?_ | refine loadC hL ?_ | refine loadD ?_ | refine loadE hL ?_ | refine loadF ?_) | ((with_reducible refine wpA_index rfl _ _ _ rfl _ rfl _ rfl ?_); first | (refine indexA ?_; try rw [Int.toNat_natCast]) | refine indexC ?_) | ((with_reducible refine wpA_store rfl _ _ _ rfl _ rfl (.agg _) rfl ?_); refine storeR hL ?_; clear hL; intro _ hL) | ((with_reducible first | refine wpA_store rfl _ _ _ rfl _ rfl (.int _ _) rfl ?_ | refine wpA_store rfl _ _ _ rfl _ rfl (.slice _ _ _) rfl ?_ | refine wpA_store rfl _ _ _ rfl _ rfl (.bool _) rfl ?_ | refine wpA_store rfl _ _ _ rfl _ rfl (.pointer _) rfl ?_ | refine wpA_store rfl _ _ _ rfl _ rfl (.func _ _ _) rfl ?_); (first | refine storeA hL ?_ | refine storeO hL ?_); (clear hL; intro _ hL)) | ((with_reducible refine wpA_lit rfl _ _ _ rfl ?_); first | refine litA1 hL ?_ | refine litA2 hL ?_ | refine litA3 hL ?_ | refine litA4 hL ?_ | refine litA6 hL ?_) | ((with_reducible refine wpA_append rfl _ _ _ rfl (.slice _ _ _) rfl ?_); intro vq hvq; simp [go_sem] at hvq; subst hvq; refine appendA hL ?_; clear hL; intro _ _ _ hL; try dsimp only at hL) | ((with_reducible refine wpA_make rfl _ _ _ rfl _ rfl rfl ?_); refine makeA hL ?_))
      go_roundw
      case rel => exact ⟨n + 1, by omega, by go_num, by rw [← HST.out]; exact hL⟩
      case measure => (simp [intOf] <;> omega)
    · have e : n = 4 := by omega
      subst e
      rw [arrI_litsF] at hL
      have q : ∀ k : Nat, k < 4 → 10 ≤ placedF pa 4 k ∧ placedF pa 4 k ≤ 229 := by
        intro k hk
        have p1 := Int.emod_nonneg (pa k) (show (220 : Int) ≠ 0 by omega)
        have p2 := Int.emod_lt_of_pos (pa k) (show (0 : Int) < 220 by omega)
        simp only [placedF, hk, if_true, place220]
        omega
      obtain ⟨qa0, ra0⟩ := q 0 (by omega)
      obtain ⟨qa1, ra1⟩ := q 1 (by omega)
      obtain ⟨qa2, ra2⟩ := q 2 (by omega)
      obtain ⟨qa3, ra3⟩ := q 3 (by omega)
      clear q
      generalize placedF pa 4 0 = a0 at *
      generalize placedF pa 4 1 = a1 at *
      generalize placedF pa 4 2 = a2 at *
      generalize placedF pa 4 3 = a3 at *
      obtain ⟨x0, hx0⟩ : ∃ x0, min a0 a2 = x0 := ⟨_, rfl⟩
      obtain ⟨y0, hy0⟩ : ∃ y0, min a1 a3 = y0 := ⟨_, rfl⟩
      obtain ⟨mx, hmx⟩ : ∃ mx, max a0 a2 = mx := ⟨_, rfl⟩
      obtain ⟨my, hmy⟩ : ∃ my, max a1 a3 = my := ⟨_, rfl⟩
      have bx0 : 10 ≤ x0 ∧ x0 ≤ mx ∧ mx ≤ 229 := by omega
      have by0 : 10 ≤ y0 ∧ y0 ≤ my ∧ my ≤ 229 := by omega
      have Hx0 := Lib.hid hx0; have Hy0 := Lib.hid hy0; have Hmx := Lib.hid hmx; have Hmy := Lib.hid hmy
      clear hx0 hy0 hmx hmy
      have wx : IntKind.i64.wrap (mx + 1) = mx + 1 := by rw [IntKind.wrap_i64]; omega
      have wy : IntKind.i64.wrap (my + 1) = my + 1 := by rw [IntKind.wrap_i64]; omega
      go_wp2_with (first | (first | (clear hL n1; with_reducible intro b1 w1 hL) | (clear hL n2; with_reducible intro b2 w2 hL) | (clear hL n3; with_reducible intro b3 w3 hL) | (clear hL n4; with_reducible intro b4 w4 hL) | (clear hL; with_reducible intro _ _ hL)) | (with_reducible refine wpC_alloc rfl _ rfl _ _ inferInstance hL ?_) | (with_reducible first | refine wpB_agg rfl _ _ _ rfl rfl hL ?_ | refine wpB_one rfl _ _ (.int _ _) rfl rfl rfl hL ?_ | refine wpB_one rfl _ _ (.slice _ _ _) rfl rfl rfl hL ?_ | refine wpB_one rfl _ _ (.bool _) rfl rfl rfl hL ?_ | refine wpB_one rfl _ _ (.pointer _) rfl rfl rfl hL ?_ | refine wpB_one rfl _ _ (.func _ _ _) rfl rfl rfl hL ?_) | (with_reducible first | refine wpH_max rfl _ _ _ _ rfl _ _ rfl rfl ?_ | refine wpH_min rfl _ _ _ _ rfl _ _ rfl rfl ?_) | ((with_reducible refine wpA_load rfl _ _ rfl _ rfl ?_); first | refine loadA hL ?_ | refine loadR hL ?_ | refine loadC hL ?_ | refine loadD ?_ | refine loadE hL ?_ | refine loadF ?_) | ((with_reducible refine wpA_index rfl _ _ _ rfl _ rfl _ rfl ?_); first | (refine indexA ?_; try rw [Int.toNat_natCast]) | refine indexC ?_) | ((with_reducible refine wpA_store rfl _ _ _ rfl _ rfl (.agg _) rfl ?_); refine storeR hL ?_; clear hL; intro _ hL) | ((with_reducible first | refine wpA_store rfl _ _ _ rfl _ rfl (.int _ _) rfl ?_ | refine wpA_store rfl _ _ _ rfl _ rfl (.slice _ _ _) rfl ?_ | refine wpA_store rfl _ _ _ rfl _ rfl (.bool _) rfl ?_ | refine wpA_store rfl _ _ _ rfl _ rfl (.pointer _) rfl ?_ | refine wpA_store rfl _ _ _ rfl _ rfl (.func _ _ _) rfl ?_); (first | refine storeA hL ?_ | refine storeO hL ?_); (clear hL; intro _ hL)) | ((with_reducible refine wpA_lit rfl _ _ _ rfl ?_); first | refine litA1 hL ?_ | refine litA2 hL ?_ | refine litA3 hL ?_ | refine litA4 hL ?_ | refine litA6 hL ?_) | ((with_reducible refine wpA_append rfl _ _ _ rfl (.slice _ _ _) rfl ?_); intro vq hvq; simp [go_sem] at hvq; subst hvq; refine appendA hL ?_; clear hL; intro _ _ _ hL; try dsimp only at hL) | ((with_reducible refine wpA_make rfl _ _ _ rfl _ rfl rfl ?_); refine makeA hL ?_))
      replace hL := hL.drew
      have hS : (fun w' : World => w'.rangeAt b1 0 #[.int .i64 a0, .int .i64 a1, .int .i64 a2, .int .i64 a3].toList) _ := hL.range .here
      refine wpH_begin (by kernel_rfl) (fun w' : World => w'.rangeAt b1 0 #[.int .i64 a0, .int .i64 a1, .int .i64 a2, .int .i64 a3].toList) ?_
      refine stH (i := 0) (.pointer (some ⟨b1, 0, none⟩)) hS ?_ ?_; (· exact fun w' _ => (by go_simp)); simp only [Act.put, List.setIfInBounds_toArray, List.set_cons_zero, List.set_cons_succ]
      refine stH (i := 1) (.int .i64 a0) hS ?_ ?_; (· exact fun w' hw => run_loadOp _ _ rfl _ rfl _ (load_cell (hw 0 _ rfl))); simp only [Act.put, List.setIfInBounds_toArray, List.set_cons_zero, List.set_cons_succ]
      refine stH (i := 2) (.pointer (some ⟨b1, 2, none⟩)) hS ?_ ?_; (· exact fun w' _ => (by go_simp)); simp only [Act.put, List.setIfInBounds_toArray, List.set_cons_zero, List.set_cons_succ]
      refine stH (i := 3) (.int .i64 a2) hS ?_ ?_; (· exact fun w' hw => run_loadOp _ _ rfl _ rfl _ (load_cell (hw 2 _ rfl))); simp only [Act.put, List.setIfInBounds_toArray, List.set_cons_zero, List.set_cons_succ]
      refine stH (i := 4) (.int .i64 x0) hS ?_ ?_; (· exact fun w' _ => (run_minV _ _ _ _ rfl rfl rfl).trans (by rw [Hx0.out])); simp only [Act.put, List.setIfInBounds_toArray, List.set_cons_zero, List.set_cons_succ]
      refine stH (i := 5) (.pointer (some ⟨b1, 1, none⟩)) hS ?_ ?_; (· exact fun w' _ => (by go_simp)); simp only [Act.put, List.setIfInBounds_toArray, List.set_cons_zero, List.set_cons_succ]
      refine stH (i := 6) (.int .i64 a1) hS ?_ ?_; (· exact fun w' hw => run_loadOp _ _ rfl _ rfl _ (load_cell (hw 1 _ rfl))); simp only [Act.put, List.setIfInBounds_toArray, List.set_cons_zero, List.set_cons_succ]
      refine stH (i := 7) (.pointer (some ⟨b1, 3, none⟩)) hS ?_ ?_; (· exact fun w' _ => (by go_simp)); simp only [Act.put, List.setIfInBounds_toArray, List.set_cons_zero, List.set_cons_succ]
      refine stH (i := 8) (.int .i64 a3) hS ?_ ?_; (· exact fun w' hw => run_loadOp _ _ rfl _ rfl _ (load_cell (hw 3 _ rfl))); simp only [Act.put, List.setIfInBounds_toArray, List.set_cons_zero, List.set_cons_succ]
      refine stH (i := 9) (.int .i64 y0) hS ?_ ?_; (· exact fun w' _ => (run_minV _ _ _ _ rfl rfl rfl).trans (by rw [Hy0.out])); simp only [Act.put, List.setIfInBounds_toArray, List.set_cons_zero, List.set_cons_succ]
      refine stH (i := 10) (.pointer (some ⟨b1, 0, none⟩)) hS ?_ ?_; (· exact fun w' _ => (by go_simp)); simp only [Act.put, List.setIfInBounds_toArray, List.set_cons_zero, List.set_cons_succ]
      refine stH (i := 11) (.int .i64 a0) hS ?_ ?_; (· exact fun w' hw => run_loadOp _ _ rfl _ rfl _ (load_cell (hw 0 _ rfl))); simp only [Act.put, List.setIfInBounds_toArray, List.set_cons_zero, List.set_cons_succ]
      refine stH (i := 12) (.pointer (some ⟨b1, 2, none⟩)) hS ?_ ?_; (· exact fun w' _ => (by go_simp)); simp only [Act.put, List.setIfInBounds_toArray, List.set_cons_zero, List.set_cons_succ]
      refine stH (i := 13) (.int .i64 a2) hS ?_ ?_; (· exact fun w' hw => run_loadOp _ _ rfl _ rfl _ (load_cell (hw 2 _ rfl))); simp only [Act.put, List.setIfInBounds_toArray, List.set_cons_zero, List.set_cons_succ]
      refine stH (i := 14) (.int .i64 mx) hS ?_ ?_; (· exact fun w' _ => (run_maxV _ _ _ _ rfl rfl rfl).trans (by rw [Hmx.out])); simp only [Act.put, List.setIfInBounds_toArray, List.set_cons_zero, List.set_cons_succ]
      refine stH (i := 15) (.int .i64 (mx + 1)) hS ?_ ?_; (· exact fun w' _ => (by go_simp)); simp only [Act.put, List.setIfInBounds_toArray, List.set_cons_zero, List.set_cons_succ]
      refine stH (i := 16) (.pointer (some ⟨b1, 1, none⟩)) hS ?_ ?_; (· exact fun w' _ => (by go_simp)); simp only [Act.put, List.setIfInBounds_toArray, List.set_cons_zero, List.set_cons_succ]
      refine stH (i := 17) (.int .i64 a1) hS ?_ ?_; (· exact fun w' hw => run_loadOp _ _ rfl _ rfl _ (load_cell (hw 1 _ rfl))); simp only [Act.put, List.setIfInBounds_toArray, List.set_cons_zero, List.set_cons_succ]
      refine stH (i := 18) (.pointer (some ⟨b1, 3, none⟩)) hS ?_ ?_; (· exact fun w' _ => (by go_simp)); simp only [Act.put, List.setIfInBounds_toArray, List.set_cons_zero, List.set_cons_succ]
      refine stH (i := 19) (.int .i64 a3) hS ?_ ?_; (· exact fun w' hw => run_loadOp _ _ rfl _ rfl _ (load_cell (hw 3 _ rfl))); simp only [Act.put, List.setIfInBounds_toArray, List.set_cons_zero, List.set_cons_succ]
      refine stH (i := 20) (.int .i64 my) hS ?_ ?_; (· exact fun w' _ => (run_maxV _ _ _ _ rfl rfl rfl).trans (by rw [Hmy.out])); simp only [Act.put, List.setIfInBounds_toArray, List.set_cons_zero, List.set_cons_succ]
      refine stH (i := 21) (.int .i64 (my + 1)) hS ?_ ?_; (· exact fun w' _ => (by go_simp)); simp only [Act.put, List.setIfInBounds_toArray, List.set_cons_zero, List.set_cons_succ]
      refine stH (i := 22) (.int .i64 x0) hS ?_ ?_; (· exact fun w' _ => (by go_simp)); simp only [Act.put, List.setIfInBounds_toArray, List.set_cons_zero, List.set_cons_succ]
      refine stH (i := 23) (.int .i64 y0) hS ?_ ?_; (· exact fun w' _ => (by go_simp)); simp only [Act.put, List.setIfInBounds_toArray, List.set_cons_zero, List.set_cons_succ]
      refine stH (i := 24) (.int .i64 (mx + 1)) hS ?_ ?_; (· exact fun w' _ => (by go_simp)); simp only [Act.put, List.setIfInBounds_toArray, List.set_cons_zero, List.set_cons_succ]
      refine stH (i := 25) (.int .i64 (my + 1)) hS ?_ ?_; (· exact fun w' _ => (by go_simp)); simp only [Act.put, List.setIfInBounds_toArray, List.set_cons_zero, List.set_cons_succ]
      refine wpAnyH_done (by kernel_rfl) ?_ _
      clear hS
      generalize hx1 : mx + 1 = x1 at *
      generalize hy1 : my + 1 = y1 at *
      have hN1 : NearP' x0 y0 := ⟨by omega, by omega⟩
      have hN2 : NearP' x1 y1 := ⟨by omega, by omega⟩
      have HRg := Lib.hid (show ∀ w' v, SegsAt w' v (frameP x0 y0 x1 y1) → Calls Try.prog 17 #[v, .agg #[.int .i64 (2 * k), .int .i64 0, .int .i64 0], .int .i64 18, .int .i64 18] w' fun e w'' => ∃ sa sn sc, e = .returned (.tuple #[.agg #[.int .i64 18, .int .i64 18, .slice sa sn sc], .int .i64 0]) ∧ Below w'.heap.size w' w'' ∧ Fresh w' w'' (R18 sa sn sc fun j i => covL (allS (frameP x0 y0 x1 y1) ⟨2 * k, 0, 0⟩) (16 * (i : Int) + 8) (16 * (j : Int) + 8)) from fun w' v hv => by
        refine (hemRegion_ok (W := 18) (H := 18) (by decide) (by decide) (by decide) (by decide) w' v _ hv ⟨2 * k, 0, 0⟩ (frame_may hN1 hN2).2 (by unfold mayY; simp; omega)).mono ?_
        rintro e w'' ⟨v', rfl, hb, hf⟩
        obtain ⟨sa, sn, sc, rfl, _⟩ := RegAt.shape hf.now
        exact ⟨sa, sn, sc, rfl, hb, hf⟩)
      have HCv := Lib.hid (fun x y => frame_cov (k := k) hN1 hN2 (by omega) (by omega) (by omega) x y)
      generalize hQ : (fun j i : Nat => covL (allS (frameP x0 y0 x1 y1) ⟨2 * k, 0, 0⟩) (16 * (i : Int) + 8) (16 * (j : Int) + 8)) = Q at *
      have HQ := Lib.hid (show ∀ j i : Nat, Q j i = covL (allS (frameP x0 y0 x1 y1) ⟨2 * k, 0, 0⟩) (16 * (i : Int) + 8) (16 * (j : Int) + 8) from fun j i => by rw [← hQ])
      clear hQ
      have w2k : IntKind.i64.wrap (2 * k) = 2 * k := by rw [IntKind.wrap_i64]; omega
      go_wp2_with (first | (go_at_call 21; (with_reducible refine (HP4.out _).mono ?_); rintro e _ ⟨rfl, rfl⟩) | (go_at_call 17; (with_reducible refine (HRg.out _ _ ?_).mono ?_); (· exact segs_blk hL .here rfl rfl (by unfold maxLen; omega)); rintro e _ ⟨sa, sn, sc, rfl, hb, hf⟩; replace hL := hL.callF hb hf; clear hb hf) | ((with_reducible refine wpA_lit rfl _ _ _ rfl ?_); refine litA5 hL ?_) | (first | (clear hL n1; with_reducible intro b1 w1 hL) | (clear hL n2; with_reducible intro b2 w2 hL) | (clear hL n3; with_reducible intro b3 w3 hL) | (clear hL n4; with_reducible intro b4 w4 hL) | (clear hL; with_reducible intro _ _ hL)) | (with_reducible refine wpC_alloc rfl _ rfl _ _ inferInstance hL ?_) | (with_reducible first | refine wpB_agg rfl _ _ _ rfl rfl hL ?_ | refine wpB_one rfl _ _ (.int _ _) rfl rfl rfl hL ?_ | refine wpB_one rfl _ _ (.slice _ _ _) rfl rfl rfl hL ?_ | refine wpB_one rfl _ _ (.bool _) rfl rfl rfl hL ?_ | refine wpB_one rfl _ _ (.pointer _) rfl rfl rfl hL ?_ | refine wpB_one rfl _ _ (.func _ _ _) rfl rfl rfl hL ?_) | (with_reducible first | refine wpH_max rfl _ _ _ _ rfl _ _ rfl rfl ?_ | refine wpH_min rfl _ _ _ _ rfl _ _ rfl rfl ?_) | ((with_reducible refine wpA_load rfl _ _ rfl _ rfl ?_); first | refine loadA hL ?_ | refine loadR hL ?_ | refine loadC hL ?_ | refine loadD ?_ | refine loadE hL ?_ | refine loadF ?_) | ((with_reducible refine wpA_index rfl _ _ _ rfl _ rfl _ rfl ?_); first | (refine indexA ?_; try rw [Int.toNat_natCast]) | refine indexC ?_) | ((with_reducible refine wpA_store rfl _ _ _ rfl _ rfl (.agg _) rfl ?_); refine storeR hL ?_; clear hL; intro _ hL) | ((with_reducible first | refine wpA_store rfl _ _ _ rfl _ rfl (.int _ _) rfl ?_ | refine wpA_store rfl _ _ _ rfl _ rfl (.slice _ _ _) rfl ?_ | refine wpA_store rfl _ _ _ rfl _ rfl (.bool _) rfl ?_ | refine wpA_store rfl _ _ _ rfl _ rfl (.pointer _) rfl ?_ | refine wpA_store rfl _ _ _ rfl _ rfl (.func _ _ _) rfl ?_); (first | refine storeA hL ?_ | refine storeO hL ?_); (clear hL; intro _ hL)) | ((with_reducible refine wpA_lit rfl _ _ _ rfl ?_); first | refine litA1 hL ?_ | refine litA2 hL ?_ | refine litA3 hL ?_ | refine litA4 hL ?_ | refine litA6 hL ?_) | ((with_reducible refine wpA_append rfl _ _ _ rfl (.slice _ _ _) rfl ?_); intro vq hvq; simp [go_sem] at hvq; subst hvq; refine appendA hL ?_; clear hL; intro _ _ _ hL; try dsimp only at hL) | ((with_reducible refine wpA_make rfl _ _ _ rfl _ rfl rfl ?_); refine makeA hL ?_))
      go_loopw [14] (fun s14 wr => ∃ j : Nat, j ≤ 18 ∧ s14 = .int .i64 j ∧ Holds w wr [blk b3 #[.int .i64 18, .int .i64 18, .slice sa sn sc] 37, blk b2 #[.int .i64 1, .int .i64 x0, .int .i64 y0, .int .i64 0, .int .i64 0, .int .i64 2, .int .i64 x1, .int .i64 y0, .int .i64 0, .int .i64 0, .int .i64 2, .int .i64 x1, .int .i64 y1, .int .i64 0, .int .i64 0, .int .i64 2, .int .i64 x0, .int .i64 y1, .int .i64 0, .int .i64 0, .int .i64 4, .int .i64 0, .int .i64 0, .int .i64 0, .int .i64 0] 51, blk b1 #[.int .i64 a0, .int .i64 a1, .int .i64 a2, .int .i64 a3] 55] [R18 sa sn sc Q])
        (fun s14 wr => (18 - intOf s14).toNat)
      case atStart => exact ⟨0, by omega, rfl, hL⟩
      case round =>
        clear hL
        obtain ⟨j, hj, rfl, hL⟩ := hrel
        by_cases hjt : j < 18
        · have hjb : (j : Int) < 18 := by omega
          go_wp2_with (first | (first | (clear hL n1; with_reducible intro b1 w1 hL) | (clear hL n2; with_reducible intro b2 w2 hL) | (clear hL n3; with_reducible intro b3 w3 hL) | (clear hL n4; with_reducible intro b4 w4 hL) | (clear hL; with_reducible intro _ _ hL)) | (with_reducible refine wpC_alloc rfl _ rfl _ _ inferInstance hL ?_) | (with_reducible first | refine wpB_agg rfl _ _ _ rfl rfl hL ?_ | refine wpB_one rfl _ _ (.int _ _) rfl rfl rfl hL ?_ | refine wpB_one rfl _ _ (.slice _ _ _) rfl rfl rfl hL ?_ | refine wpB_one rfl _ _ (.bool _) rfl rfl rfl hL ?_ | refine wpB_one rfl _ _ (.pointer _) rfl rfl rfl hL ?_ | refine wpB_one rfl _ _ (.func _ _ _) rfl rfl rfl hL ?_) | (with_reducible first | refine wpH_max rfl _ _ _ _ rfl _ _ rfl rfl ?_ | refine wpH_min rfl _ _ _ _ rfl _ _ rfl rfl ?_) | ((with_reducible refine wpA_load rfl _ _ rfl _ rfl ?_); first | refine loadA hL ?_ | refine loadR hL ?_ | refine loadC hL ?_ | refine loadD ?_ | refine loadE hL ?_ | refine loadF ?_) | ((with_reducible refine wpA_index rfl _ _ _ rfl _ rfl _ rfl ?_); first | (refine indexA ?_; try rw [Int.toNat_natCast]) | refine indexC ?_) | ((with_reducible refine wpA_store rfl _ _ _ rfl _ rfl (.agg _) rfl ?_); refine storeR hL ?_; clear hL; intro _ hL) | ((with_reducible first | refine wpA_store rfl _ _ _ rfl _ rfl (.int _ _) rfl ?_ | refine wpA_store rfl _ _ _ rfl _ rfl (.slice _ _ _) rfl ?_ | refine wpA_store rfl _ _ _ rfl _ rfl (.bool _) rfl ?_ | refine wpA_store rfl _ _ _ rfl _ rfl (.pointer _) rfl ?_ | refine wpA_store rfl _ _ _ rfl _ rfl (.func _ _ _) rfl ?_); (first | refine storeA hL ?_ | refine storeO hL ?_); (clear hL; intro _ hL)) | ((with_reducible refine wpA_lit rfl _ _ _ rfl ?_); first | refine litA1 hL ?_ | refine litA2 hL ?_ | refine litA3 hL ?_ | refine litA4 hL ?_ | refine litA6 hL ?_) | ((with_reducible refine wpA_append rfl _ _ _ rfl (.slice _ _ _) rfl ?_); intro vq hvq; simp [go_sem] at hvq; subst hvq; refine appendA hL ?_; clear hL; intro _ _ _ hL; try dsimp only at hL) | ((with_reducible refine wpA_make rfl _ _ _ rfl _ rfl rfl ?_); refine makeA hL ?_))
          go_loopw [15] (fun s15 wr => ∃ i : Nat, i ≤ 18 ∧ s15 = .int .i64 i ∧ Holds w wr [blk b3 #[.int .i64 18, .int .i64 18, .slice sa sn sc] 37, blk b2 #[.int .i64 1, .int .i64 x0, .int .i64 y0, .int .i64 0, .int .i64 0, .int .i64 2, .int .i64 x1, .int .i64 y0, .int .i64 0, .int .i64 0, .int .i64 2, .int .i64 x1, .int .i64 y1, .int .i64 0, .int .i64 0, .int .i64 2, .int .i64 x0, .int .i64 y1, .int .i64 0, .int .i64 0, .int .i64 4, .int .i64 0, .int .i64 0, .int .i64 0, .int .i64 0] 51, blk b1 #[.int .i64 a0, .int .i64 a1, .int .i64 a2, .int .i64 a3] 55] [R18 sa sn sc Q])
            (fun s15 wr => (18 - intOf s15).toNat)
          case atStart => exact ⟨0, by omega, rfl, hL⟩
          case round =>
            clear hL
            obtain ⟨i, hi, rfl, hL⟩ := hrel
            by_cases hit : i < 18
            · have hib : (i : Int) < 18 := by omega
              have hcov := HCv.out (16 * (i : Int) + 8) (16 * (j : Int) + 8)
              rw [← HQ.out] at hcov
              have HAt := Lib.hid (atPix18 (p := Q) hit hjt)
              obtain ⟨X, hX⟩ : ∃ X, 16 * (i : Int) + 8 = X := ⟨_, rfl⟩
              obtain ⟨Y, hY⟩ : ∃ Y, 16 * (j : Int) + 8 = Y := ⟨_, rfl⟩
              rw [hX, hY] at hcov
              have bX : 8 ≤ X ∧ X ≤ 280 := by omega
              have bY : 8 ≤ Y ∧ Y ≤ 280 := by omega
              obtain ⟨LV, hLV⟩ : ∃ LV : Bool, decide ((x0 ≤ X ∧ X ≤ x1) ∧ ((y0 - k ≤ Y ∧ Y ≤ y0 + k) ∨ (y1 - k ≤ Y ∧ Y ≤ y1 + k))) = LV := ⟨_, rfl⟩
              obtain ⟨UV, hUV⟩ : ∃ UV : Bool, decide ((y0 ≤ Y ∧ Y ≤ y1) ∧ ((x0 - k ≤ X ∧ X ≤ x0 + k) ∨ (x1 - k ≤ X ∧ X ≤ x1 + k))) = UV := ⟨_, rfl⟩
              have HQv := Lib.hid (show Q j i = (LV || UV) by rw [Bool.eq_iff_iff, hcov, ← hLV, ← hUV]; simp)
              have HLVt := Lib.hid (fun h => hLV.symm.trans (decide_eq_true h))
              have HLVf := Lib.hid (fun h => hLV.symm.trans (decide_eq_false h))
              have HUVt := Lib.hid (fun h => hUV.symm.trans (decide_eq_true h))
              have HUVf := Lib.hid (fun h => hUV.symm.trans (decide_eq_false h))
              have HX := Lib.hid hX; have HY := Lib.hid hY
              clear hcov hLV hUV
              go_upto_region 20 with (fail)
              clear hX hY
              go_cut [18] from 85 to 175 (fun s18 wc => s18 = .bool LV ∧ Holds w wc [blk b3 #[.int .i64 18, .int .i64 18, .slice sa sn sc] 37, blk b2 #[.int .i64 1, .int .i64 x0, .int .i64 y0, .int .i64 0, .int .i64 0, .int .i64 2, .int .i64 x1, .int .i64 y0, .int .i64 0, .int .i64 0, .int .i64 2, .int .i64 x1, .int .i64 y1, .int .i64 0, .int .i64 0, .int .i64 2, .int .i64 x0, .int .i64 y1, .int .i64 0, .int .i64 0, .int .i64 4, .int .i64 0, .int .i64 0, .int .i64 0, .int .i64 0] 51, blk b1 #[.int .i64 a0, .int .i64 a1, .int .i64 a2, .int .i64 a3] 55] [R18 sa sn sc Q])
              case first =>
                rcases (by omega : (¬ (x0 ≤ X)) ∨ ((x0 ≤ X) ∧ ¬ (X ≤ x1)) ∨ ((x0 ≤ X) ∧ (X ≤ x1) ∧ (y0 - k ≤ Y) ∧ (Y ≤ y0 + k)) ∨ ((x0 ≤ X) ∧ (X ≤ x1) ∧ ¬ (y0 - k ≤ Y) ∧ ¬ (y1 - k ≤ Y)) ∨ ((x0 ≤ X) ∧ (X ≤ x1) ∧ ¬ (y0 - k ≤ Y) ∧ (y1 - k ≤ Y) ∧ ¬ (Y ≤ y1 + k)) ∨ ((x0 ≤ X) ∧ (X ≤ x1) ∧ ¬ (y0 - k ≤ Y) ∧ (y1 - k ≤ Y) ∧ (Y ≤ y1 + k)) ∨ ((x0 ≤ X) ∧ (X ≤ x1) ∧ (y0 - k ≤ Y) ∧ ¬ (Y ≤ y0 + k) ∧ ¬ (y1 - k ≤ Y)) ∨ ((x0 ≤ X) ∧ (X ≤ x1) ∧ (y0 - k ≤ Y) ∧ ¬ (Y ≤ y0 + k) ∧ (y1 - k ≤ Y) ∧ ¬ (Y ≤ y1 + k)) ∨ ((x0 ≤ X) ∧ (X ≤ x1) ∧ (y0 - k ≤ Y) ∧ ¬ (Y ≤ y0 + k) ∧ (y1 - k ≤ Y) ∧ (Y ≤ y1 + k))) with g0 | ⟨g0, g1⟩ | ⟨g0, g1, g2, g3⟩ | ⟨g0, g1, g2, g4⟩ | ⟨g0, g1, g2, g4, g5⟩ | ⟨g0, g1, g2, g4, g5⟩ | ⟨g0, g1, g2, g3, g4⟩ | ⟨g0, g1, g2, g3, g4, g5⟩ | ⟨g0, g1, g2, g3, g4, g5⟩
                · have hV := Lib.hid (show LV = false from HLVf.out (by omega))
                  have d0 : decide (x0 ≤ X) = false := by simp; omega
                  clear g0
                  go_wp2
                  go_meet
                  case rel => exact ⟨by rw [hV.out], hL⟩
                · have hV := Lib.hid (show LV = false from HLVf.out (by omega))
                  have d0 : decide (x0 ≤ X) = true := by simp; omega
                  have d1 : decide (X ≤ x1) = false := by simp; omega
                  clear g0 g1
                  go_wp2
                  go_meet
                  case rel => exact ⟨by rw [hV.out], hL⟩
                · have hV := Lib.hid (show LV = true from HLVt.out (by omega))
                  have d0 : decide (x0 ≤ X) = true := by simp; omega
                  have d1 : decide (X ≤ x1) = true := by simp; omega
                  have d2 : decide (y0 - k ≤ Y) = true := by simp; omega
                  have d3 : decide (Y ≤ y0 + k) = true := by simp; omega
                  clear g0 g1 g2 g3
                  go_wp2
                  go_meet
                  case rel => exact ⟨by rw [hV.out], hL⟩
                · have hV := Lib.hid (show LV = false from HLVf.out (by omega))
                  have d0 : decide (x0 ≤ X) = true := by simp; omega
                  have d1 : decide (X ≤ x1) = true := by simp; omega
                  have d2 : decide (y0 - k ≤ Y) = false := by simp; omega
                  have d4 : decide (y1 - k ≤ Y) = false := by simp; omega
                  clear g0 g1 g2 g4
                  go_wp2
                  go_meet
                  case rel => exact ⟨by rw [hV.out], hL⟩
                · have hV := Lib.hid (show LV = false from HLVf.out (by omega))
                  have d0 : decide (x0 ≤ X) = true := by simp; omega
                  have d1 : decide (X ≤ x1) = true := by simp; omega
                  have d2 : decide (y0 - k ≤ Y) = false := by simp; omega
                  have d4 : decide (y1 - k ≤ Y) = true := by simp; omega
                  have d5 : decide (Y ≤ y1 + k) = false := by simp; omega
                  clear g0 g1 g2 g4 g5
                  go_wp2
                  go_meet
                  case rel => exact ⟨by rw [hV.out], hL⟩
                · have hV := Lib.hid (show LV = true from HLVt.out (by omega))
                  have d0 : decide (x0 ≤ X) = true := by simp; omega
                  have d1 : decide (X ≤ x1) = true := by simp; omega
                  have d2 : decide (y0 - k ≤ Y) = false := by simp; omega
                  have d4 : decide (y1 - k ≤ Y) = true := by simp; omega
                  have d5 : decide (Y ≤ y1 + k) = true := by simp; omega
                  clear g0 g1 g2 g4 g5
                  go_wp2
                  go_meet
                  case rel => exact ⟨by rw [hV.out], hL⟩
                · have hV := Lib.hid (show LV = false from HLVf.out (by omega))
                  have d0 : decide (x0 ≤ X) = true := by simp; omega
                  have d1 : decide (X ≤ x1) = true := by simp; omega
                  have d2 : decide (y0 - k ≤ Y) = true := by simp; omega
                  have d3 : decide (Y ≤ y0 + k) = false := by simp; omega
                  have d4 : decide (y1 - k ≤ Y) = false := by simp; omega
                  clear g0 g1 g2 g3 g4
                  go_wp2
                  go_meet
                  case rel => exact ⟨by rw [hV.out], hL⟩
                · have hV := Lib.hid (show LV = false from HLVf.out (by omega))
                  have d0 : decide (x0 ≤ X) = true := by simp; omega
                  have d1 : decide (X ≤ x1) = true := by simp; omega
                  have d2 : decide (y0 - k ≤ Y) = true := by simp; omega
                  have d3 : decide (Y ≤ y0 + k) = false := by simp; omega
                  have d4 : decide (y1 - k ≤ Y) = true := by simp; omega
                  have d5 : decide (Y ≤ y1 + k) = false := by simp; omega
                  clear g0 g1 g2 g3 g4 g5
                  go_wp2
                  go_meet
                  case rel => exact ⟨by rw [hV.out], hL⟩
                · have hV := Lib.hid (show LV = true from HLVt.out (by omega))
                  have d0 : decide (x0 ≤ X) = true := by simp; omega
                  have d1 : decide (X ≤ x1) = true := by simp; omega
                  have d2 : decide (y0 - k ≤ Y) = true := by simp; omega
                  have d3 : decide (Y ≤ y0 + k) = false := by simp; omega
                  have d4 : decide (y1 - k ≤ Y) = true := by simp; omega
                  have d5 : decide (Y ≤ y1 + k) = true := by simp; omega
                  clear g0 g1 g2 g3 g4 g5
                  go_wp2
                  go_meet
                  case rel => exact ⟨by rw [hV.out], hL⟩

              case rest =>
                clear hL
                obtain ⟨rfl, hL⟩ := hcut
                go_upto_region 21 with (fail)
                go_cut [19] from 85 to 175 (fun s19 wc => s19 = .bool UV ∧ Holds w wc [blk b3 #[.int .i64 18, .int .i64 18, .slice sa sn sc] 37, blk b2 #[.int .i64 1, .int .i64 x0, .int .i64 y0, .int .i64 0, .int .i64 0, .int .i64 2, .int .i64 x1, .int .i64 y0, .int .i64 0, .int .i64 0, .int .i64 2, .int .i64 x1, .int .i64 y1, .int .i64 0, .int .i64 0, .int .i64 2, .int .i64 x0, .int .i64 y1, .int .i64 0, .int .i64 0, .int .i64 4, .int .i64 0, .int .i64 0, .int .i64 0, .int .i64 0] 51, blk b1 #[.int .i64 a0, .int .i64 a1, .int .i64 a2, .int .i64 a3] 55] [R18 sa sn sc Q])
                case first =>
                  rcases (by omega : (¬ (y0 ≤ Y)) ∨ ((y0 ≤ Y) ∧ ¬ (Y ≤ y1)) ∨ ((y0 ≤ Y) ∧ (Y ≤ y1) ∧ (x0 - k ≤ X) ∧ (X ≤ x0 + k)) ∨ ((y0 ≤ Y) ∧ (Y ≤ y1) ∧ ¬ (x0 - k ≤ X) ∧ ¬ (x1 - k ≤ X)) ∨ ((y0 ≤ Y) ∧ (Y ≤ y1) ∧ ¬ (x0 - k ≤ X) ∧ (x1 - k ≤ X) ∧ ¬ (X ≤ x1 + k)) ∨ ((y0 ≤ Y) ∧ (Y ≤ y1) ∧ ¬ (x0 - k ≤ X) ∧ (x1 - k ≤ X) ∧ (X ≤ x1 + k)) ∨ ((y0 ≤ Y) ∧ (Y ≤ y1) ∧ (x0 - k ≤ X) ∧ ¬ (X ≤ x0 + k) ∧ ¬ (x1 - k ≤ X)) ∨ ((y0 ≤ Y) ∧ (Y ≤ y1) ∧ (x0 - k ≤ X) ∧ ¬ (X ≤ x0 + k) ∧ (x1 - k ≤ X) ∧ ¬ (X ≤ x1 + k)) ∨ ((y0 ≤ Y) ∧ (Y ≤ y1) ∧ (x0 - k ≤ X) ∧ ¬ (X ≤ x0 + k) ∧ (x1 - k ≤ X) ∧ (X ≤ x1 + k))) with g0 | ⟨g0, g1⟩ | ⟨g0, g1, g2, g3⟩ | ⟨g0, g1, g2, g4⟩ | ⟨g0, g1, g2, g4, g5⟩ | ⟨g0, g1, g2, g4, g5⟩ | ⟨g0, g1, g2, g3, g4⟩ | ⟨g0, g1, g2, g3, g4, g5⟩ | ⟨g0, g1, g2, g3, g4, g5⟩
                  · have hV := Lib.hid (show UV = false from HUVf.out (by omega))
                    have d0 : decide (y0 ≤ Y) = false := by simp; omega
                    clear g0
                    go_wp2
                    go_meet
                    case rel => exact ⟨by rw [hV.out], hL⟩
                  · have hV := Lib.hid (show UV = false from HUVf.out (by omega))
                    have d0 : decide (y0 ≤ Y) = true := by simp; omega
                    have d1 : decide (Y ≤ y1) = false := by simp; omega
                    clear g0 g1
                    go_wp2
                    go_meet
                    case rel => exact ⟨by rw [hV.out], hL⟩
                  · have hV := Lib.hid (show UV = true from HUVt.out (by omega))
                    have d0 : decide (y0 ≤ Y) = true := by simp; omega
                    have d1 : decide (Y ≤ y1) = true := by simp; omega
                    have d2 : decide (x0 - k ≤ X) = true := by simp; omega
                    have d3 : decide (X ≤ x0 + k) = true := by simp; omega
                    clear g0 g1 g2 g3
                    go_wp2
                    go_meet
                    case rel => exact ⟨by rw [hV.out], hL⟩
                  · have hV := Lib.hid (show UV = false from HUVf.out (by omega))
                    have d0 : decide (y0 ≤ Y) = true := by simp; omega
                    have d1 : decide (Y ≤ y1) = true := by simp; omega
                    have d2 : decide (x0 - k ≤ X) = false := by simp; omega
                    have d4 : decide (x1 - k ≤ X) = false := by simp; omega
                    clear g0 g1 g2 g4
                    go_wp2
                    go_meet
                    case rel => exact ⟨by rw [hV.out], hL⟩
                  · have hV := Lib.hid (show UV = false from HUVf.out (by omega))
                    have d0 : decide (y0 ≤ Y) = true := by simp; omega
                    have d1 : decide (Y ≤ y1) = true := by simp; omega
                    have d2 : decide (x0 - k ≤ X) = false := by simp; omega
                    have d4 : decide (x1 - k ≤ X) = true := by simp; omega
                    have d5 : decide (X ≤ x1 + k) = false := by simp; omega
                    clear g0 g1 g2 g4 g5
                    go_wp2
                    go_meet
                    case rel => exact ⟨by rw [hV.out], hL⟩
                  · have hV := Lib.hid (show UV = true from HUVt.out (by omega))
                    have d0 : decide (y0 ≤ Y) = true := by simp; omega
                    have d1 : decide (Y ≤ y1) = true := by simp; omega
                    have d2 : decide (x0 - k ≤ X) = false := by simp; omega
                    have d4 : decide (x1 - k ≤ X) = true := by simp; omega
                    have d5 : decide (X ≤ x1 + k) = true := by simp; omega
                    clear g0 g1 g2 g4 g5
                    go_wp2
                    go_meet
                    case rel => exact ⟨by rw [hV.out], hL⟩
                  · have hV := Lib.hid (show UV = false from HUVf.out (by omega))
                    have d0 : decide (y0 ≤ Y) = true := by simp; omega
                    have d1 : decide (Y ≤ y1) = true := by simp; omega
                    have d2 : decide (x0 - k ≤ X) = true := by simp; omega
                    have d3 : decide (X ≤ x0 + k) = false := by simp; omega
                    have d4 : decide (x1 - k ≤ X) = false := by simp; omega
                    clear g0 g1 g2 g3 g4
                    go_wp2
                    go_meet
                    case rel => exact ⟨by rw [hV.out], hL⟩
                  · have hV := Lib.hid (show UV = false from HUVf.out (by omega))
                    have d0 : decide (y0 ≤ Y) = true := by simp; omega
                    have d1 : decide (Y ≤ y1) = true := by simp; omega
                    have d2 : decide (x0 - k ≤ X) = true := by simp; omega
                    have d3 : decide (X ≤ x0 + k) = false := by simp; omega
                    have d4 : decide (x1 - k ≤ X) = true := by simp; omega
                    have d5 : decide (X ≤ x1 + k) = false := by simp; omega
                    clear g0 g1 g2 g3 g4 g5
                    go_wp2
                    go_meet
                    case rel => exact ⟨by rw [hV.out], hL⟩
                  · have hV := Lib.hid (show UV = true from HUVt.out (by omega))
                    have d0 : decide (y0 ≤ Y) = true := by simp; omega
                    have d1 : decide (Y ≤ y1) = true := by simp; omega
                    have d2 : decide (x0 - k ≤ X) = true := by simp; omega
                    have d3 : decide (X ≤ x0 + k) = false := by simp; omega
                    have d4 : decide (x1 - k ≤ X) = true := by simp; omega
                    have d5 : decide (X ≤ x1 + k) = true := by simp; omega
                    clear g0 g1 g2 g3 g4 g5
                    go_wp2
                    go_meet
                    case rel => exact ⟨by rw [hV.out], hL⟩

                case rest =>
                  clear hL
                  obtain ⟨rfl, hL⟩ := hcut
                  have HV := Lib.hid (HAt.out.trans HQv.out)
                  clear HLVt HLVf HUVt HUVf HQv HAt
                  cases LV <;> cases UV
                  all_goals
                    go_wp2_with (first | (go_at_call 23; (with_reducible refine (r18_has _ hL.fact0 _ _).mono ?_); rintro e _ ⟨rfl, hb⟩; rw [HV.out]; replace hL := hL.call hb; clear hb) | (first | (clear hL n1; with_reducible intro b1 w1 hL) | (clear hL n2; with_reducible intro b2 w2 hL) | (clear hL n3; with_reducible intro b3 w3 hL) | (clear hL n4; with_reducible intro b4 w4 hL) | (clear hL; with_reducible intro _ _ hL)) | (with_reducible refine wpC_alloc rfl _ rfl _ _ inferInstance hL ?_) | (with_reducible first | refine wpB_agg rfl _ _ _ rfl rfl hL ?_ | refine wpB_one rfl _ _ (.int _ _) rfl rfl rfl hL ?_ | refine wpB_one rfl _ _ (.slice _ _ _) rfl rfl rfl hL ?_ | refine wpB_one rfl _ _ (.bool _) rfl rfl rfl hL ?_ | refine wpB_one rfl _ _ (.pointer _) rfl rfl rfl hL ?_ | refine wpB_one rfl _ _ (.func _ _ _) rfl rfl rfl hL ?_) | (with_reducible first | refine wpH_max rfl _ _ _ _ rfl _ _ rfl rfl ?_ | refine wpH_min rfl _ _ _ _ rfl _ _ rfl rfl ?_) | ((with_reducible refine wpA_load rfl _ _ rfl _ rfl ?_); first | refine loadA hL ?_ | refine loadR hL ?_ | refine loadC hL ?_ | refine loadD ?_ | refine loadE hL ?_ | refine loadF ?_) | ((with_reducible refine wpA_index rfl _ _ _ rfl _ rfl _ rfl ?_); first | (refine indexA ?_; try rw [Int.toNat_natCast]) | refine indexC ?_) | ((with_reducible refine wpA_store rfl _ _ _ rfl _ rfl (.agg _) rfl ?_); refine storeR hL ?_; clear hL; intro _ hL) | ((with_reducible first | refine wpA_store rfl _ _ _ rfl _ rfl (.int _ _) rfl ?_ | refine wpA_store rfl _ _ _ rfl _ rfl (.slice _ _ _) rfl ?_ | refine wpA_store rfl _ _ _ rfl _ rfl (.bool _) rfl ?_ | refine wpA_store rfl _ _ _ rfl _ rfl (.pointer _) rfl ?_ | refine wpA_store rfl _ _ _ rfl _ rfl (.func _ _ _) rfl ?_); (first | refine storeA hL ?_ | refine storeO hL ?_); (clear hL; intro _ hL)) | ((with_reducible refine wpA_lit rfl _ _ _ rfl ?_); first | refine litA1 hL ?_ | refine litA2 hL ?_ | refine litA3 hL ?_ | refine litA4 hL ?_ | refine litA6 hL ?_) | ((with_reducible refine wpA_append rfl _ _ _ rfl (.slice _ _ _) rfl ?_); intro vq hvq; simp [go_sem] at hvq; subst hvq; refine appendA hL ?_; clear hL; intro _ _ _ hL; try dsimp only at hL) | ((with_reducible refine wpA_make rfl _ _ _ rfl _ rfl rfl ?_); refine makeA hL ?_))
                    go_roundw
                    case rel => exact ⟨i + 1, by omega, by go_num, hL⟩
                    case measure => simp [intOf]; omega
            · go_wp2_with (first | (first | (clear hL n1; with_reducible intro b1 w1 hL) | (clear hL n2; with_reducible intro b2 w2 hL) | (clear hL n3; with_reducible intro b3 w3 hL) | (clear hL n4; with_reducible intro b4 w4 hL) | (clear hL; with_reducible intro _ _ hL)) | (with_reducible refine wpC_alloc rfl _ rfl _ _ inferInstance hL ?_) | (with_reducible first | refine wpB_agg rfl _ _ _ rfl rfl hL ?_ | refine wpB_one rfl _ _ (.int _ _) rfl rfl rfl hL ?_ | refine wpB_one rfl _ _ (.slice _ _ _) rfl rfl rfl hL ?_ | refine wpB_one rfl _ _ (.bool _) rfl rfl rfl hL ?_ | refine wpB_one rfl _ _ (.pointer _) rfl rfl rfl hL ?_ | refine wpB_one rfl _ _ (.func _ _ _) rfl rfl rfl hL ?_) | (with_reducible first | refine wpH_max rfl _ _ _ _ rfl _ _ rfl rfl ?_ | refine wpH_min rfl _ _ _ _ rfl _ _ rfl rfl ?_) | ((with_reducible refine wpA_load rfl _ _ rfl _ rfl ?_); first | refine loadA hL ?_ | refine loadR hL ?_ | refine loadC hL ?_ | refine loadD ?_ | refine loadE hL ?_ | refine loadF ?_) | ((with_reducible refine wpA_index rfl _ _ _ rfl _ rfl _ rfl ?_); first | (refine indexA ?_; try rw [Int.toNat_natCast]) | refine indexC ?_) | ((with_reducible refine wpA_store rfl _ _ _ rfl _ rfl (.agg _) rfl ?_); refine storeR hL ?_; clear hL; intro _ hL) | ((with_reducible first | refine wpA_store rfl _ _ _ rfl _ rfl (.int _ _) rfl ?_ | refine wpA_store rfl _ _ _ rfl _ rfl (.slice _ _ _) rfl ?_ | refine wpA_store rfl _ _ _ rfl _ rfl (.bool _) rfl ?_ | refine wpA_store rfl _ _ _ rfl _ rfl (.pointer _) rfl ?_ | refine wpA_store rfl _ _ _ rfl _ rfl (.func _ _ _) rfl ?_); (first | refine storeA hL ?_ | refine storeO hL ?_); (clear hL; intro _ hL)) | ((with_reducible refine wpA_lit rfl _ _ _ rfl ?_); first | refine litA1 hL ?_ | refine litA2 hL ?_ | refine litA3 hL ?_ | refine litA4 hL ?_ | refine litA6 hL ?_) | ((with_reducible refine wpA_append rfl _ _ _ rfl (.slice _ _ _) rfl ?_); intro vq hvq; simp [go_sem] at hvq; subst hvq; refine appendA hL ?_; clear hL; intro _ _ _ hL; try dsimp only at hL) | ((with_reducible refine wpA_make rfl _ _ _ rfl _ rfl rfl ?_); refine makeA hL ?_))
              go_roundw
              case rel => exact ⟨j + 1, by omega, by go_num, hL⟩
              case measure => simp [intOf]; omega
        · go_wp2_with (first | (first | (clear hL n1; with_reducible intro b1 w1 hL) | (clear hL n2; with_reducible intro b2 w2 hL) | (clear hL n3; with_reducible intro b3 w3 hL) | (clear hL n4; with_reducible intro b4 w4 hL) | (clear hL; with_reducible intro _ _ hL)) | (with_reducible refine wpC_alloc rfl _ rfl _ _ inferInstance hL ?_) | (with_reducible first | refine wpB_agg rfl _ _ _ rfl rfl hL ?_ | refine wpB_one rfl _ _ (.int _ _) rfl rfl rfl hL ?_ | refine wpB_one rfl _ _ (.slice _ _ _) rfl rfl rfl hL ?_ | refine wpB_one rfl _ _ (.bool _) rfl rfl rfl hL ?_ | refine wpB_one rfl _ _ (.pointer _) rfl rfl rfl hL ?_ | refine wpB_one rfl _ _ (.func _ _ _) rfl rfl rfl hL ?_) | (with_reducible first | refine wpH_max rfl _ _ _ _ rfl _ _ rfl rfl ?_ | refine wpH_min rfl _ _ _ _ rfl _ _ rfl rfl ?_) | ((with_reducible refine wpA_load rfl _ _ rfl _ rfl ?_); first | refine loadA hL ?_ | refine loadR hL ?_ | refine loadC hL ?_ | refine loadD ?_ | refine loadE hL ?_ | refine loadF ?_) | ((with_reducible refine wpA_index rfl _ _ _ rfl _ rfl _ rfl ?_); first | (refine indexA ?_; try rw [Int.toNat_natCast]) | refine indexC ?_) | ((with_reducible refine wpA_store rfl _ _ _ rfl _ rfl (.agg _) rfl ?_); refine storeR hL ?_; clear hL; intro _ hL) | ((with_reducible first | refine wpA_store rfl _ _ _ rfl _ rfl (.int _ _) rfl ?_ | refine wpA_store rfl _ _ _ rfl _ rfl (.slice _ _ _) rfl ?_ | refine wpA_store rfl _ _ _ rfl _ rfl (.bool _) rfl ?_ | refine wpA_store rfl _ _ _ rfl _ rfl (.pointer _) rfl ?_ | refine wpA_store rfl _ _ _ rfl _ rfl (.func _ _ _) rfl ?_); (first | refine storeA hL ?_ | refine storeO hL ?_); (clear hL; intro _ hL)) | ((with_reducible refine wpA_lit rfl _ _ _ rfl ?_); first | refine litA1 hL ?_ | refine litA2 hL ?_ | refine litA3 hL ?_ | refine litA4 hL ?_ | refine litA6 hL ?_) | ((with_reducible refine wpA_append rfl _ _ _ rfl (.slice _ _ _) rfl ?_); intro vq hvq; simp [go_sem] at hvq; subst hvq; refine appendA hL ?_; clear hL; intro _ _ _ hL; try dsimp only at hL) | ((with_reducible refine wpA_make rfl _ _ _ rfl _ rfl rfl ?_); refine makeA hL ?_))
          go_ret
          exact ⟨rfl, hL.below⟩
end Go.Proofs.Ytfnolaoohmecbaa
