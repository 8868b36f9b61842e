/- tympanlaw34.known: the document's examples; styles by numbers. -/
import Derived.Test.YtfnolaoohmecbaaHmH
-- lit6
namespace Go.Proofs.Ytfnolaoohmecbaa
open Go.RowKit

theorem segs_blk {w0 w : World} {M : List Res} {Φ : List (World → Prop)} {b n : Nat} {cs : Array Value} {T : TypeId} {l : List Sg} (hL : Holds w0 w M Φ) (k : At M (blk b cs T)) (hn : n = l.length) (hcs : cs.toList = (l.map segC).flatten) (hm : n ≤ maxLen) : SegsAt w (.slice (some ⟨b, 0, none⟩) n n) l := by
  subst hn
  exact hL.segsLit l k hcs hm
def exA : List Sg := [⟨1, 0, 8, 0, 0⟩, ⟨2, 40, 8, 0, 0⟩]
def exB : List Sg := [⟨1, 24, 8, 0, 0⟩, ⟨4, 0, 0, 0, 0⟩]
theorem exA_reg : strokeReg exA ⟨16, 0, 0⟩ 4 1 = ⟨4, 1, [[(0, 3)]]⟩ := by
  have h : ((List.range 1).map fun (j : Nat) => runsTo (fun i => covL (allS exA ⟨16, 0, 0⟩) (16 * (i : Int) + 8) (16 * (j : Int) + 8)) 4) = [[(0, 3)]] := by decide +kernel
  unfold strokeReg
  rw [h]
  rfl
theorem exB_line : strokeS exB ⟨16, 1, 0⟩ 8 4 = [(1, 2)] := by decide +kernel
set_option maxRecDepth 100000 in
set_option maxHeartbeats 4000000 in
theorem known_calls (w : World) : Calls Try.prog 12 #[] w fun e w' => e = .returned (.bool true) ∧ Below w.heap.size w w' := by
  have hL := Holds.start w
  have HM := Lib.hid (show ∀ w' v, SegsAt w' v exA → Calls Try.prog 17 #[v, .agg #[.int .i64 16, .int .i64 0, .int .i64 0], .int .i64 4, .int .i64 1] w' (RegOut ⟨4, 1, [[(0, 3)]]⟩ 0 w') from fun w' v hv => by
    have := hemRegion_ok (W := 4) (H := 1) (by decide) (by decide) (by decide) (by decide) w' v exA hv ⟨16, 0, 0⟩ (by decide +kernel) (by decide)
    rw [exA_reg] at this
    exact this)
  have HN := Lib.hid (show ∀ w' v, SegsAt w' v exB → Calls Try.prog 14 #[v, .agg #[.int .i64 16, .int .i64 1, .int .i64 0], .int .i64 8, .int .i64 4] w' (RunsOut [(1, 2)] w') from fun w' v hv => by
    have := hemLine_calls w' v exB hv ⟨16, 1, 0⟩ 8 4
    rw [exB_line] at this
    exact this)
  have n1 : True := trivial; have n2 : True := trivial; have n3 : True := trivial; have n4 : True := trivial; have n5 : True := trivial
  go_enter Try.func12, Try.ntmps12
  go_wp2_with (first | (go_at_call 17; (with_reducible refine (HM.out _ _ ?_).mono ?_); (· exact segs_blk hL .here rfl rfl (by unfold maxLen; omega)); rintro e _ ⟨v, rfl, hb, hf⟩; obtain ⟨sa, sn, sc, rfl, _⟩ := RegAt.shape hf.now; replace hL := hL.callF hb hf; clear hb hf) | (go_at_call 14; (with_reducible refine (HN.out _ _ ?_).mono ?_); (· exact segs_blk hL .here rfl rfl (by unfold maxLen; omega)); rintro e _ ⟨vl, rfl, hb, hf⟩; replace hL := hL.callF hb hf; clear hb hf) | (go_at_call 19; (with_reducible refine (helpRegion_calls _ _ _ ⟨4, 1, [[(0, 3)]]⟩ ⟨4, 1, [[(0, 3)]]⟩ ?_ ?_).mono ?_); (· exact hL.fact1); (· exact ⟨_, rfl, rowsAt_blk hL .here [[(0, 3)]] rfl rfl (by unfold maxLen; omega) (fun i v hv => by (rcases i with _ | i; (· simp at hv; subst hv; exact blk_runsN hL (.there .here) [(0, 3)] rfl rfl (by unfold maxLen; omega)); (· simp at hv)))⟩); rintro e _ ⟨rfl, hb⟩; rw [sameReg_self]; replace hL := hL.call hb; clear hb) | (go_at_call 15; (with_reducible refine (same_calls _ _ _ [(1, 2)] [(1, 2)] ?_ ?_).mono ?_); (· exact hL.fact0); (· exact blk_runsN hL .here [(1, 2)] rfl rfl (by unfold maxLen; omega)); rintro e _ ⟨rfl, hb⟩; rw [decide_eq_true (rfl : [((1 : Int), (2 : Int))] = [(1, 2)])]; replace hL := hL.call hb; clear hb) | (first | (clear hL n1; with_reducible intro b1 w1 hL) | (clear hL n2; with_reducible intro b2 w2 hL) | (clear hL n3; with_reducible intro b3 w3 hL) | (clear hL n4; with_reducible intro b4 w4 hL) | (clear hL n5; with_reducible intro b5 w5 hL) | (clear hL; with_reducible intro _ _ hL)) | (with_reducible refine wpC_alloc rfl _ rfl _ _ inferInstance hL ?_) | (with_reducible first | refine wpB_agg rfl _ _ _ rfl rfl hL ?_ | refine wpB_one rfl _ _ (.int _ _) rfl rfl rfl hL ?_ | refine wpB_one rfl _ _ (.slice _ _ _) rfl rfl rfl hL ?_ | refine wpB_one rfl _ _ (.bool _) rfl rfl rfl hL ?_ | refine wpB_one rfl _ _ (.pointer _) rfl rfl rfl hL ?_ | refine wpB_one rfl _ _ (.func _ _ _) rfl rfl rfl hL ?_) | (with_reducible first | refine wpH_max rfl _ _ _ _ rfl _ _ rfl rfl ?_ | refine wpH_min rfl _ _ _ _ rfl _ _ rfl rfl ?_) | ((with_reducible refine wpA_load rfl _ _ rfl _ rfl ?_); first | refine loadA hL ?_ | refine loadR hL ?_ | refine loadC hL ?_ | refine loadD ?_ | refine loadE hL ?_ | refine loadF ?_) | ((with_reducible refine wpA_index rfl _ _ _ rfl _ rfl _ rfl ?_); first | (refine indexA ?_; try rw [Int.toNat_natCast]) | refine indexC ?_) | ((with_reducible refine wpA_store rfl _ _ _ rfl _ rfl (.agg _) rfl ?_); refine storeR hL ?_; clear hL; intro _ hL) | ((with_reducible first | refine wpA_store rfl _ _ _ rfl _ rfl (.int _ _) rfl ?_ | refine wpA_store rfl _ _ _ rfl _ rfl (.slice _ _ _) rfl ?_ | refine wpA_store rfl _ _ _ rfl _ rfl (.bool _) rfl ?_ | refine wpA_store rfl _ _ _ rfl _ rfl (.pointer _) rfl ?_ | refine wpA_store rfl _ _ _ rfl _ rfl (.func _ _ _) rfl ?_); (first | refine storeA hL ?_ | refine storeO hL ?_); (clear hL; intro _ hL)) | ((with_reducible refine wpA_lit rfl _ _ _ rfl ?_); first | refine litA1 hL ?_ | refine litA2 hL ?_ | refine litA3 hL ?_ | refine litA4 hL ?_ | refine litA6 hL ?_) | ((with_reducible refine wpA_append rfl _ _ _ rfl (.slice _ _ _) rfl ?_); intro vq hvq; simp [go_sem] at hvq; subst hvq; refine appendA hL ?_; clear hL; intro _ _ _ hL; try dsimp only at hL) | ((with_reducible refine wpA_make rfl _ _ _ rfl _ rfl rfl ?_); refine makeA hL ?_))
  go_ret
  exact ⟨rfl, hL.below⟩
def styN (v : Int) : Sty := ⟨v % 1048576 / 6 % 130, v % 1048576 % 3, v % 1048576 / 3 % 2⟩
theorem styN_may (v : Int) : mayY (styN v) = true := by
  unfold mayY styN
  simp
  omega
theorem styN_bd (v : Int) : 0 ≤ (styN v).wide ∧ (styN v).wide ≤ 129 ∧ ((styN v).cap = 0 ∨ (styN v).cap = 1 ∨ (styN v).cap = 2) ∧ ((styN v).join = 0 ∨ (styN v).join = 1) := by
  unfold styN
  dsimp only
  omega
set_option maxRecDepth 100000 in
theorem style_calls (v : Int) (w : World) : Calls Try.prog 24 #[.int .i64 v] w fun e w' => e = .returned (.agg #[.int .i64 (styN v).wide, .int .i64 (styN v).cap, .int .i64 (styN v).join]) ∧ Below w.heap.size w w' := by
  have hL := Holds.start w
  have HP := Lib.hid (fun w => place_calls v 1048576 (by omega) (by omega) w)
  unfold styN
  have q1 := Int.emod_nonneg v (show (1048576 : Int) ≠ 0 by omega)
  have q2 := Int.emod_lt_of_pos v (show (0 : Int) < 1048576 by omega)
  dsimp only
  generalize v % 1048576 = k at *
  have e1 : (k.tdiv 6).tmod 130 = k / 6 % 130 := by rw [Int.tdiv_eq_ediv_of_nonneg q1, Int.tmod_eq_emod_of_nonneg (by omega)]
  have e2 : k.tmod 3 = k % 3 := Int.tmod_eq_emod_of_nonneg q1
  have e3 : (k.tdiv 3).tmod 2 = k / 3 % 2 := by rw [Int.tdiv_eq_ediv_of_nonneg q1, Int.tmod_eq_emod_of_nonneg (by omega)]
  have e4 : k.tdiv 6 = k / 6 := Int.tdiv_eq_ediv_of_nonneg q1
  have e5 : k.tdiv 3 = k / 3 := Int.tdiv_eq_ediv_of_nonneg q1
  rw [e4] at e1
  rw [e5] at e3
  have n1 : True := trivial
  go_enter Try.func24, Try.ntmps24
  go_wp2_with (first | (go_at_call 21; (with_reducible refine (HP.out _).mono ?_); rintro e _ ⟨rfl, rfl⟩) | (first | (clear hL n1; with_reducible intro b1 w1 hL) | (clear hL; with_reducible intro _ _ hL)) | (with_reducible refine wpC_alloc rfl _ rfl _ _ inferInstance hL ?_) | (with_reducible first | refine wpB_agg rfl _ _ _ rfl rfl hL ?_ | refine wpB_one rfl _ _ (.int _ _) rfl rfl rfl hL ?_ | refine wpB_one rfl _ _ (.slice _ _ _) rfl rfl rfl hL ?_ | refine wpB_one rfl _ _ (.bool _) rfl rfl rfl hL ?_ | refine wpB_one rfl _ _ (.pointer _) rfl rfl rfl hL ?_ | refine wpB_one rfl _ _ (.func _ _ _) rfl rfl rfl hL ?_) | (with_reducible first | refine wpH_max rfl _ _ _ _ rfl _ _ rfl rfl ?_ | refine wpH_min rfl _ _ _ _ rfl _ _ rfl rfl ?_) | ((with_reducible refine wpA_load rfl _ _ rfl _ rfl ?_); first | refine loadA hL ?_ | refine loadR hL ?_ | refine loadC hL ?_ | refine loadD ?_ | refine loadE hL ?_ | refine loadF ?_) | ((with_reducible refine wpA_index rfl _ _ _ rfl _ rfl _ rfl ?_); first | (refine indexA ?_; try rw [Int.toNat_natCast]) | refine indexC ?_) | ((with_reducible refine wpA_store rfl _ _ _ rfl _ rfl (.agg _) rfl ?_); refine storeR hL ?_; clear hL; intro _ hL) | ((with_reducible first | refine wpA_store rfl _ _ _ rfl _ rfl (.int _ _) rfl ?_ | refine wpA_store rfl _ _ _ rfl _ rfl (.slice _ _ _) rfl ?_ | refine wpA_store rfl _ _ _ rfl _ rfl (.bool _) rfl ?_ | refine wpA_store rfl _ _ _ rfl _ rfl (.pointer _) rfl ?_ | refine wpA_store rfl _ _ _ rfl _ rfl (.func _ _ _) rfl ?_); (first | refine storeA hL ?_ | refine storeO hL ?_); (clear hL; intro _ hL)) | ((with_reducible refine wpA_lit rfl _ _ _ rfl ?_); first | refine litA1 hL ?_ | refine litA2 hL ?_ | refine litA3 hL ?_ | refine litA4 hL ?_ | refine litA6 hL ?_) | ((with_reducible refine wpA_append rfl _ _ _ rfl (.slice _ _ _) rfl ?_); intro vq hvq; simp [go_sem] at hvq; subst hvq; refine appendA hL ?_; clear hL; intro _ _ _ hL; try dsimp only at hL) | ((with_reducible refine wpA_make rfl _ _ _ rfl _ rfl rfl ?_); refine makeA hL ?_))
  exact bodyPost_ret (results_row inferInstance rfl _ hL b1 rfl _ _ .here rfl) rfl ⟨rfl, hL.below⟩
end Go.Proofs.Ytfnolaoohmecbaa
