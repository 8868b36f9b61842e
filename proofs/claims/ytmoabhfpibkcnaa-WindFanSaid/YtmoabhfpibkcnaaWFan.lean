/- WindFan returns true. -/
import Derived.Test.YtmoabhfpibkcnaaFan
import Derived.Test.YtmoabhfpibkcnaaMkd2
import Derived.Test.YtmoabhfpibkcnaaPt
-- lit6
namespace Go.Proofs.Ytmoabhfpibkcnaa
open Go.RowKit

section
variable {P : Program} {ops : Array Oper} {Q : Exit → Act → World → Prop} {md : Region.Mode} {S : World → Prop}
/-- two that may come now -/
theorem wpH_two {i j : Nat} {n : Nat} {l : Array Bool} {a : Act} {w : World} (hr : Region.ready md ops l = [i, j])
    (h1 : wpOp P ops Q i (fun a' w' => S w' ∧ wpAnyH P md ops Q S n (l.setIfInBounds i true) a' w') a w)
    (h2 : wpOp P ops Q j (fun a' w' => S w' ∧ wpAnyH P md ops Q S n (l.setIfInBounds j true) a' w') a w) : wpAnyH P md ops Q S (n + 1) l a w :=
  wpAnyH_all hr (by simp) fun k hk => by
    simp only [List.mem_cons, List.not_mem_nil, or_false] at hk
    rcases hk with rfl | rfl
    · exact h1
    · exact h2
end
theorem loop_straight (n : List Int) : ∀ e ∈ edgesS (loopS n), e.bent = false := by
  refine edges_straight ?_
  have key : ∀ f p m, (∀ s ∈ p, Sg.kind s ≠ 3) → ∀ s ∈ loopF f p m, s.kind ≠ 3 := by
    intro f
    induction f with
    | zero => intro p m h s hs; exact h s hs
    | succ f ih =>
      intro p m h s hs
      rw [loopF] at hs
      split at hs
      · exact h s hs
      · refine ih _ _ ?_ s hs
        intro t ht
        rcases List.mem_append.1 ht with ht | ht
        · exact h t ht
        · rw [List.mem_singleton.1 ht]; simp
  intro s hs
  unfold loopS at hs
  rcases List.mem_append.1 hs with hs | hs
  · exact key _ _ _ (by intro t ht; rw [List.mem_singleton.1 ht]; simp) s hs
  · rw [List.mem_singleton.1 hs]; decide

set_option maxRecDepth 100000 in
set_option maxHeartbeats 8000000 in
theorem windFan_calls (w : World) (va : Value) (na : List Int) (ha : NumsAt w va na) (cx cy px py : Int) : Calls Try.prog 7 #[va, .int .i64 cx, .int .i64 cy, .int .i64 px, .int .i64 py] w fun e w' => e = .returned (.bool true) ∧ Below w.heap.size w w' := by
  have hL := Holds.start w
  obtain ⟨a, cap, rfl, _⟩ := ha.parts
  have HM := Lib.hid (fun w' hb => loop_calls w' _ na (SliceAt.below ha hb))
  clear ha
  have hst := loop_straight na
  generalize loopS na = S at *
  have hlen := edgesS_len S
  have HE := Lib.hid (fun w' v => edges_calls w' v S)
  have HU := Lib.hid (fun w => point_calls px w)
  have HV := Lib.hid (fun w => point_calls py w)
  have HC1 := Lib.hid (fun w => point_calls cx w)
  have HC2 := Lib.hid (fun w => point_calls cy w)
  generalize ptI px = u at *
  generalize ptI py = v at *
  generalize ptI cx = c at *
  generalize ptI cy = d at *
  have HF := Lib.hid (fan_law c d u v S)
  generalize edgesS S = E at *
  have HA := Lib.hid (fun w' ve hv => windAt_calls w' ve E hv hst u v)
  have HSt := Lib.hid hst
  clear hst
  go_enter Try.func7, Try.ntmps7
  go_wp2_with (first | (go_at_call 13; (with_reducible refine (known_calls _).mono ?_); rintro e _ ⟨rfl, hb⟩; replace hL := hL.call hb; clear hb) | (go_at_call 23; (with_reducible refine (HM.out _ hL.below).mono ?_); rintro e _ ⟨vs, rfl, hb, hf⟩; replace hL := hL.callF hb hf; clear hb hf) | (go_at_call 21; (with_reducible refine (HE.out _ _ hL.fact0).mono ?_); rintro e _ ⟨ve, rfl, hb, hf⟩; obtain ⟨ea, ec, rfl, _⟩ := EdgesAt.parts hf.now; replace hL := hL.callF hb hf; clear hb hf) | ((clear hL; with_reducible intro _ _ hL)) | (with_reducible refine wpC_alloc rfl _ rfl _ _ inferInstance hL ?_) | (with_reducible first | refine wpB_agg rfl _ _ _ rfl rfl hL ?_ | refine wpB_one rfl _ _ (.int _ _) rfl rfl rfl hL ?_ | refine wpB_one rfl _ _ (.slice _ _ _) rfl rfl rfl hL ?_ | refine wpB_one rfl _ _ (.bool _) rfl rfl rfl hL ?_ | refine wpB_one rfl _ _ (.pointer _) rfl rfl rfl hL ?_ | refine wpB_one rfl _ _ (.func _ _ _) rfl rfl rfl hL ?_) | (with_reducible first | refine wpH_max rfl _ _ _ _ rfl _ _ rfl rfl ?_ | refine wpH_min rfl _ _ _ _ rfl _ _ rfl rfl ?_) | ((with_reducible refine wpA_load rfl _ _ rfl _ rfl ?_); first | refine loadA hL ?_ | refine loadR hL ?_ | refine loadC hL ?_ | refine loadD ?_ | refine loadE hL ?_ | refine loadF ?_) | ((with_reducible refine wpA_index rfl _ _ _ rfl _ rfl _ rfl ?_); first | (refine indexA ?_; try rw [Int.toNat_natCast]) | refine indexC ?_) | ((with_reducible refine wpA_store rfl _ _ _ rfl _ rfl (.agg _) rfl ?_); refine storeR hL ?_; clear hL; intro _ hL) | ((with_reducible first | refine wpA_store rfl _ _ _ rfl _ rfl (.int _ _) rfl ?_ | refine wpA_store rfl _ _ _ rfl _ rfl (.slice _ _ _) rfl ?_ | refine wpA_store rfl _ _ _ rfl _ rfl (.bool _) rfl ?_ | refine wpA_store rfl _ _ _ rfl _ rfl (.pointer _) rfl ?_ | refine wpA_store rfl _ _ _ rfl _ rfl (.func _ _ _) rfl ?_); (first | refine storeA hL ?_ | refine storeO hL ?_); (clear hL; intro _ hL)) | ((with_reducible refine wpA_lit rfl _ _ _ rfl ?_); first | refine litA1 hL ?_ | refine litA2 hL ?_ | refine litA3 hL ?_ | refine litA4 hL ?_ | refine litA6 hL ?_) | ((with_reducible refine wpA_append rfl _ _ _ rfl (.slice _ _ _) rfl ?_); intro vq hvq; simp [go_sem] at hvq; subst hvq; refine appendA hL ?_; clear hL; intro _ _ _ hL; try dsimp only at hL) | ((with_reducible refine wpA_make rfl _ _ _ rfl _ rfl rfl ?_); refine makeA hL ?_))
  go_loopw [12, 13] (fun s12 s13 wr => ∃ (i : Nat) (kk : Int), i ≤ E.length ∧ s13 = .int .i64 i ∧ s12 = .int .i64 kk ∧ ((E.take i).map (fanK c d u v)).sum = kk ∧ -(3 * (i : Int)) ≤ kk ∧ kk ≤ 3 * i ∧ Holds w wr [] [fun w => EdgesAt w (.slice ea E.length ec) E])
    (fun s12 s13 wr => E.length - (intOf s13).toNat)
  case atStart => exact ⟨0, 0, by omega, rfl, rfl, rfl, by omega, by omega, hL.swap.forget⟩
  case round =>
    clear hL
    obtain ⟨i, kk, hi, rfl, rfl, hkk, hk1, hk2, hL⟩ := hrel
    have HKK := Lib.hid hkk
    clear hkk
    by_cases hit : i < E.length
    · have hib : (i : Int) < (E.length : Int) := by omega
      have HN := Lib.hid (sum_step (fanK c d u v) hit)
      have hbd := fanK_bd c d u v (E.getD i default)
      have hst := HSt.out (E.getD i default) (by rw [show E.getD i default = E[i] by simp [hit]]; exact List.getElem_mem hit)
      obtain ⟨be, oe, rfl, _⟩ : ∃ be oe, ea = some ⟨be, oe, none⟩ ∧ True := by
        obtain ⟨a', c', he, _, _, hel⟩ := EdgesAt.parts hL.fact0
        injection he with he _ _
        subst he
        obtain ⟨b, o, e, _⟩ := hel i hit
        exact ⟨b, o, e, trivial⟩
      replace hL := (hL.dup).map (χ := fun w => w.rangeAt be (oe + i * 7) (edgeC (E.getD i default))) fun w h => by
        obtain ⟨a', c', he, _, _, h5⟩ := EdgesAt.parts h
        injection he with he _ _
        subst he
        obtain ⟨b', o', e, hr⟩ := h5 i hit
        cases e
        exact hr
      have HT : Hid (windS (fanL c d (E.getD i default)) u v = fanK c d u v (E.getD i default)) := Lib.hid rfl
      generalize E.getD i default = e at *
      generalize fanK c d u v e = t at *
      obtain ⟨x0, y0, bt, ex, ey, x1, y1⟩ := e
      unfold edgeC at hL
      dsimp only at hL hst
      subst hst
      have hwr : IntKind.i64.wrap (kk + t) = kk + t := by rw [IntKind.wrap_i64]; omega
      have hib0 : (0 : Int) ≤ (i : Int) := by omega
      go_wp2_with (first | ((clear hL; with_reducible intro _ _ hL)) | (with_reducible refine wpC_alloc rfl _ rfl _ _ inferInstance hL ?_) | (with_reducible first | refine wpB_agg rfl _ _ _ rfl rfl hL ?_ | refine wpB_one rfl _ _ (.int _ _) rfl rfl rfl hL ?_ | refine wpB_one rfl _ _ (.slice _ _ _) rfl rfl rfl hL ?_ | refine wpB_one rfl _ _ (.bool _) rfl rfl rfl hL ?_ | refine wpB_one rfl _ _ (.pointer _) rfl rfl rfl hL ?_ | refine wpB_one rfl _ _ (.func _ _ _) rfl rfl rfl hL ?_) | (with_reducible first | refine wpH_max rfl _ _ _ _ rfl _ _ rfl rfl ?_ | refine wpH_min rfl _ _ _ _ rfl _ _ rfl rfl ?_) | ((with_reducible refine wpA_load rfl _ _ rfl _ rfl ?_); first | refine loadA hL ?_ | refine loadR hL ?_ | refine loadC hL ?_ | refine loadD ?_ | refine loadE hL ?_ | refine loadF ?_) | ((with_reducible refine wpA_index rfl _ _ _ rfl _ rfl _ rfl ?_); first | (refine indexA ?_; try rw [Int.toNat_natCast]) | refine indexC ?_) | ((with_reducible refine wpA_store rfl _ _ _ rfl _ rfl (.agg _) rfl ?_); refine storeR hL ?_; clear hL; intro _ hL) | ((with_reducible first | refine wpA_store rfl _ _ _ rfl _ rfl (.int _ _) rfl ?_ | refine wpA_store rfl _ _ _ rfl _ rfl (.slice _ _ _) rfl ?_ | refine wpA_store rfl _ _ _ rfl _ rfl (.bool _) rfl ?_ | refine wpA_store rfl _ _ _ rfl _ rfl (.pointer _) rfl ?_ | refine wpA_store rfl _ _ _ rfl _ rfl (.func _ _ _) rfl ?_); (first | refine storeA hL ?_ | refine storeO hL ?_); (clear hL; intro _ hL)) | ((with_reducible refine wpA_lit rfl _ _ _ rfl ?_); first | refine litA1 hL ?_ | refine litA2 hL ?_ | refine litA3 hL ?_ | refine litA4 hL ?_ | refine litA6 hL ?_) | ((with_reducible refine wpA_append rfl _ _ _ rfl (.slice _ _ _) rfl ?_); intro vq hvq; simp [go_sem] at hvq; subst hvq; refine appendA hL ?_; clear hL; intro _ _ _ hL; try dsimp only at hL) | ((with_reducible refine wpA_make rfl _ _ _ rfl _ rfl rfl ?_); refine makeA hL ?_))
      replace hL := hL.drew
      have hS := (show (fun w' : World => w'.rangeAt be (oe + i * 7) [.int .i64 x0, .int .i64 y0, .bool false, .int .i64 ex, .int .i64 ey, .int .i64 x1, .int .i64 y1]) wr.drew from hL.fact0)
      refine wpH_begin (by kernel_rfl) (fun w' : World => w'.rangeAt be (oe + i * 7) [.int .i64 x0, .int .i64 y0, .bool false, .int .i64 ex, .int .i64 ey, .int .i64 x1, .int .i64 y1]) ?_
      refine stH (i := 0) (.int .i64 kk) hS ?_ ?_; (· exact fun w' _ => (by go_simp)); simp only [Act.put, List.setIfInBounds_toArray, List.set_cons_zero, List.set_cons_succ]
      refine stH (i := 1) (.slice (some ⟨be, oe, none⟩) E.length ec) hS ?_ ?_; (· exact fun w' _ => (by go_simp)); simp only [Act.put, List.setIfInBounds_toArray, List.set_cons_zero, List.set_cons_succ]
      refine stH (i := 2) (.int .i64 i) hS ?_ ?_; (· exact fun w' _ => (by go_simp)); simp only [Act.put, List.setIfInBounds_toArray, List.set_cons_zero, List.set_cons_succ]
      refine stH (i := 3) (.pointer (some ⟨be, oe + i * 7, none⟩)) hS ?_ ?_; (· exact fun w' _ => (by go_simp)); simp only [Act.put, List.setIfInBounds_toArray, List.set_cons_zero, List.set_cons_succ]
      refine stH (i := 4) (.agg #[.int .i64 x0, .int .i64 y0, .bool false, .int .i64 ex, .int .i64 ey, .int .i64 x1, .int .i64 y1]) hS ?_ ?_; (· exact fun w' hw => run_loadOp _ _ rfl _ rfl _ (loadAt_cells inferInstance [.int .i64 x0, .int .i64 y0, .bool false, .int .i64 ex, .int .i64 ey, .int .i64 x1, .int .i64 y1] hw rfl rfl)); simp only [Act.put, List.setIfInBounds_toArray, List.set_cons_zero, List.set_cons_succ]
      refine stH (i := 5) (.slice (some ⟨be, oe, none⟩) E.length ec) hS ?_ ?_; (· exact fun w' _ => (by go_simp)); simp only [Act.put, List.setIfInBounds_toArray, List.set_cons_zero, List.set_cons_succ]
      refine stH (i := 6) (.int .i64 i) hS ?_ ?_; (· exact fun w' _ => (by go_simp)); simp only [Act.put, List.setIfInBounds_toArray, List.set_cons_zero, List.set_cons_succ]
      refine stH (i := 7) (.pointer (some ⟨be, oe + i * 7, none⟩)) hS ?_ ?_; (· exact fun w' _ => (by go_simp)); simp only [Act.put, List.setIfInBounds_toArray, List.set_cons_zero, List.set_cons_succ]
      refine stH (i := 8) (.pointer (some ⟨be, oe + i * 7 + 5, none⟩)) hS ?_ ?_; (· exact fun w' _ => (by go_simp)); simp only [Act.put, List.setIfInBounds_toArray, List.set_cons_zero, List.set_cons_succ]
      refine stH (i := 9) (.int .i64 x1) hS ?_ ?_; (· exact fun w' hw => run_loadOp _ _ rfl _ rfl _ (load_cell (hw 5 _ rfl))); simp only [Act.put, List.setIfInBounds_toArray, List.set_cons_zero, List.set_cons_succ]
      refine stH (i := 10) (.slice (some ⟨be, oe, none⟩) E.length ec) hS ?_ ?_; (· exact fun w' _ => (by go_simp)); simp only [Act.put, List.setIfInBounds_toArray, List.set_cons_zero, List.set_cons_succ]
      refine stH (i := 11) (.int .i64 i) hS ?_ ?_; (· exact fun w' _ => (by go_simp)); simp only [Act.put, List.setIfInBounds_toArray, List.set_cons_zero, List.set_cons_succ]
      refine stH (i := 12) (.pointer (some ⟨be, oe + i * 7, none⟩)) hS ?_ ?_; (· exact fun w' _ => (by go_simp)); simp only [Act.put, List.setIfInBounds_toArray, List.set_cons_zero, List.set_cons_succ]
      refine stH (i := 13) (.pointer (some ⟨be, oe + i * 7 + 6, none⟩)) hS ?_ ?_; (· exact fun w' _ => (by go_simp)); simp only [Act.put, List.setIfInBounds_toArray, List.set_cons_zero, List.set_cons_succ]
      refine stH (i := 14) (.int .i64 y1) hS ?_ ?_; (· exact fun w' hw => run_loadOp _ _ rfl _ rfl _ (load_cell (hw 6 _ rfl))); simp only [Act.put, List.setIfInBounds_toArray, List.set_cons_zero, List.set_cons_succ]
      refine stH (i := 15) (.int .i64 cx) hS ?_ ?_; (· exact fun w' _ => (by go_simp)); simp only [Act.put, List.setIfInBounds_toArray, List.set_cons_zero, List.set_cons_succ]
      refine stH (i := 17) (.int .i64 cy) hS ?_ ?_; (· exact fun w' _ => (by go_simp)); simp only [Act.put, List.setIfInBounds_toArray, List.set_cons_zero, List.set_cons_succ]
      refine stH (i := 20) (.int .i64 cx) hS ?_ ?_; (· exact fun w' _ => (by go_simp)); simp only [Act.put, List.setIfInBounds_toArray, List.set_cons_zero, List.set_cons_succ]
      refine stH (i := 22) (.int .i64 cy) hS ?_ ?_; (· exact fun w' _ => (by go_simp)); simp only [Act.put, List.setIfInBounds_toArray, List.set_cons_zero, List.set_cons_succ]
      refine stH (i := 24) (.slice (some ⟨be, oe, none⟩) E.length ec) hS ?_ ?_; (· exact fun w' _ => (by go_simp)); simp only [Act.put, List.setIfInBounds_toArray, List.set_cons_zero, List.set_cons_succ]
      refine stH (i := 25) (.int .i64 i) hS ?_ ?_; (· exact fun w' _ => (by go_simp)); simp only [Act.put, List.setIfInBounds_toArray, List.set_cons_zero, List.set_cons_succ]
      refine stH (i := 26) (.pointer (some ⟨be, oe + i * 7, none⟩)) hS ?_ ?_; (· exact fun w' _ => (by go_simp)); simp only [Act.put, List.setIfInBounds_toArray, List.set_cons_zero, List.set_cons_succ]
      refine stH (i := 27) (.pointer (some ⟨be, oe + i * 7, none⟩)) hS ?_ ?_; (· exact fun w' _ => (by go_simp)); simp only [Act.put, List.setIfInBounds_toArray, List.set_cons_zero, List.set_cons_succ]
      refine stH (i := 28) (.int .i64 x0) hS ?_ ?_; (· exact fun w' hw => run_loadOp _ _ rfl _ rfl _ (load_cell (hw 0 _ rfl))); simp only [Act.put, List.setIfInBounds_toArray, List.set_cons_zero, List.set_cons_succ]
      refine stH (i := 29) (.slice (some ⟨be, oe, none⟩) E.length ec) hS ?_ ?_; (· exact fun w' _ => (by go_simp)); simp only [Act.put, List.setIfInBounds_toArray, List.set_cons_zero, List.set_cons_succ]
      refine stH (i := 30) (.int .i64 i) hS ?_ ?_; (· exact fun w' _ => (by go_simp)); simp only [Act.put, List.setIfInBounds_toArray, List.set_cons_zero, List.set_cons_succ]
      refine stH (i := 31) (.pointer (some ⟨be, oe + i * 7, none⟩)) hS ?_ ?_; (· exact fun w' _ => (by go_simp)); simp only [Act.put, List.setIfInBounds_toArray, List.set_cons_zero, List.set_cons_succ]
      refine stH (i := 32) (.pointer (some ⟨be, oe + i * 7 + 1, none⟩)) hS ?_ ?_; (· exact fun w' _ => (by go_simp)); simp only [Act.put, List.setIfInBounds_toArray, List.set_cons_zero, List.set_cons_succ]
      refine stH (i := 33) (.int .i64 y0) hS ?_ ?_; (· exact fun w' hw => run_loadOp _ _ rfl _ rfl _ (load_cell (hw 1 _ rfl))); simp only [Act.put, List.setIfInBounds_toArray, List.set_cons_zero, List.set_cons_succ]
      refine stH (i := 36) (.int .i64 px) hS ?_ ?_; (· exact fun w' _ => (by go_simp)); simp only [Act.put, List.setIfInBounds_toArray, List.set_cons_zero, List.set_cons_succ]
      refine stH (i := 38) (.int .i64 py) hS ?_ ?_; (· exact fun w' _ => (by go_simp)); simp only [Act.put, List.setIfInBounds_toArray, List.set_cons_zero, List.set_cons_succ]
      refine wpH_one (i := 16) (by kernel_rfl) (wpOp_of (by simp only [List.getElem?_toArray, List.getElem?_cons_zero, List.getElem?_cons_succ]; rfl) ?_)
      refine st_call rfl 18 #[.int .i64 cx] (by go_simp) (HC1.out _) ?_
      rintro e _ ⟨rfl, rfl⟩
      refine ⟨_, rfl, hS, ?_⟩
      simp only [Act.put, List.setIfInBounds_toArray, List.set_cons_zero, List.set_cons_succ]
      refine wpH_one (i := 18) (by kernel_rfl) (wpOp_of (by simp only [List.getElem?_toArray, List.getElem?_cons_zero, List.getElem?_cons_succ]; rfl) ?_)
      refine st_call rfl 18 #[.int .i64 cy] (by go_simp) (HC2.out _) ?_
      rintro e _ ⟨rfl, rfl⟩
      refine ⟨_, rfl, hS, ?_⟩
      simp only [Act.put, List.setIfInBounds_toArray, List.set_cons_zero, List.set_cons_succ]
      refine stH (i := 19) (.agg #[.int .i64 x1, .int .i64 y1, .bool false, .int .i64 0, .int .i64 0, .int .i64 c, .int .i64 d]) hS ?_ ?_; (· exact fun w' _ => (by go_simp)); simp only [Act.put, List.setIfInBounds_toArray, List.set_cons_zero, List.set_cons_succ]
      refine wpH_one (i := 21) (by kernel_rfl) (wpOp_of (by simp only [List.getElem?_toArray, List.getElem?_cons_zero, List.getElem?_cons_succ]; rfl) ?_)
      refine st_call rfl 18 #[.int .i64 cx] (by go_simp) (HC1.out _) ?_
      rintro e _ ⟨rfl, rfl⟩
      refine ⟨_, rfl, hS, ?_⟩
      simp only [Act.put, List.setIfInBounds_toArray, List.set_cons_zero, List.set_cons_succ]
      refine wpH_one (i := 23) (by kernel_rfl) (wpOp_of (by simp only [List.getElem?_toArray, List.getElem?_cons_zero, List.getElem?_cons_succ]; rfl) ?_)
      refine st_call rfl 18 #[.int .i64 cy] (by go_simp) (HC2.out _) ?_
      rintro e _ ⟨rfl, rfl⟩
      refine ⟨_, rfl, hS, ?_⟩
      simp only [Act.put, List.setIfInBounds_toArray, List.set_cons_zero, List.set_cons_succ]
      refine stH (i := 34) (.agg #[.int .i64 c, .int .i64 d, .bool false, .int .i64 0, .int .i64 0, .int .i64 x0, .int .i64 y0]) hS ?_ ?_; (· exact fun w' _ => (by go_simp)); simp only [Act.put, List.setIfInBounds_toArray, List.set_cons_zero, List.set_cons_succ]
      refine wpH_two (i := 35) (j := 37) (by kernel_rfl) (wpOp_of (by simp only [List.getElem?_toArray, List.getElem?_cons_zero, List.getElem?_cons_succ]; rfl) ?_) (wpOp_of (by simp only [List.getElem?_toArray, List.getElem?_cons_zero, List.getElem?_cons_succ]; rfl) ?_)
      · refine st_lit rfl _ _ _ rfl (litA3 hL ?_)
        clear hL hS
        intro bq wq hL
        have hS := (show (fun w' : World => w'.rangeAt be (oe + i * 7) [.int .i64 x0, .int .i64 y0, .bool false, .int .i64 ex, .int .i64 ey, .int .i64 x1, .int .i64 y1]) wq from hL.fact0)
        refine ⟨hS, ?_⟩
        simp only [Act.put, List.setIfInBounds_toArray, List.set_cons_zero, List.set_cons_succ]
        refine wpH_one (i := 37) (by kernel_rfl) (wpOp_of (by simp only [List.getElem?_toArray, List.getElem?_cons_zero, List.getElem?_cons_succ]; rfl) ?_)
        refine st_call rfl 18 #[.int .i64 px] (by go_simp) (HU.out _) ?_
        rintro e _ ⟨rfl, rfl⟩
        refine ⟨_, rfl, hS, ?_⟩
        simp only [Act.put, List.setIfInBounds_toArray, List.set_cons_zero, List.set_cons_succ]
        refine wpH_one (i := 39) (by kernel_rfl) (wpOp_of (by simp only [List.getElem?_toArray, List.getElem?_cons_zero, List.getElem?_cons_succ]; rfl) ?_)
        refine st_call rfl 18 #[.int .i64 py] (by go_simp) (HV.out _) ?_
        rintro e _ ⟨rfl, rfl⟩
        refine ⟨_, rfl, hS, ?_⟩
        simp only [Act.put, List.setIfInBounds_toArray, List.set_cons_zero, List.set_cons_succ]
        refine wpH_one (i := 40) (by kernel_rfl) (wpOp_of (by simp only [List.getElem?_toArray, List.getElem?_cons_zero, List.getElem?_cons_succ]; rfl) ?_)
        refine st_call rfl 14 #[.slice (some ⟨bq, 0, none⟩) 3 3, .int .i64 u, .int .i64 v] (by go_simp) (windAt_calls _ _ (fanL c d ⟨x0, y0, false, ex, ey, x1, y1⟩) (hL.edgesLit (fanL c d ⟨x0, y0, false, ex, ey, x1, y1⟩) .here rfl (by unfold fanL maxLen; simp)) (fanL_straight c d rfl) u v) ?_
        rintro e w' ⟨rfl, hb⟩
        replace hL := hL.call hb
        clear hb hS
        have hS := (show (fun w' : World => w'.rangeAt be (oe + i * 7) [.int .i64 x0, .int .i64 y0, .bool false, .int .i64 ex, .int .i64 ey, .int .i64 x1, .int .i64 y1]) w' from hL.fact0)
        rw [HT.out]
        refine ⟨_, rfl, hS, ?_⟩
        simp only [Act.put, List.setIfInBounds_toArray, List.set_cons_zero, List.set_cons_succ]
        refine stH (i := 41) (.int .i64 (kk + t)) hS ?_ ?_; (· exact fun w' _ => (by go_simp)); simp only [Act.put, List.setIfInBounds_toArray, List.set_cons_zero, List.set_cons_succ]
        refine stH (i := 42) (.int .i64 (kk + t)) hS ?_ ?_; (· exact fun w' _ => (by go_simp)); simp only [Act.put, List.setIfInBounds_toArray, List.set_cons_zero, List.set_cons_succ]
        refine wpAnyH_done (by kernel_rfl) ?_ _
        clear hS
        go_wp2
        go_roundw
        case rel => exact ⟨i + 1, kk + t, by omega, by go_num, rfl, by rw [HN.out, HKK.out], by omega, by omega, (hL.drop .here).forget⟩
        case measure => simp [intOf]; omega
      · refine st_call rfl 18 #[.int .i64 px] (by go_simp) (HU.out _) ?_
        rintro e _ ⟨rfl, rfl⟩
        refine ⟨_, rfl, hS, ?_⟩
        simp only [Act.put, List.setIfInBounds_toArray, List.set_cons_zero, List.set_cons_succ]
        refine wpH_two (i := 35) (j := 39) (by kernel_rfl) (wpOp_of (by simp only [List.getElem?_toArray, List.getElem?_cons_zero, List.getElem?_cons_succ]; rfl) ?_) (wpOp_of (by simp only [List.getElem?_toArray, List.getElem?_cons_zero, List.getElem?_cons_succ]; rfl) ?_)
        · refine st_lit rfl _ _ _ rfl (litA3 hL ?_)
          clear hL hS
          intro bq wq hL
          have hS := (show (fun w' : World => w'.rangeAt be (oe + i * 7) [.int .i64 x0, .int .i64 y0, .bool false, .int .i64 ex, .int .i64 ey, .int .i64 x1, .int .i64 y1]) wq from hL.fact0)
          refine ⟨hS, ?_⟩
          simp only [Act.put, List.setIfInBounds_toArray, List.set_cons_zero, List.set_cons_succ]
          refine wpH_one (i := 39) (by kernel_rfl) (wpOp_of (by simp only [List.getElem?_toArray, List.getElem?_cons_zero, List.getElem?_cons_succ]; rfl) ?_)
          refine st_call rfl 18 #[.int .i64 py] (by go_simp) (HV.out _) ?_
          rintro e _ ⟨rfl, rfl⟩
          refine ⟨_, rfl, hS, ?_⟩
          simp only [Act.put, List.setIfInBounds_toArray, List.set_cons_zero, List.set_cons_succ]
          refine wpH_one (i := 40) (by kernel_rfl) (wpOp_of (by simp only [List.getElem?_toArray, List.getElem?_cons_zero, List.getElem?_cons_succ]; rfl) ?_)
          refine st_call rfl 14 #[.slice (some ⟨bq, 0, none⟩) 3 3, .int .i64 u, .int .i64 v] (by go_simp) (windAt_calls _ _ (fanL c d ⟨x0, y0, false, ex, ey, x1, y1⟩) (hL.edgesLit (fanL c d ⟨x0, y0, false, ex, ey, x1, y1⟩) .here rfl (by unfold fanL maxLen; simp)) (fanL_straight c d rfl) u v) ?_
          rintro e w' ⟨rfl, hb⟩
          replace hL := hL.call hb
          clear hb hS
          have hS := (show (fun w' : World => w'.rangeAt be (oe + i * 7) [.int .i64 x0, .int .i64 y0, .bool false, .int .i64 ex, .int .i64 ey, .int .i64 x1, .int .i64 y1]) w' from hL.fact0)
          rw [HT.out]
          refine ⟨_, rfl, hS, ?_⟩
          simp only [Act.put, List.setIfInBounds_toArray, List.set_cons_zero, List.set_cons_succ]
          refine stH (i := 41) (.int .i64 (kk + t)) hS ?_ ?_; (· exact fun w' _ => (by go_simp)); simp only [Act.put, List.setIfInBounds_toArray, List.set_cons_zero, List.set_cons_succ]
          refine stH (i := 42) (.int .i64 (kk + t)) hS ?_ ?_; (· exact fun w' _ => (by go_simp)); simp only [Act.put, List.setIfInBounds_toArray, List.set_cons_zero, List.set_cons_succ]
          refine wpAnyH_done (by kernel_rfl) ?_ _
          clear hS
          go_wp2
          go_roundw
          case rel => exact ⟨i + 1, kk + t, by omega, by go_num, rfl, by rw [HN.out, HKK.out], by omega, by omega, (hL.drop .here).forget⟩
          case measure => simp [intOf]; omega
        · refine st_call rfl 18 #[.int .i64 py] (by go_simp) (HV.out _) ?_
          rintro e _ ⟨rfl, rfl⟩
          refine ⟨_, rfl, hS, ?_⟩
          simp only [Act.put, List.setIfInBounds_toArray, List.set_cons_zero, List.set_cons_succ]
          refine wpH_one (i := 35) (by kernel_rfl) (wpOp_of (by simp only [List.getElem?_toArray, List.getElem?_cons_zero, List.getElem?_cons_succ]; rfl) ?_)
          refine st_lit rfl _ _ _ rfl (litA3 hL ?_)
          clear hL hS
          intro bq wq hL
          have hS := (show (fun w' : World => w'.rangeAt be (oe + i * 7) [.int .i64 x0, .int .i64 y0, .bool false, .int .i64 ex, .int .i64 ey, .int .i64 x1, .int .i64 y1]) wq from hL.fact0)
          refine ⟨hS, ?_⟩
          simp only [Act.put, List.setIfInBounds_toArray, List.set_cons_zero, List.set_cons_succ]
          refine wpH_one (i := 40) (by kernel_rfl) (wpOp_of (by simp only [List.getElem?_toArray, List.getElem?_cons_zero, List.getElem?_cons_succ]; rfl) ?_)
          refine st_call rfl 14 #[.slice (some ⟨bq, 0, none⟩) 3 3, .int .i64 u, .int .i64 v] (by go_simp) (windAt_calls _ _ (fanL c d ⟨x0, y0, false, ex, ey, x1, y1⟩) (hL.edgesLit (fanL c d ⟨x0, y0, false, ex, ey, x1, y1⟩) .here rfl (by unfold fanL maxLen; simp)) (fanL_straight c d rfl) u v) ?_
          rintro e w' ⟨rfl, hb⟩
          replace hL := hL.call hb
          clear hb hS
          have hS := (show (fun w' : World => w'.rangeAt be (oe + i * 7) [.int .i64 x0, .int .i64 y0, .bool false, .int .i64 ex, .int .i64 ey, .int .i64 x1, .int .i64 y1]) w' from hL.fact0)
          rw [HT.out]
          refine ⟨_, rfl, hS, ?_⟩
          simp only [Act.put, List.setIfInBounds_toArray, List.set_cons_zero, List.set_cons_succ]
          refine stH (i := 41) (.int .i64 (kk + t)) hS ?_ ?_; (· exact fun w' _ => (by go_simp)); simp only [Act.put, List.setIfInBounds_toArray, List.set_cons_zero, List.set_cons_succ]
          refine stH (i := 42) (.int .i64 (kk + t)) hS ?_ ?_; (· exact fun w' _ => (by go_simp)); simp only [Act.put, List.setIfInBounds_toArray, List.set_cons_zero, List.set_cons_succ]
          refine wpAnyH_done (by kernel_rfl) ?_ _
          clear hS
          go_wp2
          go_roundw
          case rel => exact ⟨i + 1, kk + t, by omega, by go_num, rfl, by rw [HN.out, HKK.out], by omega, by omega, (hL.drop .here).forget⟩
          case measure => simp [intOf]; omega
    · have e : i = E.length := by omega
      subst e
      have hk : kk = windS E u v := by rw [← HKK.out, ← HF.out, List.take_length]
      have HK := Lib.hid hk
      clear hk
      go_wp2_with (first | (go_at_call 18; (first | ((with_reducible refine (HU.out _).mono ?_); rintro e _ ⟨rfl, rfl⟩) | ((with_reducible refine (HV.out _).mono ?_); rintro e _ ⟨rfl, rfl⟩))) | (go_at_call 14; (with_reducible refine (HA.out _ _ hL.fact0).mono ?_); rintro e _ ⟨rfl, hb⟩; replace hL := hL.call hb; clear hb) | ((clear hL; with_reducible intro _ _ hL)) | (with_reducible refine wpC_alloc rfl _ rfl _ _ inferInstance hL ?_) | (with_reducible first | refine wpB_agg rfl _ _ _ rfl rfl hL ?_ | refine wpB_one rfl _ _ (.int _ _) rfl rfl rfl hL ?_ | refine wpB_one rfl _ _ (.slice _ _ _) rfl rfl rfl hL ?_ | refine wpB_one rfl _ _ (.bool _) rfl rfl rfl hL ?_ | refine wpB_one rfl _ _ (.pointer _) rfl rfl rfl hL ?_ | refine wpB_one rfl _ _ (.func _ _ _) rfl rfl rfl hL ?_) | (with_reducible first | refine wpH_max rfl _ _ _ _ rfl _ _ rfl rfl ?_ | refine wpH_min rfl _ _ _ _ rfl _ _ rfl rfl ?_) | ((with_reducible refine wpA_load rfl _ _ rfl _ rfl ?_); first | refine loadA hL ?_ | refine loadR hL ?_ | refine loadC hL ?_ | refine loadD ?_ | refine loadE hL ?_ | refine loadF ?_) | ((with_reducible refine wpA_index rfl _ _ _ rfl _ rfl _ rfl ?_); first | (refine indexA ?_; try rw [Int.toNat_natCast]) | refine indexC ?_) | ((with_reducible refine wpA_store rfl _ _ _ rfl _ rfl (.agg _) rfl ?_); refine storeR hL ?_; clear hL; intro _ hL) | ((with_reducible first | refine wpA_store rfl _ _ _ rfl _ rfl (.int _ _) rfl ?_ | refine wpA_store rfl _ _ _ rfl _ rfl (.slice _ _ _) rfl ?_ | refine wpA_store rfl _ _ _ rfl _ rfl (.bool _) rfl ?_ | refine wpA_store rfl _ _ _ rfl _ rfl (.pointer _) rfl ?_ | refine wpA_store rfl _ _ _ rfl _ rfl (.func _ _ _) rfl ?_); (first | refine storeA hL ?_ | refine storeO hL ?_); (clear hL; intro _ hL)) | ((with_reducible refine wpA_lit rfl _ _ _ rfl ?_); first | refine litA1 hL ?_ | refine litA2 hL ?_ | refine litA3 hL ?_ | refine litA4 hL ?_ | refine litA6 hL ?_) | ((with_reducible refine wpA_append rfl _ _ _ rfl (.slice _ _ _) rfl ?_); intro vq hvq; simp [go_sem] at hvq; subst hvq; refine appendA hL ?_; clear hL; intro _ _ _ hL; try dsimp only at hL) | ((with_reducible refine wpA_make rfl _ _ _ rfl _ rfl rfl ?_); refine makeA hL ?_))
      go_ret
      exact ⟨ret_bool (by rw [HK.out]; simp), hL.below⟩
end Go.Proofs.Ytmoabhfpibkcnaa
