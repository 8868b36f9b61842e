/- Package hem: Region. -/
import Derived.Test.YtfnolaoohmecbaaHmG
-- lit6
namespace Go.Proofs.Ytfnolaoohmecbaa
open Go.RowKit

/-- a stroke's region -/
def strokeReg (l : List Sg) (s : Sty) (W H : Nat) : Reg := ⟨W, H, (List.range H).map fun (j : Nat) => runsTo (fun i => covL (allS l s) (16 * (i : Int) + 8) (16 * (j : Int) + 8)) W⟩
theorem wrapSm {a : Int} (h1 : -9223372036854775808 ≤ a) (h2 : a ≤ 9223372036854775807) : IntKind.i64.wrap a = a := by rw [IntKind.wrap_i64]; omega
set_option maxRecDepth 100000 in
set_option maxHeartbeats 4000000 in
theorem hemRegion_ok {W H : Nat} (hw0 : 0 < W) (hw1 : W ≤ 64) (hh0 : 0 < H) (hh1 : H ≤ 64) (w : World) (v : Value) (l : List Sg) (hv : SegsAt w v l) (s : Sty) (hst : straightS l = true) (hmy : mayY s = true) :
    Calls Try.prog 17 #[v, .agg #[.int .i64 s.wide, .int .i64 s.cap, .int .i64 s.join], .int .i64 W, .int .i64 H] w (RegOut (strokeReg l s W H) 0 w) := by
  have Hv := Lib.hid hv
  obtain ⟨a, cap, rfl, _⟩ := hv.parts
  clear hv
  have hpm : pathMay l = true := by unfold straightS at hst; simp at hst; exact hst.1
  have hgood := allS_good (s := s) hpm hmy
  have hlen := allS_len l s
  have HM := Lib.hid (fun w' (hb : Below w.heap.size w w') => hemMay_calls w' (.slice a l.length cap) l (SliceAt.below Hv.out hb) s)
  rw [hst, hmy] at HM
  have HA := Lib.hid (fun w' (hb : Below w.heap.size w w') => hemAll_calls w' (.slice a l.length cap) l (SliceAt.below Hv.out hb) s hmy)
  have HR := Lib.hid (show strokeReg l s W H = ⟨W, H, (List.range H).map fun (j : Nat) => runsTo (fun i => covL (allS l s) (16 * (i : Int) + 8) (16 * (j : Int) + 8)) W⟩ from rfl)
  generalize allS l s = E at *
  have HI := Lib.hid (show ∀ w' ve (j : Nat), j < H → ShpsAt w' ve E → Calls Try.prog 46 #[ve, .int .i64 (16 * (j : Int) + 8), .int .i64 W] w' (RunsOut ((fun (j : Nat) => runsTo (fun i => covL E (16 * (i : Int) + 8) (16 * (j : Int) + 8)) W) j) w') from
    fun w' ve j hj hv => by
      have := hemRow_calls w' ve E hv (by omega) hgood (16 * (j : Int) + 8) W (by omega) (by omega)
      rwa [Int.toNat_natCast] at this)
  generalize (fun (j : Nat) => runsTo (fun i => covL E (16 * (i : Int) + 8) (16 * (j : Int) + 8)) W) = row at *
  clear hlen hgood hpm hst hmy
  have hL := Holds.start w
  have n1 : True := trivial; have n2 : True := trivial; have n3 : True := trivial; have n4 : True := trivial
  go_enter Try.func17, Try.ntmps17
  go_wp2_with (first | (go_at_call 45; (with_reducible refine (HM.out _ hL.below).mono ?_); rintro e _ ⟨rfl, hb⟩; replace hL := hL.call hb; clear hb) | (go_at_call 47; (with_reducible refine (HA.out _ hL.below).mono ?_); rintro e _ ⟨ve, rfl, hb, hf⟩; obtain ⟨ea, ec, rfl, _⟩ := ShpsAt.parts hf.now; replace hL := hL.callF hb hf; clear hb hf) | (first | (clear hL n1; with_reducible intro b1 w1 hL) | (clear hL n2; with_reducible intro b2 w2 hL) | (clear hL n3; with_reducible intro b3 w3 hL) | (clear hL n4; with_reducible intro b4 w4 hL) | (clear hL; with_reducible intro _ _ hL)) | (with_reducible refine wpC_alloc rfl _ rfl _ _ inferInstance hL ?_) | (with_reducible first | refine wpB_agg rfl _ _ _ rfl rfl hL ?_ | refine wpB_one rfl _ _ (.int _ _) rfl rfl rfl hL ?_ | refine wpB_one rfl _ _ (.slice _ _ _) rfl rfl rfl hL ?_ | refine wpB_one rfl _ _ (.bool _) rfl rfl rfl hL ?_ | refine wpB_one rfl _ _ (.pointer _) rfl rfl rfl hL ?_ | refine wpB_one rfl _ _ (.func _ _ _) rfl rfl rfl hL ?_) | (with_reducible first | refine wpH_max rfl _ _ _ _ rfl _ _ rfl rfl ?_ | refine wpH_min rfl _ _ _ _ rfl _ _ rfl rfl ?_) | ((with_reducible refine wpA_load rfl _ _ rfl _ rfl ?_); first | refine loadA hL ?_ | refine loadR hL ?_ | refine loadC hL ?_ | refine loadD ?_ | refine loadE hL ?_ | refine loadF ?_) | ((with_reducible refine wpA_index rfl _ _ _ rfl _ rfl _ rfl ?_); first | (refine indexA ?_; try rw [Int.toNat_natCast]) | refine indexC ?_) | ((with_reducible refine wpA_store rfl _ _ _ rfl _ rfl (.agg _) rfl ?_); refine storeR hL ?_; clear hL; intro _ hL) | ((with_reducible first | refine wpA_store rfl _ _ _ rfl _ rfl (.int _ _) rfl ?_ | refine wpA_store rfl _ _ _ rfl _ rfl (.slice _ _ _) rfl ?_ | refine wpA_store rfl _ _ _ rfl _ rfl (.bool _) rfl ?_ | refine wpA_store rfl _ _ _ rfl _ rfl (.pointer _) rfl ?_ | refine wpA_store rfl _ _ _ rfl _ rfl (.func _ _ _) rfl ?_); (first | refine storeA hL ?_ | refine storeO hL ?_); (clear hL; intro _ hL)) | ((with_reducible refine wpA_lit rfl _ _ _ rfl ?_); first | refine litA1 hL ?_ | refine litA2 hL ?_ | refine litA3 hL ?_ | refine litA4 hL ?_ | refine litA6 hL ?_) | ((with_reducible refine wpA_append rfl _ _ _ rfl (.slice _ _ _) rfl ?_); intro vq hvq; simp [go_sem] at hvq; subst hvq; refine appendA hL ?_; clear hL; intro _ _ _ hL; try dsimp only at hL) | ((with_reducible refine wpA_make rfl _ _ _ rfl _ rfl rfl ?_); refine makeA hL ?_))
  go_loopw [45] (fun s45 wr => ∃ (j : Nat) (cs : Array Value), j ≤ H ∧ s45 = .int .i64 j ∧ cs.size = H ∧
      Holds w wr [blk b4 #[.int .i64 W, .int .i64 H, .slice (some ⟨b3, 0, none⟩) H H] 37, blk b3 cs 29, blk b2 #[.int .i64 0, .int .i64 0, .slice none 0 0] 37, blk b1 #[.int .i64 s.wide, .int .i64 s.cap, .int .i64 s.join] 24]
        [fun w => ∀ i, i < j → ∃ v, cs[i]? = some v ∧ RunsAt w v (row i), fun w => ShpsAt w (.slice ea E.length ec) E])
    (fun s45 wr => (H - intOf s45).toNat)
  case atStart => exact ⟨0, _, by omega, rfl, by simp, hL.triv (fun _ i hi => by omega)⟩
  case round =>
    clear hL
    obtain ⟨j, cs, hj, rfl, hcs, hL⟩ := hrel
    have Hcs := Lib.hid hcs; clear hcs
    by_cases hlt : j < H
    · have hj2 : (j : Int) < (H : Int) := by omega
      have hw16 : IntKind.i64.wrap (16 * (j : Int)) = 16 * (j : Int) := wrapSm (by omega) (by omega)
      have hw8 : IntKind.i64.wrap (16 * (j : Int) + 8) = 16 * (j : Int) + 8 := wrapSm (by omega) (by omega)
      go_wp2_with (first | (first | (clear hL n1; with_reducible intro b1 w1 hL) | (clear hL n2; with_reducible intro b2 w2 hL) | (clear hL n3; with_reducible intro b3 w3 hL) | (clear hL n4; with_reducible intro b4 w4 hL) | (clear hL; with_reducible intro _ _ hL)) | (with_reducible refine wpC_alloc rfl _ rfl _ _ inferInstance hL ?_) | (with_reducible first | refine wpB_agg rfl _ _ _ rfl rfl hL ?_ | refine wpB_one rfl _ _ (.int _ _) rfl rfl rfl hL ?_ | refine wpB_one rfl _ _ (.slice _ _ _) rfl rfl rfl hL ?_ | refine wpB_one rfl _ _ (.bool _) rfl rfl rfl hL ?_ | refine wpB_one rfl _ _ (.pointer _) rfl rfl rfl hL ?_ | refine wpB_one rfl _ _ (.func _ _ _) rfl rfl rfl hL ?_) | (with_reducible first | refine wpH_max rfl _ _ _ _ rfl _ _ rfl rfl ?_ | refine wpH_min rfl _ _ _ _ rfl _ _ rfl rfl ?_) | ((with_reducible refine wpA_load rfl _ _ rfl _ rfl ?_); first | refine loadA hL ?_ | refine loadR hL ?_ | refine loadC hL ?_ | refine loadD ?_ | refine loadE hL ?_ | refine loadF ?_) | ((with_reducible refine wpA_index rfl _ _ _ rfl _ rfl _ rfl ?_); first | (refine indexA ?_; try rw [Int.toNat_natCast]) | refine indexC ?_) | ((with_reducible refine wpA_store rfl _ _ _ rfl _ rfl (.agg _) rfl ?_); refine storeR hL ?_; clear hL; intro _ hL) | ((with_reducible first | refine wpA_store rfl _ _ _ rfl _ rfl (.int _ _) rfl ?_ | refine wpA_store rfl _ _ _ rfl _ rfl (.slice _ _ _) rfl ?_ | refine wpA_store rfl _ _ _ rfl _ rfl (.bool _) rfl ?_ | refine wpA_store rfl _ _ _ rfl _ rfl (.pointer _) rfl ?_ | refine wpA_store rfl _ _ _ rfl _ rfl (.func _ _ _) rfl ?_); (first | refine storeA hL ?_ | refine storeO hL ?_); (clear hL; intro _ hL)) | ((with_reducible refine wpA_lit rfl _ _ _ rfl ?_); first | refine litA1 hL ?_ | refine litA2 hL ?_ | refine litA3 hL ?_ | refine litA4 hL ?_ | refine litA6 hL ?_) | ((with_reducible refine wpA_append rfl _ _ _ rfl (.slice _ _ _) rfl ?_); intro vq hvq; simp [go_sem] at hvq; subst hvq; refine appendA hL ?_; clear hL; intro _ _ _ hL; try dsimp only at hL) | ((with_reducible refine wpA_make rfl _ _ _ rfl _ rfl rfl ?_); refine makeA hL ?_))
      replace hL := hL.drew
      have hS : (fun w' : World => w'.cell? ⟨b4, 2, none⟩ = some (.slice (some ⟨b3, 0, none⟩) H H)) _ := (hL.cell (o := 2) .here).trans rfl
      refine wpM_begin (by kernel_rfl) (fun w' : World => w'.cell? ⟨b4, 2, none⟩ = some (.slice (some ⟨b3, 0, none⟩) H H)) 10 ?_
      refine stM (i := 0) (.pointer (some ⟨b4, 2, none⟩)) hS ?_ ?_; (· exact fun w' _ => (by go_simp)); simp only [Act.put, List.setIfInBounds_toArray, List.set_cons_zero, List.set_cons_succ]
      refine stM (i := 1) (.slice (some ⟨b3, 0, none⟩) H H) hS ?_ ?_; (· exact fun w' hw => run_loadOp _ _ rfl _ rfl _ (load_cell hw)); simp only [Act.put, List.setIfInBounds_toArray, List.set_cons_zero, List.set_cons_succ]
      refine stM (i := 2) (.int .i64 j) hS ?_ ?_; (· exact fun w' _ => (by go_simp)); simp only [Act.put, List.setIfInBounds_toArray, List.set_cons_zero, List.set_cons_succ]
      refine stM (i := 3) (.slice ea E.length ec) hS ?_ ?_; (· exact fun w' _ => (by go_simp)); simp only [Act.put, List.setIfInBounds_toArray, List.set_cons_zero, List.set_cons_succ]
      refine stM (i := 4) (.int .i64 j) hS ?_ ?_; (· exact fun w' _ => (by go_simp)); simp only [Act.put, List.setIfInBounds_toArray, List.set_cons_zero, List.set_cons_succ]
      refine stM (i := 5) (.int .i64 (16 * (j : Int))) hS ?_ ?_; (· exact fun w' _ => (by go_simp)); simp only [Act.put, List.setIfInBounds_toArray, List.set_cons_zero, List.set_cons_succ]
      refine stM (i := 6) (.int .i64 (16 * (j : Int) + 8)) hS ?_ ?_; (· exact fun w' _ => (by go_simp)); simp only [Act.put, List.setIfInBounds_toArray, List.set_cons_zero, List.set_cons_succ]
      refine stM (i := 7) (.int .i64 W) hS ?_ ?_; (· exact fun w' _ => (by go_simp)); simp only [Act.put, List.setIfInBounds_toArray, List.set_cons_zero, List.set_cons_succ]
      refine wpM_one (i := 8) (by kernel_rfl) (wpOp_of (by simp only [List.getElem?_toArray, List.getElem?_cons_zero, List.getElem?_cons_succ]; rfl) ?_)
      refine st_call rfl 46 #[.slice ea E.length ec, .int .i64 (16 * (j : Int) + 8), .int .i64 W] (by go_simp) (HI.out _ _ j hlt hL.fact1) ?_
      rintro e w3 ⟨v3, rfl, hb, hf⟩
      obtain ⟨sa, sn, sc, rfl⟩ := SliceAt.shape hf.now
      replace hL := hL.callF hb hf
      clear hb hf hS
      have hS : (fun w' : World => w'.cell? ⟨b4, 2, none⟩ = some (.slice (some ⟨b3, 0, none⟩) H H)) w3 := (hL.cell (o := 2) .here).trans rfl
      refine ⟨_, rfl, fun _ => hS, ?_⟩
      simp only [Act.put, List.setIfInBounds_toArray, List.set_cons_zero, List.set_cons_succ]
      refine stM (i := 9) (.pointer (some ⟨b3, j, none⟩)) hS ?_ ?_; (· exact fun w' _ => (by go_simp)); simp only [Act.put, List.setIfInBounds_toArray, List.set_cons_zero, List.set_cons_succ]
      refine wpM_one (i := 10) (by kernel_rfl) (wpOp_of (by simp only [List.getElem?_toArray, List.getElem?_cons_zero, List.getElem?_cons_succ]; rfl) ?_)
      refine st_store rfl _ _ _ rfl ⟨b3, j, none⟩ rfl (.slice sa sn sc) rfl (storeA hL (cs' := cs.setIfInBounds j (.slice sa sn sc)) (hu := .there .here) (hoff := by rw [Hcs.out]; exact hlt) (hcs := rfl) ?_)
      clear hL hS
      intro w8 hL
      refine ⟨fun h => absurd rfl h, wpM_done (by kernel_rfl) ?_⟩
      simp only [Act.put]
      go_wp2
      go_roundw
      case rel =>
        refine ⟨j + 1, cs.setIfInBounds j (.slice sa sn sc), by omega, by go_num, by rw [Array.size_setIfInBounds]; exact Hcs.out, hL.join fun w' h1 h2 i hi => ?_⟩
        by_cases hij : i = j
        · subst hij
          exact ⟨_, by rw [Array.getElem?_setIfInBounds, if_pos rfl, if_pos (by rw [Hcs.out]; exact hlt)], h1⟩
        · obtain ⟨v', e1, e2⟩ := h2 i (by omega)
          exact ⟨v', by rw [Array.getElem?_setIfInBounds, if_neg (fun e => hij e.symm)]; exact e1, e2⟩
      case measure => simp [intOf]; omega
    · have e : j = H := by omega
      subst e
      go_wp2_with (first | (first | (clear hL n1; with_reducible intro b1 w1 hL) | (clear hL n2; with_reducible intro b2 w2 hL) | (clear hL n3; with_reducible intro b3 w3 hL) | (clear hL n4; with_reducible intro b4 w4 hL) | (clear hL; with_reducible intro _ _ hL)) | (with_reducible refine wpC_alloc rfl _ rfl _ _ inferInstance hL ?_) | (with_reducible first | refine wpB_agg rfl _ _ _ rfl rfl hL ?_ | refine wpB_one rfl _ _ (.int _ _) rfl rfl rfl hL ?_ | refine wpB_one rfl _ _ (.slice _ _ _) rfl rfl rfl hL ?_ | refine wpB_one rfl _ _ (.bool _) rfl rfl rfl hL ?_ | refine wpB_one rfl _ _ (.pointer _) rfl rfl rfl hL ?_ | refine wpB_one rfl _ _ (.func _ _ _) rfl rfl rfl hL ?_) | (with_reducible first | refine wpH_max rfl _ _ _ _ rfl _ _ rfl rfl ?_ | refine wpH_min rfl _ _ _ _ rfl _ _ rfl rfl ?_) | ((with_reducible refine wpA_load rfl _ _ rfl _ rfl ?_); first | refine loadA hL ?_ | refine loadR hL ?_ | refine loadC hL ?_ | refine loadD ?_ | refine loadE hL ?_ | refine loadF ?_) | ((with_reducible refine wpA_index rfl _ _ _ rfl _ rfl _ rfl ?_); first | (refine indexA ?_; try rw [Int.toNat_natCast]) | refine indexC ?_) | ((with_reducible refine wpA_store rfl _ _ _ rfl _ rfl (.agg _) rfl ?_); refine storeR hL ?_; clear hL; intro _ hL) | ((with_reducible first | refine wpA_store rfl _ _ _ rfl _ rfl (.int _ _) rfl ?_ | refine wpA_store rfl _ _ _ rfl _ rfl (.slice _ _ _) rfl ?_ | refine wpA_store rfl _ _ _ rfl _ rfl (.bool _) rfl ?_ | refine wpA_store rfl _ _ _ rfl _ rfl (.pointer _) rfl ?_ | refine wpA_store rfl _ _ _ rfl _ rfl (.func _ _ _) rfl ?_); (first | refine storeA hL ?_ | refine storeO hL ?_); (clear hL; intro _ hL)) | ((with_reducible refine wpA_lit rfl _ _ _ rfl ?_); first | refine litA1 hL ?_ | refine litA2 hL ?_ | refine litA3 hL ?_ | refine litA4 hL ?_ | refine litA6 hL ?_) | ((with_reducible refine wpA_append rfl _ _ _ rfl (.slice _ _ _) rfl ?_); intro vq hvq; simp [go_sem] at hvq; subst hvq; refine appendA hL ?_; clear hL; intro _ _ _ hL; try dsimp only at hL) | ((with_reducible refine wpA_make rfl _ _ _ rfl _ rfl rfl ?_); refine makeA hL ?_))
      refine bodyPost_ret (results_row2 inferInstance rfl _ hL b2 rfl _ _ (.there (.there .here)) rfl) rfl ⟨_, rfl, hL.below, ?_⟩
      rw [HR.out]
      refine ((hL.settle (.there .here) (φ := fun w => w.heap[b3]? = some (.cells cs 29 (0, 0))) fun _ h => h).join fun w' h1 h2 => ?_).fresh
      exact ⟨_, rfl, by simpa using rows_of h1 Hcs.out (by unfold maxLen; omega) h2⟩
set_option maxRecDepth 100000 in
set_option maxHeartbeats 4000000 in
theorem hemRegion_no (w : World) (v : Value) (l : List Sg) (hv : SegsAt w v l) (s : Sty) (Wi Hi : Int) (h : ¬ ((straightS l && mayY s) = true ∧ (1 ≤ Wi ∧ Wi ≤ 64) ∧ (1 ≤ Hi ∧ Hi ≤ 64))) :
    Calls Try.prog 17 #[v, .agg #[.int .i64 s.wide, .int .i64 s.cap, .int .i64 s.join], .int .i64 Wi, .int .i64 Hi] w (RegOut noReg 1 w) := by
  have Hv := Lib.hid hv
  obtain ⟨a, cap, rfl, _⟩ := hv.parts
  clear hv
  have HM := Lib.hid (fun w' (hb : Below w.heap.size w w') => hemMay_calls w' (.slice a l.length cap) l (SliceAt.below Hv.out hb) s)
  have hL := Holds.start w
  generalize (straightS l && mayY s) = ok at *
  have hcase : ok = false ∨ (ok = true ∧ Wi < 1) ∨ (ok = true ∧ ¬ Wi < 1 ∧ 64 < Wi) ∨ (ok = true ∧ ¬ Wi < 1 ∧ ¬ 64 < Wi ∧ Hi < 1) ∨ (ok = true ∧ ¬ Wi < 1 ∧ ¬ 64 < Wi ∧ ¬ Hi < 1 ∧ 64 < Hi) := by
    cases ok with
    | false => exact .inl rfl
    | true => refine .inr ?_; simp only [true_and] at h ⊢; omega
  clear h
  rcases hcase with rfl | ⟨rfl, g⟩ | ⟨rfl, g, g1⟩ | ⟨rfl, g, g1, g2⟩ | ⟨rfl, g, g1, g2, g3⟩
  all_goals
    have n1 : True := trivial; have n2 : True := trivial
    go_enter Try.func17, Try.ntmps17
    go_wp2_with (first | (go_at_call 45; (with_reducible refine (HM.out _ hL.below).mono ?_); rintro e _ ⟨rfl, hb⟩; replace hL := hL.call hb; clear hb) | (first | (clear hL n1; with_reducible intro b1 w1 hL) | (clear hL n2; with_reducible intro b2 w2 hL) | (clear hL; with_reducible intro _ _ hL)) | (with_reducible refine wpC_alloc rfl _ rfl _ _ inferInstance hL ?_) | (with_reducible first | refine wpB_agg rfl _ _ _ rfl rfl hL ?_ | refine wpB_one rfl _ _ (.int _ _) rfl rfl rfl hL ?_ | refine wpB_one rfl _ _ (.slice _ _ _) rfl rfl rfl hL ?_ | refine wpB_one rfl _ _ (.bool _) rfl rfl rfl hL ?_ | refine wpB_one rfl _ _ (.pointer _) rfl rfl rfl hL ?_ | refine wpB_one rfl _ _ (.func _ _ _) rfl rfl rfl hL ?_) | (with_reducible first | refine wpH_max rfl _ _ _ _ rfl _ _ rfl rfl ?_ | refine wpH_min rfl _ _ _ _ rfl _ _ rfl rfl ?_) | ((with_reducible refine wpA_load rfl _ _ rfl _ rfl ?_); first | refine loadA hL ?_ | refine loadR hL ?_ | refine loadC hL ?_ | refine loadD ?_ | refine loadE hL ?_ | refine loadF ?_) | ((with_reducible refine wpA_index rfl _ _ _ rfl _ rfl _ rfl ?_); first | (refine indexA ?_; try rw [Int.toNat_natCast]) | refine indexC ?_) | ((with_reducible refine wpA_store rfl _ _ _ rfl _ rfl (.agg _) rfl ?_); refine storeR hL ?_; clear hL; intro _ hL) | ((with_reducible first | refine wpA_store rfl _ _ _ rfl _ rfl (.int _ _) rfl ?_ | refine wpA_store rfl _ _ _ rfl _ rfl (.slice _ _ _) rfl ?_ | refine wpA_store rfl _ _ _ rfl _ rfl (.bool _) rfl ?_ | refine wpA_store rfl _ _ _ rfl _ rfl (.pointer _) rfl ?_ | refine wpA_store rfl _ _ _ rfl _ rfl (.func _ _ _) rfl ?_); (first | refine storeA hL ?_ | refine storeO hL ?_); (clear hL; intro _ hL)) | ((with_reducible refine wpA_lit rfl _ _ _ rfl ?_); first | refine litA1 hL ?_ | refine litA2 hL ?_ | refine litA3 hL ?_ | refine litA4 hL ?_ | refine litA6 hL ?_) | ((with_reducible refine wpA_append rfl _ _ _ rfl (.slice _ _ _) rfl ?_); intro vq hvq; simp [go_sem] at hvq; subst hvq; refine appendA hL ?_; clear hL; intro _ _ _ hL; try dsimp only at hL) | ((with_reducible refine wpA_make rfl _ _ _ rfl _ rfl rfl ?_); refine makeA hL ?_))
    refine bodyPost_ret (results_row2 inferInstance rfl _ hL b2 rfl _ _ (by (repeat (first | with_reducible exact At.here | with_reducible apply At.there))) rfl) rfl ⟨_, rfl, hL.below, Fresh.triv _ _ noReg_at⟩
end Go.Proofs.Ytfnolaoohmecbaa
