/- Runs, rows and regions. -/
import Derived.Test.YtfnolaoohmecbaaRgnM
import Derived.Test.YtfnolaoohmecbaaScnM
import Derived.Test.YtfnolaoohmecbaaMskM
import Derived.Test.YtfnolaoohmecbaaHulM
namespace Go.Proofs.Ytfnolaoohmecbaa
open Go.RowKit
def normRow (l : List (Int × Int)) (W : Int) : List (Int × Int) := runsTo (shiftP l 0 W) 64
/-- a region, row by row -/
def madeReg (W H : Int) (row : Nat → List (Int × Int)) : Reg :=
  if isSide W && isSide H then ⟨W, H, (List.range H.toNat).map fun j => normRow (row j) W⟩ else noReg
def madeErr (W H : Int) : Int := if isSide W && isSide H then 0 else 1

theorem side_calls (a : Int) (w : World) :
    Calls Try.prog 80 #[.int .i64 a] w fun e w' => e = .returned (.bool (isSide a)) ∧ w = w' := by
  rcases (by omega : (1 ≤ a ∧ a ≤ 64) ∨ ¬ 1 ≤ a ∨ (1 ≤ a ∧ ¬ a ≤ 64)) with ⟨h1, h2⟩ | h1 | ⟨h1, h2⟩
  · have Hr := Lib.hid (show isSide a = true by simp [isSide, h1, h2])
    go_enter Try.func80, Try.ntmps80
    go_wp2
    go_ret
    exact ⟨ret_bool (by rw [Hr.out]), rfl⟩
  · have Hr := Lib.hid (show isSide a = false by simp [isSide, h1])
    go_enter Try.func80, Try.ntmps80
    go_wp2
    go_ret
    exact ⟨ret_bool (by rw [Hr.out]), rfl⟩
  · have Hr := Lib.hid (show isSide a = false by simp [isSide, h2])
    go_enter Try.func80, Try.ntmps80
    go_wp2
    go_ret
    exact ⟨ret_bool (by rw [Hr.out]), rfl⟩

set_option maxRecDepth 100000 in
set_option maxHeartbeats 1000000 in
theorem regMade_calls (w : World) (W H : Int) (F : Nat) (cap : Array Value) (row : Nat → List (Int × Int))
    (args : Nat → Array Value) (hargs : ∀ j : Nat, #[.int .i64 j] ++ cap = args j) (hrow0 : ∀ j : Nat, (j : Int) < H → ∀ w1, Below w.heap.size w w1 → Calls Try.prog F (args j) w1 (RunsRet (row j) w1))
    (hC : ∀ (j : Nat) w, (callFunc F (#[.int .i64 j] ++ cap)).run Try.prog w = .ok (.enter F (#[.int .i64 j] ++ cap)) w) :
    Calls Try.prog 86 #[.int .i64 W, .int .i64 H, .func (.func F) #[] cap] w (RegOut (madeReg W H row) (madeErr W H) w) := by
  have hL := Holds.start w
  have hrow : ∀ j : Nat, (j : Int) < H → ∀ w1, Below w.heap.size w w1 → Calls Try.prog F (#[.int .i64 j] ++ cap) w1 (RunsRet (row j) w1) := fun j hj w1 hb => by rw [hargs]; exact hrow0 j hj w1 hb
  clear hrow0 hargs
  have Hrow := Lib.hid hrow; clear hrow
  cases hs1 : isSide W with
  | false =>
    have Hr : madeReg W H row = noReg := by simp [madeReg, hs1]
    have He : madeErr W H = 1 := by simp [madeErr, hs1]
    rw [Hr, He]
    clear Hr He
    have n1 : True := trivial; have n2 : True := trivial; have n3 : True := trivial; have n4 : True := trivial
    go_enter Try.func86, Try.ntmps86
    go_wp2_with (first | (go_at_call 80; (with_reducible refine (side_calls _ _).mono ?_); rintro e _ ⟨rfl, rfl⟩) | (first | (clear hL n1; with_reducible intro b1 w1 hL) | (clear hL n2; with_reducible intro b2 w2 hL) | (clear hL n3; with_reducible intro b3 w3 hL) | (clear hL n4; with_reducible intro b4 w4 hL) | (clear hL; with_reducible intro _ _ hL)) | (with_reducible refine wpC_alloc rfl _ rfl _ _ inferInstance hL ?_) | (with_reducible first | refine wpB_agg rfl _ _ _ rfl rfl hL ?_ | refine wpB_one rfl _ _ (.int _ _) rfl rfl rfl hL ?_ | refine wpB_one rfl _ _ (.slice _ _ _) rfl rfl rfl hL ?_ | refine wpB_one rfl _ _ (.bool _) rfl rfl rfl hL ?_ | refine wpB_one rfl _ _ (.pointer _) rfl rfl rfl hL ?_ | refine wpB_one rfl _ _ (.func _ _ _) rfl rfl rfl hL ?_) | (with_reducible first | refine wpH_max rfl _ _ _ _ rfl _ _ rfl rfl ?_ | refine wpH_min rfl _ _ _ _ rfl _ _ rfl rfl ?_) | ((with_reducible refine wpA_load rfl _ _ rfl _ rfl ?_); first | refine loadA hL ?_ | refine loadR hL ?_ | refine loadC hL ?_ | refine loadD ?_ | refine loadE hL ?_ | refine loadF ?_) | ((with_reducible refine wpA_index rfl _ _ _ rfl _ rfl _ rfl ?_); first | (refine indexA ?_; try rw [Int.toNat_natCast]) | refine indexC ?_) | ((with_reducible refine wpA_store rfl _ _ _ rfl _ rfl (.agg _) rfl ?_); refine storeR hL ?_; clear hL; intro _ hL) | ((with_reducible first | refine wpA_store rfl _ _ _ rfl _ rfl (.int _ _) rfl ?_ | refine wpA_store rfl _ _ _ rfl _ rfl (.slice _ _ _) rfl ?_ | refine wpA_store rfl _ _ _ rfl _ rfl (.bool _) rfl ?_ | refine wpA_store rfl _ _ _ rfl _ rfl (.pointer _) rfl ?_ | refine wpA_store rfl _ _ _ rfl _ rfl (.func _ _ _) rfl ?_); (first | refine storeA hL ?_ | refine storeO hL ?_); (clear hL; intro _ hL)) | ((with_reducible refine wpA_lit rfl _ _ _ rfl ?_); first | refine litA1 hL ?_ | refine litA2 hL ?_) | ((with_reducible refine wpA_append rfl _ _ _ rfl (.slice _ _ _) rfl ?_); intro vq hvq; simp [go_sem] at hvq; subst hvq; refine appendA hL ?_; clear hL; intro _ _ _ hL; try dsimp only at hL) | ((with_reducible refine wpA_make rfl _ _ _ rfl _ rfl rfl ?_); refine makeA hL ?_))
    exact bodyPost_ret (results_row2 inferInstance rfl _ hL b1 rfl _ _ .here rfl) rfl ⟨_, rfl, hL.below, (hL.triv noReg_at).fresh⟩
  | true =>
    cases hs2 : isSide H with
    | false =>
      have Hr : madeReg W H row = noReg := by simp [madeReg, hs2]
      have He : madeErr W H = 1 := by simp [madeErr, hs2]
      rw [Hr, He]
      clear Hr He
      have n1 : True := trivial; have n2 : True := trivial; have n3 : True := trivial; have n4 : True := trivial
      go_enter Try.func86, Try.ntmps86
      go_wp2_with (first | (go_at_call 80; (with_reducible refine (side_calls _ _).mono ?_); rintro e _ ⟨rfl, rfl⟩) | (first | (clear hL n1; with_reducible intro b1 w1 hL) | (clear hL n2; with_reducible intro b2 w2 hL) | (clear hL n3; with_reducible intro b3 w3 hL) | (clear hL n4; with_reducible intro b4 w4 hL) | (clear hL; with_reducible intro _ _ hL)) | (with_reducible refine wpC_alloc rfl _ rfl _ _ inferInstance hL ?_) | (with_reducible first | refine wpB_agg rfl _ _ _ rfl rfl hL ?_ | refine wpB_one rfl _ _ (.int _ _) rfl rfl rfl hL ?_ | refine wpB_one rfl _ _ (.slice _ _ _) rfl rfl rfl hL ?_ | refine wpB_one rfl _ _ (.bool _) rfl rfl rfl hL ?_ | refine wpB_one rfl _ _ (.pointer _) rfl rfl rfl hL ?_ | refine wpB_one rfl _ _ (.func _ _ _) rfl rfl rfl hL ?_) | (with_reducible first | refine wpH_max rfl _ _ _ _ rfl _ _ rfl rfl ?_ | refine wpH_min rfl _ _ _ _ rfl _ _ rfl rfl ?_) | ((with_reducible refine wpA_load rfl _ _ rfl _ rfl ?_); first | refine loadA hL ?_ | refine loadR hL ?_ | refine loadC hL ?_ | refine loadD ?_ | refine loadE hL ?_ | refine loadF ?_) | ((with_reducible refine wpA_index rfl _ _ _ rfl _ rfl _ rfl ?_); first | (refine indexA ?_; try rw [Int.toNat_natCast]) | refine indexC ?_) | ((with_reducible refine wpA_store rfl _ _ _ rfl _ rfl (.agg _) rfl ?_); refine storeR hL ?_; clear hL; intro _ hL) | ((with_reducible first | refine wpA_store rfl _ _ _ rfl _ rfl (.int _ _) rfl ?_ | refine wpA_store rfl _ _ _ rfl _ rfl (.slice _ _ _) rfl ?_ | refine wpA_store rfl _ _ _ rfl _ rfl (.bool _) rfl ?_ | refine wpA_store rfl _ _ _ rfl _ rfl (.pointer _) rfl ?_ | refine wpA_store rfl _ _ _ rfl _ rfl (.func _ _ _) rfl ?_); (first | refine storeA hL ?_ | refine storeO hL ?_); (clear hL; intro _ hL)) | ((with_reducible refine wpA_lit rfl _ _ _ rfl ?_); first | refine litA1 hL ?_ | refine litA2 hL ?_) | ((with_reducible refine wpA_append rfl _ _ _ rfl (.slice _ _ _) rfl ?_); intro vq hvq; simp [go_sem] at hvq; subst hvq; refine appendA hL ?_; clear hL; intro _ _ _ hL; try dsimp only at hL) | ((with_reducible refine wpA_make rfl _ _ _ rfl _ rfl rfl ?_); refine makeA hL ?_))
      exact bodyPost_ret (results_row2 inferInstance rfl _ hL b1 rfl _ _ .here rfl) rfl ⟨_, rfl, hL.below, (hL.triv noReg_at).fresh⟩
    | true =>
      have HR := Lib.hid (show madeReg W H row = ⟨W, H, (List.range H.toNat).map fun j => normRow (row j) W⟩ by simp [madeReg, hs1, hs2])
      have He : madeErr W H = 0 := by simp [madeErr, hs1, hs2]
      rw [He]
      clear He
      have hH : 1 ≤ H ∧ H ≤ 64 := by simp [isSide] at hs2; exact hs2
      obtain ⟨hh1, hh2⟩ := hH
      obtain ⟨h, rfl⟩ := Int.eq_ofNat_of_zero_le (show 0 ≤ H by omega)
      have n1 : True := trivial; have n2 : True := trivial; have n3 : True := trivial; have n4 : True := trivial; have n5 : True := trivial; have n6 : True := trivial
      go_enter Try.func86, Try.ntmps86
      go_wp2_with (first | (go_at_call 80; (with_reducible refine (side_calls _ _).mono ?_); rintro e _ ⟨rfl, rfl⟩) | (first | (clear hL n1; with_reducible intro b1 w1 hL) | (clear hL n2; with_reducible intro b2 w2 hL) | (clear hL n3; with_reducible intro b3 w3 hL) | (clear hL n4; with_reducible intro b4 w4 hL) | (clear hL n5; with_reducible intro b5 w5 hL) | (clear hL n6; with_reducible intro b6 w6 hL) | (clear hL; with_reducible intro _ _ hL)) | (with_reducible refine wpC_alloc rfl _ rfl _ _ inferInstance hL ?_) | (with_reducible first | refine wpB_agg rfl _ _ _ rfl rfl hL ?_ | refine wpB_one rfl _ _ (.int _ _) rfl rfl rfl hL ?_ | refine wpB_one rfl _ _ (.slice _ _ _) rfl rfl rfl hL ?_ | refine wpB_one rfl _ _ (.bool _) rfl rfl rfl hL ?_ | refine wpB_one rfl _ _ (.pointer _) rfl rfl rfl hL ?_ | refine wpB_one rfl _ _ (.func _ _ _) rfl rfl rfl hL ?_) | (with_reducible first | refine wpH_max rfl _ _ _ _ rfl _ _ rfl rfl ?_ | refine wpH_min rfl _ _ _ _ rfl _ _ rfl rfl ?_) | ((with_reducible refine wpA_load rfl _ _ rfl _ rfl ?_); first | refine loadA hL ?_ | refine loadR hL ?_ | refine loadC hL ?_ | refine loadD ?_ | refine loadE hL ?_ | refine loadF ?_) | ((with_reducible refine wpA_index rfl _ _ _ rfl _ rfl _ rfl ?_); first | (refine indexA ?_; try rw [Int.toNat_natCast]) | refine indexC ?_) | ((with_reducible refine wpA_store rfl _ _ _ rfl _ rfl (.agg _) rfl ?_); refine storeR hL ?_; clear hL; intro _ hL) | ((with_reducible first | refine wpA_store rfl _ _ _ rfl _ rfl (.int _ _) rfl ?_ | refine wpA_store rfl _ _ _ rfl _ rfl (.slice _ _ _) rfl ?_ | refine wpA_store rfl _ _ _ rfl _ rfl (.bool _) rfl ?_ | refine wpA_store rfl _ _ _ rfl _ rfl (.pointer _) rfl ?_ | refine wpA_store rfl _ _ _ rfl _ rfl (.func _ _ _) rfl ?_); (first | refine storeA hL ?_ | refine storeO hL ?_); (clear hL; intro _ hL)) | ((with_reducible refine wpA_lit rfl _ _ _ rfl ?_); first | refine litA1 hL ?_ | refine litA2 hL ?_) | ((with_reducible refine wpA_append rfl _ _ _ rfl (.slice _ _ _) rfl ?_); intro vq hvq; simp [go_sem] at hvq; subst hvq; refine appendA hL ?_; clear hL; intro _ _ _ hL; try dsimp only at hL) | ((with_reducible refine wpA_make rfl _ _ _ rfl _ rfl rfl ?_); refine makeA hL ?_))
      go_loopw [27] (fun s27 wr => ∃ (j : Nat) (cs : Array Value), j ≤ h ∧ s27 = .int .i64 j ∧ cs.size = h ∧
          Holds w wr [blk b3 #[.int .i64 W, .int .i64 h, .slice (some ⟨b2, 0, none⟩) h h] 37, blk b2 cs 29, blk b1 #[.int .i64 0, .int .i64 0, .slice none 0 0] 37]
            [fun w => ∀ i, i < j → ∃ v, cs[i]? = some v ∧ RunsAt w v (normRow (row i) W)])
        (fun s27 wr => (h - intOf s27).toNat)
      case atStart => exact ⟨0, _, by omega, rfl, by simp, hL.triv (fun _ i hi => by omega)⟩
      case round =>
        clear hL
        obtain ⟨j, cs, hj, rfl, hcs, hL⟩ := hrel
        have Hcs := Lib.hid hcs; clear hcs
        by_cases hlt : j < h
        · go_wp2_with (first | (first | (clear hL n1; with_reducible intro b1 w1 hL) | (clear hL n2; with_reducible intro b2 w2 hL) | (clear hL n3; with_reducible intro b3 w3 hL) | (clear hL n4; with_reducible intro b4 w4 hL) | (clear hL n5; with_reducible intro b5 w5 hL) | (clear hL n6; with_reducible intro b6 w6 hL) | (clear hL; with_reducible intro _ _ hL)) | (with_reducible refine wpC_alloc rfl _ rfl _ _ inferInstance hL ?_) | (with_reducible first | refine wpB_agg rfl _ _ _ rfl rfl hL ?_ | refine wpB_one rfl _ _ (.int _ _) rfl rfl rfl hL ?_ | refine wpB_one rfl _ _ (.slice _ _ _) rfl rfl rfl hL ?_ | refine wpB_one rfl _ _ (.bool _) rfl rfl rfl hL ?_ | refine wpB_one rfl _ _ (.pointer _) rfl rfl rfl hL ?_ | refine wpB_one rfl _ _ (.func _ _ _) rfl rfl rfl hL ?_) | (with_reducible first | refine wpH_max rfl _ _ _ _ rfl _ _ rfl rfl ?_ | refine wpH_min rfl _ _ _ _ rfl _ _ rfl rfl ?_) | ((with_reducible refine wpA_load rfl _ _ rfl _ rfl ?_); first | refine loadA hL ?_ | refine loadR hL ?_ | refine loadC hL ?_ | refine loadD ?_ | refine loadE hL ?_ | refine loadF ?_) | ((with_reducible refine wpA_index rfl _ _ _ rfl _ rfl _ rfl ?_); first | (refine indexA ?_; try rw [Int.toNat_natCast]) | refine indexC ?_) | ((with_reducible refine wpA_store rfl _ _ _ rfl _ rfl (.agg _) rfl ?_); refine storeR hL ?_; clear hL; intro _ hL) | ((with_reducible first | refine wpA_store rfl _ _ _ rfl _ rfl (.int _ _) rfl ?_ | refine wpA_store rfl _ _ _ rfl _ rfl (.slice _ _ _) rfl ?_ | refine wpA_store rfl _ _ _ rfl _ rfl (.bool _) rfl ?_ | refine wpA_store rfl _ _ _ rfl _ rfl (.pointer _) rfl ?_ | refine wpA_store rfl _ _ _ rfl _ rfl (.func _ _ _) rfl ?_); (first | refine storeA hL ?_ | refine storeO hL ?_); (clear hL; intro _ hL)) | ((with_reducible refine wpA_lit rfl _ _ _ rfl ?_); first | refine litA1 hL ?_ | refine litA2 hL ?_) | ((with_reducible refine wpA_append rfl _ _ _ rfl (.slice _ _ _) rfl ?_); intro vq hvq; simp [go_sem] at hvq; subst hvq; refine appendA hL ?_; clear hL; intro _ _ _ hL; try dsimp only at hL) | ((with_reducible refine wpA_make rfl _ _ _ rfl _ rfl rfl ?_); refine makeA hL ?_))
          replace hL := hL.drew
          have hne := hL.apart
          simp [blk] at hne
          obtain ⟨⟨f32, _⟩, _⟩ := hne
          have e23 : ¬ b2 = b3 := by first | exact f32 | exact fun e => f32 e.symm
          have c1 := hL.cell (o := 2) .here
          simp only [List.getElem?_toArray, List.getElem?_cons_zero, List.getElem?_cons_succ] at c1
          go_region_held3 (fun w' => w'.cell? ⟨b3, 2, none⟩ = some (.slice (some ⟨b2, 0, none⟩) h h))
            (first | exact hL.cell (o := 2) .here | go_keep | (rw [World.cell?_setCell_other _ _ _ _ (by simp [e23])]; exact hL.cell (o := 2) .here))
            (first
              | (go_at_call 34; (with_reducible refine (spanNorm_calls _ vr _ hr _).mono ?_); rintro e w3 ⟨v3, rfl, hb, hf⟩; obtain ⟨sa, sn, sc, rfl⟩ := SliceAt.shape hf.now; replace hL := hL.callF hb hf; clear hb hf hr; have cc : w3.cell? ⟨b2, j, none⟩ = some (cs[j]'(by rw [Hcs.out]; exact hlt)) := (hL.cell (.there .here)).trans (by simp); have cf := hL.soft (o := j) (.there .here))
              | ((refine (Hrow.out j (by omega) _ hL.below).mono ?_); rintro e w2 ⟨vr, rfl, hb, hr⟩; replace hL := hL.call hb; clear hb))
          go_wp2
          go_roundw
          case rel =>
            refine ⟨j + 1, cs.setIfInBounds j (.slice sa sn sc), by omega, by go_num, by rw [Array.size_setIfInBounds]; exact Hcs.out, (hL.setCell (o := j) (v := .slice sa sn sc) (.there .here)).join fun w' h1 h2 i hi => ?_⟩
            by_cases hij : i = j
            · subst hij
              exact ⟨_, by rw [Array.getElem?_setIfInBounds, if_pos rfl, if_pos (by rw [Hcs.out]; exact hlt)], h1⟩
            · obtain ⟨v', e1, e2⟩ := h2 i (by omega)
              exact ⟨v', by rw [Array.getElem?_setIfInBounds, if_neg (fun e => hij e.symm)]; exact e1, e2⟩
          case measure => simp [intOf]; omega
        · have e : j = h := by omega
          subst e
          go_wp2_with (first | (first | (clear hL n1; with_reducible intro b1 w1 hL) | (clear hL n2; with_reducible intro b2 w2 hL) | (clear hL n3; with_reducible intro b3 w3 hL) | (clear hL n4; with_reducible intro b4 w4 hL) | (clear hL n5; with_reducible intro b5 w5 hL) | (clear hL n6; with_reducible intro b6 w6 hL) | (clear hL; with_reducible intro _ _ hL)) | (with_reducible refine wpC_alloc rfl _ rfl _ _ inferInstance hL ?_) | (with_reducible first | refine wpB_agg rfl _ _ _ rfl rfl hL ?_ | refine wpB_one rfl _ _ (.int _ _) rfl rfl rfl hL ?_ | refine wpB_one rfl _ _ (.slice _ _ _) rfl rfl rfl hL ?_ | refine wpB_one rfl _ _ (.bool _) rfl rfl rfl hL ?_ | refine wpB_one rfl _ _ (.pointer _) rfl rfl rfl hL ?_ | refine wpB_one rfl _ _ (.func _ _ _) rfl rfl rfl hL ?_) | (with_reducible first | refine wpH_max rfl _ _ _ _ rfl _ _ rfl rfl ?_ | refine wpH_min rfl _ _ _ _ rfl _ _ rfl rfl ?_) | ((with_reducible refine wpA_load rfl _ _ rfl _ rfl ?_); first | refine loadA hL ?_ | refine loadR hL ?_ | refine loadC hL ?_ | refine loadD ?_ | refine loadE hL ?_ | refine loadF ?_) | ((with_reducible refine wpA_index rfl _ _ _ rfl _ rfl _ rfl ?_); first | (refine indexA ?_; try rw [Int.toNat_natCast]) | refine indexC ?_) | ((with_reducible refine wpA_store rfl _ _ _ rfl _ rfl (.agg _) rfl ?_); refine storeR hL ?_; clear hL; intro _ hL) | ((with_reducible first | refine wpA_store rfl _ _ _ rfl _ rfl (.int _ _) rfl ?_ | refine wpA_store rfl _ _ _ rfl _ rfl (.slice _ _ _) rfl ?_ | refine wpA_store rfl _ _ _ rfl _ rfl (.bool _) rfl ?_ | refine wpA_store rfl _ _ _ rfl _ rfl (.pointer _) rfl ?_ | refine wpA_store rfl _ _ _ rfl _ rfl (.func _ _ _) rfl ?_); (first | refine storeA hL ?_ | refine storeO hL ?_); (clear hL; intro _ hL)) | ((with_reducible refine wpA_lit rfl _ _ _ rfl ?_); first | refine litA1 hL ?_ | refine litA2 hL ?_) | ((with_reducible refine wpA_append rfl _ _ _ rfl (.slice _ _ _) rfl ?_); intro vq hvq; simp [go_sem] at hvq; subst hvq; refine appendA hL ?_; clear hL; intro _ _ _ hL; try dsimp only at hL) | ((with_reducible refine wpA_make rfl _ _ _ rfl _ rfl rfl ?_); refine makeA hL ?_))
          refine bodyPost_ret (results_row2 inferInstance rfl _ hL b1 rfl _ _ (.there (.there .here)) rfl) rfl ⟨_, rfl, hL.below, ?_⟩
          rw [HR.out]
          refine ((hL.settle (.there .here) (φ := fun w => w.heap[b2]? = some (.cells cs 29 (0, 0))) fun _ h => h).join fun w' h1 h2 => ?_).fresh
          exact ⟨_, rfl, by simpa using rows_of h1 Hcs.out (by unfold maxLen; omega) h2⟩
/-- may a region be? -/
def mayReg (R : Reg) : Bool := isSide R.W && (isSide R.H && (decide ((R.rows.length : Int) = R.H) && R.rows.all fun l => mayRuns l R.W))

set_option maxRecDepth 100000 in
set_option maxHeartbeats 1000000 in
theorem regMay_calls (w : World) (v : Value) (R : Reg) (hv : RegAt w v R) :
    Calls Try.prog 52 #[v] w fun e w' => e = .returned (.bool (mayReg R)) ∧ Below w.heap.size w w' := by
  obtain ⟨s, rfl, hs⟩ := hv
  obtain ⟨a, cap, rfl, hlc, hcm, hel⟩ := hs.parts
  clear hs
  obtain ⟨W, H, rows⟩ := R
  simp only at hlc hel ⊢
  unfold maxLen at hcm
  have Hel := Lib.hid hel; clear hel
  have hL := Holds.start w
  cases h1 : isSide W with
  | false =>
    have Hr := Lib.hid (show mayReg ⟨W, H, rows⟩ = false by simp [mayReg, h1])
    have n1 : True := trivial; have n2 : True := trivial
    go_enter Try.func52, Try.ntmps52
    go_wp2_with (first | (go_at_call 80; (with_reducible refine (side_calls _ _).mono ?_); rintro e _ ⟨rfl, rfl⟩) | (first | (clear hL n1; with_reducible intro b1 w1 hL) | (clear hL n2; with_reducible intro b2 w2 hL) | (clear hL; with_reducible intro _ _ hL)) | (with_reducible refine wpC_alloc rfl _ rfl _ _ inferInstance hL ?_) | (with_reducible first | refine wpB_agg rfl _ _ _ rfl rfl hL ?_ | refine wpB_one rfl _ _ (.int _ _) rfl rfl rfl hL ?_ | refine wpB_one rfl _ _ (.slice _ _ _) rfl rfl rfl hL ?_ | refine wpB_one rfl _ _ (.bool _) rfl rfl rfl hL ?_ | refine wpB_one rfl _ _ (.pointer _) rfl rfl rfl hL ?_ | refine wpB_one rfl _ _ (.func _ _ _) rfl rfl rfl hL ?_) | (with_reducible first | refine wpH_max rfl _ _ _ _ rfl _ _ rfl rfl ?_ | refine wpH_min rfl _ _ _ _ rfl _ _ rfl rfl ?_) | ((with_reducible refine wpA_load rfl _ _ rfl _ rfl ?_); first | refine loadA hL ?_ | refine loadR hL ?_ | refine loadC hL ?_ | refine loadD ?_ | refine loadE hL ?_ | refine loadF ?_) | ((with_reducible refine wpA_index rfl _ _ _ rfl _ rfl _ rfl ?_); first | (refine indexA ?_; try rw [Int.toNat_natCast]) | refine indexC ?_) | ((with_reducible refine wpA_store rfl _ _ _ rfl _ rfl (.agg _) rfl ?_); refine storeR hL ?_; clear hL; intro _ hL) | ((with_reducible first | refine wpA_store rfl _ _ _ rfl _ rfl (.int _ _) rfl ?_ | refine wpA_store rfl _ _ _ rfl _ rfl (.slice _ _ _) rfl ?_ | refine wpA_store rfl _ _ _ rfl _ rfl (.bool _) rfl ?_ | refine wpA_store rfl _ _ _ rfl _ rfl (.pointer _) rfl ?_ | refine wpA_store rfl _ _ _ rfl _ rfl (.func _ _ _) rfl ?_); (first | refine storeA hL ?_ | refine storeO hL ?_); (clear hL; intro _ hL)) | ((with_reducible refine wpA_lit rfl _ _ _ rfl ?_); first | refine litA1 hL ?_ | refine litA2 hL ?_) | ((with_reducible refine wpA_append rfl _ _ _ rfl (.slice _ _ _) rfl ?_); intro vq hvq; simp [go_sem] at hvq; subst hvq; refine appendA hL ?_; clear hL; intro _ _ _ hL; try dsimp only at hL) | ((with_reducible refine wpA_make rfl _ _ _ rfl _ rfl rfl ?_); refine makeA hL ?_))
    go_ret
    exact ⟨ret_bool (by rw [Hr.out]), hL.below⟩
  | true =>
    cases h2 : isSide H with
    | false =>
      have Hr := Lib.hid (show mayReg ⟨W, H, rows⟩ = false by simp [mayReg, h2])
      have n1 : True := trivial; have n2 : True := trivial
      go_enter Try.func52, Try.ntmps52
      go_wp2_with (first | (go_at_call 80; (with_reducible refine (side_calls _ _).mono ?_); rintro e _ ⟨rfl, rfl⟩) | (first | (clear hL n1; with_reducible intro b1 w1 hL) | (clear hL n2; with_reducible intro b2 w2 hL) | (clear hL; with_reducible intro _ _ hL)) | (with_reducible refine wpC_alloc rfl _ rfl _ _ inferInstance hL ?_) | (with_reducible first | refine wpB_agg rfl _ _ _ rfl rfl hL ?_ | refine wpB_one rfl _ _ (.int _ _) rfl rfl rfl hL ?_ | refine wpB_one rfl _ _ (.slice _ _ _) rfl rfl rfl hL ?_ | refine wpB_one rfl _ _ (.bool _) rfl rfl rfl hL ?_ | refine wpB_one rfl _ _ (.pointer _) rfl rfl rfl hL ?_ | refine wpB_one rfl _ _ (.func _ _ _) rfl rfl rfl hL ?_) | (with_reducible first | refine wpH_max rfl _ _ _ _ rfl _ _ rfl rfl ?_ | refine wpH_min rfl _ _ _ _ rfl _ _ rfl rfl ?_) | ((with_reducible refine wpA_load rfl _ _ rfl _ rfl ?_); first | refine loadA hL ?_ | refine loadR hL ?_ | refine loadC hL ?_ | refine loadD ?_ | refine loadE hL ?_ | refine loadF ?_) | ((with_reducible refine wpA_index rfl _ _ _ rfl _ rfl _ rfl ?_); first | (refine indexA ?_; try rw [Int.toNat_natCast]) | refine indexC ?_) | ((with_reducible refine wpA_store rfl _ _ _ rfl _ rfl (.agg _) rfl ?_); refine storeR hL ?_; clear hL; intro _ hL) | ((with_reducible first | refine wpA_store rfl _ _ _ rfl _ rfl (.int _ _) rfl ?_ | refine wpA_store rfl _ _ _ rfl _ rfl (.slice _ _ _) rfl ?_ | refine wpA_store rfl _ _ _ rfl _ rfl (.bool _) rfl ?_ | refine wpA_store rfl _ _ _ rfl _ rfl (.pointer _) rfl ?_ | refine wpA_store rfl _ _ _ rfl _ rfl (.func _ _ _) rfl ?_); (first | refine storeA hL ?_ | refine storeO hL ?_); (clear hL; intro _ hL)) | ((with_reducible refine wpA_lit rfl _ _ _ rfl ?_); first | refine litA1 hL ?_ | refine litA2 hL ?_) | ((with_reducible refine wpA_append rfl _ _ _ rfl (.slice _ _ _) rfl ?_); intro vq hvq; simp [go_sem] at hvq; subst hvq; refine appendA hL ?_; clear hL; intro _ _ _ hL; try dsimp only at hL) | ((with_reducible refine wpA_make rfl _ _ _ rfl _ rfl rfl ?_); refine makeA hL ?_))
      go_ret
      exact ⟨ret_bool (by rw [Hr.out]), hL.below⟩
    | true =>
      cases h3 : ((rows.length : Int) != H) with
      | true =>
        have Hr := Lib.hid (show mayReg ⟨W, H, rows⟩ = false by simp at h3; simp [mayReg, h3])
        have n1 : True := trivial; have n2 : True := trivial
        go_enter Try.func52, Try.ntmps52
        go_wp2_with (first | (go_at_call 80; (with_reducible refine (side_calls _ _).mono ?_); rintro e _ ⟨rfl, rfl⟩) | (first | (clear hL n1; with_reducible intro b1 w1 hL) | (clear hL n2; with_reducible intro b2 w2 hL) | (clear hL; with_reducible intro _ _ hL)) | (with_reducible refine wpC_alloc rfl _ rfl _ _ inferInstance hL ?_) | (with_reducible first | refine wpB_agg rfl _ _ _ rfl rfl hL ?_ | refine wpB_one rfl _ _ (.int _ _) rfl rfl rfl hL ?_ | refine wpB_one rfl _ _ (.slice _ _ _) rfl rfl rfl hL ?_ | refine wpB_one rfl _ _ (.bool _) rfl rfl rfl hL ?_ | refine wpB_one rfl _ _ (.pointer _) rfl rfl rfl hL ?_ | refine wpB_one rfl _ _ (.func _ _ _) rfl rfl rfl hL ?_) | (with_reducible first | refine wpH_max rfl _ _ _ _ rfl _ _ rfl rfl ?_ | refine wpH_min rfl _ _ _ _ rfl _ _ rfl rfl ?_) | ((with_reducible refine wpA_load rfl _ _ rfl _ rfl ?_); first | refine loadA hL ?_ | refine loadR hL ?_ | refine loadC hL ?_ | refine loadD ?_ | refine loadE hL ?_ | refine loadF ?_) | ((with_reducible refine wpA_index rfl _ _ _ rfl _ rfl _ rfl ?_); first | (refine indexA ?_; try rw [Int.toNat_natCast]) | refine indexC ?_) | ((with_reducible refine wpA_store rfl _ _ _ rfl _ rfl (.agg _) rfl ?_); refine storeR hL ?_; clear hL; intro _ hL) | ((with_reducible first | refine wpA_store rfl _ _ _ rfl _ rfl (.int _ _) rfl ?_ | refine wpA_store rfl _ _ _ rfl _ rfl (.slice _ _ _) rfl ?_ | refine wpA_store rfl _ _ _ rfl _ rfl (.bool _) rfl ?_ | refine wpA_store rfl _ _ _ rfl _ rfl (.pointer _) rfl ?_ | refine wpA_store rfl _ _ _ rfl _ rfl (.func _ _ _) rfl ?_); (first | refine storeA hL ?_ | refine storeO hL ?_); (clear hL; intro _ hL)) | ((with_reducible refine wpA_lit rfl _ _ _ rfl ?_); first | refine litA1 hL ?_ | refine litA2 hL ?_) | ((with_reducible refine wpA_append rfl _ _ _ rfl (.slice _ _ _) rfl ?_); intro vq hvq; simp [go_sem] at hvq; subst hvq; refine appendA hL ?_; clear hL; intro _ _ _ hL; try dsimp only at hL) | ((with_reducible refine wpA_make rfl _ _ _ rfl _ rfl rfl ?_); refine makeA hL ?_))
        go_ret
        exact ⟨ret_bool (by rw [Hr.out]), hL.below⟩
      | false =>
        have Hr := Lib.hid (show mayReg ⟨W, H, rows⟩ = rows.all fun l => mayRuns l W by simp at h3; simp [mayReg, h1, h2, h3])
        have n1 : True := trivial; have n2 : True := trivial
        go_enter Try.func52, Try.ntmps52
        go_wp2_with (first | (go_at_call 80; (with_reducible refine (side_calls _ _).mono ?_); rintro e _ ⟨rfl, rfl⟩) | (first | (clear hL n1; with_reducible intro b1 w1 hL) | (clear hL n2; with_reducible intro b2 w2 hL) | (clear hL; with_reducible intro _ _ hL)) | (with_reducible refine wpC_alloc rfl _ rfl _ _ inferInstance hL ?_) | (with_reducible first | refine wpB_agg rfl _ _ _ rfl rfl hL ?_ | refine wpB_one rfl _ _ (.int _ _) rfl rfl rfl hL ?_ | refine wpB_one rfl _ _ (.slice _ _ _) rfl rfl rfl hL ?_ | refine wpB_one rfl _ _ (.bool _) rfl rfl rfl hL ?_ | refine wpB_one rfl _ _ (.pointer _) rfl rfl rfl hL ?_ | refine wpB_one rfl _ _ (.func _ _ _) rfl rfl rfl hL ?_) | (with_reducible first | refine wpH_max rfl _ _ _ _ rfl _ _ rfl rfl ?_ | refine wpH_min rfl _ _ _ _ rfl _ _ rfl rfl ?_) | ((with_reducible refine wpA_load rfl _ _ rfl _ rfl ?_); first | refine loadA hL ?_ | refine loadR hL ?_ | refine loadC hL ?_ | refine loadD ?_ | refine loadE hL ?_ | refine loadF ?_) | ((with_reducible refine wpA_index rfl _ _ _ rfl _ rfl _ rfl ?_); first | (refine indexA ?_; try rw [Int.toNat_natCast]) | refine indexC ?_) | ((with_reducible refine wpA_store rfl _ _ _ rfl _ rfl (.agg _) rfl ?_); refine storeR hL ?_; clear hL; intro _ hL) | ((with_reducible first | refine wpA_store rfl _ _ _ rfl _ rfl (.int _ _) rfl ?_ | refine wpA_store rfl _ _ _ rfl _ rfl (.slice _ _ _) rfl ?_ | refine wpA_store rfl _ _ _ rfl _ rfl (.bool _) rfl ?_ | refine wpA_store rfl _ _ _ rfl _ rfl (.pointer _) rfl ?_ | refine wpA_store rfl _ _ _ rfl _ rfl (.func _ _ _) rfl ?_); (first | refine storeA hL ?_ | refine storeO hL ?_); (clear hL; intro _ hL)) | ((with_reducible refine wpA_lit rfl _ _ _ rfl ?_); first | refine litA1 hL ?_ | refine litA2 hL ?_) | ((with_reducible refine wpA_append rfl _ _ _ rfl (.slice _ _ _) rfl ?_); intro vq hvq; simp [go_sem] at hvq; subst hvq; refine appendA hL ?_; clear hL; intro _ _ _ hL; try dsimp only at hL) | ((with_reducible refine wpA_make rfl _ _ _ rfl _ rfl rfl ?_); refine makeA hL ?_))
        go_loopw [26] (fun s26 wr => ∃ k : Nat, k ≤ rows.length ∧ s26 = .int .i64 k ∧ ((rows.take k).all fun l => mayRuns l W) = true ∧ Holds w wr [blk b1 #[.int .i64 W, .int .i64 H, .slice a rows.length cap] 37] [])
          (fun s26 wr => rows.length - (intOf s26).toNat)
        case atStart => exact ⟨0, by omega, rfl, rfl, hL⟩
        case round =>
          clear hL
          obtain ⟨k, hk, rfl, hm, hL⟩ := hrel
          by_cases hlt : k < rows.length
          · obtain ⟨b, o, rfl, va, vn, vc, hc, hr⟩ := Hel.out k hlt
            have Hs := Lib.hid (all_take_step (fun l => mayRuns l W) rows k [] hlt)
            rw [hm] at Hs
            have Hf := Lib.hid (all_take_false (fun l => mayRuns l W) rows (k + 1))
            clear hm
            generalize rows.getD k [] = rk at *
            have Hrr := Lib.hid hr; clear hr
            cases hmk : mayRuns rk W with
            | true =>
              rw [hmk] at Hs
              go_wp2_with (first | (go_at_call 37; (with_reducible refine (spanMay_calls _ _ _ (Hrr.out.hold hL) _).mono ?_); rintro e _ ⟨rfl, hb⟩; replace hL := hL.call hb; clear hb) | (first | (clear hL n1; with_reducible intro b1 w1 hL) | (clear hL n2; with_reducible intro b2 w2 hL) | (clear hL; with_reducible intro _ _ hL)) | (with_reducible refine wpC_alloc rfl _ rfl _ _ inferInstance hL ?_) | (with_reducible first | refine wpB_agg rfl _ _ _ rfl rfl hL ?_ | refine wpB_one rfl _ _ (.int _ _) rfl rfl rfl hL ?_ | refine wpB_one rfl _ _ (.slice _ _ _) rfl rfl rfl hL ?_ | refine wpB_one rfl _ _ (.bool _) rfl rfl rfl hL ?_ | refine wpB_one rfl _ _ (.pointer _) rfl rfl rfl hL ?_ | refine wpB_one rfl _ _ (.func _ _ _) rfl rfl rfl hL ?_) | (with_reducible first | refine wpH_max rfl _ _ _ _ rfl _ _ rfl rfl ?_ | refine wpH_min rfl _ _ _ _ rfl _ _ rfl rfl ?_) | ((with_reducible refine wpA_load rfl _ _ rfl _ rfl ?_); first | refine loadA hL ?_ | refine loadR hL ?_ | refine loadC hL ?_ | refine loadD ?_ | refine loadE hL ?_ | refine loadF ?_) | ((with_reducible refine wpA_index rfl _ _ _ rfl _ rfl _ rfl ?_); first | (refine indexA ?_; try rw [Int.toNat_natCast]) | refine indexC ?_) | ((with_reducible refine wpA_store rfl _ _ _ rfl _ rfl (.agg _) rfl ?_); refine storeR hL ?_; clear hL; intro _ hL) | ((with_reducible first | refine wpA_store rfl _ _ _ rfl _ rfl (.int _ _) rfl ?_ | refine wpA_store rfl _ _ _ rfl _ rfl (.slice _ _ _) rfl ?_ | refine wpA_store rfl _ _ _ rfl _ rfl (.bool _) rfl ?_ | refine wpA_store rfl _ _ _ rfl _ rfl (.pointer _) rfl ?_ | refine wpA_store rfl _ _ _ rfl _ rfl (.func _ _ _) rfl ?_); (first | refine storeA hL ?_ | refine storeO hL ?_); (clear hL; intro _ hL)) | ((with_reducible refine wpA_lit rfl _ _ _ rfl ?_); first | refine litA1 hL ?_ | refine litA2 hL ?_) | ((with_reducible refine wpA_append rfl _ _ _ rfl (.slice _ _ _) rfl ?_); intro vq hvq; simp [go_sem] at hvq; subst hvq; refine appendA hL ?_; clear hL; intro _ _ _ hL; try dsimp only at hL) | ((with_reducible refine wpA_make rfl _ _ _ rfl _ rfl rfl ?_); refine makeA hL ?_))
              go_roundw
              case rel => exact ⟨k + 1, by omega, by go_num, by rw [Hs.out]; rfl, hL⟩
              case measure => simp [intOf]; omega
            | false =>
              rw [hmk] at Hs
              go_wp2_with (first | (go_at_call 37; (with_reducible refine (spanMay_calls _ _ _ (Hrr.out.hold hL) _).mono ?_); rintro e _ ⟨rfl, hb⟩; replace hL := hL.call hb; clear hb) | (first | (clear hL n1; with_reducible intro b1 w1 hL) | (clear hL n2; with_reducible intro b2 w2 hL) | (clear hL; with_reducible intro _ _ hL)) | (with_reducible refine wpC_alloc rfl _ rfl _ _ inferInstance hL ?_) | (with_reducible first | refine wpB_agg rfl _ _ _ rfl rfl hL ?_ | refine wpB_one rfl _ _ (.int _ _) rfl rfl rfl hL ?_ | refine wpB_one rfl _ _ (.slice _ _ _) rfl rfl rfl hL ?_ | refine wpB_one rfl _ _ (.bool _) rfl rfl rfl hL ?_ | refine wpB_one rfl _ _ (.pointer _) rfl rfl rfl hL ?_ | refine wpB_one rfl _ _ (.func _ _ _) rfl rfl rfl hL ?_) | (with_reducible first | refine wpH_max rfl _ _ _ _ rfl _ _ rfl rfl ?_ | refine wpH_min rfl _ _ _ _ rfl _ _ rfl rfl ?_) | ((with_reducible refine wpA_load rfl _ _ rfl _ rfl ?_); first | refine loadA hL ?_ | refine loadR hL ?_ | refine loadC hL ?_ | refine loadD ?_ | refine loadE hL ?_ | refine loadF ?_) | ((with_reducible refine wpA_index rfl _ _ _ rfl _ rfl _ rfl ?_); first | (refine indexA ?_; try rw [Int.toNat_natCast]) | refine indexC ?_) | ((with_reducible refine wpA_store rfl _ _ _ rfl _ rfl (.agg _) rfl ?_); refine storeR hL ?_; clear hL; intro _ hL) | ((with_reducible first | refine wpA_store rfl _ _ _ rfl _ rfl (.int _ _) rfl ?_ | refine wpA_store rfl _ _ _ rfl _ rfl (.slice _ _ _) rfl ?_ | refine wpA_store rfl _ _ _ rfl _ rfl (.bool _) rfl ?_ | refine wpA_store rfl _ _ _ rfl _ rfl (.pointer _) rfl ?_ | refine wpA_store rfl _ _ _ rfl _ rfl (.func _ _ _) rfl ?_); (first | refine storeA hL ?_ | refine storeO hL ?_); (clear hL; intro _ hL)) | ((with_reducible refine wpA_lit rfl _ _ _ rfl ?_); first | refine litA1 hL ?_ | refine litA2 hL ?_) | ((with_reducible refine wpA_append rfl _ _ _ rfl (.slice _ _ _) rfl ?_); intro vq hvq; simp [go_sem] at hvq; subst hvq; refine appendA hL ?_; clear hL; intro _ _ _ hL; try dsimp only at hL) | ((with_reducible refine wpA_make rfl _ _ _ rfl _ rfl rfl ?_); refine makeA hL ?_))
              go_ret
              exact ⟨ret_bool (by rw [Hr.out, Hf.out (by rw [Hs.out]; rfl)]), hL.below⟩
          · have e : k = rows.length := by omega
            subst e
            rw [List.take_length] at hm
            have Hm := Lib.hid hm; clear hm
            go_wp2_with (first | (first | (clear hL n1; with_reducible intro b1 w1 hL) | (clear hL n2; with_reducible intro b2 w2 hL) | (clear hL; with_reducible intro _ _ hL)) | (with_reducible refine wpC_alloc rfl _ rfl _ _ inferInstance hL ?_) | (with_reducible first | refine wpB_agg rfl _ _ _ rfl rfl hL ?_ | refine wpB_one rfl _ _ (.int _ _) rfl rfl rfl hL ?_ | refine wpB_one rfl _ _ (.slice _ _ _) rfl rfl rfl hL ?_ | refine wpB_one rfl _ _ (.bool _) rfl rfl rfl hL ?_ | refine wpB_one rfl _ _ (.pointer _) rfl rfl rfl hL ?_ | refine wpB_one rfl _ _ (.func _ _ _) rfl rfl rfl hL ?_) | (with_reducible first | refine wpH_max rfl _ _ _ _ rfl _ _ rfl rfl ?_ | refine wpH_min rfl _ _ _ _ rfl _ _ rfl rfl ?_) | ((with_reducible refine wpA_load rfl _ _ rfl _ rfl ?_); first | refine loadA hL ?_ | refine loadR hL ?_ | refine loadC hL ?_ | refine loadD ?_ | refine loadE hL ?_ | refine loadF ?_) | ((with_reducible refine wpA_index rfl _ _ _ rfl _ rfl _ rfl ?_); first | (refine indexA ?_; try rw [Int.toNat_natCast]) | refine indexC ?_) | ((with_reducible refine wpA_store rfl _ _ _ rfl _ rfl (.agg _) rfl ?_); refine storeR hL ?_; clear hL; intro _ hL) | ((with_reducible first | refine wpA_store rfl _ _ _ rfl _ rfl (.int _ _) rfl ?_ | refine wpA_store rfl _ _ _ rfl _ rfl (.slice _ _ _) rfl ?_ | refine wpA_store rfl _ _ _ rfl _ rfl (.bool _) rfl ?_ | refine wpA_store rfl _ _ _ rfl _ rfl (.pointer _) rfl ?_ | refine wpA_store rfl _ _ _ rfl _ rfl (.func _ _ _) rfl ?_); (first | refine storeA hL ?_ | refine storeO hL ?_); (clear hL; intro _ hL)) | ((with_reducible refine wpA_lit rfl _ _ _ rfl ?_); first | refine litA1 hL ?_ | refine litA2 hL ?_) | ((with_reducible refine wpA_append rfl _ _ _ rfl (.slice _ _ _) rfl ?_); intro vq hvq; simp [go_sem] at hvq; subst hvq; refine appendA hL ?_; clear hL; intro _ _ _ hL; try dsimp only at hL) | ((with_reducible refine wpA_make rfl _ _ _ rfl _ rfl rfl ?_); refine makeA hL ?_))
            go_ret
            exact ⟨ret_bool (by rw [Hr.out, Hm.out]), hL.below⟩
theorem Below.from {w0 w w1 : World} {M : List Res} {Φ : List (World → Prop)} (hL : Holds w0 w M Φ) (h : Below w.heap.size w w1) : Below w0.heap.size w0 w1 := hL.below.trans (h.mono hL.size)

theorem mayReg_len {R : Reg} (h : mayReg R = true) : isSide R.W = true ∧ isSide R.H = true ∧ (R.rows.length : Int) = R.H := by
  simp [mayReg] at h; exact ⟨h.1, h.2.1, h.2.2.1⟩
theorem ret_tup {v : Value} {k : IntKind} {a b : Int} (h : a = b) : Ending.returned (.tuple #[v, .int k a]) = .returned (.tuple #[v, .int k b]) := by rw [h]
theorem madeErr_ok {W H : Int} (h1 : isSide W = true) (h2 : isSide H = true) : madeErr W H = 0 := by simp [madeErr, h1, h2]

theorem runs_nil (w : World) : RunsAt w (.slice none 0 0) [] := ⟨none, 0, rfl, Nat.le_refl _, by unfold maxLen; omega, fun i hi => by simp at hi⟩

def oneReg (R : Reg) (row : Nat → List (Int × Int)) : Reg := if mayReg R then madeReg R.W R.H row else noReg
def oneErr (R : Reg) : Int := if mayReg R then 0 else 1

set_option maxHeartbeats 1000000 in
theorem one_calls (w : World) (v : Value) (R : Reg) (hv : RegAt w v R) (F : Nat) (cap : Array Value) (row : Nat → List (Int × Int))
    (args : Nat → Array Value) (hargs : ∀ j : Nat, #[.int .i64 j] ++ cap = args j) (hrow : mayReg R = true → ∀ j : Nat, (j : Int) < R.H → ∀ w1, Below w.heap.size w w1 → Calls Try.prog F (args j) w1 (RunsRet (row j) w1))
    (hC : ∀ (j : Nat) w, (callFunc F (#[.int .i64 j] ++ cap)).run Try.prog w = .ok (.enter F (#[.int .i64 j] ++ cap)) w) :
    Calls Try.prog 62 #[v, .func (.func F) #[] cap] w (RegOut (oneReg R row) (oneErr R) w) := by
  have Hv := Lib.hid hv
  obtain ⟨xa, na, ca, rfl, _⟩ := hv.shape
  clear hv
  have Hrow := Lib.hid hrow; clear hrow
  have Hargs := Lib.hid hargs; clear hargs
  have HC := Lib.hid hC; clear hC
  have hL := Holds.start w
  cases hm : mayReg R with
  | false =>
    have HR := Lib.hid (show oneReg R row = noReg by simp [oneReg, hm])
    have HE := Lib.hid (show oneErr R = 1 by simp [oneErr, hm])
    have n1 : True := trivial; have n2 : True := trivial; have n3 : True := trivial; have n4 : True := trivial
    go_enter Try.func62, Try.ntmps62
    go_wp2_with (first | (go_at_call 52; (with_reducible refine (regMay_calls _ _ _ (Hv.out.hold hL)).mono ?_); rintro e _ ⟨rfl, hb⟩; replace hL := hL.call hb; clear hb) | (first | (clear hL n1; with_reducible intro b1 w1 hL) | (clear hL n2; with_reducible intro b2 w2 hL) | (clear hL n3; with_reducible intro b3 w3 hL) | (clear hL n4; with_reducible intro b4 w4 hL) | (clear hL; with_reducible intro _ _ hL)) | (with_reducible refine wpC_alloc rfl _ rfl _ _ inferInstance hL ?_) | (with_reducible first | refine wpB_agg rfl _ _ _ rfl rfl hL ?_ | refine wpB_one rfl _ _ (.int _ _) rfl rfl rfl hL ?_ | refine wpB_one rfl _ _ (.slice _ _ _) rfl rfl rfl hL ?_ | refine wpB_one rfl _ _ (.bool _) rfl rfl rfl hL ?_ | refine wpB_one rfl _ _ (.pointer _) rfl rfl rfl hL ?_ | refine wpB_one rfl _ _ (.func _ _ _) rfl rfl rfl hL ?_) | (with_reducible first | refine wpH_max rfl _ _ _ _ rfl _ _ rfl rfl ?_ | refine wpH_min rfl _ _ _ _ rfl _ _ rfl rfl ?_) | ((with_reducible refine wpA_load rfl _ _ rfl _ rfl ?_); first | refine loadA hL ?_ | refine loadR hL ?_ | refine loadC hL ?_ | refine loadD ?_ | refine loadE hL ?_ | refine loadF ?_) | ((with_reducible refine wpA_index rfl _ _ _ rfl _ rfl _ rfl ?_); first | (refine indexA ?_; try rw [Int.toNat_natCast]) | refine indexC ?_) | ((with_reducible refine wpA_store rfl _ _ _ rfl _ rfl (.agg _) rfl ?_); refine storeR hL ?_; clear hL; intro _ hL) | ((with_reducible first | refine wpA_store rfl _ _ _ rfl _ rfl (.int _ _) rfl ?_ | refine wpA_store rfl _ _ _ rfl _ rfl (.slice _ _ _) rfl ?_ | refine wpA_store rfl _ _ _ rfl _ rfl (.bool _) rfl ?_ | refine wpA_store rfl _ _ _ rfl _ rfl (.pointer _) rfl ?_ | refine wpA_store rfl _ _ _ rfl _ rfl (.func _ _ _) rfl ?_); (first | refine storeA hL ?_ | refine storeO hL ?_); (clear hL; intro _ hL)) | ((with_reducible refine wpA_lit rfl _ _ _ rfl ?_); first | refine litA1 hL ?_ | refine litA2 hL ?_) | ((with_reducible refine wpA_append rfl _ _ _ rfl (.slice _ _ _) rfl ?_); intro vq hvq; simp [go_sem] at hvq; subst hvq; refine appendA hL ?_; clear hL; intro _ _ _ hL; try dsimp only at hL) | ((with_reducible refine wpA_make rfl _ _ _ rfl _ rfl rfl ?_); refine makeA hL ?_))
    exact bodyPost_ret (results_row2 inferInstance rfl _ hL b2 rfl _ _ .here rfl) rfl ⟨_, ret_tup HE.out.symm, hL.below, by rw [HR.out]; exact (hL.triv noReg_at).fresh⟩
  | true =>
    have l1 := mayReg_len hm
    have HR := Lib.hid (show oneReg R row = madeReg R.W R.H row by simp [oneReg, hm])
    have HE := Lib.hid (show oneErr R = madeErr R.W R.H by simp [oneErr, hm, madeErr_ok l1.1 l1.2.1])
    clear l1
    have Hr := Lib.hid (Hrow.out hm)
    have n1 : True := trivial; have n2 : True := trivial; have n3 : True := trivial; have n4 : True := trivial
    go_enter Try.func62, Try.ntmps62
    go_wp2_with (first | (go_at_call 52; (with_reducible refine (regMay_calls _ _ _ (Hv.out.hold hL)).mono ?_); rintro e _ ⟨rfl, hb⟩; replace hL := hL.call hb; clear hb) | (first | (clear hL n1; with_reducible intro b1 w1 hL) | (clear hL n2; with_reducible intro b2 w2 hL) | (clear hL n3; with_reducible intro b3 w3 hL) | (clear hL n4; with_reducible intro b4 w4 hL) | (clear hL; with_reducible intro _ _ hL)) | (with_reducible refine wpC_alloc rfl _ rfl _ _ inferInstance hL ?_) | (with_reducible first | refine wpB_agg rfl _ _ _ rfl rfl hL ?_ | refine wpB_one rfl _ _ (.int _ _) rfl rfl rfl hL ?_ | refine wpB_one rfl _ _ (.slice _ _ _) rfl rfl rfl hL ?_ | refine wpB_one rfl _ _ (.bool _) rfl rfl rfl hL ?_ | refine wpB_one rfl _ _ (.pointer _) rfl rfl rfl hL ?_ | refine wpB_one rfl _ _ (.func _ _ _) rfl rfl rfl hL ?_) | (with_reducible first | refine wpH_max rfl _ _ _ _ rfl _ _ rfl rfl ?_ | refine wpH_min rfl _ _ _ _ rfl _ _ rfl rfl ?_) | ((with_reducible refine wpA_load rfl _ _ rfl _ rfl ?_); first | refine loadA hL ?_ | refine loadR hL ?_ | refine loadC hL ?_ | refine loadD ?_ | refine loadE hL ?_ | refine loadF ?_) | ((with_reducible refine wpA_index rfl _ _ _ rfl _ rfl _ rfl ?_); first | (refine indexA ?_; try rw [Int.toNat_natCast]) | refine indexC ?_) | ((with_reducible refine wpA_store rfl _ _ _ rfl _ rfl (.agg _) rfl ?_); refine storeR hL ?_; clear hL; intro _ hL) | ((with_reducible first | refine wpA_store rfl _ _ _ rfl _ rfl (.int _ _) rfl ?_ | refine wpA_store rfl _ _ _ rfl _ rfl (.slice _ _ _) rfl ?_ | refine wpA_store rfl _ _ _ rfl _ rfl (.bool _) rfl ?_ | refine wpA_store rfl _ _ _ rfl _ rfl (.pointer _) rfl ?_ | refine wpA_store rfl _ _ _ rfl _ rfl (.func _ _ _) rfl ?_); (first | refine storeA hL ?_ | refine storeO hL ?_); (clear hL; intro _ hL)) | ((with_reducible refine wpA_lit rfl _ _ _ rfl ?_); first | refine litA1 hL ?_ | refine litA2 hL ?_) | ((with_reducible refine wpA_append rfl _ _ _ rfl (.slice _ _ _) rfl ?_); intro vq hvq; simp [go_sem] at hvq; subst hvq; refine appendA hL ?_; clear hL; intro _ _ _ hL; try dsimp only at hL) | ((with_reducible refine wpA_make rfl _ _ _ rfl _ rfl rfl ?_); refine makeA hL ?_))
    refine (regMade_calls _ _ _ _ _ row args Hargs.out (fun j hj w1 hb1 => Hr.out j hj w1 (Below.from hL hb1)) HC.out).mono ?_
    rintro e _ ⟨v, rfl, hb, hf⟩
    obtain ⟨sa, sn, sc, rfl, _⟩ := RegAt.shape hf.now
    replace hL := hL.callF hb hf
    clear hb hf
    go_wp2_with (first | (first | (clear hL n1; with_reducible intro b1 w1 hL) | (clear hL n2; with_reducible intro b2 w2 hL) | (clear hL n3; with_reducible intro b3 w3 hL) | (clear hL n4; with_reducible intro b4 w4 hL) | (clear hL; with_reducible intro _ _ hL)) | (with_reducible refine wpC_alloc rfl _ rfl _ _ inferInstance hL ?_) | (with_reducible first | refine wpB_agg rfl _ _ _ rfl rfl hL ?_ | refine wpB_one rfl _ _ (.int _ _) rfl rfl rfl hL ?_ | refine wpB_one rfl _ _ (.slice _ _ _) rfl rfl rfl hL ?_ | refine wpB_one rfl _ _ (.bool _) rfl rfl rfl hL ?_ | refine wpB_one rfl _ _ (.pointer _) rfl rfl rfl hL ?_ | refine wpB_one rfl _ _ (.func _ _ _) rfl rfl rfl hL ?_) | (with_reducible first | refine wpH_max rfl _ _ _ _ rfl _ _ rfl rfl ?_ | refine wpH_min rfl _ _ _ _ rfl _ _ rfl rfl ?_) | ((with_reducible refine wpA_load rfl _ _ rfl _ rfl ?_); first | refine loadA hL ?_ | refine loadR hL ?_ | refine loadC hL ?_ | refine loadD ?_ | refine loadE hL ?_ | refine loadF ?_) | ((with_reducible refine wpA_index rfl _ _ _ rfl _ rfl _ rfl ?_); first | (refine indexA ?_; try rw [Int.toNat_natCast]) | refine indexC ?_) | ((with_reducible refine wpA_store rfl _ _ _ rfl _ rfl (.agg _) rfl ?_); refine storeR hL ?_; clear hL; intro _ hL) | ((with_reducible first | refine wpA_store rfl _ _ _ rfl _ rfl (.int _ _) rfl ?_ | refine wpA_store rfl _ _ _ rfl _ rfl (.slice _ _ _) rfl ?_ | refine wpA_store rfl _ _ _ rfl _ rfl (.bool _) rfl ?_ | refine wpA_store rfl _ _ _ rfl _ rfl (.pointer _) rfl ?_ | refine wpA_store rfl _ _ _ rfl _ rfl (.func _ _ _) rfl ?_); (first | refine storeA hL ?_ | refine storeO hL ?_); (clear hL; intro _ hL)) | ((with_reducible refine wpA_lit rfl _ _ _ rfl ?_); first | refine litA1 hL ?_ | refine litA2 hL ?_) | ((with_reducible refine wpA_append rfl _ _ _ rfl (.slice _ _ _) rfl ?_); intro vq hvq; simp [go_sem] at hvq; subst hvq; refine appendA hL ?_; clear hL; intro _ _ _ hL; try dsimp only at hL) | ((with_reducible refine wpA_make rfl _ _ _ rfl _ rfl rfl ?_); refine makeA hL ?_))
    exact bodyPost_ret (results_row2 inferInstance rfl _ hL b2 rfl _ _ .here rfl) rfl ⟨_, ret_tup HE.out.symm, hL.below, by rw [HR.out]; exact hL.fresh⟩

def shiftRow (ra : List (List (Int × Int))) (W H dx dy : Int) (j : Nat) : List (Int × Int) := if (dy ≤ -H ∨ H ≤ dy) ∨ ((j : Int) - dy < 0 ∨ H ≤ (j : Int) - dy) then [] else runsTo (shiftP (ra.getD ((j : Int) - dy).toNat []) dx W) 64

set_option maxHeartbeats 1000000 in
theorem shiftRow_calls (w : World) (j : Nat) (bd ba bx : Nat) (W H dx dy : Int) (sa : Value) (ra : List (List (Int × Int))) (h0 : w.cell? ⟨bd, 0, none⟩ = some (.int .i64 dy)) (h1 : w.cell? ⟨ba, 0, none⟩ = some (.int .i64 W)) (h2 : w.cell? ⟨ba, 1, none⟩ = some (.int .i64 H)) (h3 : w.cell? ⟨ba, 2, none⟩ = some sa) (h4 : w.cell? ⟨bx, 0, none⟩ = some (.int .i64 dx))
    (hsa : RowsAt w sa ra) (hH : (ra.length : Int) = H) (hH1 : 1 ≤ H) (hH2 : H ≤ 64) (hja : (j : Int) < H) :
    Calls Try.prog 63 #[.int .i64 j, .pointer (some ⟨bd, 0, none⟩), .pointer (some ⟨ba, 0, none⟩), .pointer (some ⟨bx, 0, none⟩)] w (RunsRet (shiftRow ra W H dx dy j) w) := by
  obtain ⟨a, ca, rfl, hla, hma, hea⟩ := hsa.parts
  have HR := Lib.hid (show shiftRow ra W H dx dy j = if (dy ≤ -H ∨ H ≤ dy) ∨ ((j : Int) - dy < 0 ∨ H ≤ (j : Int) - dy) then [] else runsTo (shiftP (ra.getD ((j : Int) - dy).toNat []) dx W) 64 from rfl)
  have Hea := Lib.hid hea
  clear hea hsa
  unfold maxLen at hma
  have hL := Holds.start w
  by_cases g1 : dy ≤ -H
  · have d1 : decide (dy ≤ -H) = true := by simp [g1]
    go_enter Try.func63, Try.ntmps63
    go_wp2_with (first | ((clear hL; with_reducible intro _ _ hL)) | (with_reducible refine wpC_alloc rfl _ rfl _ _ inferInstance hL ?_) | (with_reducible first | refine wpB_agg rfl _ _ _ rfl rfl hL ?_ | refine wpB_one rfl _ _ (.int _ _) rfl rfl rfl hL ?_ | refine wpB_one rfl _ _ (.slice _ _ _) rfl rfl rfl hL ?_ | refine wpB_one rfl _ _ (.bool _) rfl rfl rfl hL ?_ | refine wpB_one rfl _ _ (.pointer _) rfl rfl rfl hL ?_ | refine wpB_one rfl _ _ (.func _ _ _) rfl rfl rfl hL ?_) | (with_reducible first | refine wpH_max rfl _ _ _ _ rfl _ _ rfl rfl ?_ | refine wpH_min rfl _ _ _ _ rfl _ _ rfl rfl ?_) | ((with_reducible refine wpA_load rfl _ _ rfl _ rfl ?_); first | refine loadA hL ?_ | refine loadR hL ?_ | refine loadC hL ?_ | refine loadD ?_ | refine loadE hL ?_ | refine loadF ?_) | ((with_reducible refine wpA_index rfl _ _ _ rfl _ rfl _ rfl ?_); first | (refine indexA ?_; try rw [Int.toNat_natCast]) | refine indexC ?_) | ((with_reducible refine wpA_store rfl _ _ _ rfl _ rfl (.agg _) rfl ?_); refine storeR hL ?_; clear hL; intro _ hL) | ((with_reducible first | refine wpA_store rfl _ _ _ rfl _ rfl (.int _ _) rfl ?_ | refine wpA_store rfl _ _ _ rfl _ rfl (.slice _ _ _) rfl ?_ | refine wpA_store rfl _ _ _ rfl _ rfl (.bool _) rfl ?_ | refine wpA_store rfl _ _ _ rfl _ rfl (.pointer _) rfl ?_ | refine wpA_store rfl _ _ _ rfl _ rfl (.func _ _ _) rfl ?_); (first | refine storeA hL ?_ | refine storeO hL ?_); (clear hL; intro _ hL)) | ((with_reducible refine wpA_lit rfl _ _ _ rfl ?_); first | refine litA1 hL ?_ | refine litA2 hL ?_) | ((with_reducible refine wpA_append rfl _ _ _ rfl (.slice _ _ _) rfl ?_); intro vq hvq; simp [go_sem] at hvq; subst hvq; refine appendA hL ?_; clear hL; intro _ _ _ hL; try dsimp only at hL) | ((with_reducible refine wpA_make rfl _ _ _ rfl _ rfl rfl ?_); refine makeA hL ?_))
    go_ret
    exact ⟨_, rfl, hL.below, by rw [HR.out, if_pos (.inl (.inl g1))]; exact runs_nil _⟩
  have d1 : decide (dy ≤ -H) = false := by simp; omega
  by_cases g2 : H ≤ dy
  · have d2 : decide (H ≤ dy) = true := by simp [g2]
    go_enter Try.func63, Try.ntmps63
    go_wp2_with (first | ((clear hL; with_reducible intro _ _ hL)) | (with_reducible refine wpC_alloc rfl _ rfl _ _ inferInstance hL ?_) | (with_reducible first | refine wpB_agg rfl _ _ _ rfl rfl hL ?_ | refine wpB_one rfl _ _ (.int _ _) rfl rfl rfl hL ?_ | refine wpB_one rfl _ _ (.slice _ _ _) rfl rfl rfl hL ?_ | refine wpB_one rfl _ _ (.bool _) rfl rfl rfl hL ?_ | refine wpB_one rfl _ _ (.pointer _) rfl rfl rfl hL ?_ | refine wpB_one rfl _ _ (.func _ _ _) rfl rfl rfl hL ?_) | (with_reducible first | refine wpH_max rfl _ _ _ _ rfl _ _ rfl rfl ?_ | refine wpH_min rfl _ _ _ _ rfl _ _ rfl rfl ?_) | ((with_reducible refine wpA_load rfl _ _ rfl _ rfl ?_); first | refine loadA hL ?_ | refine loadR hL ?_ | refine loadC hL ?_ | refine loadD ?_ | refine loadE hL ?_ | refine loadF ?_) | ((with_reducible refine wpA_index rfl _ _ _ rfl _ rfl _ rfl ?_); first | (refine indexA ?_; try rw [Int.toNat_natCast]) | refine indexC ?_) | ((with_reducible refine wpA_store rfl _ _ _ rfl _ rfl (.agg _) rfl ?_); refine storeR hL ?_; clear hL; intro _ hL) | ((with_reducible first | refine wpA_store rfl _ _ _ rfl _ rfl (.int _ _) rfl ?_ | refine wpA_store rfl _ _ _ rfl _ rfl (.slice _ _ _) rfl ?_ | refine wpA_store rfl _ _ _ rfl _ rfl (.bool _) rfl ?_ | refine wpA_store rfl _ _ _ rfl _ rfl (.pointer _) rfl ?_ | refine wpA_store rfl _ _ _ rfl _ rfl (.func _ _ _) rfl ?_); (first | refine storeA hL ?_ | refine storeO hL ?_); (clear hL; intro _ hL)) | ((with_reducible refine wpA_lit rfl _ _ _ rfl ?_); first | refine litA1 hL ?_ | refine litA2 hL ?_) | ((with_reducible refine wpA_append rfl _ _ _ rfl (.slice _ _ _) rfl ?_); intro vq hvq; simp [go_sem] at hvq; subst hvq; refine appendA hL ?_; clear hL; intro _ _ _ hL; try dsimp only at hL) | ((with_reducible refine wpA_make rfl _ _ _ rfl _ rfl rfl ?_); refine makeA hL ?_))
    go_ret
    exact ⟨_, rfl, hL.below, by rw [HR.out, if_pos (.inl (.inr g2))]; exact runs_nil _⟩
  have d2 : decide (H ≤ dy) = false := by simp; omega
  by_cases g3 : (j : Int) - dy < 0
  · have d3 : decide ((j : Int) - dy < 0) = true := by simp [g3]
    go_enter Try.func63, Try.ntmps63
    go_wp2_with (first | ((clear hL; with_reducible intro _ _ hL)) | (with_reducible refine wpC_alloc rfl _ rfl _ _ inferInstance hL ?_) | (with_reducible first | refine wpB_agg rfl _ _ _ rfl rfl hL ?_ | refine wpB_one rfl _ _ (.int _ _) rfl rfl rfl hL ?_ | refine wpB_one rfl _ _ (.slice _ _ _) rfl rfl rfl hL ?_ | refine wpB_one rfl _ _ (.bool _) rfl rfl rfl hL ?_ | refine wpB_one rfl _ _ (.pointer _) rfl rfl rfl hL ?_ | refine wpB_one rfl _ _ (.func _ _ _) rfl rfl rfl hL ?_) | (with_reducible first | refine wpH_max rfl _ _ _ _ rfl _ _ rfl rfl ?_ | refine wpH_min rfl _ _ _ _ rfl _ _ rfl rfl ?_) | ((with_reducible refine wpA_load rfl _ _ rfl _ rfl ?_); first | refine loadA hL ?_ | refine loadR hL ?_ | refine loadC hL ?_ | refine loadD ?_ | refine loadE hL ?_ | refine loadF ?_) | ((with_reducible refine wpA_index rfl _ _ _ rfl _ rfl _ rfl ?_); first | (refine indexA ?_; try rw [Int.toNat_natCast]) | refine indexC ?_) | ((with_reducible refine wpA_store rfl _ _ _ rfl _ rfl (.agg _) rfl ?_); refine storeR hL ?_; clear hL; intro _ hL) | ((with_reducible first | refine wpA_store rfl _ _ _ rfl _ rfl (.int _ _) rfl ?_ | refine wpA_store rfl _ _ _ rfl _ rfl (.slice _ _ _) rfl ?_ | refine wpA_store rfl _ _ _ rfl _ rfl (.bool _) rfl ?_ | refine wpA_store rfl _ _ _ rfl _ rfl (.pointer _) rfl ?_ | refine wpA_store rfl _ _ _ rfl _ rfl (.func _ _ _) rfl ?_); (first | refine storeA hL ?_ | refine storeO hL ?_); (clear hL; intro _ hL)) | ((with_reducible refine wpA_lit rfl _ _ _ rfl ?_); first | refine litA1 hL ?_ | refine litA2 hL ?_) | ((with_reducible refine wpA_append rfl _ _ _ rfl (.slice _ _ _) rfl ?_); intro vq hvq; simp [go_sem] at hvq; subst hvq; refine appendA hL ?_; clear hL; intro _ _ _ hL; try dsimp only at hL) | ((with_reducible refine wpA_make rfl _ _ _ rfl _ rfl rfl ?_); refine makeA hL ?_))
    go_ret
    exact ⟨_, rfl, hL.below, by rw [HR.out, if_pos (.inr (.inl g3))]; exact runs_nil _⟩
  have d3 : decide ((j : Int) - dy < 0) = false := by simp; omega
  by_cases g4 : H ≤ (j : Int) - dy
  · have d4 : decide (H ≤ (j : Int) - dy) = true := by simp [g4]
    go_enter Try.func63, Try.ntmps63
    go_wp2_with (first | ((clear hL; with_reducible intro _ _ hL)) | (with_reducible refine wpC_alloc rfl _ rfl _ _ inferInstance hL ?_) | (with_reducible first | refine wpB_agg rfl _ _ _ rfl rfl hL ?_ | refine wpB_one rfl _ _ (.int _ _) rfl rfl rfl hL ?_ | refine wpB_one rfl _ _ (.slice _ _ _) rfl rfl rfl hL ?_ | refine wpB_one rfl _ _ (.bool _) rfl rfl rfl hL ?_ | refine wpB_one rfl _ _ (.pointer _) rfl rfl rfl hL ?_ | refine wpB_one rfl _ _ (.func _ _ _) rfl rfl rfl hL ?_) | (with_reducible first | refine wpH_max rfl _ _ _ _ rfl _ _ rfl rfl ?_ | refine wpH_min rfl _ _ _ _ rfl _ _ rfl rfl ?_) | ((with_reducible refine wpA_load rfl _ _ rfl _ rfl ?_); first | refine loadA hL ?_ | refine loadR hL ?_ | refine loadC hL ?_ | refine loadD ?_ | refine loadE hL ?_ | refine loadF ?_) | ((with_reducible refine wpA_index rfl _ _ _ rfl _ rfl _ rfl ?_); first | (refine indexA ?_; try rw [Int.toNat_natCast]) | refine indexC ?_) | ((with_reducible refine wpA_store rfl _ _ _ rfl _ rfl (.agg _) rfl ?_); refine storeR hL ?_; clear hL; intro _ hL) | ((with_reducible first | refine wpA_store rfl _ _ _ rfl _ rfl (.int _ _) rfl ?_ | refine wpA_store rfl _ _ _ rfl _ rfl (.slice _ _ _) rfl ?_ | refine wpA_store rfl _ _ _ rfl _ rfl (.bool _) rfl ?_ | refine wpA_store rfl _ _ _ rfl _ rfl (.pointer _) rfl ?_ | refine wpA_store rfl _ _ _ rfl _ rfl (.func _ _ _) rfl ?_); (first | refine storeA hL ?_ | refine storeO hL ?_); (clear hL; intro _ hL)) | ((with_reducible refine wpA_lit rfl _ _ _ rfl ?_); first | refine litA1 hL ?_ | refine litA2 hL ?_) | ((with_reducible refine wpA_append rfl _ _ _ rfl (.slice _ _ _) rfl ?_); intro vq hvq; simp [go_sem] at hvq; subst hvq; refine appendA hL ?_; clear hL; intro _ _ _ hL; try dsimp only at hL) | ((with_reducible refine wpA_make rfl _ _ _ rfl _ rfl rfl ?_); refine makeA hL ?_))
    go_ret
    exact ⟨_, rfl, hL.below, by rw [HR.out, if_pos (.inr (.inr g4))]; exact runs_nil _⟩
  have d4 : decide (H ≤ (j : Int) - dy) = false := by simp; omega
  have hn : ¬ ((dy ≤ -H ∨ H ≤ dy) ∨ ((j : Int) - dy < 0 ∨ H ≤ (j : Int) - dy)) := by
    rintro ((h | h) | (h | h)) <;> omega
  rw [if_neg hn] at HR
  clear hn
  obtain ⟨m, hm⟩ := Int.eq_ofNat_of_zero_le (show 0 ≤ (j : Int) - dy by omega)
  have hml : m < ra.length := by omega
  rw [show ((j : Int) - dy).toNat = m by omega] at HR
  obtain ⟨xa, oa, rfl, va, na, vca, hca, hra⟩ := Hea.out m hml
  generalize ra.getD m [] = la at *
  have Hra := Lib.hid hra; clear hra
  have hj1 : (j : Int) - dy < (ra.length : Int) := by omega
  have Hm := Lib.hid (show ((j : Int) - dy).toNat = m by omega)
  have hca2 : w.cell? ⟨xa, oa + ((j : Int) - dy).toNat, none⟩ = some (.slice va na vca) := by rw [Hm.out]; exact hca
  clear hm hml hca
  have hwr : IntKind.i64.wrap ((j : Int) - dy) = (j : Int) - dy := by rw [IntKind.wrap_i64]; omega
  have hj0 : dy ≤ (j : Int) := by omega
  go_enter Try.func63, Try.ntmps63
  go_wp2_with (first | ((clear hL; with_reducible intro _ _ hL)) | (with_reducible refine wpC_alloc rfl _ rfl _ _ inferInstance hL ?_) | (with_reducible first | refine wpB_agg rfl _ _ _ rfl rfl hL ?_ | refine wpB_one rfl _ _ (.int _ _) rfl rfl rfl hL ?_ | refine wpB_one rfl _ _ (.slice _ _ _) rfl rfl rfl hL ?_ | refine wpB_one rfl _ _ (.bool _) rfl rfl rfl hL ?_ | refine wpB_one rfl _ _ (.pointer _) rfl rfl rfl hL ?_ | refine wpB_one rfl _ _ (.func _ _ _) rfl rfl rfl hL ?_) | (with_reducible first | refine wpH_max rfl _ _ _ _ rfl _ _ rfl rfl ?_ | refine wpH_min rfl _ _ _ _ rfl _ _ rfl rfl ?_) | ((with_reducible refine wpA_load rfl _ _ rfl _ rfl ?_); first | refine loadA hL ?_ | refine loadR hL ?_ | refine loadC hL ?_ | refine loadD ?_ | refine loadE hL ?_ | refine loadF ?_) | ((with_reducible refine wpA_index rfl _ _ _ rfl _ rfl _ rfl ?_); first | (refine indexA ?_; try rw [Int.toNat_natCast]) | refine indexC ?_) | ((with_reducible refine wpA_store rfl _ _ _ rfl _ rfl (.agg _) rfl ?_); refine storeR hL ?_; clear hL; intro _ hL) | ((with_reducible first | refine wpA_store rfl _ _ _ rfl _ rfl (.int _ _) rfl ?_ | refine wpA_store rfl _ _ _ rfl _ rfl (.slice _ _ _) rfl ?_ | refine wpA_store rfl _ _ _ rfl _ rfl (.bool _) rfl ?_ | refine wpA_store rfl _ _ _ rfl _ rfl (.pointer _) rfl ?_ | refine wpA_store rfl _ _ _ rfl _ rfl (.func _ _ _) rfl ?_); (first | refine storeA hL ?_ | refine storeO hL ?_); (clear hL; intro _ hL)) | ((with_reducible refine wpA_lit rfl _ _ _ rfl ?_); first | refine litA1 hL ?_ | refine litA2 hL ?_) | ((with_reducible refine wpA_append rfl _ _ _ rfl (.slice _ _ _) rfl ?_); intro vq hvq; simp [go_sem] at hvq; subst hvq; refine appendA hL ?_; clear hL; intro _ _ _ hL; try dsimp only at hL) | ((with_reducible refine wpA_make rfl _ _ _ rfl _ rfl rfl ?_); refine makeA hL ?_))
  replace hL := hL.drew
  go_region_held3 (fun w' => w'.cell? ⟨bd, 0, none⟩ = some (.int .i64 dy) ∧ w'.cell? ⟨ba, 0, none⟩ = some (.int .i64 W) ∧ w'.cell? ⟨ba, 2, none⟩ = some (.slice (some ⟨xa, oa, none⟩) ra.length ca) ∧ w'.cell? ⟨bx, 0, none⟩ = some (.int .i64 dx) ∧ w'.cell? ⟨xa, oa + ((j : Int) - dy).toNat, none⟩ = some (.slice va na vca))
    (first | go_keep | exact ⟨hL.old h0, hL.old h1, hL.old h3, hL.old h4, hL.old hca2⟩)
    ((go_at_call 64; ((with_reducible refine (spanShift_calls _ _ _ (Hra.out.hold hL) _ _).mono ?_); rintro e w2 ⟨v, rfl, hb, hf⟩; replace hL := hL.callF hb hf; clear hb)))
  go_wp2
  go_ret
  exact ⟨v, rfl, hL.below, by rw [HR.out]; exact hL.fact0⟩

set_option maxHeartbeats 1000000 in
theorem regShift_calls (w : World) (v : Value) (R : Reg) (hv : RegAt w v R) (dx dy : Int) :
    Calls Try.prog 31 #[v, .int .i64 dx, .int .i64 dy] w (RegOut (oneReg R (shiftRow R.rows R.W R.H dx dy)) (oneErr R) w) := by
  have Hv := Lib.hid hv
  obtain ⟨xa, na, ca, rfl, hsa⟩ := hv.shape
  clear hv
  have Hsa := Lib.hid hsa; clear hsa
  have hL := Holds.start w
  have n1 : True := trivial; have n2 : True := trivial; have n3 : True := trivial; have n4 : True := trivial; have n5 : True := trivial; have n6 : True := trivial
  go_enter Try.func31, Try.ntmps31
  go_wp2_with (first | (first | (clear hL n1; with_reducible intro b1 w1 hL) | (clear hL n2; with_reducible intro b2 w2 hL) | (clear hL n3; with_reducible intro b3 w3 hL) | (clear hL n4; with_reducible intro b4 w4 hL) | (clear hL n5; with_reducible intro b5 w5 hL) | (clear hL n6; with_reducible intro b6 w6 hL) | (clear hL; with_reducible intro _ _ hL)) | (with_reducible refine wpC_alloc rfl _ rfl _ _ inferInstance hL ?_) | (with_reducible first | refine wpB_agg rfl _ _ _ rfl rfl hL ?_ | refine wpB_one rfl _ _ (.int _ _) rfl rfl rfl hL ?_ | refine wpB_one rfl _ _ (.slice _ _ _) rfl rfl rfl hL ?_ | refine wpB_one rfl _ _ (.bool _) rfl rfl rfl hL ?_ | refine wpB_one rfl _ _ (.pointer _) rfl rfl rfl hL ?_ | refine wpB_one rfl _ _ (.func _ _ _) rfl rfl rfl hL ?_) | (with_reducible first | refine wpH_max rfl _ _ _ _ rfl _ _ rfl rfl ?_ | refine wpH_min rfl _ _ _ _ rfl _ _ rfl rfl ?_) | ((with_reducible refine wpA_load rfl _ _ rfl _ rfl ?_); first | refine loadA hL ?_ | refine loadR hL ?_ | refine loadC hL ?_ | refine loadD ?_ | refine loadE hL ?_ | refine loadF ?_) | ((with_reducible refine wpA_index rfl _ _ _ rfl _ rfl _ rfl ?_); first | (refine indexA ?_; try rw [Int.toNat_natCast]) | refine indexC ?_) | ((with_reducible refine wpA_store rfl _ _ _ rfl _ rfl (.agg _) rfl ?_); refine storeR hL ?_; clear hL; intro _ hL) | ((with_reducible first | refine wpA_store rfl _ _ _ rfl _ rfl (.int _ _) rfl ?_ | refine wpA_store rfl _ _ _ rfl _ rfl (.slice _ _ _) rfl ?_ | refine wpA_store rfl _ _ _ rfl _ rfl (.bool _) rfl ?_ | refine wpA_store rfl _ _ _ rfl _ rfl (.pointer _) rfl ?_ | refine wpA_store rfl _ _ _ rfl _ rfl (.func _ _ _) rfl ?_); (first | refine storeA hL ?_ | refine storeO hL ?_); (clear hL; intro _ hL)) | ((with_reducible refine wpA_lit rfl _ _ _ rfl ?_); first | refine litA1 hL ?_ | refine litA2 hL ?_) | ((with_reducible refine wpA_append rfl _ _ _ rfl (.slice _ _ _) rfl ?_); intro vq hvq; simp [go_sem] at hvq; subst hvq; refine appendA hL ?_; clear hL; intro _ _ _ hL; try dsimp only at hL) | ((with_reducible refine wpA_make rfl _ _ _ rfl _ rfl rfl ?_); refine makeA hL ?_))
  have c0 := hL.cell (o := 0) (.there .here)
  have c1 := hL.cell (o := 0) (.there (.there (.there .here)))
  have c2 := hL.cell (o := 1) (.there (.there (.there .here)))
  have c3 := hL.cell (o := 2) (.there (.there (.there .here)))
  have c4 := hL.cell (o := 0) (.there (.there .here))
  simp only [List.getElem?_toArray, List.getElem?_cons_zero, List.getElem?_cons_succ] at c0 c1 c2 c3 c4
  refine (one_calls _ _ R (Hv.out.hold hL) _ _ (shiftRow R.rows R.W R.H dx dy) (fun j => #[.int .i64 j, .pointer (some ⟨b3, 0, none⟩), .pointer (some ⟨b1, 0, none⟩), .pointer (some ⟨b2, 0, none⟩)]) (fun j => rfl) (fun hm j hj w1 hb1 => ?_) (fun j w => ?_)).mono ?_
  · have l := mayReg_len hm
    have l2 := l.2.1
    simp [isSide] at l2
    exact shiftRow_calls w1 j b3 b1 b2 R.W R.H dx dy _ R.rows (cell_later hb1 c0) (cell_later hb1 c1) (cell_later hb1 c2) (cell_later hb1 c3) (cell_later hb1 c4) (Hsa.out.below (Below.from hL hb1)) l.2.2 l2.1 l2.2 hj
  · kernel_rfl
  rintro e _ ⟨v, rfl, hb, hf⟩
  obtain ⟨sa, sn, sc, rfl, _⟩ := RegAt.shape hf.now
  replace hL := hL.callF hb hf
  clear hb hf c0 c1 c2 c3 c4
  go_wp2_with (first | (first | (clear hL n1; with_reducible intro b1 w1 hL) | (clear hL n2; with_reducible intro b2 w2 hL) | (clear hL n3; with_reducible intro b3 w3 hL) | (clear hL n4; with_reducible intro b4 w4 hL) | (clear hL n5; with_reducible intro b5 w5 hL) | (clear hL n6; with_reducible intro b6 w6 hL) | (clear hL; with_reducible intro _ _ hL)) | (with_reducible refine wpC_alloc rfl _ rfl _ _ inferInstance hL ?_) | (with_reducible first | refine wpB_agg rfl _ _ _ rfl rfl hL ?_ | refine wpB_one rfl _ _ (.int _ _) rfl rfl rfl hL ?_ | refine wpB_one rfl _ _ (.slice _ _ _) rfl rfl rfl hL ?_ | refine wpB_one rfl _ _ (.bool _) rfl rfl rfl hL ?_ | refine wpB_one rfl _ _ (.pointer _) rfl rfl rfl hL ?_ | refine wpB_one rfl _ _ (.func _ _ _) rfl rfl rfl hL ?_) | (with_reducible first | refine wpH_max rfl _ _ _ _ rfl _ _ rfl rfl ?_ | refine wpH_min rfl _ _ _ _ rfl _ _ rfl rfl ?_) | ((with_reducible refine wpA_load rfl _ _ rfl _ rfl ?_); first | refine loadA hL ?_ | refine loadR hL ?_ | refine loadC hL ?_ | refine loadD ?_ | refine loadE hL ?_ | refine loadF ?_) | ((with_reducible refine wpA_index rfl _ _ _ rfl _ rfl _ rfl ?_); first | (refine indexA ?_; try rw [Int.toNat_natCast]) | refine indexC ?_) | ((with_reducible refine wpA_store rfl _ _ _ rfl _ rfl (.agg _) rfl ?_); refine storeR hL ?_; clear hL; intro _ hL) | ((with_reducible first | refine wpA_store rfl _ _ _ rfl _ rfl (.int _ _) rfl ?_ | refine wpA_store rfl _ _ _ rfl _ rfl (.slice _ _ _) rfl ?_ | refine wpA_store rfl _ _ _ rfl _ rfl (.bool _) rfl ?_ | refine wpA_store rfl _ _ _ rfl _ rfl (.pointer _) rfl ?_ | refine wpA_store rfl _ _ _ rfl _ rfl (.func _ _ _) rfl ?_); (first | refine storeA hL ?_ | refine storeO hL ?_); (clear hL; intro _ hL)) | ((with_reducible refine wpA_lit rfl _ _ _ rfl ?_); first | refine litA1 hL ?_ | refine litA2 hL ?_) | ((with_reducible refine wpA_append rfl _ _ _ rfl (.slice _ _ _) rfl ?_); intro vq hvq; simp [go_sem] at hvq; subst hvq; refine appendA hL ?_; clear hL; intro _ _ _ hL; try dsimp only at hL) | ((with_reducible refine wpA_make rfl _ _ _ rfl _ rfl rfl ?_); refine makeA hL ?_))
  exact bodyPost_ret (results_row2 inferInstance rfl _ hL b4 rfl _ _ .here rfl) rfl ⟨_, rfl, hL.below, hL.fresh⟩

set_option maxRecDepth 100000 in
set_option maxHeartbeats 2000000 in
theorem regSame_calls (w : World) (va vb : Value) (A B : Reg) (ha : RegAt w va A) (hb : RegAt w vb B) :
    Calls Try.prog 33 #[va, vb] w fun e w' => e = .returned (.bool (sameReg A B)) ∧ Below w.heap.size w w' := by
  obtain ⟨sa, na, ca, rfl, hsa⟩ := ha.shape
  obtain ⟨sb, nb, cb, rfl, hsb⟩ := hb.shape
  clear ha hb
  obtain ⟨WA, HA, rA⟩ := A
  obtain ⟨WB, HB, rB⟩ := B
  simp only at hsa hsb ⊢
  obtain ⟨a, ca', ea, hla, hma, hea⟩ := hsa.parts
  obtain ⟨b, cb', eb, hlb, hmb, heb⟩ := hsb.parts
  cases ea
  cases eb
  clear hsa hsb
  unfold maxLen at hma hmb
  have Hea := Lib.hid hea; clear hea
  have Heb := Lib.hid heb; clear heb
  have hL := Holds.start w
  cases q1 : (WA != WB) with
  | true =>
    have HR := Lib.hid (show sameReg ⟨WA, HA, rA⟩ ⟨WB, HB, rB⟩ = false by simp at q1; simp [sameReg, q1])
    have n1 : True := trivial; have n2 : True := trivial
    go_enter Try.func33, Try.ntmps33
    go_wp2_with (first | (first | (clear hL n1; with_reducible intro b1 w1 hL) | (clear hL n2; with_reducible intro b2 w2 hL) | (clear hL; with_reducible intro _ _ hL)) | (with_reducible refine wpC_alloc rfl _ rfl _ _ inferInstance hL ?_) | (with_reducible first | refine wpB_agg rfl _ _ _ rfl rfl hL ?_ | refine wpB_one rfl _ _ (.int _ _) rfl rfl rfl hL ?_ | refine wpB_one rfl _ _ (.slice _ _ _) rfl rfl rfl hL ?_ | refine wpB_one rfl _ _ (.bool _) rfl rfl rfl hL ?_ | refine wpB_one rfl _ _ (.pointer _) rfl rfl rfl hL ?_ | refine wpB_one rfl _ _ (.func _ _ _) rfl rfl rfl hL ?_) | (with_reducible first | refine wpH_max rfl _ _ _ _ rfl _ _ rfl rfl ?_ | refine wpH_min rfl _ _ _ _ rfl _ _ rfl rfl ?_) | ((with_reducible refine wpA_load rfl _ _ rfl _ rfl ?_); first | refine loadA hL ?_ | refine loadR hL ?_ | refine loadC hL ?_ | refine loadD ?_ | refine loadE hL ?_ | refine loadF ?_) | ((with_reducible refine wpA_index rfl _ _ _ rfl _ rfl _ rfl ?_); first | (refine indexA ?_; try rw [Int.toNat_natCast]) | refine indexC ?_) | ((with_reducible refine wpA_store rfl _ _ _ rfl _ rfl (.agg _) rfl ?_); refine storeR hL ?_; clear hL; intro _ hL) | ((with_reducible first | refine wpA_store rfl _ _ _ rfl _ rfl (.int _ _) rfl ?_ | refine wpA_store rfl _ _ _ rfl _ rfl (.slice _ _ _) rfl ?_ | refine wpA_store rfl _ _ _ rfl _ rfl (.bool _) rfl ?_ | refine wpA_store rfl _ _ _ rfl _ rfl (.pointer _) rfl ?_ | refine wpA_store rfl _ _ _ rfl _ rfl (.func _ _ _) rfl ?_); (first | refine storeA hL ?_ | refine storeO hL ?_); (clear hL; intro _ hL)) | ((with_reducible refine wpA_lit rfl _ _ _ rfl ?_); first | refine litA1 hL ?_ | refine litA2 hL ?_) | ((with_reducible refine wpA_append rfl _ _ _ rfl (.slice _ _ _) rfl ?_); intro vq hvq; simp [go_sem] at hvq; subst hvq; refine appendA hL ?_; clear hL; intro _ _ _ hL; try dsimp only at hL) | ((with_reducible refine wpA_make rfl _ _ _ rfl _ rfl rfl ?_); refine makeA hL ?_))
    go_ret
    exact ⟨ret_bool HR.out.symm, hL.below⟩
  | false =>
    cases q2 : (HA != HB) with
    | true =>
      have HR := Lib.hid (show sameReg ⟨WA, HA, rA⟩ ⟨WB, HB, rB⟩ = false by simp at q2; simp [sameReg, q2])
      have n1 : True := trivial; have n2 : True := trivial
      go_enter Try.func33, Try.ntmps33
      go_wp2_with (first | (first | (clear hL n1; with_reducible intro b1 w1 hL) | (clear hL n2; with_reducible intro b2 w2 hL) | (clear hL; with_reducible intro _ _ hL)) | (with_reducible refine wpC_alloc rfl _ rfl _ _ inferInstance hL ?_) | (with_reducible first | refine wpB_agg rfl _ _ _ rfl rfl hL ?_ | refine wpB_one rfl _ _ (.int _ _) rfl rfl rfl hL ?_ | refine wpB_one rfl _ _ (.slice _ _ _) rfl rfl rfl hL ?_ | refine wpB_one rfl _ _ (.bool _) rfl rfl rfl hL ?_ | refine wpB_one rfl _ _ (.pointer _) rfl rfl rfl hL ?_ | refine wpB_one rfl _ _ (.func _ _ _) rfl rfl rfl hL ?_) | (with_reducible first | refine wpH_max rfl _ _ _ _ rfl _ _ rfl rfl ?_ | refine wpH_min rfl _ _ _ _ rfl _ _ rfl rfl ?_) | ((with_reducible refine wpA_load rfl _ _ rfl _ rfl ?_); first | refine loadA hL ?_ | refine loadR hL ?_ | refine loadC hL ?_ | refine loadD ?_ | refine loadE hL ?_ | refine loadF ?_) | ((with_reducible refine wpA_index rfl _ _ _ rfl _ rfl _ rfl ?_); first | (refine indexA ?_; try rw [Int.toNat_natCast]) | refine indexC ?_) | ((with_reducible refine wpA_store rfl _ _ _ rfl _ rfl (.agg _) rfl ?_); refine storeR hL ?_; clear hL; intro _ hL) | ((with_reducible first | refine wpA_store rfl _ _ _ rfl _ rfl (.int _ _) rfl ?_ | refine wpA_store rfl _ _ _ rfl _ rfl (.slice _ _ _) rfl ?_ | refine wpA_store rfl _ _ _ rfl _ rfl (.bool _) rfl ?_ | refine wpA_store rfl _ _ _ rfl _ rfl (.pointer _) rfl ?_ | refine wpA_store rfl _ _ _ rfl _ rfl (.func _ _ _) rfl ?_); (first | refine storeA hL ?_ | refine storeO hL ?_); (clear hL; intro _ hL)) | ((with_reducible refine wpA_lit rfl _ _ _ rfl ?_); first | refine litA1 hL ?_ | refine litA2 hL ?_) | ((with_reducible refine wpA_append rfl _ _ _ rfl (.slice _ _ _) rfl ?_); intro vq hvq; simp [go_sem] at hvq; subst hvq; refine appendA hL ?_; clear hL; intro _ _ _ hL; try dsimp only at hL) | ((with_reducible refine wpA_make rfl _ _ _ rfl _ rfl rfl ?_); refine makeA hL ?_))
      go_ret
      exact ⟨ret_bool HR.out.symm, hL.below⟩
    | false =>
      have HR := Lib.hid (show sameReg ⟨WA, HA, rA⟩ ⟨WB, HB, rB⟩ = decide (rA = rB) by simp at q1 q2; simp [sameReg, q1, q2])
      cases hne : ((rA.length : Int) != (rB.length : Int)) with
      | true =>
        have HR2 := Lib.hid (show decide (rA = rB) = false by
          simp at hne ⊢; intro e; exact hne (by rw [e]))
        have n1 : True := trivial; have n2 : True := trivial
        go_enter Try.func33, Try.ntmps33
        go_wp2_with (first | (first | (clear hL n1; with_reducible intro b1 w1 hL) | (clear hL n2; with_reducible intro b2 w2 hL) | (clear hL; with_reducible intro _ _ hL)) | (with_reducible refine wpC_alloc rfl _ rfl _ _ inferInstance hL ?_) | (with_reducible first | refine wpB_agg rfl _ _ _ rfl rfl hL ?_ | refine wpB_one rfl _ _ (.int _ _) rfl rfl rfl hL ?_ | refine wpB_one rfl _ _ (.slice _ _ _) rfl rfl rfl hL ?_ | refine wpB_one rfl _ _ (.bool _) rfl rfl rfl hL ?_ | refine wpB_one rfl _ _ (.pointer _) rfl rfl rfl hL ?_ | refine wpB_one rfl _ _ (.func _ _ _) rfl rfl rfl hL ?_) | (with_reducible first | refine wpH_max rfl _ _ _ _ rfl _ _ rfl rfl ?_ | refine wpH_min rfl _ _ _ _ rfl _ _ rfl rfl ?_) | ((with_reducible refine wpA_load rfl _ _ rfl _ rfl ?_); first | refine loadA hL ?_ | refine loadR hL ?_ | refine loadC hL ?_ | refine loadD ?_ | refine loadE hL ?_ | refine loadF ?_) | ((with_reducible refine wpA_index rfl _ _ _ rfl _ rfl _ rfl ?_); first | (refine indexA ?_; try rw [Int.toNat_natCast]) | refine indexC ?_) | ((with_reducible refine wpA_store rfl _ _ _ rfl _ rfl (.agg _) rfl ?_); refine storeR hL ?_; clear hL; intro _ hL) | ((with_reducible first | refine wpA_store rfl _ _ _ rfl _ rfl (.int _ _) rfl ?_ | refine wpA_store rfl _ _ _ rfl _ rfl (.slice _ _ _) rfl ?_ | refine wpA_store rfl _ _ _ rfl _ rfl (.bool _) rfl ?_ | refine wpA_store rfl _ _ _ rfl _ rfl (.pointer _) rfl ?_ | refine wpA_store rfl _ _ _ rfl _ rfl (.func _ _ _) rfl ?_); (first | refine storeA hL ?_ | refine storeO hL ?_); (clear hL; intro _ hL)) | ((with_reducible refine wpA_lit rfl _ _ _ rfl ?_); first | refine litA1 hL ?_ | refine litA2 hL ?_) | ((with_reducible refine wpA_append rfl _ _ _ rfl (.slice _ _ _) rfl ?_); intro vq hvq; simp [go_sem] at hvq; subst hvq; refine appendA hL ?_; clear hL; intro _ _ _ hL; try dsimp only at hL) | ((with_reducible refine wpA_make rfl _ _ _ rfl _ rfl rfl ?_); refine makeA hL ?_))
        go_ret
        exact ⟨ret_bool (by rw [HR.out, HR2.out]), hL.below⟩
      | false =>
        have Hlen := Lib.hid (show rA.length = rB.length by simp at hne; omega)
        have n1 : True := trivial; have n2 : True := trivial; have n3 : True := trivial; have n4 : True := trivial
        go_enter Try.func33, Try.ntmps33
        go_wp2_with (first | (first | (clear hL n1; with_reducible intro b1 w1 hL) | (clear hL n2; with_reducible intro b2 w2 hL) | (clear hL n3; with_reducible intro b3 w3 hL) | (clear hL n4; with_reducible intro b4 w4 hL) | (clear hL; with_reducible intro _ _ hL)) | (with_reducible refine wpC_alloc rfl _ rfl _ _ inferInstance hL ?_) | (with_reducible first | refine wpB_agg rfl _ _ _ rfl rfl hL ?_ | refine wpB_one rfl _ _ (.int _ _) rfl rfl rfl hL ?_ | refine wpB_one rfl _ _ (.slice _ _ _) rfl rfl rfl hL ?_ | refine wpB_one rfl _ _ (.bool _) rfl rfl rfl hL ?_ | refine wpB_one rfl _ _ (.pointer _) rfl rfl rfl hL ?_ | refine wpB_one rfl _ _ (.func _ _ _) rfl rfl rfl hL ?_) | (with_reducible first | refine wpH_max rfl _ _ _ _ rfl _ _ rfl rfl ?_ | refine wpH_min rfl _ _ _ _ rfl _ _ rfl rfl ?_) | ((with_reducible refine wpA_load rfl _ _ rfl _ rfl ?_); first | refine loadA hL ?_ | refine loadR hL ?_ | refine loadC hL ?_ | refine loadD ?_ | refine loadE hL ?_ | refine loadF ?_) | ((with_reducible refine wpA_index rfl _ _ _ rfl _ rfl _ rfl ?_); first | (refine indexA ?_; try rw [Int.toNat_natCast]) | refine indexC ?_) | ((with_reducible refine wpA_store rfl _ _ _ rfl _ rfl (.agg _) rfl ?_); refine storeR hL ?_; clear hL; intro _ hL) | ((with_reducible first | refine wpA_store rfl _ _ _ rfl _ rfl (.int _ _) rfl ?_ | refine wpA_store rfl _ _ _ rfl _ rfl (.slice _ _ _) rfl ?_ | refine wpA_store rfl _ _ _ rfl _ rfl (.bool _) rfl ?_ | refine wpA_store rfl _ _ _ rfl _ rfl (.pointer _) rfl ?_ | refine wpA_store rfl _ _ _ rfl _ rfl (.func _ _ _) rfl ?_); (first | refine storeA hL ?_ | refine storeO hL ?_); (clear hL; intro _ hL)) | ((with_reducible refine wpA_lit rfl _ _ _ rfl ?_); first | refine litA1 hL ?_ | refine litA2 hL ?_) | ((with_reducible refine wpA_append rfl _ _ _ rfl (.slice _ _ _) rfl ?_); intro vq hvq; simp [go_sem] at hvq; subst hvq; refine appendA hL ?_; clear hL; intro _ _ _ hL; try dsimp only at hL) | ((with_reducible refine wpA_make rfl _ _ _ rfl _ rfl rfl ?_); refine makeA hL ?_))
        go_loopw [32] (fun s32 wr => ∃ k : Nat, k ≤ rA.length ∧ s32 = .int .i64 k ∧ (∀ j, j < k → rA.getD j [] = rB.getD j []) ∧ Holds w wr [blk b2 #[.int .i64 WB, .int .i64 HB, .slice sb rB.length cb] 37, blk b1 #[.int .i64 WA, .int .i64 HA, .slice sa rA.length ca] 37] [])
          (fun s32 wr => rA.length - (intOf s32).toNat)
        case atStart => exact ⟨0, by omega, rfl, fun j hj => by omega, hL⟩
        case round =>
          clear hL
          obtain ⟨k, hk, rfl, hall, hL⟩ := hrel
          have Hall := Lib.hid hall; clear hall
          by_cases hlt : k < rA.length
          · have hltb : k < rB.length := by have := Hlen.out; omega
            obtain ⟨xa, oa, rfl, ya, na, za, hca, hra⟩ := Hea.out k hlt
            obtain ⟨xb, ob, rfl, yb, nb, zb, hcb, hrb⟩ := Heb.out k hltb
            have Hfin := Lib.hid (show ¬ rA.getD k [] = rB.getD k [] → decide (rA = rB) = false by
              intro h; simp only [decide_eq_false_iff_not]; intro e; exact h (by rw [e]))
            generalize hA : rA.getD k [] = A at *
            generalize hB : rB.getD k [] = B at *
            have HAe := Lib.hid hA; clear hA
            have HBe := Lib.hid hB; clear hB
            obtain ⟨pa, qa, ea, g1, g2, hpa⟩ := hra.parts
            obtain ⟨pb, qb, eb, g3, g4, hpb⟩ := hrb.parts
            cases ea
            cases eb
            unfold maxLen at g2 g4
            clear hra hrb
            have Hpa := Lib.hid hpa; clear hpa
            have Hpb := Lib.hid hpb; clear hpb
            have c1 := hL.cell (o := 2) (.there .here)
            have c2 := hL.cell (o := 2) .here
            simp only [List.getElem?_toArray, List.getElem?_cons_zero, List.getElem?_cons_succ] at c1 c2
            have a0 := hL.old hca
            have b0 := hL.old hcb
            cases hnl : ((A.length : Int) != (B.length : Int)) with
            | true =>
              have HR2 := Lib.hid (Hfin.out (by simp at hnl; intro e; exact hnl (by rw [e])))
              go_wp2_with (first | (first | (clear hL n1; with_reducible intro b1 w1 hL) | (clear hL n2; with_reducible intro b2 w2 hL) | (clear hL n3; with_reducible intro b3 w3 hL) | (clear hL n4; with_reducible intro b4 w4 hL) | (clear hL; with_reducible intro _ _ hL)) | (with_reducible refine wpC_alloc rfl _ rfl _ _ inferInstance hL ?_) | (with_reducible first | refine wpB_agg rfl _ _ _ rfl rfl hL ?_ | refine wpB_one rfl _ _ (.int _ _) rfl rfl rfl hL ?_ | refine wpB_one rfl _ _ (.slice _ _ _) rfl rfl rfl hL ?_ | refine wpB_one rfl _ _ (.bool _) rfl rfl rfl hL ?_ | refine wpB_one rfl _ _ (.pointer _) rfl rfl rfl hL ?_ | refine wpB_one rfl _ _ (.func _ _ _) rfl rfl rfl hL ?_) | (with_reducible first | refine wpH_max rfl _ _ _ _ rfl _ _ rfl rfl ?_ | refine wpH_min rfl _ _ _ _ rfl _ _ rfl rfl ?_) | ((with_reducible refine wpA_load rfl _ _ rfl _ rfl ?_); first | refine loadA hL ?_ | refine loadR hL ?_ | refine loadC hL ?_ | refine loadD ?_ | refine loadE hL ?_ | refine loadF ?_) | ((with_reducible refine wpA_index rfl _ _ _ rfl _ rfl _ rfl ?_); first | (refine indexA ?_; try rw [Int.toNat_natCast]) | refine indexC ?_) | ((with_reducible refine wpA_store rfl _ _ _ rfl _ rfl (.agg _) rfl ?_); refine storeR hL ?_; clear hL; intro _ hL) | ((with_reducible first | refine wpA_store rfl _ _ _ rfl _ rfl (.int _ _) rfl ?_ | refine wpA_store rfl _ _ _ rfl _ rfl (.slice _ _ _) rfl ?_ | refine wpA_store rfl _ _ _ rfl _ rfl (.bool _) rfl ?_ | refine wpA_store rfl _ _ _ rfl _ rfl (.pointer _) rfl ?_ | refine wpA_store rfl _ _ _ rfl _ rfl (.func _ _ _) rfl ?_); (first | refine storeA hL ?_ | refine storeO hL ?_); (clear hL; intro _ hL)) | ((with_reducible refine wpA_lit rfl _ _ _ rfl ?_); first | refine litA1 hL ?_ | refine litA2 hL ?_) | ((with_reducible refine wpA_append rfl _ _ _ rfl (.slice _ _ _) rfl ?_); intro vq hvq; simp [go_sem] at hvq; subst hvq; refine appendA hL ?_; clear hL; intro _ _ _ hL; try dsimp only at hL) | ((with_reducible refine wpA_make rfl _ _ _ rfl _ rfl rfl ?_); refine makeA hL ?_))
              replace hL := hL.drew
              go_region_held3 (fun w' => w'.cell? ⟨b1, 2, none⟩ = some (.slice (some ⟨xa, oa, none⟩) rA.length ca) ∧ w'.cell? ⟨b2, 2, none⟩ = some (.slice (some ⟨xb, ob, none⟩) rB.length cb) ∧ w'.cell? ⟨xa, oa + k, none⟩ = some (.slice ya A.length za) ∧ w'.cell? ⟨xb, ob + k, none⟩ = some (.slice yb B.length zb)) (go_keep) (fail)
              go_wp2
              go_ret
              exact ⟨ret_bool (by rw [HR.out, HR2.out]), hL.below⟩
            | false =>
              have Hl2 := Lib.hid (show A.length = B.length by simp at hnl; omega)
              go_wp2_with (first | (first | (clear hL n1; with_reducible intro b1 w1 hL) | (clear hL n2; with_reducible intro b2 w2 hL) | (clear hL n3; with_reducible intro b3 w3 hL) | (clear hL n4; with_reducible intro b4 w4 hL) | (clear hL; with_reducible intro _ _ hL)) | (with_reducible refine wpC_alloc rfl _ rfl _ _ inferInstance hL ?_) | (with_reducible first | refine wpB_agg rfl _ _ _ rfl rfl hL ?_ | refine wpB_one rfl _ _ (.int _ _) rfl rfl rfl hL ?_ | refine wpB_one rfl _ _ (.slice _ _ _) rfl rfl rfl hL ?_ | refine wpB_one rfl _ _ (.bool _) rfl rfl rfl hL ?_ | refine wpB_one rfl _ _ (.pointer _) rfl rfl rfl hL ?_ | refine wpB_one rfl _ _ (.func _ _ _) rfl rfl rfl hL ?_) | (with_reducible first | refine wpH_max rfl _ _ _ _ rfl _ _ rfl rfl ?_ | refine wpH_min rfl _ _ _ _ rfl _ _ rfl rfl ?_) | ((with_reducible refine wpA_load rfl _ _ rfl _ rfl ?_); first | refine loadA hL ?_ | refine loadR hL ?_ | refine loadC hL ?_ | refine loadD ?_ | refine loadE hL ?_ | refine loadF ?_) | ((with_reducible refine wpA_index rfl _ _ _ rfl _ rfl _ rfl ?_); first | (refine indexA ?_; try rw [Int.toNat_natCast]) | refine indexC ?_) | ((with_reducible refine wpA_store rfl _ _ _ rfl _ rfl (.agg _) rfl ?_); refine storeR hL ?_; clear hL; intro _ hL) | ((with_reducible first | refine wpA_store rfl _ _ _ rfl _ rfl (.int _ _) rfl ?_ | refine wpA_store rfl _ _ _ rfl _ rfl (.slice _ _ _) rfl ?_ | refine wpA_store rfl _ _ _ rfl _ rfl (.bool _) rfl ?_ | refine wpA_store rfl _ _ _ rfl _ rfl (.pointer _) rfl ?_ | refine wpA_store rfl _ _ _ rfl _ rfl (.func _ _ _) rfl ?_); (first | refine storeA hL ?_ | refine storeO hL ?_); (clear hL; intro _ hL)) | ((with_reducible refine wpA_lit rfl _ _ _ rfl ?_); first | refine litA1 hL ?_ | refine litA2 hL ?_) | ((with_reducible refine wpA_append rfl _ _ _ rfl (.slice _ _ _) rfl ?_); intro vq hvq; simp [go_sem] at hvq; subst hvq; refine appendA hL ?_; clear hL; intro _ _ _ hL; try dsimp only at hL) | ((with_reducible refine wpA_make rfl _ _ _ rfl _ rfl rfl ?_); refine makeA hL ?_))
              replace hL := hL.drew
              go_region_held3 (fun w' => w'.cell? ⟨b1, 2, none⟩ = some (.slice (some ⟨xa, oa, none⟩) rA.length ca) ∧ w'.cell? ⟨b2, 2, none⟩ = some (.slice (some ⟨xb, ob, none⟩) rB.length cb) ∧ w'.cell? ⟨xa, oa + k, none⟩ = some (.slice ya A.length za) ∧ w'.cell? ⟨xb, ob + k, none⟩ = some (.slice yb B.length zb)) (go_keep) (fail)
              clear c1 c2 a0 b0
              go_wp2_with (first | (first | (clear hL n1; with_reducible intro b1 w1 hL) | (clear hL n2; with_reducible intro b2 w2 hL) | (clear hL n3; with_reducible intro b3 w3 hL) | (clear hL n4; with_reducible intro b4 w4 hL) | (clear hL; with_reducible intro _ _ hL)) | (with_reducible refine wpC_alloc rfl _ rfl _ _ inferInstance hL ?_) | (with_reducible first | refine wpB_agg rfl _ _ _ rfl rfl hL ?_ | refine wpB_one rfl _ _ (.int _ _) rfl rfl rfl hL ?_ | refine wpB_one rfl _ _ (.slice _ _ _) rfl rfl rfl hL ?_ | refine wpB_one rfl _ _ (.bool _) rfl rfl rfl hL ?_ | refine wpB_one rfl _ _ (.pointer _) rfl rfl rfl hL ?_ | refine wpB_one rfl _ _ (.func _ _ _) rfl rfl rfl hL ?_) | (with_reducible first | refine wpH_max rfl _ _ _ _ rfl _ _ rfl rfl ?_ | refine wpH_min rfl _ _ _ _ rfl _ _ rfl rfl ?_) | ((with_reducible refine wpA_load rfl _ _ rfl _ rfl ?_); first | refine loadA hL ?_ | refine loadR hL ?_ | refine loadC hL ?_ | refine loadD ?_ | refine loadE hL ?_ | refine loadF ?_) | ((with_reducible refine wpA_index rfl _ _ _ rfl _ rfl _ rfl ?_); first | (refine indexA ?_; try rw [Int.toNat_natCast]) | refine indexC ?_) | ((with_reducible refine wpA_store rfl _ _ _ rfl _ rfl (.agg _) rfl ?_); refine storeR hL ?_; clear hL; intro _ hL) | ((with_reducible first | refine wpA_store rfl _ _ _ rfl _ rfl (.int _ _) rfl ?_ | refine wpA_store rfl _ _ _ rfl _ rfl (.slice _ _ _) rfl ?_ | refine wpA_store rfl _ _ _ rfl _ rfl (.bool _) rfl ?_ | refine wpA_store rfl _ _ _ rfl _ rfl (.pointer _) rfl ?_ | refine wpA_store rfl _ _ _ rfl _ rfl (.func _ _ _) rfl ?_); (first | refine storeA hL ?_ | refine storeO hL ?_); (clear hL; intro _ hL)) | ((with_reducible refine wpA_lit rfl _ _ _ rfl ?_); first | refine litA1 hL ?_ | refine litA2 hL ?_) | ((with_reducible refine wpA_append rfl _ _ _ rfl (.slice _ _ _) rfl ?_); intro vq hvq; simp [go_sem] at hvq; subst hvq; refine appendA hL ?_; clear hL; intro _ _ _ hL; try dsimp only at hL) | ((with_reducible refine wpA_make rfl _ _ _ rfl _ rfl rfl ?_); refine makeA hL ?_))
              go_loopw [54] (fun s54 wr => ∃ m : Nat, m ≤ A.length ∧ s54 = .int .i64 m ∧ (∀ j, j < m → A.getD j (0, 0) = B.getD j (0, 0)) ∧ Holds w wr [blk b2 #[.int .i64 WB, .int .i64 HB, .slice (some ⟨xb, ob, none⟩) rB.length cb] 37, blk b1 #[.int .i64 WA, .int .i64 HA, .slice (some ⟨xa, oa, none⟩) rA.length ca] 37] [])
                (fun s54 wr => A.length - (intOf s54).toNat)
              case atStart => exact ⟨0, by omega, rfl, fun j hj => by omega, hL⟩
              case round =>
                clear hL
                obtain ⟨m, hm, rfl, hall2, hL⟩ := hrel
                have Hall2 := Lib.hid hall2; clear hall2
                by_cases hmt : m < A.length
                · have hmtb : m < B.length := by have := Hl2.out; omega
                  obtain ⟨ya, yao, rfl, hra⟩ := Hpa.out m hmt
                  obtain ⟨yb, yo, rfl, hrb⟩ := Hpb.out m hmtb
                  have Hfin2 := Lib.hid (show ¬ A.getD m (0, 0) = B.getD m (0, 0) → ¬ A = B by
                    intro h e; exact h (by rw [e]))
                  have Hext := Lib.hid (show A.getD m (0, 0) = B.getD m (0, 0) ↔ (A.getD m (0, 0)).1 = (B.getD m (0, 0)).1 ∧ (A.getD m (0, 0)).2 = (B.getD m (0, 0)).2 by
                    rw [Prod.ext_iff])
                  generalize hP : A.getD m (0, 0) = P at *
                  generalize hQ : B.getD m (0, 0) = Q at *
                  have HP := Lib.hid hP; clear hP
                  have HQ := Lib.hid hQ; clear hQ
                  obtain ⟨f1, t1⟩ := P
                  obtain ⟨f2, t2⟩ := Q
                  simp only at hra hrb Hext
                  cases hd : ((f1 == f2) && (t1 == t2)) with
                  | true =>
                    have hf : (f1 == f2) = true := by simp at hd; simp [hd.1]
                    have ht : (t1 == t2) = true := by simp at hd; simp [hd.2]
                    have Hd := Lib.hid hd; clear hd
                    go_wp2_with (first | (first | (clear hL n1; with_reducible intro b1 w1 hL) | (clear hL n2; with_reducible intro b2 w2 hL) | (clear hL n3; with_reducible intro b3 w3 hL) | (clear hL n4; with_reducible intro b4 w4 hL) | (clear hL; with_reducible intro _ _ hL)) | (with_reducible refine wpC_alloc rfl _ rfl _ _ inferInstance hL ?_) | (with_reducible first | refine wpB_agg rfl _ _ _ rfl rfl hL ?_ | refine wpB_one rfl _ _ (.int _ _) rfl rfl rfl hL ?_ | refine wpB_one rfl _ _ (.slice _ _ _) rfl rfl rfl hL ?_ | refine wpB_one rfl _ _ (.bool _) rfl rfl rfl hL ?_ | refine wpB_one rfl _ _ (.pointer _) rfl rfl rfl hL ?_ | refine wpB_one rfl _ _ (.func _ _ _) rfl rfl rfl hL ?_) | (with_reducible first | refine wpH_max rfl _ _ _ _ rfl _ _ rfl rfl ?_ | refine wpH_min rfl _ _ _ _ rfl _ _ rfl rfl ?_) | ((with_reducible refine wpA_load rfl _ _ rfl _ rfl ?_); first | refine loadA hL ?_ | refine loadR hL ?_ | refine loadC hL ?_ | refine loadD ?_ | refine loadE hL ?_ | refine loadF ?_) | ((with_reducible refine wpA_index rfl _ _ _ rfl _ rfl _ rfl ?_); first | (refine indexA ?_; try rw [Int.toNat_natCast]) | refine indexC ?_) | ((with_reducible refine wpA_store rfl _ _ _ rfl _ rfl (.agg _) rfl ?_); refine storeR hL ?_; clear hL; intro _ hL) | ((with_reducible first | refine wpA_store rfl _ _ _ rfl _ rfl (.int _ _) rfl ?_ | refine wpA_store rfl _ _ _ rfl _ rfl (.slice _ _ _) rfl ?_ | refine wpA_store rfl _ _ _ rfl _ rfl (.bool _) rfl ?_ | refine wpA_store rfl _ _ _ rfl _ rfl (.pointer _) rfl ?_ | refine wpA_store rfl _ _ _ rfl _ rfl (.func _ _ _) rfl ?_); (first | refine storeA hL ?_ | refine storeO hL ?_); (clear hL; intro _ hL)) | ((with_reducible refine wpA_lit rfl _ _ _ rfl ?_); first | refine litA1 hL ?_ | refine litA2 hL ?_) | ((with_reducible refine wpA_append rfl _ _ _ rfl (.slice _ _ _) rfl ?_); intro vq hvq; simp [go_sem] at hvq; subst hvq; refine appendA hL ?_; clear hL; intro _ _ _ hL; try dsimp only at hL) | ((with_reducible refine wpA_make rfl _ _ _ rfl _ rfl rfl ?_); refine makeA hL ?_))
                    have c3 := hL.cell (o := 0) .here
                    have c4 := hL.cell (o := 1) .here
                    have c2 := hL.cell (o := 2) (.there .here)
                    simp only [List.getElem?_toArray, List.getElem?_cons_zero, List.getElem?_cons_succ] at c2 c3 c4
                    have e0 := hL.old hcb
                    have e1 := hL.olds hrb 0 _ rfl
                    have e2 := hL.olds hrb 1 _ rfl
                    simp only [Nat.add_zero] at e1
                    replace hL := hL.drew
                    go_region_held3 (fun w' => w'.cell? ⟨b3, 0, none⟩ = some (.int .i64 f1) ∧ w'.cell? ⟨b3, 1, none⟩ = some (.int .i64 t1) ∧ w'.cell? ⟨b2, 2, none⟩ = some (.slice (some ⟨xb, ob, none⟩) rB.length cb) ∧ w'.cell? ⟨xb, ob + k, none⟩ = some (.slice (some ⟨yb, yo, none⟩) B.length zb) ∧ w'.cell? ⟨yb, yo + m * 2, none⟩ = some (.int .i64 f2) ∧ w'.cell? ⟨yb, yo + m * 2 + 1, none⟩ = some (.int .i64 t2)) (go_keep) (fail)
                    clear e0 e1 e2 c2 c3 c4
                    go_wp2
                    go_roundw
                    case rel =>
                      refine ⟨m + 1, by omega, by go_num, fun j hj => ?_, hL.drop .here⟩
                      by_cases hjk : j = m
                      · subst hjk
                        rw [HP.out, HQ.out, Hext.out]
                        exact ⟨by simpa using hf, by simpa using ht⟩
                      · exact Hall2.out j (by omega)
                    case measure => simp [intOf]; omega
                  | false =>
                    have HR2 := Lib.hid (Hfin.out (Hfin2.out (by rw [Hext.out]; intro e; simp at hd; exact hd e.1 e.2)))
                    have Hd := Lib.hid hd; clear hd
                    cases hf : (f1 == f2) with
                    | true =>
                      have ht : (t1 == t2) = false := by have := Hd.out; simp at this hf; simp; exact this hf
                      go_wp2_with (first | (first | (clear hL n1; with_reducible intro b1 w1 hL) | (clear hL n2; with_reducible intro b2 w2 hL) | (clear hL n3; with_reducible intro b3 w3 hL) | (clear hL n4; with_reducible intro b4 w4 hL) | (clear hL; with_reducible intro _ _ hL)) | (with_reducible refine wpC_alloc rfl _ rfl _ _ inferInstance hL ?_) | (with_reducible first | refine wpB_agg rfl _ _ _ rfl rfl hL ?_ | refine wpB_one rfl _ _ (.int _ _) rfl rfl rfl hL ?_ | refine wpB_one rfl _ _ (.slice _ _ _) rfl rfl rfl hL ?_ | refine wpB_one rfl _ _ (.bool _) rfl rfl rfl hL ?_ | refine wpB_one rfl _ _ (.pointer _) rfl rfl rfl hL ?_ | refine wpB_one rfl _ _ (.func _ _ _) rfl rfl rfl hL ?_) | (with_reducible first | refine wpH_max rfl _ _ _ _ rfl _ _ rfl rfl ?_ | refine wpH_min rfl _ _ _ _ rfl _ _ rfl rfl ?_) | ((with_reducible refine wpA_load rfl _ _ rfl _ rfl ?_); first | refine loadA hL ?_ | refine loadR hL ?_ | refine loadC hL ?_ | refine loadD ?_ | refine loadE hL ?_ | refine loadF ?_) | ((with_reducible refine wpA_index rfl _ _ _ rfl _ rfl _ rfl ?_); first | (refine indexA ?_; try rw [Int.toNat_natCast]) | refine indexC ?_) | ((with_reducible refine wpA_store rfl _ _ _ rfl _ rfl (.agg _) rfl ?_); refine storeR hL ?_; clear hL; intro _ hL) | ((with_reducible first | refine wpA_store rfl _ _ _ rfl _ rfl (.int _ _) rfl ?_ | refine wpA_store rfl _ _ _ rfl _ rfl (.slice _ _ _) rfl ?_ | refine wpA_store rfl _ _ _ rfl _ rfl (.bool _) rfl ?_ | refine wpA_store rfl _ _ _ rfl _ rfl (.pointer _) rfl ?_ | refine wpA_store rfl _ _ _ rfl _ rfl (.func _ _ _) rfl ?_); (first | refine storeA hL ?_ | refine storeO hL ?_); (clear hL; intro _ hL)) | ((with_reducible refine wpA_lit rfl _ _ _ rfl ?_); first | refine litA1 hL ?_ | refine litA2 hL ?_) | ((with_reducible refine wpA_append rfl _ _ _ rfl (.slice _ _ _) rfl ?_); intro vq hvq; simp [go_sem] at hvq; subst hvq; refine appendA hL ?_; clear hL; intro _ _ _ hL; try dsimp only at hL) | ((with_reducible refine wpA_make rfl _ _ _ rfl _ rfl rfl ?_); refine makeA hL ?_))
                      have c3 := hL.cell (o := 0) .here
                      have c4 := hL.cell (o := 1) .here
                      have c2 := hL.cell (o := 2) (.there .here)
                      simp only [List.getElem?_toArray, List.getElem?_cons_zero, List.getElem?_cons_succ] at c2 c3 c4
                      have e0 := hL.old hcb
                      have e1 := hL.olds hrb 0 _ rfl
                      have e2 := hL.olds hrb 1 _ rfl
                      simp only [Nat.add_zero] at e1
                      replace hL := hL.drew
                      go_region_held3 (fun w' => w'.cell? ⟨b3, 0, none⟩ = some (.int .i64 f1) ∧ w'.cell? ⟨b3, 1, none⟩ = some (.int .i64 t1) ∧ w'.cell? ⟨b2, 2, none⟩ = some (.slice (some ⟨xb, ob, none⟩) rB.length cb) ∧ w'.cell? ⟨xb, ob + k, none⟩ = some (.slice (some ⟨yb, yo, none⟩) B.length zb) ∧ w'.cell? ⟨yb, yo + m * 2, none⟩ = some (.int .i64 f2) ∧ w'.cell? ⟨yb, yo + m * 2 + 1, none⟩ = some (.int .i64 t2)) (go_keep) (fail)
                      go_wp2
                      go_ret
                      exact ⟨ret_bool (by rw [HR.out, HR2.out]), hL.below⟩
                    | false =>
                      go_wp2_with (first | (first | (clear hL n1; with_reducible intro b1 w1 hL) | (clear hL n2; with_reducible intro b2 w2 hL) | (clear hL n3; with_reducible intro b3 w3 hL) | (clear hL n4; with_reducible intro b4 w4 hL) | (clear hL; with_reducible intro _ _ hL)) | (with_reducible refine wpC_alloc rfl _ rfl _ _ inferInstance hL ?_) | (with_reducible first | refine wpB_agg rfl _ _ _ rfl rfl hL ?_ | refine wpB_one rfl _ _ (.int _ _) rfl rfl rfl hL ?_ | refine wpB_one rfl _ _ (.slice _ _ _) rfl rfl rfl hL ?_ | refine wpB_one rfl _ _ (.bool _) rfl rfl rfl hL ?_ | refine wpB_one rfl _ _ (.pointer _) rfl rfl rfl hL ?_ | refine wpB_one rfl _ _ (.func _ _ _) rfl rfl rfl hL ?_) | (with_reducible first | refine wpH_max rfl _ _ _ _ rfl _ _ rfl rfl ?_ | refine wpH_min rfl _ _ _ _ rfl _ _ rfl rfl ?_) | ((with_reducible refine wpA_load rfl _ _ rfl _ rfl ?_); first | refine loadA hL ?_ | refine loadR hL ?_ | refine loadC hL ?_ | refine loadD ?_ | refine loadE hL ?_ | refine loadF ?_) | ((with_reducible refine wpA_index rfl _ _ _ rfl _ rfl _ rfl ?_); first | (refine indexA ?_; try rw [Int.toNat_natCast]) | refine indexC ?_) | ((with_reducible refine wpA_store rfl _ _ _ rfl _ rfl (.agg _) rfl ?_); refine storeR hL ?_; clear hL; intro _ hL) | ((with_reducible first | refine wpA_store rfl _ _ _ rfl _ rfl (.int _ _) rfl ?_ | refine wpA_store rfl _ _ _ rfl _ rfl (.slice _ _ _) rfl ?_ | refine wpA_store rfl _ _ _ rfl _ rfl (.bool _) rfl ?_ | refine wpA_store rfl _ _ _ rfl _ rfl (.pointer _) rfl ?_ | refine wpA_store rfl _ _ _ rfl _ rfl (.func _ _ _) rfl ?_); (first | refine storeA hL ?_ | refine storeO hL ?_); (clear hL; intro _ hL)) | ((with_reducible refine wpA_lit rfl _ _ _ rfl ?_); first | refine litA1 hL ?_ | refine litA2 hL ?_) | ((with_reducible refine wpA_append rfl _ _ _ rfl (.slice _ _ _) rfl ?_); intro vq hvq; simp [go_sem] at hvq; subst hvq; refine appendA hL ?_; clear hL; intro _ _ _ hL; try dsimp only at hL) | ((with_reducible refine wpA_make rfl _ _ _ rfl _ rfl rfl ?_); refine makeA hL ?_))
                      have c3 := hL.cell (o := 0) .here
                      have c4 := hL.cell (o := 1) .here
                      have c2 := hL.cell (o := 2) (.there .here)
                      simp only [List.getElem?_toArray, List.getElem?_cons_zero, List.getElem?_cons_succ] at c2 c3 c4
                      have e0 := hL.old hcb
                      have e1 := hL.olds hrb 0 _ rfl
                      have e2 := hL.olds hrb 1 _ rfl
                      simp only [Nat.add_zero] at e1
                      replace hL := hL.drew
                      go_region_held3 (fun w' => w'.cell? ⟨b3, 0, none⟩ = some (.int .i64 f1) ∧ w'.cell? ⟨b3, 1, none⟩ = some (.int .i64 t1) ∧ w'.cell? ⟨b2, 2, none⟩ = some (.slice (some ⟨xb, ob, none⟩) rB.length cb) ∧ w'.cell? ⟨xb, ob + k, none⟩ = some (.slice (some ⟨yb, yo, none⟩) B.length zb) ∧ w'.cell? ⟨yb, yo + m * 2, none⟩ = some (.int .i64 f2) ∧ w'.cell? ⟨yb, yo + m * 2 + 1, none⟩ = some (.int .i64 t2)) (go_keep) (fail)
                      go_wp2
                      go_ret
                      exact ⟨ret_bool (by rw [HR.out, HR2.out]), hL.below⟩
                · have hAB : A = B := list_eq_of (0, 0) Hl2.out (fun i hi => Hall2.out i (by omega))
                  have HAB := Lib.hid hAB; clear hAB
                  have hm2 : m = A.length := by omega
                  subst hm2
                  go_wp2_with (first | (first | (clear hL n1; with_reducible intro b1 w1 hL) | (clear hL n2; with_reducible intro b2 w2 hL) | (clear hL n3; with_reducible intro b3 w3 hL) | (clear hL n4; with_reducible intro b4 w4 hL) | (clear hL; with_reducible intro _ _ hL)) | (with_reducible refine wpC_alloc rfl _ rfl _ _ inferInstance hL ?_) | (with_reducible first | refine wpB_agg rfl _ _ _ rfl rfl hL ?_ | refine wpB_one rfl _ _ (.int _ _) rfl rfl rfl hL ?_ | refine wpB_one rfl _ _ (.slice _ _ _) rfl rfl rfl hL ?_ | refine wpB_one rfl _ _ (.bool _) rfl rfl rfl hL ?_ | refine wpB_one rfl _ _ (.pointer _) rfl rfl rfl hL ?_ | refine wpB_one rfl _ _ (.func _ _ _) rfl rfl rfl hL ?_) | (with_reducible first | refine wpH_max rfl _ _ _ _ rfl _ _ rfl rfl ?_ | refine wpH_min rfl _ _ _ _ rfl _ _ rfl rfl ?_) | ((with_reducible refine wpA_load rfl _ _ rfl _ rfl ?_); first | refine loadA hL ?_ | refine loadR hL ?_ | refine loadC hL ?_ | refine loadD ?_ | refine loadE hL ?_ | refine loadF ?_) | ((with_reducible refine wpA_index rfl _ _ _ rfl _ rfl _ rfl ?_); first | (refine indexA ?_; try rw [Int.toNat_natCast]) | refine indexC ?_) | ((with_reducible refine wpA_store rfl _ _ _ rfl _ rfl (.agg _) rfl ?_); refine storeR hL ?_; clear hL; intro _ hL) | ((with_reducible first | refine wpA_store rfl _ _ _ rfl _ rfl (.int _ _) rfl ?_ | refine wpA_store rfl _ _ _ rfl _ rfl (.slice _ _ _) rfl ?_ | refine wpA_store rfl _ _ _ rfl _ rfl (.bool _) rfl ?_ | refine wpA_store rfl _ _ _ rfl _ rfl (.pointer _) rfl ?_ | refine wpA_store rfl _ _ _ rfl _ rfl (.func _ _ _) rfl ?_); (first | refine storeA hL ?_ | refine storeO hL ?_); (clear hL; intro _ hL)) | ((with_reducible refine wpA_lit rfl _ _ _ rfl ?_); first | refine litA1 hL ?_ | refine litA2 hL ?_) | ((with_reducible refine wpA_append rfl _ _ _ rfl (.slice _ _ _) rfl ?_); intro vq hvq; simp [go_sem] at hvq; subst hvq; refine appendA hL ?_; clear hL; intro _ _ _ hL; try dsimp only at hL) | ((with_reducible refine wpA_make rfl _ _ _ rfl _ rfl rfl ?_); refine makeA hL ?_))
                  go_roundw
                  case rel =>
                    refine ⟨k + 1, by omega, by go_num, fun j hj => ?_, hL⟩
                    by_cases hjk : j = k
                    · subst hjk
                      rw [HAe.out, HBe.out, HAB.out]
                    · exact Hall.out j (by omega)
                  case measure => simp [intOf]; omega
          · have e : k = rA.length := by omega
            subst e
            have HR2 := Lib.hid (show decide (rA = rB) = true by
              simp only [decide_eq_true_eq]; exact list_eq_of [] Hlen.out Hall.out)
            go_wp2_with (first | (first | (clear hL n1; with_reducible intro b1 w1 hL) | (clear hL n2; with_reducible intro b2 w2 hL) | (clear hL n3; with_reducible intro b3 w3 hL) | (clear hL n4; with_reducible intro b4 w4 hL) | (clear hL; with_reducible intro _ _ hL)) | (with_reducible refine wpC_alloc rfl _ rfl _ _ inferInstance hL ?_) | (with_reducible first | refine wpB_agg rfl _ _ _ rfl rfl hL ?_ | refine wpB_one rfl _ _ (.int _ _) rfl rfl rfl hL ?_ | refine wpB_one rfl _ _ (.slice _ _ _) rfl rfl rfl hL ?_ | refine wpB_one rfl _ _ (.bool _) rfl rfl rfl hL ?_ | refine wpB_one rfl _ _ (.pointer _) rfl rfl rfl hL ?_ | refine wpB_one rfl _ _ (.func _ _ _) rfl rfl rfl hL ?_) | (with_reducible first | refine wpH_max rfl _ _ _ _ rfl _ _ rfl rfl ?_ | refine wpH_min rfl _ _ _ _ rfl _ _ rfl rfl ?_) | ((with_reducible refine wpA_load rfl _ _ rfl _ rfl ?_); first | refine loadA hL ?_ | refine loadR hL ?_ | refine loadC hL ?_ | refine loadD ?_ | refine loadE hL ?_ | refine loadF ?_) | ((with_reducible refine wpA_index rfl _ _ _ rfl _ rfl _ rfl ?_); first | (refine indexA ?_; try rw [Int.toNat_natCast]) | refine indexC ?_) | ((with_reducible refine wpA_store rfl _ _ _ rfl _ rfl (.agg _) rfl ?_); refine storeR hL ?_; clear hL; intro _ hL) | ((with_reducible first | refine wpA_store rfl _ _ _ rfl _ rfl (.int _ _) rfl ?_ | refine wpA_store rfl _ _ _ rfl _ rfl (.slice _ _ _) rfl ?_ | refine wpA_store rfl _ _ _ rfl _ rfl (.bool _) rfl ?_ | refine wpA_store rfl _ _ _ rfl _ rfl (.pointer _) rfl ?_ | refine wpA_store rfl _ _ _ rfl _ rfl (.func _ _ _) rfl ?_); (first | refine storeA hL ?_ | refine storeO hL ?_); (clear hL; intro _ hL)) | ((with_reducible refine wpA_lit rfl _ _ _ rfl ?_); first | refine litA1 hL ?_ | refine litA2 hL ?_) | ((with_reducible refine wpA_append rfl _ _ _ rfl (.slice _ _ _) rfl ?_); intro vq hvq; simp [go_sem] at hvq; subst hvq; refine appendA hL ?_; clear hL; intro _ _ _ hL; try dsimp only at hL) | ((with_reducible refine wpA_make rfl _ _ _ rfl _ rfl rfl ?_); refine makeA hL ?_))
            go_ret
            exact ⟨ret_bool (by rw [HR.out, HR2.out]), hL.below⟩
theorem cutI_side {W : Int} (h : isSide W = true) : cutI W = W := by
  simp [isSide] at h; unfold cutI; omega
theorem normRow_eq (l : List (Int × Int)) (W : Int) : normRow l W = runsTo (fun i => decide ((i : Int) < cutI W) && inRuns l i) 64 := by
  unfold normRow
  refine runsTo_congr fun i _ => ?_
  have e : ((i : Int) - 0).toNat = i := by omega
  simp only [shiftP, e]
  have : decide (0 ≤ (i : Int) - 0) = true := by simp
  rw [this]; simp
theorem madeReg_ok {W H : Int} (h1 : isSide W = true) (h2 : isSide H = true) (row : Nat → List (Int × Int)) : madeReg W H row = ⟨W, H, (List.range H.toNat).map fun j => normRow (row j) W⟩ := by
  simp [madeReg, h1, h2]
/-- a region, pixel by pixel -/
def pixReg (W H : Nat) (q : Nat → Nat → Bool) : Reg := ⟨W, H, (List.range H).map fun j => runsTo (q j) W⟩
theorem pix_row {W H : Nat} (q : Nat → Nat → Bool) {j : Nat} (hj : j < H) : (pixReg W H q).rows.getD j [] = runsTo (q j) W := by
  simp [pixReg, hj]
theorem pix_in {W H : Nat} (hW : W ≤ 64) (q : Nat → Nat → Bool) {j : Nat} (hj : j < H) (i : Nat) : inRuns ((pixReg W H q).rows.getD j []) i = (decide (i < W) && q j i) := by
  rw [pix_row q hj, inRuns_runsTo _ hW]
theorem pix_may {W H : Nat} (hW0 : 1 ≤ W) (hW : W ≤ 64) (hH0 : 1 ≤ H) (hH : H ≤ 64) (q : Nat → Nat → Bool) : mayReg (pixReg W H q) = true := by
  simp only [mayReg, pixReg, side_nat hW0 hW, side_nat hH0 hH, Bool.true_and, Bool.and_eq_true, decide_eq_true_eq]
  refine ⟨by simp, ?_⟩
  simp only [List.all_eq_true, List.mem_map]
  rintro l ⟨j, _, rfl⟩
  exact mayRuns_runsTo _ hW
theorem pix_congr {W H : Nat} {p q : Nat → Nat → Bool} (h : ∀ j, j < H → ∀ i, i < W → p j i = q j i) : pixReg W H p = pixReg W H q := by
  unfold pixReg
  congr 1
  refine List.map_congr_left fun j hj => runsTo_congr (h j ?_)
  simpa using hj
theorem made_pix {W H : Nat} (hW0 : 1 ≤ W) (hW : W ≤ 64) (hH0 : 1 ≤ H) (hH : H ≤ 64) {row : Nat → List (Int × Int)} {q : Nat → Nat → Bool} (h : ∀ j, j < H → ∀ i, i < W → inRuns (row j) i = q j i) : madeReg W H row = pixReg W H q := by
  have hs := side_nat hW0 hW
  rw [madeReg_ok hs (side_nat hH0 hH)]
  unfold pixReg
  simp only [Int.toNat_natCast]
  congr 1
  refine List.map_congr_left fun j hj => ?_
  rw [normRow_eq, cutI_side hs, runsTo_beyond (n := W) hW (fun i h1 _ => by simp; omega)]
  refine runsTo_congr fun i hi => ?_
  rw [h j (by simpa using hj) i hi]
  simp [hi]
theorem one_pix {W H : Nat} (hW0 : 1 ≤ W) (hW : W ≤ 64) (hH0 : 1 ≤ H) (hH : H ≤ 64) (p : Nat → Nat → Bool) {row : Nat → List (Int × Int)} {q : Nat → Nat → Bool} (h : ∀ j, j < H → ∀ i, i < W → inRuns (row j) i = q j i) :
    oneReg (pixReg W H p) row = pixReg W H q ∧ oneErr (pixReg W H p) = 0 := by
  have hm := pix_may hW0 hW hH0 hH p
  simp only [oneReg, oneErr, hm, if_true, and_true]
  exact made_pix hW0 hW hH0 hH h
theorem same_pix {W H : Nat} {p q : Nat → Nat → Bool} (h : ∀ j, j < H → ∀ i, i < W → p j i = q j i) : sameReg (pixReg W H p) (pixReg W H q) = true := sameReg_eq (pix_congr h)
def RegF (v : Value) (R : Reg) (w : World) : Prop := RegAt w v R
/-- a region of pixels is returned, and no error -/
def PixOut (W H : Nat) (q : Nat → Nat → Bool) (w : World) (e : Ending) (w' : World) : Prop :=
  ∃ sa sn sc, e = .returned (.tuple #[.agg #[.int .i64 W, .int .i64 H, .slice sa sn sc], .int .i64 0]) ∧ Below w.heap.size w w' ∧ Fresh w w' (RegF (.agg #[.int .i64 W, .int .i64 H, .slice sa sn sc]) (pixReg W H q))
theorem PixOut.of {W H : Nat} {q : Nat → Nat → Bool} {R : Reg} {err : Int} {w : World} {e : Ending} {w' : World} (h : RegOut R err w e w') (hR : R = pixReg W H q) (he : err = 0) : PixOut W H q w e w' := by
  subst hR; subst he
  obtain ⟨v, rfl, hb, hf⟩ := h
  obtain ⟨sa, sn, sc, rfl, _⟩ := RegAt.shape hf.now
  exact ⟨sa, sn, sc, rfl, hb, hf⟩

def shQ (W H : Nat) (p : Nat → Nat → Bool) (dx dy : Int) (j i : Nat) : Bool := atPix W H p ((i : Int) - dx) ((j : Int) - dy)
section
variable {W H : Nat} (hs : Sides W H)
include hs
theorem shift_pix (p : Nat → Nat → Bool) (dx dy : Int) : oneReg (pixReg W H p) (shiftRow (pixReg W H p).rows (pixReg W H p).W (pixReg W H p).H dx dy) = pixReg W H (fun j i => atPix W H p ((i : Int) - dx) ((j : Int) - dy)) ∧ oneErr (pixReg W H p) = 0 := by
  refine one_pix hs.w0 hs.w1 hs.h0 hs.h1 p fun j hj i hi => ?_
  have hw := hs.w1
  unfold shiftRow atPix
  show inRuns (if (dy ≤ -(H : Int) ∨ (H : Int) ≤ dy) ∨ ((j : Int) - dy < 0 ∨ (H : Int) ≤ (j : Int) - dy) then [] else runsTo (shiftP ((pixReg W H p).rows.getD ((j : Int) - dy).toNat []) dx (W : Int)) 64) i = _
  by_cases h : 0 ≤ (j : Int) - dy ∧ (j : Int) - dy < H
  · obtain ⟨h1, h2⟩ := h
    have hn : ¬ ((dy ≤ -(H : Int) ∨ (H : Int) ≤ dy) ∨ ((j : Int) - dy < 0 ∨ (H : Int) ≤ (j : Int) - dy)) := by omega
    rw [if_neg hn, inRuns_runsTo _ (Nat.le_refl _)]
    simp only [shiftP]
    rw [pix_in hs.w1 _ (by omega), cutI_side (side_nat hs.w0 hs.w1)]
    have e1 : decide (i < 64) = true := by simp; omega
    have e2 : decide ((i : Int) < W) = true := by simp; omega
    have e3 : decide (0 ≤ (j : Int) - dy) = true := by simp; omega
    have e4 : decide ((j : Int) - dy < H) = true := by simp; omega
    rw [e1, e2, e3, e4]
    simp only [Bool.true_and]
    by_cases hx : 0 ≤ (i : Int) - dx
    · have : (((i : Int) - dx).toNat < W) ↔ (i : Int) - dx < W := by omega
      simp [hx, this]
    · have : decide (0 ≤ (i : Int) - dx) = false := by simp; omega
      rw [this]; rfl
  · have hn : (dy ≤ -(H : Int) ∨ (H : Int) ≤ dy) ∨ ((j : Int) - dy < 0 ∨ (H : Int) ≤ (j : Int) - dy) := by omega
    rw [if_pos hn, inRuns_nil]
    by_cases h1 : 0 ≤ (j : Int) - dy
    · have : decide ((j : Int) - dy < H) = false := by simp; omega
      rw [this]; simp
    · have : decide (0 ≤ (j : Int) - dy) = false := by simp; omega
      rw [this]; simp
theorem pixShift_calls (w : World) (v : Value) (p : Nat → Nat → Bool) (h : RegAt w v (pixReg W H p)) (dx dy : Int) : Calls Try.prog 31 #[v, .int .i64 dx, .int .i64 dy] w (PixOut W H (shQ W H p dx dy) w) :=
  (regShift_calls w v _ h dx dy).mono fun _ _ h => .of h (shift_pix hs p dx dy).1 (shift_pix hs p dx dy).2
omit hs in
theorem pixSame_calls (w : World) (v u : Value) (p q : Nat → Nat → Bool) (h : RegAt w v (pixReg W H p)) (k : RegAt w u (pixReg W H q)) (e : ∀ j, j < H → ∀ i, i < W → p j i = q j i) : Calls Try.prog 33 #[v, u] w fun e w' => e = .returned (.bool true) ∧ Below w.heap.size w w' :=
  (regSame_calls w v u _ _ h k).mono fun _ _ h => by rw [same_pix e] at h; exact h
end

end Go.Proofs.Ytfnolaoohmecbaa
