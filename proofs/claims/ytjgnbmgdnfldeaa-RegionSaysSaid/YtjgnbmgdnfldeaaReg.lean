/- Package region: what made returns. -/
import Derived.Test.YtjgnbmgdnfldeaaSpan4
namespace Go.Proofs.Ytjgnbmgdnfldeaa
open Go.RowKit

theorem SliceAt.shape {w : World} {k : Nat} {v : Value} {els : List (List Value)} (h : SliceAt w k v els) : ∃ a n c, v = .slice a n c := by
  obtain ⟨a, c, h, _⟩ := h; exact ⟨a, _, c, h⟩
/-- a region, as lists -/
structure Reg where
  W : Int
  H : Int
  rows : List (List (Int × Int))

def RowsAt (w : World) (s : Value) (rows : List (List (Int × Int))) : Prop :=
  ∃ vs : List Value, vs.length = rows.length ∧ SliceAt w 1 s (vs.map fun v => [v]) ∧ ∀ i v, vs[i]? = some v → RunsAt w v (rows.getD i [])
theorem RowsAt.below {w w' : World} {s : Value} {rows : List (List (Int × Int))} (h : RowsAt w s rows) (hb : Below w.heap.size w w') : RowsAt w' s rows := by
  obtain ⟨vs, h1, h2, h3⟩ := h
  exact ⟨vs, h1, h2.below hb, fun i v hv => SliceAt.below (h3 i v hv) hb⟩
theorem rows_of {w : World} {b h : Nat} {cs : Array Value} {T : TypeId} {F : Nat → List (Int × Int)} (hb : w.heap[b]? = some (.cells cs T (0, 0))) (hs : cs.size = h) (hm : h ≤ maxLen) (hv : ∀ i, i < h → ∃ v, cs[i]? = some v ∧ RunsAt w v (F i)) :
    RowsAt w (.slice (some ⟨b, 0, none⟩) h h) ((List.range h).map F) := by
  subst hs
  refine ⟨cs.toList, by simp, ⟨_, cs.size, by simp, by simp, hm, fun i hi => ⟨b, 0, rfl, fun j v hj => ?_⟩⟩, fun i v hi => ?_⟩
  · simp only [List.getElem_map] at hj
    have hj0 : j = 0 := by
      rcases j with _ | j
      · rfl
      · simp at hj
    subst hj0
    rw [cell_of_row w b _ cs T (0, 0) hb]
    simp at hj hi
    simp
    rw [Array.getElem?_eq_getElem hi, hj]
  · obtain ⟨v', h1, h2⟩ := hv i (by have := (List.getElem?_eq_some_iff.1 hi).1; simpa using this)
    have hi' : cs[i]? = some v := by simpa using hi
    rw [h1] at hi'
    cases hi'
    have hlt : i < cs.size := (Array.getElem?_eq_some_iff.1 h1).1
    have e : ((List.range cs.size).map F).getD i [] = F i := by simp [hlt]
    rw [e]
    exact h2
def RegAt (w : World) (v : Value) (R : Reg) : Prop := ∃ s, v = .agg #[.int .i64 R.W, .int .i64 R.H, s] ∧ RowsAt w s R.rows
theorem RegAt.below {w w' : World} {v : Value} {R : Reg} (h : RegAt w v R) (hb : Below w.heap.size w w') : RegAt w' v R := by
  obtain ⟨s, h1, h2⟩ := h
  exact ⟨s, h1, h2.below hb⟩

/-- a region and an error -/
def RegOut (R : Reg) (err : Int) (w : World) (e : Ending) (w' : World) : Prop :=
  ∃ v, e = .returned (.tuple #[v, .int .i64 err]) ∧ Below w.heap.size w w' ∧ Fresh w w' (fun w => RegAt w v R)
/-- runs, new or not -/
def RunsRet (l : List (Int × Int)) (w : World) (e : Ending) (w' : World) : Prop :=
  ∃ v, e = .returned v ∧ Below w.heap.size w w' ∧ RunsAt w' v l

def isSide (n : Int) : Bool := decide (1 ≤ n) && decide (n ≤ 64)
def noReg : Reg := ⟨0, 0, []⟩
def normRow (l : List (Int × Int)) (W : Int) : List (Int × Int) := runsTo (shiftP l 0 W) 64
/-- a region, row by row -/
def madeReg (W H : Int) (row : Nat → List (Int × Int)) : Reg :=
  if isSide W && isSide H then ⟨W, H, (List.range H.toNat).map fun j => normRow (row j) W⟩ else noReg
def madeErr (W H : Int) : Int := if isSide W && isSide H then 0 else 1

theorem side_calls (a : Int) (w : World) :
    Calls Try.prog 77 #[.int .i64 a] w fun e w' => e = .returned (.bool (isSide a)) ∧ w = w' := by
  rcases (by omega : (1 ≤ a ∧ a ≤ 64) ∨ ¬ 1 ≤ a ∨ (1 ≤ a ∧ ¬ a ≤ 64)) with ⟨h1, h2⟩ | h1 | ⟨h1, h2⟩
  · have Hr := Lib.hid (show isSide a = true by simp [isSide, h1, h2])
    go_enter Try.func77, Try.ntmps77
    go_wp2
    go_ret
    exact ⟨ret_bool (by rw [Hr.out]), rfl⟩
  · have Hr := Lib.hid (show isSide a = false by simp [isSide, h1])
    go_enter Try.func77, Try.ntmps77
    go_wp2
    go_ret
    exact ⟨ret_bool (by rw [Hr.out]), rfl⟩
  · have Hr := Lib.hid (show isSide a = false by simp [isSide, h2])
    go_enter Try.func77, Try.ntmps77
    go_wp2
    go_ret
    exact ⟨ret_bool (by rw [Hr.out]), rfl⟩

theorem noReg_at (w : World) : RegAt w (.agg #[.int .i64 0, .int .i64 0, .slice none 0 0]) noReg :=
  ⟨_, rfl, [], rfl, ⟨none, 0, rfl, Nat.le_refl _, by unfold maxLen; omega, fun i hi => by simp at hi⟩, fun i v h => by simp at h⟩

set_option maxRecDepth 100000 in
set_option maxHeartbeats 1000000 in
theorem made_calls (w : World) (W H : Int) (F : Nat) (cap : Array Value) (row : Nat → List (Int × Int))
    (args : Nat → Array Value) (hargs : ∀ j : Nat, #[.int .i64 j] ++ cap = args j) (hrow0 : ∀ j : Nat, (j : Int) < H → ∀ w1, Below w.heap.size w w1 → Calls Try.prog F (args j) w1 (RunsRet (row j) w1))
    (hC : ∀ (j : Nat) w, (callFunc F (#[.int .i64 j] ++ cap)).run Try.prog w = .ok (.enter F (#[.int .i64 j] ++ cap)) w) :
    Calls Try.prog 70 #[.int .i64 W, .int .i64 H, .func (.func F) #[] cap] w (RegOut (madeReg W H row) (madeErr W H) w) := by
  have hL := Holds.start w
  have hrow : ∀ j : Nat, (j : Int) < H → ∀ w1, Below w.heap.size w w1 → Calls Try.prog F (#[.int .i64 j] ++ cap) w1 (RunsRet (row j) w1) := fun j hj w1 hb => by rw [hargs]; exact hrow0 j hj w1 hb
  clear hrow0 hargs
  have Hrow := Lib.hid hrow; clear hrow
  cases hs1 : isSide W with
  | false =>
    have Hr : madeReg W H row = noReg := by simp [madeReg, hs1]
    have He : madeErr W H = 1 := by simp [madeErr, hs1]
    rw [Hr, He]
    clear Hr He
    have n1 : True := trivial; have n2 : True := trivial; have n3 : True := trivial; have n4 : True := trivial
    go_enter Try.func70, Try.ntmps70
    go_wp2_with (first | (go_at_call 77; (with_reducible refine (side_calls _ _).mono ?_); rintro e _ ⟨rfl, rfl⟩) | (first | (clear hL n1; with_reducible intro b1 w1 hL) | (clear hL n2; with_reducible intro b2 w2 hL) | (clear hL n3; with_reducible intro b3 w3 hL) | (clear hL n4; with_reducible intro b4 w4 hL) | (clear hL; with_reducible intro _ _ hL)) | (with_reducible refine wpC_alloc rfl _ rfl _ _ inferInstance hL ?_) | (with_reducible first | refine wpB_agg rfl _ _ _ rfl rfl hL ?_ | refine wpB_one rfl _ _ (.int _ _) rfl rfl rfl hL ?_ | refine wpB_one rfl _ _ (.slice _ _ _) rfl rfl rfl hL ?_ | refine wpB_one rfl _ _ (.bool _) rfl rfl rfl hL ?_ | refine wpB_one rfl _ _ (.pointer _) rfl rfl rfl hL ?_ | refine wpB_one rfl _ _ (.func _ _ _) rfl rfl rfl hL ?_) | (with_reducible first | refine wpH_max rfl _ _ _ _ rfl _ _ rfl rfl ?_ | refine wpH_min rfl _ _ _ _ rfl _ _ rfl rfl ?_) | ((with_reducible refine wpA_load rfl _ _ rfl _ rfl ?_); first | refine loadA hL ?_ | refine loadR hL ?_ | refine loadC hL ?_ | refine loadD ?_ | refine loadE hL ?_ | refine loadF ?_) | ((with_reducible refine wpA_index rfl _ _ _ rfl _ rfl _ rfl ?_); first | (refine indexA ?_; try rw [Int.toNat_natCast]) | refine indexC ?_) | ((with_reducible refine wpA_store rfl _ _ _ rfl _ rfl (.agg _) rfl ?_); refine storeR hL ?_; clear hL; intro _ hL) | ((with_reducible first | refine wpA_store rfl _ _ _ rfl _ rfl (.int _ _) rfl ?_ | refine wpA_store rfl _ _ _ rfl _ rfl (.slice _ _ _) rfl ?_ | refine wpA_store rfl _ _ _ rfl _ rfl (.bool _) rfl ?_ | refine wpA_store rfl _ _ _ rfl _ rfl (.pointer _) rfl ?_ | refine wpA_store rfl _ _ _ rfl _ rfl (.func _ _ _) rfl ?_); (first | refine storeA hL ?_ | refine storeO hL ?_); (clear hL; intro _ hL)) | ((with_reducible refine wpA_lit rfl _ _ _ rfl ?_); first | refine litA1 hL ?_ | refine litA2 hL ?_) | ((with_reducible refine wpA_append rfl _ _ _ rfl (.slice _ _ _) rfl ?_); intro vq hvq; simp [go_sem] at hvq; subst hvq; refine appendA hL ?_; clear hL; intro _ _ _ hL; try dsimp only at hL) | ((with_reducible refine wpA_make rfl _ _ _ rfl _ rfl rfl ?_); refine makeA hL ?_))
    exact bodyPost_ret (results_row2 inferInstance rfl _ hL b1 rfl _ _ .here rfl) rfl ⟨_, rfl, hL.below, (hL.triv noReg_at).fresh⟩
  | true =>
    cases hs2 : isSide H with
    | false =>
      have Hr : madeReg W H row = noReg := by simp [madeReg, hs2]
      have He : madeErr W H = 1 := by simp [madeErr, hs2]
      rw [Hr, He]
      clear Hr He
      have n1 : True := trivial; have n2 : True := trivial; have n3 : True := trivial; have n4 : True := trivial
      go_enter Try.func70, Try.ntmps70
      go_wp2_with (first | (go_at_call 77; (with_reducible refine (side_calls _ _).mono ?_); rintro e _ ⟨rfl, rfl⟩) | (first | (clear hL n1; with_reducible intro b1 w1 hL) | (clear hL n2; with_reducible intro b2 w2 hL) | (clear hL n3; with_reducible intro b3 w3 hL) | (clear hL n4; with_reducible intro b4 w4 hL) | (clear hL; with_reducible intro _ _ hL)) | (with_reducible refine wpC_alloc rfl _ rfl _ _ inferInstance hL ?_) | (with_reducible first | refine wpB_agg rfl _ _ _ rfl rfl hL ?_ | refine wpB_one rfl _ _ (.int _ _) rfl rfl rfl hL ?_ | refine wpB_one rfl _ _ (.slice _ _ _) rfl rfl rfl hL ?_ | refine wpB_one rfl _ _ (.bool _) rfl rfl rfl hL ?_ | refine wpB_one rfl _ _ (.pointer _) rfl rfl rfl hL ?_ | refine wpB_one rfl _ _ (.func _ _ _) rfl rfl rfl hL ?_) | (with_reducible first | refine wpH_max rfl _ _ _ _ rfl _ _ rfl rfl ?_ | refine wpH_min rfl _ _ _ _ rfl _ _ rfl rfl ?_) | ((with_reducible refine wpA_load rfl _ _ rfl _ rfl ?_); first | refine loadA hL ?_ | refine loadR hL ?_ | refine loadC hL ?_ | refine loadD ?_ | refine loadE hL ?_ | refine loadF ?_) | ((with_reducible refine wpA_index rfl _ _ _ rfl _ rfl _ rfl ?_); first | (refine indexA ?_; try rw [Int.toNat_natCast]) | refine indexC ?_) | ((with_reducible refine wpA_store rfl _ _ _ rfl _ rfl (.agg _) rfl ?_); refine storeR hL ?_; clear hL; intro _ hL) | ((with_reducible first | refine wpA_store rfl _ _ _ rfl _ rfl (.int _ _) rfl ?_ | refine wpA_store rfl _ _ _ rfl _ rfl (.slice _ _ _) rfl ?_ | refine wpA_store rfl _ _ _ rfl _ rfl (.bool _) rfl ?_ | refine wpA_store rfl _ _ _ rfl _ rfl (.pointer _) rfl ?_ | refine wpA_store rfl _ _ _ rfl _ rfl (.func _ _ _) rfl ?_); (first | refine storeA hL ?_ | refine storeO hL ?_); (clear hL; intro _ hL)) | ((with_reducible refine wpA_lit rfl _ _ _ rfl ?_); first | refine litA1 hL ?_ | refine litA2 hL ?_) | ((with_reducible refine wpA_append rfl _ _ _ rfl (.slice _ _ _) rfl ?_); intro vq hvq; simp [go_sem] at hvq; subst hvq; refine appendA hL ?_; clear hL; intro _ _ _ hL; try dsimp only at hL) | ((with_reducible refine wpA_make rfl _ _ _ rfl _ rfl rfl ?_); refine makeA hL ?_))
      exact bodyPost_ret (results_row2 inferInstance rfl _ hL b1 rfl _ _ .here rfl) rfl ⟨_, rfl, hL.below, (hL.triv noReg_at).fresh⟩
    | true =>
      have HR := Lib.hid (show madeReg W H row = ⟨W, H, (List.range H.toNat).map fun j => normRow (row j) W⟩ by simp [madeReg, hs1, hs2])
      have He : madeErr W H = 0 := by simp [madeErr, hs1, hs2]
      rw [He]
      clear He
      have hH : 1 ≤ H ∧ H ≤ 64 := by simp [isSide] at hs2; exact hs2
      obtain ⟨hh1, hh2⟩ := hH
      obtain ⟨h, rfl⟩ := Int.eq_ofNat_of_zero_le (show 0 ≤ H by omega)
      have n1 : True := trivial; have n2 : True := trivial; have n3 : True := trivial; have n4 : True := trivial; have n5 : True := trivial; have n6 : True := trivial
      go_enter Try.func70, Try.ntmps70
      go_wp2_with (first | (go_at_call 77; (with_reducible refine (side_calls _ _).mono ?_); rintro e _ ⟨rfl, rfl⟩) | (first | (clear hL n1; with_reducible intro b1 w1 hL) | (clear hL n2; with_reducible intro b2 w2 hL) | (clear hL n3; with_reducible intro b3 w3 hL) | (clear hL n4; with_reducible intro b4 w4 hL) | (clear hL n5; with_reducible intro b5 w5 hL) | (clear hL n6; with_reducible intro b6 w6 hL) | (clear hL; with_reducible intro _ _ hL)) | (with_reducible refine wpC_alloc rfl _ rfl _ _ inferInstance hL ?_) | (with_reducible first | refine wpB_agg rfl _ _ _ rfl rfl hL ?_ | refine wpB_one rfl _ _ (.int _ _) rfl rfl rfl hL ?_ | refine wpB_one rfl _ _ (.slice _ _ _) rfl rfl rfl hL ?_ | refine wpB_one rfl _ _ (.bool _) rfl rfl rfl hL ?_ | refine wpB_one rfl _ _ (.pointer _) rfl rfl rfl hL ?_ | refine wpB_one rfl _ _ (.func _ _ _) rfl rfl rfl hL ?_) | (with_reducible first | refine wpH_max rfl _ _ _ _ rfl _ _ rfl rfl ?_ | refine wpH_min rfl _ _ _ _ rfl _ _ rfl rfl ?_) | ((with_reducible refine wpA_load rfl _ _ rfl _ rfl ?_); first | refine loadA hL ?_ | refine loadR hL ?_ | refine loadC hL ?_ | refine loadD ?_ | refine loadE hL ?_ | refine loadF ?_) | ((with_reducible refine wpA_index rfl _ _ _ rfl _ rfl _ rfl ?_); first | (refine indexA ?_; try rw [Int.toNat_natCast]) | refine indexC ?_) | ((with_reducible refine wpA_store rfl _ _ _ rfl _ rfl (.agg _) rfl ?_); refine storeR hL ?_; clear hL; intro _ hL) | ((with_reducible first | refine wpA_store rfl _ _ _ rfl _ rfl (.int _ _) rfl ?_ | refine wpA_store rfl _ _ _ rfl _ rfl (.slice _ _ _) rfl ?_ | refine wpA_store rfl _ _ _ rfl _ rfl (.bool _) rfl ?_ | refine wpA_store rfl _ _ _ rfl _ rfl (.pointer _) rfl ?_ | refine wpA_store rfl _ _ _ rfl _ rfl (.func _ _ _) rfl ?_); (first | refine storeA hL ?_ | refine storeO hL ?_); (clear hL; intro _ hL)) | ((with_reducible refine wpA_lit rfl _ _ _ rfl ?_); first | refine litA1 hL ?_ | refine litA2 hL ?_) | ((with_reducible refine wpA_append rfl _ _ _ rfl (.slice _ _ _) rfl ?_); intro vq hvq; simp [go_sem] at hvq; subst hvq; refine appendA hL ?_; clear hL; intro _ _ _ hL; try dsimp only at hL) | ((with_reducible refine wpA_make rfl _ _ _ rfl _ rfl rfl ?_); refine makeA hL ?_))
      go_loopw [27] (fun s27 wr => ∃ (j : Nat) (cs : Array Value), j ≤ h ∧ s27 = .int .i64 j ∧ cs.size = h ∧
          Holds w wr [blk b3 #[.int .i64 W, .int .i64 h, .slice (some ⟨b2, 0, none⟩) h h] 26, blk b2 cs 36, blk b1 #[.int .i64 0, .int .i64 0, .slice none 0 0] 26]
            [fun w => ∀ i, i < j → ∃ v, cs[i]? = some v ∧ RunsAt w v (normRow (row i) W)])
        (fun s27 wr => (h - intOf s27).toNat)
      case atStart => exact ⟨0, _, by omega, rfl, by simp, hL.triv (fun _ i hi => by omega)⟩
      case round =>
        clear hL
        obtain ⟨j, cs, hj, rfl, hcs, hL⟩ := hrel
        have Hcs := Lib.hid hcs; clear hcs
        by_cases hlt : j < h
        · go_wp2_with (first | (first | (clear hL n1; with_reducible intro b1 w1 hL) | (clear hL n2; with_reducible intro b2 w2 hL) | (clear hL n3; with_reducible intro b3 w3 hL) | (clear hL n4; with_reducible intro b4 w4 hL) | (clear hL n5; with_reducible intro b5 w5 hL) | (clear hL n6; with_reducible intro b6 w6 hL) | (clear hL; with_reducible intro _ _ hL)) | (with_reducible refine wpC_alloc rfl _ rfl _ _ inferInstance hL ?_) | (with_reducible first | refine wpB_agg rfl _ _ _ rfl rfl hL ?_ | refine wpB_one rfl _ _ (.int _ _) rfl rfl rfl hL ?_ | refine wpB_one rfl _ _ (.slice _ _ _) rfl rfl rfl hL ?_ | refine wpB_one rfl _ _ (.bool _) rfl rfl rfl hL ?_ | refine wpB_one rfl _ _ (.pointer _) rfl rfl rfl hL ?_ | refine wpB_one rfl _ _ (.func _ _ _) rfl rfl rfl hL ?_) | (with_reducible first | refine wpH_max rfl _ _ _ _ rfl _ _ rfl rfl ?_ | refine wpH_min rfl _ _ _ _ rfl _ _ rfl rfl ?_) | ((with_reducible refine wpA_load rfl _ _ rfl _ rfl ?_); first | refine loadA hL ?_ | refine loadR hL ?_ | refine loadC hL ?_ | refine loadD ?_ | refine loadE hL ?_ | refine loadF ?_) | ((with_reducible refine wpA_index rfl _ _ _ rfl _ rfl _ rfl ?_); first | (refine indexA ?_; try rw [Int.toNat_natCast]) | refine indexC ?_) | ((with_reducible refine wpA_store rfl _ _ _ rfl _ rfl (.agg _) rfl ?_); refine storeR hL ?_; clear hL; intro _ hL) | ((with_reducible first | refine wpA_store rfl _ _ _ rfl _ rfl (.int _ _) rfl ?_ | refine wpA_store rfl _ _ _ rfl _ rfl (.slice _ _ _) rfl ?_ | refine wpA_store rfl _ _ _ rfl _ rfl (.bool _) rfl ?_ | refine wpA_store rfl _ _ _ rfl _ rfl (.pointer _) rfl ?_ | refine wpA_store rfl _ _ _ rfl _ rfl (.func _ _ _) rfl ?_); (first | refine storeA hL ?_ | refine storeO hL ?_); (clear hL; intro _ hL)) | ((with_reducible refine wpA_lit rfl _ _ _ rfl ?_); first | refine litA1 hL ?_ | refine litA2 hL ?_) | ((with_reducible refine wpA_append rfl _ _ _ rfl (.slice _ _ _) rfl ?_); intro vq hvq; simp [go_sem] at hvq; subst hvq; refine appendA hL ?_; clear hL; intro _ _ _ hL; try dsimp only at hL) | ((with_reducible refine wpA_make rfl _ _ _ rfl _ rfl rfl ?_); refine makeA hL ?_))
          replace hL := hL.drew
          have hne := hL.apart
          simp [blk] at hne
          obtain ⟨⟨f32, _⟩, _⟩ := hne
          have e23 : ¬ b2 = b3 := by first | exact f32 | exact fun e => f32 e.symm
          have c1 := hL.cell (o := 2) .here
          simp only [List.getElem?_toArray, List.getElem?_cons_zero, List.getElem?_cons_succ] at c1
          go_region_held3 (fun w' => w'.cell? ⟨b3, 2, none⟩ = some (.slice (some ⟨b2, 0, none⟩) h h))
            (first | exact hL.cell (o := 2) .here | go_keep | (rw [World.cell?_setCell_other _ _ _ _ (by simp [e23])]; exact hL.cell (o := 2) .here))
            (first
              | (go_at_call 105; (with_reducible refine (spanNorm_calls _ vr _ hr _).mono ?_); rintro e w3 ⟨v3, rfl, hb, hf⟩; obtain ⟨sa, sn, sc, rfl⟩ := SliceAt.shape hf.now; replace hL := hL.callF hb hf; clear hb hf hr; have cc : w3.cell? ⟨b2, j, none⟩ = some (cs[j]'(by rw [Hcs.out]; exact hlt)) := (hL.cell (.there .here)).trans (by simp); have cf := hL.soft (o := j) (.there .here))
              | ((refine (Hrow.out j (by omega) _ hL.below).mono ?_); rintro e w2 ⟨vr, rfl, hb, hr⟩; replace hL := hL.call hb; clear hb))
          go_wp2
          go_roundw
          case rel =>
            refine ⟨j + 1, cs.setIfInBounds j (.slice sa sn sc), by omega, by go_num, by rw [Array.size_setIfInBounds]; exact Hcs.out, (hL.setCell (o := j) (v := .slice sa sn sc) (.there .here)).join fun w' h1 h2 i hi => ?_⟩
            by_cases hij : i = j
            · subst hij
              exact ⟨_, by rw [Array.getElem?_setIfInBounds, if_pos rfl, if_pos (by rw [Hcs.out]; exact hlt)], h1⟩
            · obtain ⟨v', e1, e2⟩ := h2 i (by omega)
              exact ⟨v', by rw [Array.getElem?_setIfInBounds, if_neg (fun e => hij e.symm)]; exact e1, e2⟩
          case measure => simp [intOf]; omega
        · have e : j = h := by omega
          subst e
          go_wp2_with (first | (first | (clear hL n1; with_reducible intro b1 w1 hL) | (clear hL n2; with_reducible intro b2 w2 hL) | (clear hL n3; with_reducible intro b3 w3 hL) | (clear hL n4; with_reducible intro b4 w4 hL) | (clear hL n5; with_reducible intro b5 w5 hL) | (clear hL n6; with_reducible intro b6 w6 hL) | (clear hL; with_reducible intro _ _ hL)) | (with_reducible refine wpC_alloc rfl _ rfl _ _ inferInstance hL ?_) | (with_reducible first | refine wpB_agg rfl _ _ _ rfl rfl hL ?_ | refine wpB_one rfl _ _ (.int _ _) rfl rfl rfl hL ?_ | refine wpB_one rfl _ _ (.slice _ _ _) rfl rfl rfl hL ?_ | refine wpB_one rfl _ _ (.bool _) rfl rfl rfl hL ?_ | refine wpB_one rfl _ _ (.pointer _) rfl rfl rfl hL ?_ | refine wpB_one rfl _ _ (.func _ _ _) rfl rfl rfl hL ?_) | (with_reducible first | refine wpH_max rfl _ _ _ _ rfl _ _ rfl rfl ?_ | refine wpH_min rfl _ _ _ _ rfl _ _ rfl rfl ?_) | ((with_reducible refine wpA_load rfl _ _ rfl _ rfl ?_); first | refine loadA hL ?_ | refine loadR hL ?_ | refine loadC hL ?_ | refine loadD ?_ | refine loadE hL ?_ | refine loadF ?_) | ((with_reducible refine wpA_index rfl _ _ _ rfl _ rfl _ rfl ?_); first | (refine indexA ?_; try rw [Int.toNat_natCast]) | refine indexC ?_) | ((with_reducible refine wpA_store rfl _ _ _ rfl _ rfl (.agg _) rfl ?_); refine storeR hL ?_; clear hL; intro _ hL) | ((with_reducible first | refine wpA_store rfl _ _ _ rfl _ rfl (.int _ _) rfl ?_ | refine wpA_store rfl _ _ _ rfl _ rfl (.slice _ _ _) rfl ?_ | refine wpA_store rfl _ _ _ rfl _ rfl (.bool _) rfl ?_ | refine wpA_store rfl _ _ _ rfl _ rfl (.pointer _) rfl ?_ | refine wpA_store rfl _ _ _ rfl _ rfl (.func _ _ _) rfl ?_); (first | refine storeA hL ?_ | refine storeO hL ?_); (clear hL; intro _ hL)) | ((with_reducible refine wpA_lit rfl _ _ _ rfl ?_); first | refine litA1 hL ?_ | refine litA2 hL ?_) | ((with_reducible refine wpA_append rfl _ _ _ rfl (.slice _ _ _) rfl ?_); intro vq hvq; simp [go_sem] at hvq; subst hvq; refine appendA hL ?_; clear hL; intro _ _ _ hL; try dsimp only at hL) | ((with_reducible refine wpA_make rfl _ _ _ rfl _ rfl rfl ?_); refine makeA hL ?_))
          refine bodyPost_ret (results_row2 inferInstance rfl _ hL b1 rfl _ _ (.there (.there .here)) rfl) rfl ⟨_, rfl, hL.below, ?_⟩
          rw [HR.out]
          refine ((hL.settle (.there .here) (φ := fun w => w.heap[b2]? = some (.cells cs 36 (0, 0))) fun _ h => h).join fun w' h1 h2 => ?_).fresh
          exact ⟨_, rfl, by simpa using rows_of h1 Hcs.out (by unfold maxLen; omega) h2⟩
end Go.Proofs.Ytjgnbmgdnfldeaa
