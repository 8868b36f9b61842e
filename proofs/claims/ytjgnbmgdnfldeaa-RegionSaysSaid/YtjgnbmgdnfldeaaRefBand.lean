/- The reference's Band. -/
import Derived.Test.YtjgnbmgdnfldeaaRefSh
import Derived.Test.YtjgnbmgdnfldeaaApp
namespace Go.Proofs.Ytjgnbmgdnfldeaa
open Go.RowKit

/-- row k, where the rows below j have been taken -/
def bdRow (W : Nat) (p : Nat → Nat → Bool) (f t : Int) (j k : Nat) : List (Int × Int) :=
  if k < j ∧ f ≤ (k : Int) ∧ (k : Int) < t then runsTo (p k) W else []
theorem bdRow_end {W H : Nat} (p : Nat → Nat → Bool) (f t : Int) {k : Nat} (hk : k < H) : bdRow W p f t H k = runsTo (bandQ p f t k) W := by
  unfold bdRow
  split
  · rename_i h
    refine runsTo_congr fun i hi => ?_
    unfold bandQ
    have e1 : decide (f ≤ (k : Int)) = true := decide_eq_true h.2.1
    have e2 : decide ((k : Int) < t) = true := decide_eq_true h.2.2
    rw [e1, e2]
    rfl
  · rename_i h
    rw [runsTo_none]
    intro i hi
    unfold bandQ
    by_cases h0 : f ≤ (k : Int)
    · have : ¬ (k : Int) < t := by omega
      simp [this]
    · simp [h0]
theorem runsTo_short (p : Nat → Bool) : ∀ n : Nat, (runsTo p n).length ≤ n
  | 0 => by simp [runsTo, rruns]
  | n + 1 => by
    have ih := runsTo_short p n
    simp only [runsTo, List.length_reverse] at ih ⊢
    cases hp : p n with
    | false => rw [rruns_off hp]; omega
    | true =>
      simp only [rruns, hp, if_true]
      split
      · rename_i a b r heq
        rw [heq] at ih
        simp only [List.length_cons] at ih
        split <;> simp only [List.length_cons] <;> omega
      · simp
theorem bdReg_at {w : World} {b W H : Nat} {cs : Array Value} {T : TypeId} {p : Nat → Nat → Bool} {f t : Int} (hb : w.heap[b]? = some (.cells cs T (0, 0))) (hcs : cs.size = H) (hH : H ≤ 64) (h : ∀ k, k < H → ∃ v, cs[k]? = some v ∧ RunsAt w v (bdRow W p f t H k)) :
    RegF (.agg #[.int .i64 W, .int .i64 H, .slice (some ⟨b, 0, none⟩) H H]) (pixReg W H (bandQ p f t)) w :=
  ⟨_, rfl, rows_of hb hcs (by unfold maxLen; omega) fun k hk => by
    obtain ⟨v, e1, e2⟩ := h k hk
    rw [bdRow_end p f t hk] at e2
    exact ⟨v, e1, e2⟩⟩
theorem runC_one {l : List (Int × Int)} : ∀ x ∈ l.map runC, ∀ y ∈ x, Value.oneCell' y = true := by
  intro x hx y hy
  obtain ⟨r, _, rfl⟩ := List.mem_map.1 hx
  simp [runC] at hy
  rcases hy with rfl | rfl <;> rfl
theorem runC_two {l : List (Int × Int)} : ∀ x ∈ l.map runC, x.length = 2 := by
  intro x hx
  obtain ⟨r, _, rfl⟩ := List.mem_map.1 hx
  rfl

set_option maxRecDepth 100000 in
set_option maxHeartbeats 4000000 in
theorem refBand_calls {W H : Nat} (hs : Sides W H) (w : World) (sa : Option Addr) (sn sc : Nat) (p : Nat → Nat → Bool) (h : RegAt w (.agg #[.int .i64 W, .int .i64 H, .slice sa sn sc]) (pixReg W H p)) (f t : Int) :
    Calls Try.prog 47 #[.agg #[.int .i64 W, .int .i64 H, .slice sa sn sc], .int .i64 f, .int .i64 t] w (PixOut W H (bandQ p f t) w) := by
  obtain ⟨hsn, hrow⟩ := regRow h
  have hsn := hsn.symm
  subst hsn
  clear hsn
  have Hp := Lib.hid h
  clear h
  have Hrow := Lib.hid hrow; clear hrow
  have Hmay := Lib.hid (pix_may hs.w0 hs.w1 hs.h0 hs.h1 p)
  obtain ⟨hw0, hw1, hh0, hh1⟩ := id hs
  have hL := Holds.start w
  have n1 : True := trivial; have n2 : True := trivial; have n3 : True := trivial
  go_enter Try.func47, Try.ntmps47
  go_wp2_with (first | (go_at_call 39; (with_reducible refine (refMayReg_calls _ _ _ (Hp.out.hold hL)).mono ?_); rintro e w3 ⟨rfl, hb⟩; rw [Hmay.out]; replace hL := hL.call hb; clear hb) | (first | (clear hL n1; with_reducible intro b1 w1 hL) | (clear hL n2; with_reducible intro b2 w2 hL) | (clear hL n3; with_reducible intro b3 w3 hL) | (clear hL; with_reducible intro _ _ hL)) | (with_reducible refine wpC_alloc rfl _ rfl _ _ inferInstance hL ?_) | (with_reducible first | refine wpB_agg rfl _ _ _ rfl rfl hL ?_ | refine wpB_one rfl _ _ (.int _ _) rfl rfl rfl hL ?_ | refine wpB_one rfl _ _ (.slice _ _ _) rfl rfl rfl hL ?_ | refine wpB_one rfl _ _ (.bool _) rfl rfl rfl hL ?_ | refine wpB_one rfl _ _ (.pointer _) rfl rfl rfl hL ?_ | refine wpB_one rfl _ _ (.func _ _ _) rfl rfl rfl hL ?_) | (with_reducible first | refine wpH_max rfl _ _ _ _ rfl _ _ rfl rfl ?_ | refine wpH_min rfl _ _ _ _ rfl _ _ rfl rfl ?_) | ((with_reducible refine wpA_load rfl _ _ rfl _ rfl ?_); first | refine loadA hL ?_ | refine loadR hL ?_ | refine loadC hL ?_ | refine loadD ?_ | refine loadE hL ?_ | refine loadF ?_) | ((with_reducible refine wpA_index rfl _ _ _ rfl _ rfl _ rfl ?_); first | (refine indexA ?_; try rw [Int.toNat_natCast]) | refine indexC ?_) | ((with_reducible refine wpA_store rfl _ _ _ rfl _ rfl (.agg _) rfl ?_); refine storeR hL ?_; clear hL; intro _ hL) | ((with_reducible first | refine wpA_store rfl _ _ _ rfl _ rfl (.int _ _) rfl ?_ | refine wpA_store rfl _ _ _ rfl _ rfl (.slice _ _ _) rfl ?_ | refine wpA_store rfl _ _ _ rfl _ rfl (.bool _) rfl ?_ | refine wpA_store rfl _ _ _ rfl _ rfl (.pointer _) rfl ?_ | refine wpA_store rfl _ _ _ rfl _ rfl (.func _ _ _) rfl ?_); (first | refine storeA hL ?_ | refine storeO hL ?_); (clear hL; intro _ hL)) | ((with_reducible refine wpA_lit rfl _ _ _ rfl ?_); first | refine litA1 hL ?_ | refine litA2 hL ?_) | ((with_reducible refine wpA_append rfl _ _ _ rfl (.slice _ _ _) rfl ?_); intro vq hvq; simp [go_sem] at hvq; subst hvq; refine appendA hL ?_; clear hL; intro _ _ _ hL; try dsimp only at hL) | ((with_reducible refine wpA_make rfl _ _ _ rfl _ rfl rfl ?_); refine makeA hL ?_))
  have c0 := (hL.cell (o := 0) (b := b1) (by (repeat (first | with_reducible exact At.here | with_reducible apply At.there)))).trans rfl
  have c1 := (hL.cell (o := 1) (b := b1) (by (repeat (first | with_reducible exact At.here | with_reducible apply At.there)))).trans rfl
  have hmk := fun w => run_makeRows (n := H) (L := (H : Int)) hh1 rfl w
  go_region_held3 (fun w' => w'.cell? ⟨b1, 0, none⟩ = some (.int .i64 W) ∧ w'.cell? ⟨b1, 1, none⟩ = some (.int .i64 H)) (first | exact ⟨c0, c1⟩ | exact ⟨cell_later (by repeat (first | exact Below.refl _ _ | refine Below.drew ?_ | refine Below.alloc ?_ (by simp) _)) c0, cell_later (by repeat (first | exact Below.refl _ _ | refine Below.drew ?_ | refine Below.alloc ?_ (by simp) _)) c1⟩ | go_keep) (fail)
  all_goals clear c0 c1 hmk
  focus
    rename_i hH
    clear hH
    replace hL := (hL.alloc2 (Array.replicate H (Value.slice none 0 0)) (#[.int .i64 W, .int .i64 H, .slice (some ⟨w3.heap.size, 0, none⟩) H H]) 36 26)
    obtain ⟨w4, hw4⟩ : ∃ w4, w4 = ((w3.alloc (.cells (Array.replicate H (Value.slice none 0 0)) 36)).alloc (.cells (#[.int .i64 W, .int .i64 H, .slice (some ⟨w3.heap.size, 0, none⟩) H H]) 26)).drew := ⟨_, rfl⟩
    rw [← hw4] at hL ⊢
    clear hw4
    generalize w3.heap.size + 1 = bh at hL ⊢
    generalize w3.heap.size = bm at hL ⊢
  rotate_left
  focus
    rename_i hH
    clear hH
    replace hL := (hL.alloc2 (#[.int .i64 W, .int .i64 H, .slice (some ⟨w3.heap.size + 1, 0, none⟩) H H]) (Array.replicate H (Value.slice none 0 0)) 26 36).swapM
    obtain ⟨w4, hw4⟩ : ∃ w4, w4 = ((w3.alloc (.cells (#[.int .i64 W, .int .i64 H, .slice (some ⟨w3.heap.size + 1, 0, none⟩) H H]) 26)).alloc (.cells (Array.replicate H (Value.slice none 0 0)) 36)).drew := ⟨_, rfl⟩
    rw [← hw4] at hL ⊢
    clear hw4
    generalize w3.heap.size + 1 = bm at hL ⊢
    generalize w3.heap.size = bh at hL ⊢
  all_goals
    have hnil : ∀ w : World, ∀ k, k < H → ∃ v, (Array.replicate H (Value.slice none 0 0))[k]? = some v ∧ RunsAt w v (bdRow W p f t 0 k) := by
      intro w k hk
      exact ⟨.slice none 0 0, by simp [hk], by rw [show bdRow W p f t 0 k = [] from by unfold bdRow; rw [if_neg (by omega)]]; exact runs_nil w⟩
    have Hnil := Lib.hid hnil; clear hnil
    go_wp2
    go_loopw [9] (fun s9 wr => ∃ (j : Nat) (cs : Array Value), j ≤ H ∧ s9 = .int .i64 j ∧ cs.size = H ∧ Holds w wr [blk bh #[.int .i64 W, .int .i64 H, .slice (some ⟨bm, 0, none⟩) H H] 26, blk bm (cs) 36, blk b2 #[.int .i64 0, .int .i64 0, .slice none 0 0] 26, blk b1 #[.int .i64 W, .int .i64 H, .slice sa H sc] 26] [fun w => ∀ k, k < H → ∃ v, cs[k]? = some v ∧ RunsAt w v (bdRow W p f t j k)])
      (fun s9 wr => (64 - intOf s9).toNat)
    case atStart => exact ⟨0, _, by omega, rfl, by simp, hL.triv Hnil.out⟩
    case round =>
      clear hL
      obtain ⟨j, cs, hj, rfl, hcs, hL⟩ := hrel
      by_cases hjt : j < H
      · obtain ⟨b, o, va, vn, vc, rfl, hc, hr⟩ := Hrow.out j hjt
        have Hrr := Lib.hid hr; clear hr
        have hkb0 : (0 : Int) ≤ (j : Int) := by omega
        have hkb1 : (j : Int) < (H : Int) := by omega
        by_cases hin : f ≤ (j : Int) ∧ (j : Int) < t
        · obtain ⟨i1, i2⟩ := hin
          go_wp2_with (first | (first | (clear hL n1; with_reducible intro b1 w1 hL) | (clear hL n2; with_reducible intro b2 w2 hL) | (clear hL n3; with_reducible intro b3 w3 hL) | (clear hL; with_reducible intro _ _ hL)) | (with_reducible refine wpC_alloc rfl _ rfl _ _ inferInstance hL ?_) | (with_reducible first | refine wpB_agg rfl _ _ _ rfl rfl hL ?_ | refine wpB_one rfl _ _ (.int _ _) rfl rfl rfl hL ?_ | refine wpB_one rfl _ _ (.slice _ _ _) rfl rfl rfl hL ?_ | refine wpB_one rfl _ _ (.bool _) rfl rfl rfl hL ?_ | refine wpB_one rfl _ _ (.pointer _) rfl rfl rfl hL ?_ | refine wpB_one rfl _ _ (.func _ _ _) rfl rfl rfl hL ?_) | (with_reducible first | refine wpH_max rfl _ _ _ _ rfl _ _ rfl rfl ?_ | refine wpH_min rfl _ _ _ _ rfl _ _ rfl rfl ?_) | ((with_reducible refine wpA_load rfl _ _ rfl _ rfl ?_); first | refine loadA hL ?_ | refine loadR hL ?_ | refine loadC hL ?_ | refine loadD ?_ | refine loadE hL ?_ | refine loadF ?_) | ((with_reducible refine wpA_index rfl _ _ _ rfl _ rfl _ rfl ?_); first | (refine indexA ?_; try rw [Int.toNat_natCast]) | refine indexC ?_) | ((with_reducible refine wpA_store rfl _ _ _ rfl _ rfl (.agg _) rfl ?_); refine storeR hL ?_; clear hL; intro _ hL) | ((with_reducible first | refine wpA_store rfl _ _ _ rfl _ rfl (.int _ _) rfl ?_ | refine wpA_store rfl _ _ _ rfl _ rfl (.slice _ _ _) rfl ?_ | refine wpA_store rfl _ _ _ rfl _ rfl (.bool _) rfl ?_ | refine wpA_store rfl _ _ _ rfl _ rfl (.pointer _) rfl ?_ | refine wpA_store rfl _ _ _ rfl _ rfl (.func _ _ _) rfl ?_); (first | refine storeA hL ?_ | refine storeO hL ?_); (clear hL; intro _ hL)) | ((with_reducible refine wpA_lit rfl _ _ _ rfl ?_); first | refine litA1 hL ?_ | refine litA2 hL ?_) | ((with_reducible refine wpA_append rfl _ _ _ rfl (.slice _ _ _) rfl ?_); intro vq hvq; simp [go_sem] at hvq; subst hvq; refine appendA hL ?_; clear hL; intro _ _ _ hL; try dsimp only at hL) | ((with_reducible refine wpA_make rfl _ _ _ rfl _ rfl rfl ?_); refine makeA hL ?_))
          have Hi1 := Lib.hid i1
          have Hi2 := Lib.hid i2
          clear i1 i2
          replace hL := hL.drew
          have hS : (fun w' : World => w'.cell? ⟨bh, 2, none⟩ = some (.slice (some ⟨bm, 0, none⟩) H H) ∧ w'.cell? ⟨b1, 2, none⟩ = some (.slice (some ⟨b, o, none⟩) H sc) ∧ w'.cell? ⟨b, o + j, none⟩ = some (.slice va vn vc)) _ := ⟨(hL.cell (by (repeat (first | with_reducible exact At.here | with_reducible apply At.there)))).trans rfl, (hL.cell (by (repeat (first | with_reducible exact At.here | with_reducible apply At.there)))).trans rfl, hL.old hc⟩
          refine wpM_begin (by kernel_rfl) (fun w' : World => w'.cell? ⟨bh, 2, none⟩ = some (.slice (some ⟨bm, 0, none⟩) H H) ∧ w'.cell? ⟨b1, 2, none⟩ = some (.slice (some ⟨b, o, none⟩) H sc) ∧ w'.cell? ⟨b, o + j, none⟩ = some (.slice va vn vc)) 11 ?_
          refine stM (i := 0) (.pointer (some ⟨bh, 2, none⟩)) hS ?_ ?_; (· exact fun w' _ => (by go_simp)); simp only [Act.put, List.setIfInBounds_toArray, List.set_cons_zero, List.set_cons_succ]
          refine stM (i := 1) (.slice (some ⟨bm, 0, none⟩) H H) hS ?_ ?_; (· exact fun w' hw => run_loadOp _ _ rfl _ rfl _ (load_cell hw.1)); simp only [Act.put, List.setIfInBounds_toArray, List.set_cons_zero, List.set_cons_succ]
          refine stM (i := 2) (.int .i64 j) hS ?_ ?_; (· exact fun w' _ => (by go_simp)); simp only [Act.put, List.setIfInBounds_toArray, List.set_cons_zero, List.set_cons_succ]
          refine stM (i := 4) (.pointer (some ⟨b1, 2, none⟩)) hS ?_ ?_; (· exact fun w' _ => (by go_simp)); simp only [Act.put, List.setIfInBounds_toArray, List.set_cons_zero, List.set_cons_succ]
          refine stM (i := 5) (.slice (some ⟨b, o, none⟩) H sc) hS ?_ ?_; (· exact fun w' hw => run_loadOp _ _ rfl _ rfl _ (load_cell hw.2.1)); simp only [Act.put, List.setIfInBounds_toArray, List.set_cons_zero, List.set_cons_succ]
          refine stM (i := 6) (.int .i64 j) hS ?_ ?_; (· exact fun w' _ => (by go_simp)); simp only [Act.put, List.setIfInBounds_toArray, List.set_cons_zero, List.set_cons_succ]
          refine stM (i := 7) (.pointer (some ⟨b, o + j, none⟩)) hS ?_ ?_; (· exact fun w' _ => (by go_simp)); simp only [Act.put, List.setIfInBounds_toArray, List.set_cons_zero, List.set_cons_succ]
          refine stM (i := 8) (.slice va vn vc) hS ?_ ?_; (· exact fun w' hw => run_loadOp _ _ rfl _ rfl _ (load_cell hw.2.2)); simp only [Act.put, List.setIfInBounds_toArray, List.set_cons_zero, List.set_cons_succ]
          refine wpM_one (i := 3) (by kernel_rfl) (wpOp_of (by simp only [List.getElem?_toArray, List.getElem?_cons_zero, List.getElem?_cons_succ]; rfl) ?_)
          refine st_lit rfl _ _ _ rfl (litEmpty hL ?_ (by simp))
          clear hS hL
          intro bq w5 hL
          refine ⟨fun _ => ⟨(hL.cell (by (repeat (first | with_reducible exact At.here | with_reducible apply At.there)))).trans rfl, (hL.cell (by (repeat (first | with_reducible exact At.here | with_reducible apply At.there)))).trans rfl, hL.old hc⟩, ?_⟩
          simp only [Act.put, List.setIfInBounds_toArray, List.set_cons_zero, List.set_cons_succ]
          refine wpM_one (i := 9) (by kernel_rfl) (wpOp_of (by simp only [List.getElem?_toArray, List.getElem?_cons_zero, List.getElem?_cons_succ]; rfl) ?_)
          have hshort := runsTo_short (p j) W
          refine st_append rfl _ _ _ rfl _ _ rfl rfl (appendOld (els := (runsTo (p j) W).map runC) (Hrr.out.hold hL) runC_two runC_one hL (f := fun r' => r' :: _) (fun _ => Upd.here) (by rfl) (by decide) (by rw [List.length_map]; unfold maxLen; omega) (by rw [List.length_map]; omega) ?_)
          clear hL hshort
          intro v' w6 hL
          obtain ⟨ra, rc, rfl⟩ := own_slice hL .here
          replace hL := hL.settle .here (φ := fun w => RunsAt w (.slice ra (0 + ((runsTo (p j) W).map runC).length) rc) (runsTo (p j) W)) fun w h => own_sliceAt h (by omega) (by simp) runC_two
          have hS : (fun w' : World => w'.cell? ⟨bh, 2, none⟩ = some (.slice (some ⟨bm, 0, none⟩) H H) ∧ w'.cell? ⟨b1, 2, none⟩ = some (.slice (some ⟨b, o, none⟩) H sc) ∧ w'.cell? ⟨b, o + j, none⟩ = some (.slice va vn vc)) w6 := ⟨(hL.cell (by (repeat (first | with_reducible exact At.here | with_reducible apply At.there)))).trans rfl, (hL.cell (by (repeat (first | with_reducible exact At.here | with_reducible apply At.there)))).trans rfl, hL.old hc⟩
          refine ⟨fun _ => hS, ?_⟩
          simp only [Act.put, List.setIfInBounds_toArray, List.set_cons_zero, List.set_cons_succ]
          refine stM (i := 10) (.pointer (some ⟨bm, j, none⟩)) hS ?_ ?_; (· exact fun w' _ => (by go_simp)); simp only [Act.put, List.setIfInBounds_toArray, List.set_cons_zero, List.set_cons_succ]
          clear hS
          generalize 0 + ((runsTo (p j) W).map runC).length = rn at hL ⊢
          refine wpM_one (i := 11) (by kernel_rfl) (wpOp_of (by simp only [List.getElem?_toArray, List.getElem?_cons_zero, List.getElem?_cons_succ]; rfl) ?_)
          refine st_store rfl _ _ _ rfl ⟨bm, j, none⟩ rfl (.slice ra rn rc) rfl (storeAt_cell rfl rfl inferInstance hL _ _ _ (by (repeat (first | with_reducible exact Upd.here | with_reducible apply Upd.there))) (by omega) rfl ?_)
          clear hL
          intro w9 hL
          refine ⟨fun h => absurd rfl h, wpM_done (by kernel_rfl) ?_⟩
          simp only [Act.put, List.setIfInBounds_toArray, List.set_cons_zero, List.set_cons_succ]
          go_wp2
          go_roundw
          case rel =>
            refine ⟨j + 1, cs.setIfInBounds j (.slice ra rn rc), by omega, by go_num, by rw [Array.size_setIfInBounds]; exact hcs, hL.join fun w' h1 h2 y hy => ?_⟩
            have i1 := Hi1.out
            have i2 := Hi2.out
            by_cases hyk : y = j
            · subst hyk
              refine ⟨_, by rw [Array.getElem?_setIfInBounds, if_pos rfl, if_pos (by rw [hcs]; exact hjt)], ?_⟩
              unfold bdRow
              rw [if_pos (by omega)]
              exact h1
            · obtain ⟨v', e1, e2⟩ := h2 y hy
              refine ⟨v', by rw [Array.getElem?_setIfInBounds, if_neg (fun e => hyk e.symm)]; exact e1, ?_⟩
              rw [show bdRow W p f t (j + 1) y = bdRow W p f t j y from ?_]
              · exact e2
              · unfold bdRow
                have : (y < j + 1 ∧ f ≤ (y : Int) ∧ (y : Int) < t) ↔ (y < j ∧ f ≤ (y : Int) ∧ (y : Int) < t) := by omega
                simp only [this]
          case measure => simp [intOf]; omega
        · rcases (by omega : ¬ f ≤ (j : Int) ∨ (f ≤ (j : Int) ∧ ¬ (j : Int) < t)) with i1 | ⟨i1, i2⟩
          all_goals
            go_wp2_with (first | (first | (clear hL n1; with_reducible intro b1 w1 hL) | (clear hL n2; with_reducible intro b2 w2 hL) | (clear hL n3; with_reducible intro b3 w3 hL) | (clear hL; with_reducible intro _ _ hL)) | (with_reducible refine wpC_alloc rfl _ rfl _ _ inferInstance hL ?_) | (with_reducible first | refine wpB_agg rfl _ _ _ rfl rfl hL ?_ | refine wpB_one rfl _ _ (.int _ _) rfl rfl rfl hL ?_ | refine wpB_one rfl _ _ (.slice _ _ _) rfl rfl rfl hL ?_ | refine wpB_one rfl _ _ (.bool _) rfl rfl rfl hL ?_ | refine wpB_one rfl _ _ (.pointer _) rfl rfl rfl hL ?_ | refine wpB_one rfl _ _ (.func _ _ _) rfl rfl rfl hL ?_) | (with_reducible first | refine wpH_max rfl _ _ _ _ rfl _ _ rfl rfl ?_ | refine wpH_min rfl _ _ _ _ rfl _ _ rfl rfl ?_) | ((with_reducible refine wpA_load rfl _ _ rfl _ rfl ?_); first | refine loadA hL ?_ | refine loadR hL ?_ | refine loadC hL ?_ | refine loadD ?_ | refine loadE hL ?_ | refine loadF ?_) | ((with_reducible refine wpA_index rfl _ _ _ rfl _ rfl _ rfl ?_); first | (refine indexA ?_; try rw [Int.toNat_natCast]) | refine indexC ?_) | ((with_reducible refine wpA_store rfl _ _ _ rfl _ rfl (.agg _) rfl ?_); refine storeR hL ?_; clear hL; intro _ hL) | ((with_reducible first | refine wpA_store rfl _ _ _ rfl _ rfl (.int _ _) rfl ?_ | refine wpA_store rfl _ _ _ rfl _ rfl (.slice _ _ _) rfl ?_ | refine wpA_store rfl _ _ _ rfl _ rfl (.bool _) rfl ?_ | refine wpA_store rfl _ _ _ rfl _ rfl (.pointer _) rfl ?_ | refine wpA_store rfl _ _ _ rfl _ rfl (.func _ _ _) rfl ?_); (first | refine storeA hL ?_ | refine storeO hL ?_); (clear hL; intro _ hL)) | ((with_reducible refine wpA_lit rfl _ _ _ rfl ?_); first | refine litA1 hL ?_ | refine litA2 hL ?_) | ((with_reducible refine wpA_append rfl _ _ _ rfl (.slice _ _ _) rfl ?_); intro vq hvq; simp [go_sem] at hvq; subst hvq; refine appendA hL ?_; clear hL; intro _ _ _ hL; try dsimp only at hL) | ((with_reducible refine wpA_make rfl _ _ _ rfl _ rfl rfl ?_); refine makeA hL ?_))
            go_roundw
            case rel =>
              refine ⟨j + 1, cs, by omega, by go_num, hcs, hL.map fun w' h2 y hy => ?_⟩
              obtain ⟨v', e1, e2⟩ := h2 y hy
              refine ⟨v', e1, ?_⟩
              rw [show bdRow W p f t (j + 1) y = bdRow W p f t j y from ?_]
              · exact e2
              · unfold bdRow
                have : (y < j + 1 ∧ f ≤ (y : Int) ∧ (y : Int) < t) ↔ (y < j ∧ f ≤ (y : Int) ∧ (y : Int) < t) := by omega
                simp only [this]
            case measure => simp [intOf]; omega
      · have e : j = H := by omega
        subst e
        go_wp2_with (first | (first | (clear hL n1; with_reducible intro b1 w1 hL) | (clear hL n2; with_reducible intro b2 w2 hL) | (clear hL n3; with_reducible intro b3 w3 hL) | (clear hL; with_reducible intro _ _ hL)) | (with_reducible refine wpC_alloc rfl _ rfl _ _ inferInstance hL ?_) | (with_reducible first | refine wpB_agg rfl _ _ _ rfl rfl hL ?_ | refine wpB_one rfl _ _ (.int _ _) rfl rfl rfl hL ?_ | refine wpB_one rfl _ _ (.slice _ _ _) rfl rfl rfl hL ?_ | refine wpB_one rfl _ _ (.bool _) rfl rfl rfl hL ?_ | refine wpB_one rfl _ _ (.pointer _) rfl rfl rfl hL ?_ | refine wpB_one rfl _ _ (.func _ _ _) rfl rfl rfl hL ?_) | (with_reducible first | refine wpH_max rfl _ _ _ _ rfl _ _ rfl rfl ?_ | refine wpH_min rfl _ _ _ _ rfl _ _ rfl rfl ?_) | ((with_reducible refine wpA_load rfl _ _ rfl _ rfl ?_); first | refine loadA hL ?_ | refine loadR hL ?_ | refine loadC hL ?_ | refine loadD ?_ | refine loadE hL ?_ | refine loadF ?_) | ((with_reducible refine wpA_index rfl _ _ _ rfl _ rfl _ rfl ?_); first | (refine indexA ?_; try rw [Int.toNat_natCast]) | refine indexC ?_) | ((with_reducible refine wpA_store rfl _ _ _ rfl _ rfl (.agg _) rfl ?_); refine storeR hL ?_; clear hL; intro _ hL) | ((with_reducible first | refine wpA_store rfl _ _ _ rfl _ rfl (.int _ _) rfl ?_ | refine wpA_store rfl _ _ _ rfl _ rfl (.slice _ _ _) rfl ?_ | refine wpA_store rfl _ _ _ rfl _ rfl (.bool _) rfl ?_ | refine wpA_store rfl _ _ _ rfl _ rfl (.pointer _) rfl ?_ | refine wpA_store rfl _ _ _ rfl _ rfl (.func _ _ _) rfl ?_); (first | refine storeA hL ?_ | refine storeO hL ?_); (clear hL; intro _ hL)) | ((with_reducible refine wpA_lit rfl _ _ _ rfl ?_); first | refine litA1 hL ?_ | refine litA2 hL ?_) | ((with_reducible refine wpA_append rfl _ _ _ rfl (.slice _ _ _) rfl ?_); intro vq hvq; simp [go_sem] at hvq; subst hvq; refine appendA hL ?_; clear hL; intro _ _ _ hL; try dsimp only at hL) | ((with_reducible refine wpA_make rfl _ _ _ rfl _ rfl rfl ?_); refine makeA hL ?_))
        refine bodyPost_ret (results_row2 inferInstance rfl _ hL b2 rfl _ _ (.there (.there .here)) rfl) rfl ⟨some ⟨bm, 0, none⟩, j, j, rfl, hL.below, ?_⟩
        exact ((hL.settle (.there .here) (φ := fun w => w.heap[bm]? = some (.cells cs 36 (0, 0))) fun _ h => h).join fun w' h1 h2 => bdReg_at h1 hcs hh1 h2).fresh
end Go.Proofs.Ytjgnbmgdnfldeaa
