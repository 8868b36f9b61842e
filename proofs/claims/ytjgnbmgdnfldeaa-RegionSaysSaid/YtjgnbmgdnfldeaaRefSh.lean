/- The reference's ShiftRegion. -/
import Derived.Test.YtjgnbmgdnfldeaaRefMask
import Derived.Test.YtjgnbmgdnfldeaaRef30c
-- uses arrU
namespace Go.Proofs.Ytjgnbmgdnfldeaa
open Go.RowKit

/-- row k, where the rows below j have been moved -/
def shRow (W : Nat) (p : Nat → Nat → Bool) (dx dy : Int) (j k : Nat) : List (Int × Int) :=
  if 0 ≤ (k : Int) - dy ∧ (k : Int) - dy < (j : Int) then runsTo (fun i => decide (0 ≤ (i : Int) - dx) && (decide ((i : Int) - dx < W) && p ((k : Int) - dy).toNat ((i : Int) - dx).toNat)) W else []
theorem runsTo_none {q : Nat → Bool} : ∀ {n : Nat}, (∀ i, i < n → q i = false) → runsTo q n = []
  | 0, _ => rfl
  | n + 1, h => by rw [runsTo_off (h n (by omega)), runsTo_none fun i hi => h i (by omega)]
theorem refShift_row {W : Nat} (hW : W ≤ 64) (q : Nat → Bool) (dx : Int) : refShift (runsTo q W) dx W = runsTo (fun i => decide (0 ≤ (i : Int) - dx) && (decide ((i : Int) - dx < W) && q ((i : Int) - dx).toNat)) W := by
  unfold refShift
  have hc : (cutI (W : Int)).toNat = W := by unfold cutI; omega
  have hc64 : cutI 64 = 64 := by unfold cutI; omega
  split
  · rename_i h
    rw [runsTo_none]
    intro i hi
    by_cases h0 : 0 ≤ (i : Int) - dx
    · have : ¬ (i : Int) - dx < W := by omega
      simp [this]
    · simp; omega
  · rw [hc]
    refine runsTo_congr fun i hi => ?_
    unfold shiftP
    rw [hc64, inRuns_runsTo _ hW]
    have e1 : decide ((i : Int) < 64) = true := by simp; omega
    rw [e1, Bool.true_and]
    by_cases h0 : 0 ≤ (i : Int) - dx
    · have : (((i : Int) - dx).toNat < W) ↔ (i : Int) - dx < W := by omega
      simp [this]
    · have : decide (0 ≤ (i : Int) - dx) = false := by simp; omega
      rw [this]; rfl
theorem shRow_end {W H : Nat} (p : Nat → Nat → Bool) (dx dy : Int) (k : Nat) : shRow W p dx dy H k = runsTo (shQ W H p dx dy k) W := by
  unfold shRow
  split
  · rename_i h
    refine runsTo_congr fun i hi => ?_
    unfold shQ atPix
    have e1 : decide (0 ≤ (k : Int) - dy) = true := decide_eq_true h.1
    have e2 : decide ((k : Int) - dy < H) = true := decide_eq_true h.2
    rw [e1, e2]
    rfl
  · rename_i h
    rw [runsTo_none]
    intro i hi
    unfold shQ atPix
    by_cases h0 : 0 ≤ (k : Int) - dy
    · have : ¬ (k : Int) - dy < H := by omega
      simp [this]
    · have : decide (0 ≤ (k : Int) - dy) = false := by simp; omega
      rw [this]; simp
theorem shReg_at {w : World} {b W H : Nat} {cs : Array Value} {T : TypeId} {p : Nat → Nat → Bool} {dx dy : Int} (hb : w.heap[b]? = some (.cells cs T (0, 0))) (hcs : cs.size = H) (hH : H ≤ 64) (h : ∀ k, k < H → ∃ v, cs[k]? = some v ∧ RunsAt w v (shRow W p dx dy H k)) :
    RegF (.agg #[.int .i64 W, .int .i64 H, .slice (some ⟨b, 0, none⟩) H H]) (pixReg W H (shQ W H p dx dy)) w :=
  ⟨_, rfl, rows_of hb hcs (by unfold maxLen; omega) fun k hk => by
    obtain ⟨v, e1, e2⟩ := h k hk
    rw [shRow_end] at e2
    exact ⟨v, e1, e2⟩⟩
theorem run_makeRows {n : Nat} (hn : n ≤ 64) {L : Int} (hL : L = (n : Int)) (w : World) :
    (Instr.makeSlice 24 (.int .i64 L) (.int .i64 L)).run Try.prog w = .ok (.slice (some ⟨w.heap.size, 0, none⟩) n n) (w.alloc (.cells (List.replicate n (Value.slice none 0 0)).toArray 36)) := by
  have hS : SliceT Try.prog 24 36 := inferInstance
  have hE : ElemT Try.prog 36 1 24 (.slice none 0 0) := inferInstance
  obtain ⟨i, hi1, hi2, hi3, hi4⟩ := info_parts hE.info
  subst hL
  have hb' : (i.bytes : Int) * (n : Int) ≤ 281474976710656 := by rw [hi4]; omega
  have hrun := run_make (P := Try.prog) w _ _ i _ hS.out hi1 hi2 .i64 .i64 (n : Int) (n : Int) (by omega) (Int.le_refl _) hb' (by omega)
  simp only [Int.toNat_natCast, hi3, Nat.mul_one, Value.cells, madeCells_one] at hrun
  exact hrun

set_option maxRecDepth 100000 in
set_option maxHeartbeats 4000000 in
theorem refShiftReg_calls {W H : Nat} (hs : Sides W H) (w : World) (sa : Option Addr) (sn sc : Nat) (p : Nat → Nat → Bool) (h : RegAt w (.agg #[.int .i64 W, .int .i64 H, .slice sa sn sc]) (pixReg W H p)) (dx dy : Int) :
    Calls Try.prog 45 #[.agg #[.int .i64 W, .int .i64 H, .slice sa sn sc], .int .i64 dx, .int .i64 dy] w (PixOut W H (shQ W H p dx dy) w) := by
  obtain ⟨hsn, hrow⟩ := regRow h
  have hsn := hsn.symm
  subst hsn
  clear hsn
  have Hp := Lib.hid h
  clear h
  have Hrow := Lib.hid hrow; clear hrow
  have Hmay := Lib.hid (pix_may hs.w0 hs.w1 hs.h0 hs.h1 p)
  obtain ⟨hw0, hw1, hh0, hh1⟩ := id hs
  have hL := Holds.start w
  have n1 : True := trivial; have n2 : True := trivial; have n3 : True := trivial
  go_enter Try.func45, Try.ntmps45
  go_wp2_with (first | (go_at_call 39; (with_reducible refine (refMayReg_calls _ _ _ (Hp.out.hold hL)).mono ?_); rintro e w3 ⟨rfl, hb⟩; rw [Hmay.out]; replace hL := hL.call hb; clear hb) | (first | (clear hL n1; with_reducible intro b1 w1 hL) | (clear hL n2; with_reducible intro b2 w2 hL) | (clear hL n3; with_reducible intro b3 w3 hL) | (clear hL; with_reducible intro _ _ hL)) | (with_reducible refine wpC_alloc rfl _ rfl _ _ inferInstance hL ?_) | (with_reducible first | refine wpB_agg rfl _ _ _ rfl rfl hL ?_ | refine wpB_one rfl _ _ (.int _ _) rfl rfl rfl hL ?_ | refine wpB_one rfl _ _ (.slice _ _ _) rfl rfl rfl hL ?_ | refine wpB_one rfl _ _ (.bool _) rfl rfl rfl hL ?_ | refine wpB_one rfl _ _ (.pointer _) rfl rfl rfl hL ?_ | refine wpB_one rfl _ _ (.func _ _ _) rfl rfl rfl hL ?_) | (with_reducible first | refine wpH_max rfl _ _ _ _ rfl _ _ rfl rfl ?_ | refine wpH_min rfl _ _ _ _ rfl _ _ rfl rfl ?_) | ((with_reducible refine wpA_load rfl _ _ rfl _ rfl ?_); first | refine loadA hL ?_ | refine loadR hL ?_ | refine loadC hL ?_ | refine loadD ?_ | refine loadE hL ?_ | refine loadF ?_) | ((with_reducible refine wpA_index rfl _ _ _ rfl _ rfl _ rfl ?_); first | (refine indexA ?_; try rw [Int.toNat_natCast]) | refine indexC ?_) | ((with_reducible refine wpA_store rfl _ _ _ rfl _ rfl (.agg _) rfl ?_); refine storeR hL ?_; clear hL; intro _ hL) | ((with_reducible first | refine wpA_store rfl _ _ _ rfl _ rfl (.int _ _) rfl ?_ | refine wpA_store rfl _ _ _ rfl _ rfl (.slice _ _ _) rfl ?_ | refine wpA_store rfl _ _ _ rfl _ rfl (.bool _) rfl ?_ | refine wpA_store rfl _ _ _ rfl _ rfl (.pointer _) rfl ?_ | refine wpA_store rfl _ _ _ rfl _ rfl (.func _ _ _) rfl ?_); (first | refine storeA hL ?_ | refine storeO hL ?_); (clear hL; intro _ hL)) | ((with_reducible refine wpA_lit rfl _ _ _ rfl ?_); first | refine litA1 hL ?_ | refine litA2 hL ?_) | ((with_reducible refine wpA_append rfl _ _ _ rfl (.slice _ _ _) rfl ?_); intro vq hvq; simp [go_sem] at hvq; subst hvq; refine appendA hL ?_; clear hL; intro _ _ _ hL; try dsimp only at hL) | ((with_reducible refine wpA_make rfl _ _ _ rfl _ rfl rfl ?_); refine makeA hL ?_))
  have c0 := (hL.cell (o := 0) (b := b1) (by (repeat (first | with_reducible exact At.here | with_reducible apply At.there)))).trans rfl
  have c1 := (hL.cell (o := 1) (b := b1) (by (repeat (first | with_reducible exact At.here | with_reducible apply At.there)))).trans rfl
  have hmk := fun w => run_makeRows (n := H) (L := (H : Int)) hh1 rfl w
  go_region_held3 (fun w' => w'.cell? ⟨b1, 0, none⟩ = some (.int .i64 W) ∧ w'.cell? ⟨b1, 1, none⟩ = some (.int .i64 H)) (first | exact ⟨c0, c1⟩ | exact ⟨cell_later (by repeat (first | exact Below.refl _ _ | refine Below.drew ?_ | refine Below.alloc ?_ (by simp) _)) c0, cell_later (by repeat (first | exact Below.refl _ _ | refine Below.drew ?_ | refine Below.alloc ?_ (by simp) _)) c1⟩ | go_keep) (fail)
  all_goals clear c0 c1 hmk
  · rename_i hH
    clear hH
    replace hL := (hL.alloc2 (Array.replicate H (Value.slice none 0 0)) (#[.int .i64 W, .int .i64 H, .slice (some ⟨w3.heap.size, 0, none⟩) H H]) 36 26)
    obtain ⟨w4, hw4⟩ : ∃ w4, w4 = ((w3.alloc (.cells (Array.replicate H (Value.slice none 0 0)) 36)).alloc (.cells (#[.int .i64 W, .int .i64 H, .slice (some ⟨w3.heap.size, 0, none⟩) H H]) 26)).drew := ⟨_, rfl⟩
    rw [← hw4] at hL ⊢
    clear hw4
    generalize w3.heap.size + 1 = bh at hL ⊢
    generalize w3.heap.size = bm at hL ⊢
    have hnil : ∀ (cs : Array Value), cs = Array.replicate H (Value.slice none 0 0) → ∀ (j : Nat), (∀ k, k < H → shRow W p dx dy j k = []) → ∀ w : World, ∀ k, k < H → ∃ v, cs[k]? = some v ∧ RunsAt w v (shRow W p dx dy j k) := by
      intro cs e j h w k hk
      subst e
      exact ⟨.slice none 0 0, by simp [hk], by rw [h k hk]; exact runs_nil w⟩
    have Hnil := Lib.hid hnil; clear hnil
    rcases (by omega : dy ≤ -(H : Int) ∨ (¬ dy ≤ -(H : Int) ∧ (H : Int) ≤ dy) ∨ (¬ dy ≤ -(H : Int) ∧ ¬ (H : Int) ≤ dy)) with f1 | ⟨f1, f2⟩ | ⟨f1, f2⟩
    · have hfar := Hnil.out _ rfl H (fun k hk => by unfold shRow; rw [if_neg (by omega)])
      have Hfar := Lib.hid hfar; clear hfar
      go_wp2_with (first | (first | (clear hL n1; with_reducible intro b1 w1 hL) | (clear hL n2; with_reducible intro b2 w2 hL) | (clear hL n3; with_reducible intro b3 w3 hL) | (clear hL; with_reducible intro _ _ hL)) | (with_reducible refine wpC_alloc rfl _ rfl _ _ inferInstance hL ?_) | (with_reducible first | refine wpB_agg rfl _ _ _ rfl rfl hL ?_ | refine wpB_one rfl _ _ (.int _ _) rfl rfl rfl hL ?_ | refine wpB_one rfl _ _ (.slice _ _ _) rfl rfl rfl hL ?_ | refine wpB_one rfl _ _ (.bool _) rfl rfl rfl hL ?_ | refine wpB_one rfl _ _ (.pointer _) rfl rfl rfl hL ?_ | refine wpB_one rfl _ _ (.func _ _ _) rfl rfl rfl hL ?_) | (with_reducible first | refine wpH_max rfl _ _ _ _ rfl _ _ rfl rfl ?_ | refine wpH_min rfl _ _ _ _ rfl _ _ rfl rfl ?_) | ((with_reducible refine wpA_load rfl _ _ rfl _ rfl ?_); first | refine loadA hL ?_ | refine loadR hL ?_ | refine loadC hL ?_ | refine loadD ?_ | refine loadE hL ?_ | refine loadF ?_) | ((with_reducible refine wpA_index rfl _ _ _ rfl _ rfl _ rfl ?_); first | (refine indexA ?_; try rw [Int.toNat_natCast]) | refine indexC ?_) | ((with_reducible refine wpA_store rfl _ _ _ rfl _ rfl (.agg _) rfl ?_); refine storeR hL ?_; clear hL; intro _ hL) | ((with_reducible first | refine wpA_store rfl _ _ _ rfl _ rfl (.int _ _) rfl ?_ | refine wpA_store rfl _ _ _ rfl _ rfl (.slice _ _ _) rfl ?_ | refine wpA_store rfl _ _ _ rfl _ rfl (.bool _) rfl ?_ | refine wpA_store rfl _ _ _ rfl _ rfl (.pointer _) rfl ?_ | refine wpA_store rfl _ _ _ rfl _ rfl (.func _ _ _) rfl ?_); (first | refine storeA hL ?_ | refine storeO hL ?_); (clear hL; intro _ hL)) | ((with_reducible refine wpA_lit rfl _ _ _ rfl ?_); first | refine litA1 hL ?_ | refine litA2 hL ?_) | ((with_reducible refine wpA_append rfl _ _ _ rfl (.slice _ _ _) rfl ?_); intro vq hvq; simp [go_sem] at hvq; subst hvq; refine appendA hL ?_; clear hL; intro _ _ _ hL; try dsimp only at hL) | ((with_reducible refine wpA_make rfl _ _ _ rfl _ rfl rfl ?_); refine makeA hL ?_))
      refine bodyPost_ret (results_row2 inferInstance rfl _ hL b2 rfl _ _ (.there (.there .here)) rfl) rfl ⟨some ⟨bm, 0, none⟩, H, H, rfl, hL.below, ?_⟩
      exact ((hL.settle (.there .here) (φ := fun w => w.heap[bm]? = some (.cells (Array.replicate H (Value.slice none 0 0)) 36 (0, 0))) fun _ h => h).map fun w' h1 => shReg_at h1 (by simp) hh1 (Hfar.out w')).fresh
    · have hfar := Hnil.out _ rfl H (fun k hk => by unfold shRow; rw [if_neg (by omega)])
      have Hfar := Lib.hid hfar; clear hfar
      go_wp2_with (first | (first | (clear hL n1; with_reducible intro b1 w1 hL) | (clear hL n2; with_reducible intro b2 w2 hL) | (clear hL n3; with_reducible intro b3 w3 hL) | (clear hL; with_reducible intro _ _ hL)) | (with_reducible refine wpC_alloc rfl _ rfl _ _ inferInstance hL ?_) | (with_reducible first | refine wpB_agg rfl _ _ _ rfl rfl hL ?_ | refine wpB_one rfl _ _ (.int _ _) rfl rfl rfl hL ?_ | refine wpB_one rfl _ _ (.slice _ _ _) rfl rfl rfl hL ?_ | refine wpB_one rfl _ _ (.bool _) rfl rfl rfl hL ?_ | refine wpB_one rfl _ _ (.pointer _) rfl rfl rfl hL ?_ | refine wpB_one rfl _ _ (.func _ _ _) rfl rfl rfl hL ?_) | (with_reducible first | refine wpH_max rfl _ _ _ _ rfl _ _ rfl rfl ?_ | refine wpH_min rfl _ _ _ _ rfl _ _ rfl rfl ?_) | ((with_reducible refine wpA_load rfl _ _ rfl _ rfl ?_); first | refine loadA hL ?_ | refine loadR hL ?_ | refine loadC hL ?_ | refine loadD ?_ | refine loadE hL ?_ | refine loadF ?_) | ((with_reducible refine wpA_index rfl _ _ _ rfl _ rfl _ rfl ?_); first | (refine indexA ?_; try rw [Int.toNat_natCast]) | refine indexC ?_) | ((with_reducible refine wpA_store rfl _ _ _ rfl _ rfl (.agg _) rfl ?_); refine storeR hL ?_; clear hL; intro _ hL) | ((with_reducible first | refine wpA_store rfl _ _ _ rfl _ rfl (.int _ _) rfl ?_ | refine wpA_store rfl _ _ _ rfl _ rfl (.slice _ _ _) rfl ?_ | refine wpA_store rfl _ _ _ rfl _ rfl (.bool _) rfl ?_ | refine wpA_store rfl _ _ _ rfl _ rfl (.pointer _) rfl ?_ | refine wpA_store rfl _ _ _ rfl _ rfl (.func _ _ _) rfl ?_); (first | refine storeA hL ?_ | refine storeO hL ?_); (clear hL; intro _ hL)) | ((with_reducible refine wpA_lit rfl _ _ _ rfl ?_); first | refine litA1 hL ?_ | refine litA2 hL ?_) | ((with_reducible refine wpA_append rfl _ _ _ rfl (.slice _ _ _) rfl ?_); intro vq hvq; simp [go_sem] at hvq; subst hvq; refine appendA hL ?_; clear hL; intro _ _ _ hL; try dsimp only at hL) | ((with_reducible refine wpA_make rfl _ _ _ rfl _ rfl rfl ?_); refine makeA hL ?_))
      refine bodyPost_ret (results_row2 inferInstance rfl _ hL b2 rfl _ _ (.there (.there .here)) rfl) rfl ⟨some ⟨bm, 0, none⟩, H, H, rfl, hL.below, ?_⟩
      exact ((hL.settle (.there .here) (φ := fun w => w.heap[bm]? = some (.cells (Array.replicate H (Value.slice none 0 0)) 36 (0, 0))) fun _ h => h).map fun w' h1 => shReg_at h1 (by simp) hh1 (Hfar.out w')).fresh
    · go_wp2_with (first | (first | (clear hL n1; with_reducible intro b1 w1 hL) | (clear hL n2; with_reducible intro b2 w2 hL) | (clear hL n3; with_reducible intro b3 w3 hL) | (clear hL; with_reducible intro _ _ hL)) | (with_reducible refine wpC_alloc rfl _ rfl _ _ inferInstance hL ?_) | (with_reducible first | refine wpB_agg rfl _ _ _ rfl rfl hL ?_ | refine wpB_one rfl _ _ (.int _ _) rfl rfl rfl hL ?_ | refine wpB_one rfl _ _ (.slice _ _ _) rfl rfl rfl hL ?_ | refine wpB_one rfl _ _ (.bool _) rfl rfl rfl hL ?_ | refine wpB_one rfl _ _ (.pointer _) rfl rfl rfl hL ?_ | refine wpB_one rfl _ _ (.func _ _ _) rfl rfl rfl hL ?_) | (with_reducible first | refine wpH_max rfl _ _ _ _ rfl _ _ rfl rfl ?_ | refine wpH_min rfl _ _ _ _ rfl _ _ rfl rfl ?_) | ((with_reducible refine wpA_load rfl _ _ rfl _ rfl ?_); first | refine loadA hL ?_ | refine loadR hL ?_ | refine loadC hL ?_ | refine loadD ?_ | refine loadE hL ?_ | refine loadF ?_) | ((with_reducible refine wpA_index rfl _ _ _ rfl _ rfl _ rfl ?_); first | (refine indexA ?_; try rw [Int.toNat_natCast]) | refine indexC ?_) | ((with_reducible refine wpA_store rfl _ _ _ rfl _ rfl (.agg _) rfl ?_); refine storeR hL ?_; clear hL; intro _ hL) | ((with_reducible first | refine wpA_store rfl _ _ _ rfl _ rfl (.int _ _) rfl ?_ | refine wpA_store rfl _ _ _ rfl _ rfl (.slice _ _ _) rfl ?_ | refine wpA_store rfl _ _ _ rfl _ rfl (.bool _) rfl ?_ | refine wpA_store rfl _ _ _ rfl _ rfl (.pointer _) rfl ?_ | refine wpA_store rfl _ _ _ rfl _ rfl (.func _ _ _) rfl ?_); (first | refine storeA hL ?_ | refine storeO hL ?_); (clear hL; intro _ hL)) | ((with_reducible refine wpA_lit rfl _ _ _ rfl ?_); first | refine litA1 hL ?_ | refine litA2 hL ?_) | ((with_reducible refine wpA_append rfl _ _ _ rfl (.slice _ _ _) rfl ?_); intro vq hvq; simp [go_sem] at hvq; subst hvq; refine appendA hL ?_; clear hL; intro _ _ _ hL; try dsimp only at hL) | ((with_reducible refine wpA_make rfl _ _ _ rfl _ rfl rfl ?_); refine makeA hL ?_))
      go_loopw [9] (fun s9 wr => ∃ (j : Nat) (cs : Array Value), j ≤ H ∧ s9 = .int .i64 j ∧ cs.size = H ∧ Holds w wr [blk bh #[.int .i64 W, .int .i64 H, .slice (some ⟨bm, 0, none⟩) H H] 26, blk bm (cs) 36, blk b2 #[.int .i64 0, .int .i64 0, .slice none 0 0] 26, blk b1 #[.int .i64 W, .int .i64 H, .slice sa H sc] 26] [fun w => ∀ k, k < H → ∃ v, cs[k]? = some v ∧ RunsAt w v (shRow W p dx dy j k)])
        (fun s9 wr => (64 - intOf s9).toNat)
      case atStart => exact ⟨0, _, by omega, rfl, by simp, hL.triv (Hnil.out _ rfl 0 (fun k hk => by unfold shRow; rw [if_neg (by omega)]))⟩
      case round =>
        clear hL
        obtain ⟨j, cs, hj, rfl, hcs, hL⟩ := hrel
        by_cases hjt : j < H
        · obtain ⟨b, o, va, vn, vc, rfl, hc, hr⟩ := Hrow.out j hjt
          have Hrr := Lib.hid hr; clear hr
          have hkb0 : (0 : Int) ≤ (j : Int) := by omega
          have hkb1 : (j : Int) < (H : Int) := by omega
          by_cases hin : 0 ≤ (j : Int) + dy ∧ (j : Int) + dy < H
          · obtain ⟨i1, i2⟩ := hin
            go_wp2_with (first | (first | (clear hL n1; with_reducible intro b1 w1 hL) | (clear hL n2; with_reducible intro b2 w2 hL) | (clear hL n3; with_reducible intro b3 w3 hL) | (clear hL; with_reducible intro _ _ hL)) | (with_reducible refine wpC_alloc rfl _ rfl _ _ inferInstance hL ?_) | (with_reducible first | refine wpB_agg rfl _ _ _ rfl rfl hL ?_ | refine wpB_one rfl _ _ (.int _ _) rfl rfl rfl hL ?_ | refine wpB_one rfl _ _ (.slice _ _ _) rfl rfl rfl hL ?_ | refine wpB_one rfl _ _ (.bool _) rfl rfl rfl hL ?_ | refine wpB_one rfl _ _ (.pointer _) rfl rfl rfl hL ?_ | refine wpB_one rfl _ _ (.func _ _ _) rfl rfl rfl hL ?_) | (with_reducible first | refine wpH_max rfl _ _ _ _ rfl _ _ rfl rfl ?_ | refine wpH_min rfl _ _ _ _ rfl _ _ rfl rfl ?_) | ((with_reducible refine wpA_load rfl _ _ rfl _ rfl ?_); first | refine loadA hL ?_ | refine loadR hL ?_ | refine loadC hL ?_ | refine loadD ?_ | refine loadE hL ?_ | refine loadF ?_) | ((with_reducible refine wpA_index rfl _ _ _ rfl _ rfl _ rfl ?_); first | (refine indexA ?_; try rw [Int.toNat_natCast]) | refine indexC ?_) | ((with_reducible refine wpA_store rfl _ _ _ rfl _ rfl (.agg _) rfl ?_); refine storeR hL ?_; clear hL; intro _ hL) | ((with_reducible first | refine wpA_store rfl _ _ _ rfl _ rfl (.int _ _) rfl ?_ | refine wpA_store rfl _ _ _ rfl _ rfl (.slice _ _ _) rfl ?_ | refine wpA_store rfl _ _ _ rfl _ rfl (.bool _) rfl ?_ | refine wpA_store rfl _ _ _ rfl _ rfl (.pointer _) rfl ?_ | refine wpA_store rfl _ _ _ rfl _ rfl (.func _ _ _) rfl ?_); (first | refine storeA hL ?_ | refine storeO hL ?_); (clear hL; intro _ hL)) | ((with_reducible refine wpA_lit rfl _ _ _ rfl ?_); first | refine litA1 hL ?_ | refine litA2 hL ?_) | ((with_reducible refine wpA_append rfl _ _ _ rfl (.slice _ _ _) rfl ?_); intro vq hvq; simp [go_sem] at hvq; subst hvq; refine appendA hL ?_; clear hL; intro _ _ _ hL; try dsimp only at hL) | ((with_reducible refine wpA_make rfl _ _ _ rfl _ rfl rfl ?_); refine makeA hL ?_))
            obtain ⟨k, hk⟩ := Int.eq_ofNat_of_zero_le i1
            rw [hk]
            have hk0 : (0 : Int) ≤ (k : Int) := by omega
            have hk1 : (k : Int) < (H : Int) := by omega
            have hkN : k < H := by omega
            have Hk := Lib.hid hk; clear hk i1 i2
            replace hL := hL.drew
            refine wpM_begin (by kernel_rfl) (fun w' : World => w'.cell? ⟨bh, 2, none⟩ = some (.slice (some ⟨bm, 0, none⟩) H H) ∧ w'.cell? ⟨b1, 2, none⟩ = some (.slice (some ⟨b, o, none⟩) H sc) ∧ w'.cell? ⟨b1, 0, none⟩ = some (.int .i64 W) ∧ w'.cell? ⟨b, o + j, none⟩ = some (.slice va vn vc)) 13 ?_
            have hS : (fun w' : World => w'.cell? ⟨bh, 2, none⟩ = some (.slice (some ⟨bm, 0, none⟩) H H) ∧ w'.cell? ⟨b1, 2, none⟩ = some (.slice (some ⟨b, o, none⟩) H sc) ∧ w'.cell? ⟨b1, 0, none⟩ = some (.int .i64 W) ∧ w'.cell? ⟨b, o + j, none⟩ = some (.slice va vn vc)) _ := ⟨(hL.cell (by (repeat (first | with_reducible exact At.here | with_reducible apply At.there)))).trans rfl, (hL.cell (by (repeat (first | with_reducible exact At.here | with_reducible apply At.there)))).trans rfl, (hL.cell (by (repeat (first | with_reducible exact At.here | with_reducible apply At.there)))).trans rfl, hL.old hc⟩
            refine wpM_take1 (i := 0) (by simp only [List.getElem?_toArray, List.getElem?_cons_zero, List.getElem?_cons_succ]; rfl) ?_
            refine ⟨.pointer (some ⟨bh, 2, none⟩), by kernel_rfl, by kernel_rfl, by kernel_rfl, by kernel_rfl, fun _ _ _ h => h, hS, rfl, (fun w' _ => by go_simp), ?_⟩
            simp only [Act.put, List.setIfInBounds_toArray, List.set_cons_zero, List.set_cons_succ]
            refine wpM_take1 (i := 1) (by simp only [List.getElem?_toArray, List.getElem?_cons_zero, List.getElem?_cons_succ]; rfl) ?_
            refine ⟨.slice (some ⟨bm, 0, none⟩) H H, by kernel_rfl, by kernel_rfl, by kernel_rfl, by kernel_rfl, fun _ _ _ h => h, hS, rfl, (fun w' hw => run_loadOp _ _ rfl _ rfl _ (load_cell hw.1)), ?_⟩
            simp only [Act.put, List.setIfInBounds_toArray, List.set_cons_zero, List.set_cons_succ]
            refine wpM_take1 (i := 2) (by simp only [List.getElem?_toArray, List.getElem?_cons_zero, List.getElem?_cons_succ]; rfl) ?_
            refine ⟨.int .i64 k, by kernel_rfl, by kernel_rfl, by kernel_rfl, by kernel_rfl, fun _ _ _ h => h, hS, rfl, (fun w' _ => by go_simp), ?_⟩
            simp only [Act.put, List.setIfInBounds_toArray, List.set_cons_zero, List.set_cons_succ]
            refine wpM_take1 (i := 3) (by simp only [List.getElem?_toArray, List.getElem?_cons_zero, List.getElem?_cons_succ]; rfl) ?_
            refine ⟨.pointer (some ⟨b1, 2, none⟩), by kernel_rfl, by kernel_rfl, by kernel_rfl, by kernel_rfl, fun _ _ _ h => h, hS, rfl, (fun w' _ => by go_simp), ?_⟩
            simp only [Act.put, List.setIfInBounds_toArray, List.set_cons_zero, List.set_cons_succ]
            refine wpM_take1 (i := 4) (by simp only [List.getElem?_toArray, List.getElem?_cons_zero, List.getElem?_cons_succ]; rfl) ?_
            refine ⟨.slice (some ⟨b, o, none⟩) H sc, by kernel_rfl, by kernel_rfl, by kernel_rfl, by kernel_rfl, fun _ _ _ h => h, hS, rfl, (fun w' hw => run_loadOp _ _ rfl _ rfl _ (load_cell hw.2.1)), ?_⟩
            simp only [Act.put, List.setIfInBounds_toArray, List.set_cons_zero, List.set_cons_succ]
            refine wpM_take1 (i := 5) (by simp only [List.getElem?_toArray, List.getElem?_cons_zero, List.getElem?_cons_succ]; rfl) ?_
            refine ⟨.int .i64 j, by kernel_rfl, by kernel_rfl, by kernel_rfl, by kernel_rfl, fun _ _ _ h => h, hS, rfl, (fun w' _ => by go_simp), ?_⟩
            simp only [Act.put, List.setIfInBounds_toArray, List.set_cons_zero, List.set_cons_succ]
            refine wpM_take1 (i := 6) (by simp only [List.getElem?_toArray, List.getElem?_cons_zero, List.getElem?_cons_succ]; rfl) ?_
            refine ⟨.pointer (some ⟨b, o + j, none⟩), by kernel_rfl, by kernel_rfl, by kernel_rfl, by kernel_rfl, fun _ _ _ h => h, hS, rfl, (fun w' _ => by go_simp), ?_⟩
            simp only [Act.put, List.setIfInBounds_toArray, List.set_cons_zero, List.set_cons_succ]
            refine wpM_take1 (i := 7) (by simp only [List.getElem?_toArray, List.getElem?_cons_zero, List.getElem?_cons_succ]; rfl) ?_
            refine ⟨.slice va vn vc, by kernel_rfl, by kernel_rfl, by kernel_rfl, by kernel_rfl, fun _ _ _ h => h, hS, rfl, (fun w' hw => run_loadOp _ _ rfl _ rfl _ (load_cell hw.2.2.2)), ?_⟩
            simp only [Act.put, List.setIfInBounds_toArray, List.set_cons_zero, List.set_cons_succ]
            refine wpM_take1 (i := 8) (by simp only [List.getElem?_toArray, List.getElem?_cons_zero, List.getElem?_cons_succ]; rfl) ?_
            refine ⟨.int .i64 dx, by kernel_rfl, by kernel_rfl, by kernel_rfl, by kernel_rfl, fun _ _ _ h => h, hS, rfl, (fun w' _ => by go_simp), ?_⟩
            simp only [Act.put, List.setIfInBounds_toArray, List.set_cons_zero, List.set_cons_succ]
            refine wpM_take1 (i := 9) (by simp only [List.getElem?_toArray, List.getElem?_cons_zero, List.getElem?_cons_succ]; rfl) ?_
            refine ⟨.pointer (some ⟨b1, 0, none⟩), by kernel_rfl, by kernel_rfl, by kernel_rfl, by kernel_rfl, fun _ _ _ h => h, hS, rfl, (fun w' _ => by go_simp), ?_⟩
            simp only [Act.put, List.setIfInBounds_toArray, List.set_cons_zero, List.set_cons_succ]
            refine wpM_take1 (i := 10) (by simp only [List.getElem?_toArray, List.getElem?_cons_zero, List.getElem?_cons_succ]; rfl) ?_
            refine ⟨.int .i64 W, by kernel_rfl, by kernel_rfl, by kernel_rfl, by kernel_rfl, fun _ _ _ h => h, hS, rfl, (fun w' hw => run_loadOp _ _ rfl _ rfl _ (load_cell hw.2.2.1)), ?_⟩
            simp only [Act.put, List.setIfInBounds_toArray, List.set_cons_zero, List.set_cons_succ]
            refine wpM_one (i := 11) (by kernel_rfl) (wpOp_of (by simp only [List.getElem?_toArray, List.getElem?_cons_zero, List.getElem?_cons_succ]; rfl) ?_)
            refine st_call rfl 86 #[.slice va vn vc, .int .i64 dx, .int .i64 W] (by go_simp) (refShift_calls _ _ _ (Hrr.out.hold hL) _ _) ?_
            rintro e w5 ⟨v, rfl, hb, hf⟩
            obtain ⟨ra, rn, rc, rfl⟩ := SliceAt.shape hf.now
            replace hL := hL.callF hb hf
            clear hb hf hS
            have hS : (fun w' : World => w'.cell? ⟨bh, 2, none⟩ = some (.slice (some ⟨bm, 0, none⟩) H H) ∧ w'.cell? ⟨b1, 2, none⟩ = some (.slice (some ⟨b, o, none⟩) H sc) ∧ w'.cell? ⟨b1, 0, none⟩ = some (.int .i64 W) ∧ w'.cell? ⟨b, o + j, none⟩ = some (.slice va vn vc)) w5 := ⟨(hL.cell (by (repeat (first | with_reducible exact At.here | with_reducible apply At.there)))).trans rfl, (hL.cell (by (repeat (first | with_reducible exact At.here | with_reducible apply At.there)))).trans rfl, (hL.cell (by (repeat (first | with_reducible exact At.here | with_reducible apply At.there)))).trans rfl, hL.old hc⟩
            refine ⟨_, rfl, fun _ => hS, ?_⟩
            simp only [Act.put, List.setIfInBounds_toArray, List.set_cons_zero, List.set_cons_succ]
            refine wpM_take1 (i := 12) (by simp only [List.getElem?_toArray, List.getElem?_cons_zero, List.getElem?_cons_succ]; rfl) ?_
            refine ⟨.pointer (some ⟨bm, k, none⟩), by kernel_rfl, by kernel_rfl, by kernel_rfl, by kernel_rfl, fun _ _ _ h => h, hS, rfl, (fun w' _ => by go_simp), ?_⟩
            simp only [Act.put, List.setIfInBounds_toArray, List.set_cons_zero, List.set_cons_succ]
            clear hS
            refine wpM_one (i := 13) (by kernel_rfl) (wpOp_of (by simp only [List.getElem?_toArray, List.getElem?_cons_zero, List.getElem?_cons_succ]; rfl) ?_)
            refine st_store rfl _ _ _ rfl ⟨bm, k, none⟩ rfl (.slice ra rn rc) rfl (storeAt_cell rfl rfl inferInstance hL _ _ _ (by (repeat (first | with_reducible exact Upd.here | with_reducible apply Upd.there))) (by omega) rfl ?_)
            clear hL
            intro w9 hL
            refine ⟨fun h => absurd rfl h, wpM_done (by kernel_rfl) ?_⟩
            simp only [Act.put, List.setIfInBounds_toArray, List.set_cons_zero, List.set_cons_succ]
            go_wp2
            go_roundw
            case rel =>
              refine ⟨j + 1, cs.setIfInBounds k (.slice ra rn rc), by omega, by go_num, by rw [Array.size_setIfInBounds]; exact hcs, hL.join fun w' h1 h2 y hy => ?_⟩
              have hk := Hk.out
              by_cases hyk : y = k
              · subst hyk
                refine ⟨_, by rw [Array.getElem?_setIfInBounds, if_pos rfl, if_pos (by rw [hcs]; exact hkN)], ?_⟩
                rw [refShift_row hw1] at h1
                unfold shRow
                rw [if_pos (by omega), show ((y : Int) - dy).toNat = j by omega]
                exact h1
              · obtain ⟨v', e1, e2⟩ := h2 y hy
                refine ⟨v', by rw [Array.getElem?_setIfInBounds, if_neg (fun e => hyk e.symm)]; exact e1, ?_⟩
                rw [show shRow W p dx dy (j + 1) y = shRow W p dx dy j y from ?_]
                · exact e2
                · unfold shRow
                  have : (0 ≤ (y : Int) - dy ∧ (y : Int) - dy < ((j + 1 : Nat) : Int)) ↔ (0 ≤ (y : Int) - dy ∧ (y : Int) - dy < (j : Int)) := by omega
                  simp only [this]
            case measure => simp [intOf]; omega
          · rcases (by omega : ¬ 0 ≤ (j : Int) + dy ∨ (0 ≤ (j : Int) + dy ∧ ¬ (j : Int) + dy < H)) with i1 | ⟨i1, i2⟩
            all_goals
              clear hin
              go_wp2_with (first | (first | (clear hL n1; with_reducible intro b1 w1 hL) | (clear hL n2; with_reducible intro b2 w2 hL) | (clear hL n3; with_reducible intro b3 w3 hL) | (clear hL; with_reducible intro _ _ hL)) | (with_reducible refine wpC_alloc rfl _ rfl _ _ inferInstance hL ?_) | (with_reducible first | refine wpB_agg rfl _ _ _ rfl rfl hL ?_ | refine wpB_one rfl _ _ (.int _ _) rfl rfl rfl hL ?_ | refine wpB_one rfl _ _ (.slice _ _ _) rfl rfl rfl hL ?_ | refine wpB_one rfl _ _ (.bool _) rfl rfl rfl hL ?_ | refine wpB_one rfl _ _ (.pointer _) rfl rfl rfl hL ?_ | refine wpB_one rfl _ _ (.func _ _ _) rfl rfl rfl hL ?_) | (with_reducible first | refine wpH_max rfl _ _ _ _ rfl _ _ rfl rfl ?_ | refine wpH_min rfl _ _ _ _ rfl _ _ rfl rfl ?_) | ((with_reducible refine wpA_load rfl _ _ rfl _ rfl ?_); first | refine loadA hL ?_ | refine loadR hL ?_ | refine loadC hL ?_ | refine loadD ?_ | refine loadE hL ?_ | refine loadF ?_) | ((with_reducible refine wpA_index rfl _ _ _ rfl _ rfl _ rfl ?_); first | (refine indexA ?_; try rw [Int.toNat_natCast]) | refine indexC ?_) | ((with_reducible refine wpA_store rfl _ _ _ rfl _ rfl (.agg _) rfl ?_); refine storeR hL ?_; clear hL; intro _ hL) | ((with_reducible first | refine wpA_store rfl _ _ _ rfl _ rfl (.int _ _) rfl ?_ | refine wpA_store rfl _ _ _ rfl _ rfl (.slice _ _ _) rfl ?_ | refine wpA_store rfl _ _ _ rfl _ rfl (.bool _) rfl ?_ | refine wpA_store rfl _ _ _ rfl _ rfl (.pointer _) rfl ?_ | refine wpA_store rfl _ _ _ rfl _ rfl (.func _ _ _) rfl ?_); (first | refine storeA hL ?_ | refine storeO hL ?_); (clear hL; intro _ hL)) | ((with_reducible refine wpA_lit rfl _ _ _ rfl ?_); first | refine litA1 hL ?_ | refine litA2 hL ?_) | ((with_reducible refine wpA_append rfl _ _ _ rfl (.slice _ _ _) rfl ?_); intro vq hvq; simp [go_sem] at hvq; subst hvq; refine appendA hL ?_; clear hL; intro _ _ _ hL; try dsimp only at hL) | ((with_reducible refine wpA_make rfl _ _ _ rfl _ rfl rfl ?_); refine makeA hL ?_))
              go_roundw
              case rel =>
                refine ⟨j + 1, cs, by omega, by go_num, hcs, hL.map fun w' h2 y hy => ?_⟩
                obtain ⟨v', e1, e2⟩ := h2 y hy
                refine ⟨v', e1, ?_⟩
                rw [show shRow W p dx dy (j + 1) y = shRow W p dx dy j y from ?_]
                · exact e2
                · unfold shRow
                  have : (0 ≤ (y : Int) - dy ∧ (y : Int) - dy < ((j + 1 : Nat) : Int)) ↔ (0 ≤ (y : Int) - dy ∧ (y : Int) - dy < (j : Int)) := by omega
                  simp only [this]
              case measure => simp [intOf]; omega
        · have e : j = H := by omega
          subst e
          go_wp2_with (first | (first | (clear hL n1; with_reducible intro b1 w1 hL) | (clear hL n2; with_reducible intro b2 w2 hL) | (clear hL n3; with_reducible intro b3 w3 hL) | (clear hL; with_reducible intro _ _ hL)) | (with_reducible refine wpC_alloc rfl _ rfl _ _ inferInstance hL ?_) | (with_reducible first | refine wpB_agg rfl _ _ _ rfl rfl hL ?_ | refine wpB_one rfl _ _ (.int _ _) rfl rfl rfl hL ?_ | refine wpB_one rfl _ _ (.slice _ _ _) rfl rfl rfl hL ?_ | refine wpB_one rfl _ _ (.bool _) rfl rfl rfl hL ?_ | refine wpB_one rfl _ _ (.pointer _) rfl rfl rfl hL ?_ | refine wpB_one rfl _ _ (.func _ _ _) rfl rfl rfl hL ?_) | (with_reducible first | refine wpH_max rfl _ _ _ _ rfl _ _ rfl rfl ?_ | refine wpH_min rfl _ _ _ _ rfl _ _ rfl rfl ?_) | ((with_reducible refine wpA_load rfl _ _ rfl _ rfl ?_); first | refine loadA hL ?_ | refine loadR hL ?_ | refine loadC hL ?_ | refine loadD ?_ | refine loadE hL ?_ | refine loadF ?_) | ((with_reducible refine wpA_index rfl _ _ _ rfl _ rfl _ rfl ?_); first | (refine indexA ?_; try rw [Int.toNat_natCast]) | refine indexC ?_) | ((with_reducible refine wpA_store rfl _ _ _ rfl _ rfl (.agg _) rfl ?_); refine storeR hL ?_; clear hL; intro _ hL) | ((with_reducible first | refine wpA_store rfl _ _ _ rfl _ rfl (.int _ _) rfl ?_ | refine wpA_store rfl _ _ _ rfl _ rfl (.slice _ _ _) rfl ?_ | refine wpA_store rfl _ _ _ rfl _ rfl (.bool _) rfl ?_ | refine wpA_store rfl _ _ _ rfl _ rfl (.pointer _) rfl ?_ | refine wpA_store rfl _ _ _ rfl _ rfl (.func _ _ _) rfl ?_); (first | refine storeA hL ?_ | refine storeO hL ?_); (clear hL; intro _ hL)) | ((with_reducible refine wpA_lit rfl _ _ _ rfl ?_); first | refine litA1 hL ?_ | refine litA2 hL ?_) | ((with_reducible refine wpA_append rfl _ _ _ rfl (.slice _ _ _) rfl ?_); intro vq hvq; simp [go_sem] at hvq; subst hvq; refine appendA hL ?_; clear hL; intro _ _ _ hL; try dsimp only at hL) | ((with_reducible refine wpA_make rfl _ _ _ rfl _ rfl rfl ?_); refine makeA hL ?_))
          refine bodyPost_ret (results_row2 inferInstance rfl _ hL b2 rfl _ _ (.there (.there .here)) rfl) rfl ⟨some ⟨bm, 0, none⟩, j, j, rfl, hL.below, ?_⟩
          exact ((hL.settle (.there .here) (φ := fun w => w.heap[bm]? = some (.cells cs 36 (0, 0))) fun _ h => h).join fun w' h1 h2 => shReg_at h1 hcs hh1 h2).fresh
  · rename_i hH
    clear hH
    replace hL := (hL.alloc2 (#[.int .i64 W, .int .i64 H, .slice (some ⟨w3.heap.size + 1, 0, none⟩) H H]) (Array.replicate H (Value.slice none 0 0)) 26 36).swapM
    obtain ⟨w4, hw4⟩ : ∃ w4, w4 = ((w3.alloc (.cells (#[.int .i64 W, .int .i64 H, .slice (some ⟨w3.heap.size + 1, 0, none⟩) H H]) 26)).alloc (.cells (Array.replicate H (Value.slice none 0 0)) 36)).drew := ⟨_, rfl⟩
    rw [← hw4] at hL ⊢
    clear hw4
    generalize w3.heap.size + 1 = bm at hL ⊢
    generalize w3.heap.size = bh at hL ⊢
    have hnil : ∀ (cs : Array Value), cs = Array.replicate H (Value.slice none 0 0) → ∀ (j : Nat), (∀ k, k < H → shRow W p dx dy j k = []) → ∀ w : World, ∀ k, k < H → ∃ v, cs[k]? = some v ∧ RunsAt w v (shRow W p dx dy j k) := by
      intro cs e j h w k hk
      subst e
      exact ⟨.slice none 0 0, by simp [hk], by rw [h k hk]; exact runs_nil w⟩
    have Hnil := Lib.hid hnil; clear hnil
    rcases (by omega : dy ≤ -(H : Int) ∨ (¬ dy ≤ -(H : Int) ∧ (H : Int) ≤ dy) ∨ (¬ dy ≤ -(H : Int) ∧ ¬ (H : Int) ≤ dy)) with f1 | ⟨f1, f2⟩ | ⟨f1, f2⟩
    · have hfar := Hnil.out _ rfl H (fun k hk => by unfold shRow; rw [if_neg (by omega)])
      have Hfar := Lib.hid hfar; clear hfar
      go_wp2_with (first | (first | (clear hL n1; with_reducible intro b1 w1 hL) | (clear hL n2; with_reducible intro b2 w2 hL) | (clear hL n3; with_reducible intro b3 w3 hL) | (clear hL; with_reducible intro _ _ hL)) | (with_reducible refine wpC_alloc rfl _ rfl _ _ inferInstance hL ?_) | (with_reducible first | refine wpB_agg rfl _ _ _ rfl rfl hL ?_ | refine wpB_one rfl _ _ (.int _ _) rfl rfl rfl hL ?_ | refine wpB_one rfl _ _ (.slice _ _ _) rfl rfl rfl hL ?_ | refine wpB_one rfl _ _ (.bool _) rfl rfl rfl hL ?_ | refine wpB_one rfl _ _ (.pointer _) rfl rfl rfl hL ?_ | refine wpB_one rfl _ _ (.func _ _ _) rfl rfl rfl hL ?_) | (with_reducible first | refine wpH_max rfl _ _ _ _ rfl _ _ rfl rfl ?_ | refine wpH_min rfl _ _ _ _ rfl _ _ rfl rfl ?_) | ((with_reducible refine wpA_load rfl _ _ rfl _ rfl ?_); first | refine loadA hL ?_ | refine loadR hL ?_ | refine loadC hL ?_ | refine loadD ?_ | refine loadE hL ?_ | refine loadF ?_) | ((with_reducible refine wpA_index rfl _ _ _ rfl _ rfl _ rfl ?_); first | (refine indexA ?_; try rw [Int.toNat_natCast]) | refine indexC ?_) | ((with_reducible refine wpA_store rfl _ _ _ rfl _ rfl (.agg _) rfl ?_); refine storeR hL ?_; clear hL; intro _ hL) | ((with_reducible first | refine wpA_store rfl _ _ _ rfl _ rfl (.int _ _) rfl ?_ | refine wpA_store rfl _ _ _ rfl _ rfl (.slice _ _ _) rfl ?_ | refine wpA_store rfl _ _ _ rfl _ rfl (.bool _) rfl ?_ | refine wpA_store rfl _ _ _ rfl _ rfl (.pointer _) rfl ?_ | refine wpA_store rfl _ _ _ rfl _ rfl (.func _ _ _) rfl ?_); (first | refine storeA hL ?_ | refine storeO hL ?_); (clear hL; intro _ hL)) | ((with_reducible refine wpA_lit rfl _ _ _ rfl ?_); first | refine litA1 hL ?_ | refine litA2 hL ?_) | ((with_reducible refine wpA_append rfl _ _ _ rfl (.slice _ _ _) rfl ?_); intro vq hvq; simp [go_sem] at hvq; subst hvq; refine appendA hL ?_; clear hL; intro _ _ _ hL; try dsimp only at hL) | ((with_reducible refine wpA_make rfl _ _ _ rfl _ rfl rfl ?_); refine makeA hL ?_))
      refine bodyPost_ret (results_row2 inferInstance rfl _ hL b2 rfl _ _ (.there (.there .here)) rfl) rfl ⟨some ⟨bm, 0, none⟩, H, H, rfl, hL.below, ?_⟩
      exact ((hL.settle (.there .here) (φ := fun w => w.heap[bm]? = some (.cells (Array.replicate H (Value.slice none 0 0)) 36 (0, 0))) fun _ h => h).map fun w' h1 => shReg_at h1 (by simp) hh1 (Hfar.out w')).fresh
    · have hfar := Hnil.out _ rfl H (fun k hk => by unfold shRow; rw [if_neg (by omega)])
      have Hfar := Lib.hid hfar; clear hfar
      go_wp2_with (first | (first | (clear hL n1; with_reducible intro b1 w1 hL) | (clear hL n2; with_reducible intro b2 w2 hL) | (clear hL n3; with_reducible intro b3 w3 hL) | (clear hL; with_reducible intro _ _ hL)) | (with_reducible refine wpC_alloc rfl _ rfl _ _ inferInstance hL ?_) | (with_reducible first | refine wpB_agg rfl _ _ _ rfl rfl hL ?_ | refine wpB_one rfl _ _ (.int _ _) rfl rfl rfl hL ?_ | refine wpB_one rfl _ _ (.slice _ _ _) rfl rfl rfl hL ?_ | refine wpB_one rfl _ _ (.bool _) rfl rfl rfl hL ?_ | refine wpB_one rfl _ _ (.pointer _) rfl rfl rfl hL ?_ | refine wpB_one rfl _ _ (.func _ _ _) rfl rfl rfl hL ?_) | (with_reducible first | refine wpH_max rfl _ _ _ _ rfl _ _ rfl rfl ?_ | refine wpH_min rfl _ _ _ _ rfl _ _ rfl rfl ?_) | ((with_reducible refine wpA_load rfl _ _ rfl _ rfl ?_); first | refine loadA hL ?_ | refine loadR hL ?_ | refine loadC hL ?_ | refine loadD ?_ | refine loadE hL ?_ | refine loadF ?_) | ((with_reducible refine wpA_index rfl _ _ _ rfl _ rfl _ rfl ?_); first | (refine indexA ?_; try rw [Int.toNat_natCast]) | refine indexC ?_) | ((with_reducible refine wpA_store rfl _ _ _ rfl _ rfl (.agg _) rfl ?_); refine storeR hL ?_; clear hL; intro _ hL) | ((with_reducible first | refine wpA_store rfl _ _ _ rfl _ rfl (.int _ _) rfl ?_ | refine wpA_store rfl _ _ _ rfl _ rfl (.slice _ _ _) rfl ?_ | refine wpA_store rfl _ _ _ rfl _ rfl (.bool _) rfl ?_ | refine wpA_store rfl _ _ _ rfl _ rfl (.pointer _) rfl ?_ | refine wpA_store rfl _ _ _ rfl _ rfl (.func _ _ _) rfl ?_); (first | refine storeA hL ?_ | refine storeO hL ?_); (clear hL; intro _ hL)) | ((with_reducible refine wpA_lit rfl _ _ _ rfl ?_); first | refine litA1 hL ?_ | refine litA2 hL ?_) | ((with_reducible refine wpA_append rfl _ _ _ rfl (.slice _ _ _) rfl ?_); intro vq hvq; simp [go_sem] at hvq; subst hvq; refine appendA hL ?_; clear hL; intro _ _ _ hL; try dsimp only at hL) | ((with_reducible refine wpA_make rfl _ _ _ rfl _ rfl rfl ?_); refine makeA hL ?_))
      refine bodyPost_ret (results_row2 inferInstance rfl _ hL b2 rfl _ _ (.there (.there .here)) rfl) rfl ⟨some ⟨bm, 0, none⟩, H, H, rfl, hL.below, ?_⟩
      exact ((hL.settle (.there .here) (φ := fun w => w.heap[bm]? = some (.cells (Array.replicate H (Value.slice none 0 0)) 36 (0, 0))) fun _ h => h).map fun w' h1 => shReg_at h1 (by simp) hh1 (Hfar.out w')).fresh
    · go_wp2_with (first | (first | (clear hL n1; with_reducible intro b1 w1 hL) | (clear hL n2; with_reducible intro b2 w2 hL) | (clear hL n3; with_reducible intro b3 w3 hL) | (clear hL; with_reducible intro _ _ hL)) | (with_reducible refine wpC_alloc rfl _ rfl _ _ inferInstance hL ?_) | (with_reducible first | refine wpB_agg rfl _ _ _ rfl rfl hL ?_ | refine wpB_one rfl _ _ (.int _ _) rfl rfl rfl hL ?_ | refine wpB_one rfl _ _ (.slice _ _ _) rfl rfl rfl hL ?_ | refine wpB_one rfl _ _ (.bool _) rfl rfl rfl hL ?_ | refine wpB_one rfl _ _ (.pointer _) rfl rfl rfl hL ?_ | refine wpB_one rfl _ _ (.func _ _ _) rfl rfl rfl hL ?_) | (with_reducible first | refine wpH_max rfl _ _ _ _ rfl _ _ rfl rfl ?_ | refine wpH_min rfl _ _ _ _ rfl _ _ rfl rfl ?_) | ((with_reducible refine wpA_load rfl _ _ rfl _ rfl ?_); first | refine loadA hL ?_ | refine loadR hL ?_ | refine loadC hL ?_ | refine loadD ?_ | refine loadE hL ?_ | refine loadF ?_) | ((with_reducible refine wpA_index rfl _ _ _ rfl _ rfl _ rfl ?_); first | (refine indexA ?_; try rw [Int.toNat_natCast]) | refine indexC ?_) | ((with_reducible refine wpA_store rfl _ _ _ rfl _ rfl (.agg _) rfl ?_); refine storeR hL ?_; clear hL; intro _ hL) | ((with_reducible first | refine wpA_store rfl _ _ _ rfl _ rfl (.int _ _) rfl ?_ | refine wpA_store rfl _ _ _ rfl _ rfl (.slice _ _ _) rfl ?_ | refine wpA_store rfl _ _ _ rfl _ rfl (.bool _) rfl ?_ | refine wpA_store rfl _ _ _ rfl _ rfl (.pointer _) rfl ?_ | refine wpA_store rfl _ _ _ rfl _ rfl (.func _ _ _) rfl ?_); (first | refine storeA hL ?_ | refine storeO hL ?_); (clear hL; intro _ hL)) | ((with_reducible refine wpA_lit rfl _ _ _ rfl ?_); first | refine litA1 hL ?_ | refine litA2 hL ?_) | ((with_reducible refine wpA_append rfl _ _ _ rfl (.slice _ _ _) rfl ?_); intro vq hvq; simp [go_sem] at hvq; subst hvq; refine appendA hL ?_; clear hL; intro _ _ _ hL; try dsimp only at hL) | ((with_reducible refine wpA_make rfl _ _ _ rfl _ rfl rfl ?_); refine makeA hL ?_))
      go_loopw [9] (fun s9 wr => ∃ (j : Nat) (cs : Array Value), j ≤ H ∧ s9 = .int .i64 j ∧ cs.size = H ∧ Holds w wr [blk bh #[.int .i64 W, .int .i64 H, .slice (some ⟨bm, 0, none⟩) H H] 26, blk bm (cs) 36, blk b2 #[.int .i64 0, .int .i64 0, .slice none 0 0] 26, blk b1 #[.int .i64 W, .int .i64 H, .slice sa H sc] 26] [fun w => ∀ k, k < H → ∃ v, cs[k]? = some v ∧ RunsAt w v (shRow W p dx dy j k)])
        (fun s9 wr => (64 - intOf s9).toNat)
      case atStart => exact ⟨0, _, by omega, rfl, by simp, hL.triv (Hnil.out _ rfl 0 (fun k hk => by unfold shRow; rw [if_neg (by omega)]))⟩
      case round =>
        clear hL
        obtain ⟨j, cs, hj, rfl, hcs, hL⟩ := hrel
        by_cases hjt : j < H
        · obtain ⟨b, o, va, vn, vc, rfl, hc, hr⟩ := Hrow.out j hjt
          have Hrr := Lib.hid hr; clear hr
          have hkb0 : (0 : Int) ≤ (j : Int) := by omega
          have hkb1 : (j : Int) < (H : Int) := by omega
          by_cases hin : 0 ≤ (j : Int) + dy ∧ (j : Int) + dy < H
          · obtain ⟨i1, i2⟩ := hin
            go_wp2_with (first | (first | (clear hL n1; with_reducible intro b1 w1 hL) | (clear hL n2; with_reducible intro b2 w2 hL) | (clear hL n3; with_reducible intro b3 w3 hL) | (clear hL; with_reducible intro _ _ hL)) | (with_reducible refine wpC_alloc rfl _ rfl _ _ inferInstance hL ?_) | (with_reducible first | refine wpB_agg rfl _ _ _ rfl rfl hL ?_ | refine wpB_one rfl _ _ (.int _ _) rfl rfl rfl hL ?_ | refine wpB_one rfl _ _ (.slice _ _ _) rfl rfl rfl hL ?_ | refine wpB_one rfl _ _ (.bool _) rfl rfl rfl hL ?_ | refine wpB_one rfl _ _ (.pointer _) rfl rfl rfl hL ?_ | refine wpB_one rfl _ _ (.func _ _ _) rfl rfl rfl hL ?_) | (with_reducible first | refine wpH_max rfl _ _ _ _ rfl _ _ rfl rfl ?_ | refine wpH_min rfl _ _ _ _ rfl _ _ rfl rfl ?_) | ((with_reducible refine wpA_load rfl _ _ rfl _ rfl ?_); first | refine loadA hL ?_ | refine loadR hL ?_ | refine loadC hL ?_ | refine loadD ?_ | refine loadE hL ?_ | refine loadF ?_) | ((with_reducible refine wpA_index rfl _ _ _ rfl _ rfl _ rfl ?_); first | (refine indexA ?_; try rw [Int.toNat_natCast]) | refine indexC ?_) | ((with_reducible refine wpA_store rfl _ _ _ rfl _ rfl (.agg _) rfl ?_); refine storeR hL ?_; clear hL; intro _ hL) | ((with_reducible first | refine wpA_store rfl _ _ _ rfl _ rfl (.int _ _) rfl ?_ | refine wpA_store rfl _ _ _ rfl _ rfl (.slice _ _ _) rfl ?_ | refine wpA_store rfl _ _ _ rfl _ rfl (.bool _) rfl ?_ | refine wpA_store rfl _ _ _ rfl _ rfl (.pointer _) rfl ?_ | refine wpA_store rfl _ _ _ rfl _ rfl (.func _ _ _) rfl ?_); (first | refine storeA hL ?_ | refine storeO hL ?_); (clear hL; intro _ hL)) | ((with_reducible refine wpA_lit rfl _ _ _ rfl ?_); first | refine litA1 hL ?_ | refine litA2 hL ?_) | ((with_reducible refine wpA_append rfl _ _ _ rfl (.slice _ _ _) rfl ?_); intro vq hvq; simp [go_sem] at hvq; subst hvq; refine appendA hL ?_; clear hL; intro _ _ _ hL; try dsimp only at hL) | ((with_reducible refine wpA_make rfl _ _ _ rfl _ rfl rfl ?_); refine makeA hL ?_))
            obtain ⟨k, hk⟩ := Int.eq_ofNat_of_zero_le i1
            rw [hk]
            have hk0 : (0 : Int) ≤ (k : Int) := by omega
            have hk1 : (k : Int) < (H : Int) := by omega
            have hkN : k < H := by omega
            have Hk := Lib.hid hk; clear hk i1 i2
            replace hL := hL.drew
            refine wpM_begin (by kernel_rfl) (fun w' : World => w'.cell? ⟨bh, 2, none⟩ = some (.slice (some ⟨bm, 0, none⟩) H H) ∧ w'.cell? ⟨b1, 2, none⟩ = some (.slice (some ⟨b, o, none⟩) H sc) ∧ w'.cell? ⟨b1, 0, none⟩ = some (.int .i64 W) ∧ w'.cell? ⟨b, o + j, none⟩ = some (.slice va vn vc)) 13 ?_
            have hS : (fun w' : World => w'.cell? ⟨bh, 2, none⟩ = some (.slice (some ⟨bm, 0, none⟩) H H) ∧ w'.cell? ⟨b1, 2, none⟩ = some (.slice (some ⟨b, o, none⟩) H sc) ∧ w'.cell? ⟨b1, 0, none⟩ = some (.int .i64 W) ∧ w'.cell? ⟨b, o + j, none⟩ = some (.slice va vn vc)) _ := ⟨(hL.cell (by (repeat (first | with_reducible exact At.here | with_reducible apply At.there)))).trans rfl, (hL.cell (by (repeat (first | with_reducible exact At.here | with_reducible apply At.there)))).trans rfl, (hL.cell (by (repeat (first | with_reducible exact At.here | with_reducible apply At.there)))).trans rfl, hL.old hc⟩
            refine wpM_take1 (i := 0) (by simp only [List.getElem?_toArray, List.getElem?_cons_zero, List.getElem?_cons_succ]; rfl) ?_
            refine ⟨.pointer (some ⟨bh, 2, none⟩), by kernel_rfl, by kernel_rfl, by kernel_rfl, by kernel_rfl, fun _ _ _ h => h, hS, rfl, (fun w' _ => by go_simp), ?_⟩
            simp only [Act.put, List.setIfInBounds_toArray, List.set_cons_zero, List.set_cons_succ]
            refine wpM_take1 (i := 1) (by simp only [List.getElem?_toArray, List.getElem?_cons_zero, List.getElem?_cons_succ]; rfl) ?_
            refine ⟨.slice (some ⟨bm, 0, none⟩) H H, by kernel_rfl, by kernel_rfl, by kernel_rfl, by kernel_rfl, fun _ _ _ h => h, hS, rfl, (fun w' hw => run_loadOp _ _ rfl _ rfl _ (load_cell hw.1)), ?_⟩
            simp only [Act.put, List.setIfInBounds_toArray, List.set_cons_zero, List.set_cons_succ]
            refine wpM_take1 (i := 2) (by simp only [List.getElem?_toArray, List.getElem?_cons_zero, List.getElem?_cons_succ]; rfl) ?_
            refine ⟨.int .i64 k, by kernel_rfl, by kernel_rfl, by kernel_rfl, by kernel_rfl, fun _ _ _ h => h, hS, rfl, (fun w' _ => by go_simp), ?_⟩
            simp only [Act.put, List.setIfInBounds_toArray, List.set_cons_zero, List.set_cons_succ]
            refine wpM_take1 (i := 3) (by simp only [List.getElem?_toArray, List.getElem?_cons_zero, List.getElem?_cons_succ]; rfl) ?_
            refine ⟨.pointer (some ⟨b1, 2, none⟩), by kernel_rfl, by kernel_rfl, by kernel_rfl, by kernel_rfl, fun _ _ _ h => h, hS, rfl, (fun w' _ => by go_simp), ?_⟩
            simp only [Act.put, List.setIfInBounds_toArray, List.set_cons_zero, List.set_cons_succ]
            refine wpM_take1 (i := 4) (by simp only [List.getElem?_toArray, List.getElem?_cons_zero, List.getElem?_cons_succ]; rfl) ?_
            refine ⟨.slice (some ⟨b, o, none⟩) H sc, by kernel_rfl, by kernel_rfl, by kernel_rfl, by kernel_rfl, fun _ _ _ h => h, hS, rfl, (fun w' hw => run_loadOp _ _ rfl _ rfl _ (load_cell hw.2.1)), ?_⟩
            simp only [Act.put, List.setIfInBounds_toArray, List.set_cons_zero, List.set_cons_succ]
            refine wpM_take1 (i := 5) (by simp only [List.getElem?_toArray, List.getElem?_cons_zero, List.getElem?_cons_succ]; rfl) ?_
            refine ⟨.int .i64 j, by kernel_rfl, by kernel_rfl, by kernel_rfl, by kernel_rfl, fun _ _ _ h => h, hS, rfl, (fun w' _ => by go_simp), ?_⟩
            simp only [Act.put, List.setIfInBounds_toArray, List.set_cons_zero, List.set_cons_succ]
            refine wpM_take1 (i := 6) (by simp only [List.getElem?_toArray, List.getElem?_cons_zero, List.getElem?_cons_succ]; rfl) ?_
            refine ⟨.pointer (some ⟨b, o + j, none⟩), by kernel_rfl, by kernel_rfl, by kernel_rfl, by kernel_rfl, fun _ _ _ h => h, hS, rfl, (fun w' _ => by go_simp), ?_⟩
            simp only [Act.put, List.setIfInBounds_toArray, List.set_cons_zero, List.set_cons_succ]
            refine wpM_take1 (i := 7) (by simp only [List.getElem?_toArray, List.getElem?_cons_zero, List.getElem?_cons_succ]; rfl) ?_
            refine ⟨.slice va vn vc, by kernel_rfl, by kernel_rfl, by kernel_rfl, by kernel_rfl, fun _ _ _ h => h, hS, rfl, (fun w' hw => run_loadOp _ _ rfl _ rfl _ (load_cell hw.2.2.2)), ?_⟩
            simp only [Act.put, List.setIfInBounds_toArray, List.set_cons_zero, List.set_cons_succ]
            refine wpM_take1 (i := 8) (by simp only [List.getElem?_toArray, List.getElem?_cons_zero, List.getElem?_cons_succ]; rfl) ?_
            refine ⟨.int .i64 dx, by kernel_rfl, by kernel_rfl, by kernel_rfl, by kernel_rfl, fun _ _ _ h => h, hS, rfl, (fun w' _ => by go_simp), ?_⟩
            simp only [Act.put, List.setIfInBounds_toArray, List.set_cons_zero, List.set_cons_succ]
            refine wpM_take1 (i := 9) (by simp only [List.getElem?_toArray, List.getElem?_cons_zero, List.getElem?_cons_succ]; rfl) ?_
            refine ⟨.pointer (some ⟨b1, 0, none⟩), by kernel_rfl, by kernel_rfl, by kernel_rfl, by kernel_rfl, fun _ _ _ h => h, hS, rfl, (fun w' _ => by go_simp), ?_⟩
            simp only [Act.put, List.setIfInBounds_toArray, List.set_cons_zero, List.set_cons_succ]
            refine wpM_take1 (i := 10) (by simp only [List.getElem?_toArray, List.getElem?_cons_zero, List.getElem?_cons_succ]; rfl) ?_
            refine ⟨.int .i64 W, by kernel_rfl, by kernel_rfl, by kernel_rfl, by kernel_rfl, fun _ _ _ h => h, hS, rfl, (fun w' hw => run_loadOp _ _ rfl _ rfl _ (load_cell hw.2.2.1)), ?_⟩
            simp only [Act.put, List.setIfInBounds_toArray, List.set_cons_zero, List.set_cons_succ]
            refine wpM_one (i := 11) (by kernel_rfl) (wpOp_of (by simp only [List.getElem?_toArray, List.getElem?_cons_zero, List.getElem?_cons_succ]; rfl) ?_)
            refine st_call rfl 86 #[.slice va vn vc, .int .i64 dx, .int .i64 W] (by go_simp) (refShift_calls _ _ _ (Hrr.out.hold hL) _ _) ?_
            rintro e w5 ⟨v, rfl, hb, hf⟩
            obtain ⟨ra, rn, rc, rfl⟩ := SliceAt.shape hf.now
            replace hL := hL.callF hb hf
            clear hb hf hS
            have hS : (fun w' : World => w'.cell? ⟨bh, 2, none⟩ = some (.slice (some ⟨bm, 0, none⟩) H H) ∧ w'.cell? ⟨b1, 2, none⟩ = some (.slice (some ⟨b, o, none⟩) H sc) ∧ w'.cell? ⟨b1, 0, none⟩ = some (.int .i64 W) ∧ w'.cell? ⟨b, o + j, none⟩ = some (.slice va vn vc)) w5 := ⟨(hL.cell (by (repeat (first | with_reducible exact At.here | with_reducible apply At.there)))).trans rfl, (hL.cell (by (repeat (first | with_reducible exact At.here | with_reducible apply At.there)))).trans rfl, (hL.cell (by (repeat (first | with_reducible exact At.here | with_reducible apply At.there)))).trans rfl, hL.old hc⟩
            refine ⟨_, rfl, fun _ => hS, ?_⟩
            simp only [Act.put, List.setIfInBounds_toArray, List.set_cons_zero, List.set_cons_succ]
            refine wpM_take1 (i := 12) (by simp only [List.getElem?_toArray, List.getElem?_cons_zero, List.getElem?_cons_succ]; rfl) ?_
            refine ⟨.pointer (some ⟨bm, k, none⟩), by kernel_rfl, by kernel_rfl, by kernel_rfl, by kernel_rfl, fun _ _ _ h => h, hS, rfl, (fun w' _ => by go_simp), ?_⟩
            simp only [Act.put, List.setIfInBounds_toArray, List.set_cons_zero, List.set_cons_succ]
            clear hS
            refine wpM_one (i := 13) (by kernel_rfl) (wpOp_of (by simp only [List.getElem?_toArray, List.getElem?_cons_zero, List.getElem?_cons_succ]; rfl) ?_)
            refine st_store rfl _ _ _ rfl ⟨bm, k, none⟩ rfl (.slice ra rn rc) rfl (storeAt_cell rfl rfl inferInstance hL _ _ _ (by (repeat (first | with_reducible exact Upd.here | with_reducible apply Upd.there))) (by omega) rfl ?_)
            clear hL
            intro w9 hL
            refine ⟨fun h => absurd rfl h, wpM_done (by kernel_rfl) ?_⟩
            simp only [Act.put, List.setIfInBounds_toArray, List.set_cons_zero, List.set_cons_succ]
            go_wp2
            go_roundw
            case rel =>
              refine ⟨j + 1, cs.setIfInBounds k (.slice ra rn rc), by omega, by go_num, by rw [Array.size_setIfInBounds]; exact hcs, hL.join fun w' h1 h2 y hy => ?_⟩
              have hk := Hk.out
              by_cases hyk : y = k
              · subst hyk
                refine ⟨_, by rw [Array.getElem?_setIfInBounds, if_pos rfl, if_pos (by rw [hcs]; exact hkN)], ?_⟩
                rw [refShift_row hw1] at h1
                unfold shRow
                rw [if_pos (by omega), show ((y : Int) - dy).toNat = j by omega]
                exact h1
              · obtain ⟨v', e1, e2⟩ := h2 y hy
                refine ⟨v', by rw [Array.getElem?_setIfInBounds, if_neg (fun e => hyk e.symm)]; exact e1, ?_⟩
                rw [show shRow W p dx dy (j + 1) y = shRow W p dx dy j y from ?_]
                · exact e2
                · unfold shRow
                  have : (0 ≤ (y : Int) - dy ∧ (y : Int) - dy < ((j + 1 : Nat) : Int)) ↔ (0 ≤ (y : Int) - dy ∧ (y : Int) - dy < (j : Int)) := by omega
                  simp only [this]
            case measure => simp [intOf]; omega
          · rcases (by omega : ¬ 0 ≤ (j : Int) + dy ∨ (0 ≤ (j : Int) + dy ∧ ¬ (j : Int) + dy < H)) with i1 | ⟨i1, i2⟩
            all_goals
              clear hin
              go_wp2_with (first | (first | (clear hL n1; with_reducible intro b1 w1 hL) | (clear hL n2; with_reducible intro b2 w2 hL) | (clear hL n3; with_reducible intro b3 w3 hL) | (clear hL; with_reducible intro _ _ hL)) | (with_reducible refine wpC_alloc rfl _ rfl _ _ inferInstance hL ?_) | (with_reducible first | refine wpB_agg rfl _ _ _ rfl rfl hL ?_ | refine wpB_one rfl _ _ (.int _ _) rfl rfl rfl hL ?_ | refine wpB_one rfl _ _ (.slice _ _ _) rfl rfl rfl hL ?_ | refine wpB_one rfl _ _ (.bool _) rfl rfl rfl hL ?_ | refine wpB_one rfl _ _ (.pointer _) rfl rfl rfl hL ?_ | refine wpB_one rfl _ _ (.func _ _ _) rfl rfl rfl hL ?_) | (with_reducible first | refine wpH_max rfl _ _ _ _ rfl _ _ rfl rfl ?_ | refine wpH_min rfl _ _ _ _ rfl _ _ rfl rfl ?_) | ((with_reducible refine wpA_load rfl _ _ rfl _ rfl ?_); first | refine loadA hL ?_ | refine loadR hL ?_ | refine loadC hL ?_ | refine loadD ?_ | refine loadE hL ?_ | refine loadF ?_) | ((with_reducible refine wpA_index rfl _ _ _ rfl _ rfl _ rfl ?_); first | (refine indexA ?_; try rw [Int.toNat_natCast]) | refine indexC ?_) | ((with_reducible refine wpA_store rfl _ _ _ rfl _ rfl (.agg _) rfl ?_); refine storeR hL ?_; clear hL; intro _ hL) | ((with_reducible first | refine wpA_store rfl _ _ _ rfl _ rfl (.int _ _) rfl ?_ | refine wpA_store rfl _ _ _ rfl _ rfl (.slice _ _ _) rfl ?_ | refine wpA_store rfl _ _ _ rfl _ rfl (.bool _) rfl ?_ | refine wpA_store rfl _ _ _ rfl _ rfl (.pointer _) rfl ?_ | refine wpA_store rfl _ _ _ rfl _ rfl (.func _ _ _) rfl ?_); (first | refine storeA hL ?_ | refine storeO hL ?_); (clear hL; intro _ hL)) | ((with_reducible refine wpA_lit rfl _ _ _ rfl ?_); first | refine litA1 hL ?_ | refine litA2 hL ?_) | ((with_reducible refine wpA_append rfl _ _ _ rfl (.slice _ _ _) rfl ?_); intro vq hvq; simp [go_sem] at hvq; subst hvq; refine appendA hL ?_; clear hL; intro _ _ _ hL; try dsimp only at hL) | ((with_reducible refine wpA_make rfl _ _ _ rfl _ rfl rfl ?_); refine makeA hL ?_))
              go_roundw
              case rel =>
                refine ⟨j + 1, cs, by omega, by go_num, hcs, hL.map fun w' h2 y hy => ?_⟩
                obtain ⟨v', e1, e2⟩ := h2 y hy
                refine ⟨v', e1, ?_⟩
                rw [show shRow W p dx dy (j + 1) y = shRow W p dx dy j y from ?_]
                · exact e2
                · unfold shRow
                  have : (0 ≤ (y : Int) - dy ∧ (y : Int) - dy < ((j + 1 : Nat) : Int)) ↔ (0 ≤ (y : Int) - dy ∧ (y : Int) - dy < (j : Int)) := by omega
                  simp only [this]
              case measure => simp [intOf]; omega
        · have e : j = H := by omega
          subst e
          go_wp2_with (first | (first | (clear hL n1; with_reducible intro b1 w1 hL) | (clear hL n2; with_reducible intro b2 w2 hL) | (clear hL n3; with_reducible intro b3 w3 hL) | (clear hL; with_reducible intro _ _ hL)) | (with_reducible refine wpC_alloc rfl _ rfl _ _ inferInstance hL ?_) | (with_reducible first | refine wpB_agg rfl _ _ _ rfl rfl hL ?_ | refine wpB_one rfl _ _ (.int _ _) rfl rfl rfl hL ?_ | refine wpB_one rfl _ _ (.slice _ _ _) rfl rfl rfl hL ?_ | refine wpB_one rfl _ _ (.bool _) rfl rfl rfl hL ?_ | refine wpB_one rfl _ _ (.pointer _) rfl rfl rfl hL ?_ | refine wpB_one rfl _ _ (.func _ _ _) rfl rfl rfl hL ?_) | (with_reducible first | refine wpH_max rfl _ _ _ _ rfl _ _ rfl rfl ?_ | refine wpH_min rfl _ _ _ _ rfl _ _ rfl rfl ?_) | ((with_reducible refine wpA_load rfl _ _ rfl _ rfl ?_); first | refine loadA hL ?_ | refine loadR hL ?_ | refine loadC hL ?_ | refine loadD ?_ | refine loadE hL ?_ | refine loadF ?_) | ((with_reducible refine wpA_index rfl _ _ _ rfl _ rfl _ rfl ?_); first | (refine indexA ?_; try rw [Int.toNat_natCast]) | refine indexC ?_) | ((with_reducible refine wpA_store rfl _ _ _ rfl _ rfl (.agg _) rfl ?_); refine storeR hL ?_; clear hL; intro _ hL) | ((with_reducible first | refine wpA_store rfl _ _ _ rfl _ rfl (.int _ _) rfl ?_ | refine wpA_store rfl _ _ _ rfl _ rfl (.slice _ _ _) rfl ?_ | refine wpA_store rfl _ _ _ rfl _ rfl (.bool _) rfl ?_ | refine wpA_store rfl _ _ _ rfl _ rfl (.pointer _) rfl ?_ | refine wpA_store rfl _ _ _ rfl _ rfl (.func _ _ _) rfl ?_); (first | refine storeA hL ?_ | refine storeO hL ?_); (clear hL; intro _ hL)) | ((with_reducible refine wpA_lit rfl _ _ _ rfl ?_); first | refine litA1 hL ?_ | refine litA2 hL ?_) | ((with_reducible refine wpA_append rfl _ _ _ rfl (.slice _ _ _) rfl ?_); intro vq hvq; simp [go_sem] at hvq; subst hvq; refine appendA hL ?_; clear hL; intro _ _ _ hL; try dsimp only at hL) | ((with_reducible refine wpA_make rfl _ _ _ rfl _ rfl rfl ?_); refine makeA hL ?_))
          refine bodyPost_ret (results_row2 inferInstance rfl _ hL b2 rfl _ _ (.there (.there .here)) rfl) rfl ⟨some ⟨bm, 0, none⟩, j, j, rfl, hL.below, ?_⟩
          exact ((hL.settle (.there .here) (φ := fun w => w.heap[bm]? = some (.cells cs 36 (0, 0))) fun _ h => h).join fun w' h1 h2 => shReg_at h1 hcs hh1 h2).fresh
end Go.Proofs.Ytjgnbmgdnfldeaa
