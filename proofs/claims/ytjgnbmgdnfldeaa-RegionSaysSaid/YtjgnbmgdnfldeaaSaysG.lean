/- What a region's functions and the document's return for any region. -/
import Derived.Test.YtjgnbmgdnfldeaaRefBand
import Derived.Test.YtjgnbmgdnfldeaaSays0
import Derived.Test.YtjgnbmgdnfldeaaRefNot
namespace Go.Proofs.Ytjgnbmgdnfldeaa
open Go.RowKit

def MkOut (R : Reg) (err : Int) (w : World) (e : Ending) (w' : World) : Prop :=
  ∃ sa sn sc, e = .returned (.tuple #[.agg #[.int .i64 R.W, .int .i64 R.H, .slice sa sn sc], .int .i64 err]) ∧ Below w.heap.size w w' ∧ Fresh w w' (RegF (.agg #[.int .i64 R.W, .int .i64 R.H, .slice sa sn sc]) R)
theorem MkOut.of {R : Reg} {err : Int} {w : World} {e : Ending} {w' : World} (h : RegOut R err w e w') : MkOut R err w e w' := by
  obtain ⟨v, rfl, hb, hf⟩ := h
  obtain ⟨sa, sn, sc, rfl, _⟩ := RegAt.shape hf.now
  exact ⟨sa, sn, sc, rfl, hb, hf⟩
theorem MkOut.pix {R : Reg} {W H : Nat} {q : Nat → Nat → Bool} {err : Int} {w : World} {e : Ending} {w' : World} (h : PixOut W H q w e w') (hR : R = pixReg W H q) (he : err = 0) : MkOut R err w e w' := by
  subst hR; subst he; exact h
def MskOut (m : Msk) (err : Int) (w : World) (e : Ending) (w' : World) : Prop :=
  ∃ sa sn sc, e = .returned (.tuple #[.agg #[.int .i64 m.W, .int .i64 m.H, .slice sa sn sc], .int .i64 err]) ∧ Below w.heap.size w w' ∧ Fresh w w' (MaskF (.agg #[.int .i64 m.W, .int .i64 m.H, .slice sa sn sc]) m)
def noMsk : Msk := ⟨0, 0, []⟩
theorem noMsk_at (w : World) : MaskAt w (.agg #[.int .i64 0, .int .i64 0, .slice none 0 0]) noMsk := ⟨_, rfl, none, 0, rfl, Nat.le_refl _, by unfold maxLen; omega, fun i hi => by simp [noMsk] at hi⟩

/-- a region that may be, by its pixels -/
theorem may_pix {R : Reg} (h : mayReg R = true) : ∃ (W H : Nat) (q : Nat → Nat → Bool), Sides W H ∧ R = pixReg W H q := by
  obtain ⟨h1, h2, h3⟩ := mayReg_len h
  have hw : 1 ≤ R.W ∧ R.W ≤ 64 := by simpa [isSide] using h1
  have hh : 1 ≤ R.H ∧ R.H ≤ 64 := by simpa [isSide] using h2
  refine ⟨R.W.toNat, R.H.toNat, fun j => inRuns (R.rows.getD j []), ⟨by omega, by omega, by omega, by omega⟩, ?_⟩
  have e1 : ((R.W.toNat : Nat) : Int) = R.W := by omega
  have e2 : ((R.H.toNat : Nat) : Int) = R.H := by omega
  have e3 : R.rows = (List.range R.H.toNat).map fun j => runsTo (inRuns (R.rows.getD j [])) R.W.toNat := by
    apply List.ext_getElem
    · simp; omega
    · intro i hi1 hi2
      have hm := mayReg_rowMay h hi1
      rw [← e1] at hm
      rw [List.getElem_map, List.getElem_range, runsTo_places hm]
      simp [hi1]
  unfold pixReg
  rw [e1, e2, ← e3]
def shRegOf (R : Reg) (dx dy : Int) : Reg := oneReg R (shiftRow R.rows R.W R.H dx dy)
def bdRegOf (R : Reg) (f t : Int) : Reg := oneReg R (bandRow R.rows f t)

theorem sgNot_calls (w : World) (v : Value) (R : Reg) (hv : RegAt w v R) : Calls Try.prog 20 #[v] w (MkOut (notRegOf R) (oneErr R) w) := (regNot_calls w v R hv).mono fun _ _ h => .of h
theorem sgRefNot_calls (w : World) (v : Value) (R : Reg) (hv : RegAt w v R) : Calls Try.prog 43 #[v] w (MkOut (notRegOf R) (oneErr R) w) := (refNotReg_calls w v R hv).mono fun _ _ h => .of h
theorem sgShift_calls (w : World) (v : Value) (R : Reg) (hv : RegAt w v R) (dx dy : Int) : Calls Try.prog 44 #[v, .int .i64 dx, .int .i64 dy] w (MkOut (shRegOf R dx dy) (oneErr R) w) := (regShift_calls w v R hv dx dy).mono fun _ _ h => .of h
theorem sgBand_calls (w : World) (v : Value) (R : Reg) (hv : RegAt w v R) (f t : Int) : Calls Try.prog 46 #[v, .int .i64 f, .int .i64 t] w (MkOut (bdRegOf R f t) (oneErr R) w) := (regBand_calls w v R hv f t).mono fun _ _ h => .of h
theorem sgSame_calls (w : World) (v u : Value) (R : Reg) (h : RegAt w v R) (k : RegAt w u R) : Calls Try.prog 29 #[v, u] w fun e w' => e = .returned (.bool true) ∧ Below w.heap.size w w' :=
  (helpRegion_calls w v u R R h k).mono fun _ _ h => by rw [sameReg_self] at h; exact h

set_option maxRecDepth 100000 in
set_option maxHeartbeats 1000000 in
theorem refShift0_calls (w : World) (v : Value) (R : Reg) (hv : RegAt w v R) (hm : mayReg R = false) (dx dy : Int) : Calls Try.prog 45 #[v, .int .i64 dx, .int .i64 dy] w (MkOut noReg 1 w) := by
  have Hv := Lib.hid hv
  obtain ⟨xa, xn, xc, rfl, hsa⟩ := hv.shape
  clear hv hsa
  have hL := Holds.start w
  have n1 : True := trivial; have n2 : True := trivial; have n3 : True := trivial
  go_enter Try.func45, Try.ntmps45
  go_wp2_with (first | (go_at_call 39; (with_reducible refine (refMayReg_calls _ _ _ (Hv.out.hold hL)).mono ?_); rintro e _ ⟨rfl, hb⟩; rw [hm]; replace hL := hL.call hb; clear hb) | (first | (clear hL n1; with_reducible intro b1 w1 hL) | (clear hL n2; with_reducible intro b2 w2 hL) | (clear hL n3; with_reducible intro b3 w3 hL) | (clear hL; with_reducible intro _ _ hL)) | (with_reducible refine wpC_alloc rfl _ rfl _ _ inferInstance hL ?_) | (with_reducible first | refine wpB_agg rfl _ _ _ rfl rfl hL ?_ | refine wpB_one rfl _ _ (.int _ _) rfl rfl rfl hL ?_ | refine wpB_one rfl _ _ (.slice _ _ _) rfl rfl rfl hL ?_ | refine wpB_one rfl _ _ (.bool _) rfl rfl rfl hL ?_ | refine wpB_one rfl _ _ (.pointer _) rfl rfl rfl hL ?_ | refine wpB_one rfl _ _ (.func _ _ _) rfl rfl rfl hL ?_) | (with_reducible first | refine wpH_max rfl _ _ _ _ rfl _ _ rfl rfl ?_ | refine wpH_min rfl _ _ _ _ rfl _ _ rfl rfl ?_) | ((with_reducible refine wpA_load rfl _ _ rfl _ rfl ?_); first | refine loadA hL ?_ | refine loadR hL ?_ | refine loadC hL ?_ | refine loadD ?_ | refine loadE hL ?_ | refine loadF ?_) | ((with_reducible refine wpA_index rfl _ _ _ rfl _ rfl _ rfl ?_); first | (refine indexA ?_; try rw [Int.toNat_natCast]) | refine indexC ?_) | ((with_reducible refine wpA_store rfl _ _ _ rfl _ rfl (.agg _) rfl ?_); refine storeR hL ?_; clear hL; intro _ hL) | ((with_reducible first | refine wpA_store rfl _ _ _ rfl _ rfl (.int _ _) rfl ?_ | refine wpA_store rfl _ _ _ rfl _ rfl (.slice _ _ _) rfl ?_ | refine wpA_store rfl _ _ _ rfl _ rfl (.bool _) rfl ?_ | refine wpA_store rfl _ _ _ rfl _ rfl (.pointer _) rfl ?_ | refine wpA_store rfl _ _ _ rfl _ rfl (.func _ _ _) rfl ?_); (first | refine storeA hL ?_ | refine storeO hL ?_); (clear hL; intro _ hL)) | ((with_reducible refine wpA_lit rfl _ _ _ rfl ?_); first | refine litA1 hL ?_ | refine litA2 hL ?_) | ((with_reducible refine wpA_append rfl _ _ _ rfl (.slice _ _ _) rfl ?_); intro vq hvq; simp [go_sem] at hvq; subst hvq; refine appendA hL ?_; clear hL; intro _ _ _ hL; try dsimp only at hL) | ((with_reducible refine wpA_make rfl _ _ _ rfl _ rfl rfl ?_); refine makeA hL ?_))
  exact bodyPost_ret (results_row2 inferInstance rfl _ hL b2 rfl _ _ .here rfl) rfl ⟨none, 0, 0, rfl, hL.below, (hL.triv noReg_at).fresh⟩
set_option maxRecDepth 100000 in
set_option maxHeartbeats 1000000 in
theorem refBand0_calls (w : World) (v : Value) (R : Reg) (hv : RegAt w v R) (hm : mayReg R = false) (f t : Int) : Calls Try.prog 47 #[v, .int .i64 f, .int .i64 t] w (MkOut noReg 1 w) := by
  have Hv := Lib.hid hv
  obtain ⟨xa, xn, xc, rfl, hsa⟩ := hv.shape
  clear hv hsa
  have hL := Holds.start w
  have n1 : True := trivial; have n2 : True := trivial; have n3 : True := trivial
  go_enter Try.func47, Try.ntmps47
  go_wp2_with (first | (go_at_call 39; (with_reducible refine (refMayReg_calls _ _ _ (Hv.out.hold hL)).mono ?_); rintro e _ ⟨rfl, hb⟩; rw [hm]; replace hL := hL.call hb; clear hb) | (first | (clear hL n1; with_reducible intro b1 w1 hL) | (clear hL n2; with_reducible intro b2 w2 hL) | (clear hL n3; with_reducible intro b3 w3 hL) | (clear hL; with_reducible intro _ _ hL)) | (with_reducible refine wpC_alloc rfl _ rfl _ _ inferInstance hL ?_) | (with_reducible first | refine wpB_agg rfl _ _ _ rfl rfl hL ?_ | refine wpB_one rfl _ _ (.int _ _) rfl rfl rfl hL ?_ | refine wpB_one rfl _ _ (.slice _ _ _) rfl rfl rfl hL ?_ | refine wpB_one rfl _ _ (.bool _) rfl rfl rfl hL ?_ | refine wpB_one rfl _ _ (.pointer _) rfl rfl rfl hL ?_ | refine wpB_one rfl _ _ (.func _ _ _) rfl rfl rfl hL ?_) | (with_reducible first | refine wpH_max rfl _ _ _ _ rfl _ _ rfl rfl ?_ | refine wpH_min rfl _ _ _ _ rfl _ _ rfl rfl ?_) | ((with_reducible refine wpA_load rfl _ _ rfl _ rfl ?_); first | refine loadA hL ?_ | refine loadR hL ?_ | refine loadC hL ?_ | refine loadD ?_ | refine loadE hL ?_ | refine loadF ?_) | ((with_reducible refine wpA_index rfl _ _ _ rfl _ rfl _ rfl ?_); first | (refine indexA ?_; try rw [Int.toNat_natCast]) | refine indexC ?_) | ((with_reducible refine wpA_store rfl _ _ _ rfl _ rfl (.agg _) rfl ?_); refine storeR hL ?_; clear hL; intro _ hL) | ((with_reducible first | refine wpA_store rfl _ _ _ rfl _ rfl (.int _ _) rfl ?_ | refine wpA_store rfl _ _ _ rfl _ rfl (.slice _ _ _) rfl ?_ | refine wpA_store rfl _ _ _ rfl _ rfl (.bool _) rfl ?_ | refine wpA_store rfl _ _ _ rfl _ rfl (.pointer _) rfl ?_ | refine wpA_store rfl _ _ _ rfl _ rfl (.func _ _ _) rfl ?_); (first | refine storeA hL ?_ | refine storeO hL ?_); (clear hL; intro _ hL)) | ((with_reducible refine wpA_lit rfl _ _ _ rfl ?_); first | refine litA1 hL ?_ | refine litA2 hL ?_) | ((with_reducible refine wpA_append rfl _ _ _ rfl (.slice _ _ _) rfl ?_); intro vq hvq; simp [go_sem] at hvq; subst hvq; refine appendA hL ?_; clear hL; intro _ _ _ hL; try dsimp only at hL) | ((with_reducible refine wpA_make rfl _ _ _ rfl _ rfl rfl ?_); refine makeA hL ?_))
  exact bodyPost_ret (results_row2 inferInstance rfl _ hL b2 rfl _ _ .here rfl) rfl ⟨none, 0, 0, rfl, hL.below, (hL.triv noReg_at).fresh⟩
set_option maxRecDepth 100000 in
set_option maxHeartbeats 1000000 in
theorem refMask0_calls (w : World) (v : Value) (R : Reg) (hv : RegAt w v R) (hm : mayReg R = false) : Calls Try.prog 49 #[v] w (MskOut noMsk 1 w) := by
  have Hv := Lib.hid hv
  obtain ⟨xa, xn, xc, rfl, hsa⟩ := hv.shape
  clear hv hsa
  have hL := Holds.start w
  have n1 : True := trivial; have n2 : True := trivial; have n3 : True := trivial
  go_enter Try.func49, Try.ntmps49
  go_wp2_with (first | (go_at_call 39; (with_reducible refine (refMayReg_calls _ _ _ (Hv.out.hold hL)).mono ?_); rintro e _ ⟨rfl, hb⟩; rw [hm]; replace hL := hL.call hb; clear hb) | (first | (clear hL n1; with_reducible intro b1 w1 hL) | (clear hL n2; with_reducible intro b2 w2 hL) | (clear hL n3; with_reducible intro b3 w3 hL) | (clear hL; with_reducible intro _ _ hL)) | (with_reducible refine wpC_alloc rfl _ rfl _ _ inferInstance hL ?_) | (with_reducible first | refine wpB_agg rfl _ _ _ rfl rfl hL ?_ | refine wpB_one rfl _ _ (.int _ _) rfl rfl rfl hL ?_ | refine wpB_one rfl _ _ (.slice _ _ _) rfl rfl rfl hL ?_ | refine wpB_one rfl _ _ (.bool _) rfl rfl rfl hL ?_ | refine wpB_one rfl _ _ (.pointer _) rfl rfl rfl hL ?_ | refine wpB_one rfl _ _ (.func _ _ _) rfl rfl rfl hL ?_) | (with_reducible first | refine wpH_max rfl _ _ _ _ rfl _ _ rfl rfl ?_ | refine wpH_min rfl _ _ _ _ rfl _ _ rfl rfl ?_) | ((with_reducible refine wpA_load rfl _ _ rfl _ rfl ?_); first | refine loadA hL ?_ | refine loadR hL ?_ | refine loadC hL ?_ | refine loadD ?_ | refine loadE hL ?_ | refine loadF ?_) | ((with_reducible refine wpA_index rfl _ _ _ rfl _ rfl _ rfl ?_); first | (refine indexA ?_; try rw [Int.toNat_natCast]) | refine indexC ?_) | ((with_reducible refine wpA_store rfl _ _ _ rfl _ rfl (.agg _) rfl ?_); refine storeR hL ?_; clear hL; intro _ hL) | ((with_reducible first | refine wpA_store rfl _ _ _ rfl _ rfl (.int _ _) rfl ?_ | refine wpA_store rfl _ _ _ rfl _ rfl (.slice _ _ _) rfl ?_ | refine wpA_store rfl _ _ _ rfl _ rfl (.bool _) rfl ?_ | refine wpA_store rfl _ _ _ rfl _ rfl (.pointer _) rfl ?_ | refine wpA_store rfl _ _ _ rfl _ rfl (.func _ _ _) rfl ?_); (first | refine storeA hL ?_ | refine storeO hL ?_); (clear hL; intro _ hL)) | ((with_reducible refine wpA_lit rfl _ _ _ rfl ?_); first | refine litA1 hL ?_ | refine litA2 hL ?_) | ((with_reducible refine wpA_append rfl _ _ _ rfl (.slice _ _ _) rfl ?_); intro vq hvq; simp [go_sem] at hvq; subst hvq; refine appendA hL ?_; clear hL; intro _ _ _ hL; try dsimp only at hL) | ((with_reducible refine wpA_make rfl _ _ _ rfl _ rfl rfl ?_); refine makeA hL ?_))
  exact bodyPost_ret (results_row2 inferInstance rfl _ hL b2 rfl _ _ .here rfl) rfl ⟨none, 0, 0, rfl, hL.below, (hL.triv noMsk_at).fresh⟩
set_option maxRecDepth 100000 in
set_option maxHeartbeats 1000000 in
theorem regMask0_calls (w : World) (v : Value) (R : Reg) (hv : RegAt w v R) (hm : mayReg R = false) : Calls Try.prog 48 #[v] w (MskOut noMsk 1 w) := by
  have Hv := Lib.hid hv
  obtain ⟨xa, xn, xc, rfl, hsa⟩ := hv.shape
  clear hv hsa
  have hL := Holds.start w
  have n1 : True := trivial; have n2 : True := trivial; have n3 : True := trivial
  go_enter Try.func48, Try.ntmps48
  go_wp2_with (first | (go_at_call 38; (with_reducible refine (regMay_calls _ _ _ (Hv.out.hold hL)).mono ?_); rintro e _ ⟨rfl, hb⟩; rw [hm]; replace hL := hL.call hb; clear hb) | (first | (clear hL n1; with_reducible intro b1 w1 hL) | (clear hL n2; with_reducible intro b2 w2 hL) | (clear hL n3; with_reducible intro b3 w3 hL) | (clear hL; with_reducible intro _ _ hL)) | (with_reducible refine wpC_alloc rfl _ rfl _ _ inferInstance hL ?_) | (with_reducible first | refine wpB_agg rfl _ _ _ rfl rfl hL ?_ | refine wpB_one rfl _ _ (.int _ _) rfl rfl rfl hL ?_ | refine wpB_one rfl _ _ (.slice _ _ _) rfl rfl rfl hL ?_ | refine wpB_one rfl _ _ (.bool _) rfl rfl rfl hL ?_ | refine wpB_one rfl _ _ (.pointer _) rfl rfl rfl hL ?_ | refine wpB_one rfl _ _ (.func _ _ _) rfl rfl rfl hL ?_) | (with_reducible first | refine wpH_max rfl _ _ _ _ rfl _ _ rfl rfl ?_ | refine wpH_min rfl _ _ _ _ rfl _ _ rfl rfl ?_) | ((with_reducible refine wpA_load rfl _ _ rfl _ rfl ?_); first | refine loadA hL ?_ | refine loadR hL ?_ | refine loadC hL ?_ | refine loadD ?_ | refine loadE hL ?_ | refine loadF ?_) | ((with_reducible refine wpA_index rfl _ _ _ rfl _ rfl _ rfl ?_); first | (refine indexA ?_; try rw [Int.toNat_natCast]) | refine indexC ?_) | ((with_reducible refine wpA_store rfl _ _ _ rfl _ rfl (.agg _) rfl ?_); refine storeR hL ?_; clear hL; intro _ hL) | ((with_reducible first | refine wpA_store rfl _ _ _ rfl _ rfl (.int _ _) rfl ?_ | refine wpA_store rfl _ _ _ rfl _ rfl (.slice _ _ _) rfl ?_ | refine wpA_store rfl _ _ _ rfl _ rfl (.bool _) rfl ?_ | refine wpA_store rfl _ _ _ rfl _ rfl (.pointer _) rfl ?_ | refine wpA_store rfl _ _ _ rfl _ rfl (.func _ _ _) rfl ?_); (first | refine storeA hL ?_ | refine storeO hL ?_); (clear hL; intro _ hL)) | ((with_reducible refine wpA_lit rfl _ _ _ rfl ?_); first | refine litA1 hL ?_ | refine litA2 hL ?_) | ((with_reducible refine wpA_append rfl _ _ _ rfl (.slice _ _ _) rfl ?_); intro vq hvq; simp [go_sem] at hvq; subst hvq; refine appendA hL ?_; clear hL; intro _ _ _ hL; try dsimp only at hL) | ((with_reducible refine wpA_make rfl _ _ _ rfl _ rfl rfl ?_); refine makeA hL ?_))
  exact bodyPost_ret (results_row2 inferInstance rfl _ hL b2 rfl _ _ .here rfl) rfl ⟨none, 0, 0, rfl, hL.below, (hL.triv noMsk_at).fresh⟩

theorem sgRefShift_calls (w : World) (v : Value) (R : Reg) (hv : RegAt w v R) (dx dy : Int) : Calls Try.prog 45 #[v, .int .i64 dx, .int .i64 dy] w (MkOut (shRegOf R dx dy) (oneErr R) w) := by
  cases hm : mayReg R with
  | false => rw [show shRegOf R dx dy = noReg by simp [shRegOf, oneReg, hm], show oneErr R = 1 by simp [oneErr, hm]]; exact refShift0_calls w v R hv hm dx dy
  | true =>
    obtain ⟨W, H, q, hs, rfl⟩ := may_pix hm
    obtain ⟨sa, sn, sc, rfl, _⟩ := hv.shape
    exact (refShiftReg_calls hs w sa sn sc q hv dx dy).mono fun _ _ h => .pix h (shift_pix hs q dx dy).1 (shift_pix hs q dx dy).2
theorem sgRefBand_calls (w : World) (v : Value) (R : Reg) (hv : RegAt w v R) (f t : Int) : Calls Try.prog 47 #[v, .int .i64 f, .int .i64 t] w (MkOut (bdRegOf R f t) (oneErr R) w) := by
  cases hm : mayReg R with
  | false => rw [show bdRegOf R f t = noReg by simp [bdRegOf, oneReg, hm], show oneErr R = 1 by simp [oneErr, hm]]; exact refBand0_calls w v R hv hm f t
  | true =>
    obtain ⟨W, H, q, hs, rfl⟩ := may_pix hm
    obtain ⟨sa, sn, sc, rfl, _⟩ := hv.shape
    exact (refBand_calls hs w sa sn sc q hv f t).mono fun _ _ h => .pix h (band_pix0 hs q f t).1 (band_pix0 hs q f t).2
/-- a mask is returned, the same by both -/
theorem sgMask_calls {R : Reg} : ∃ (m : Msk), (∀ (w : World) (v : Value), RegAt w v R → Calls Try.prog 48 #[v] w (MskOut m (oneErr R) w)) ∧ ∀ (w : World) (v : Value), RegAt w v R → Calls Try.prog 49 #[v] w (MskOut m (oneErr R) w) := by
  cases hm : mayReg R with
  | false =>
    rw [show oneErr R = 1 by simp [oneErr, hm]]
    exact ⟨noMsk, fun w v hv => regMask0_calls w v R hv hm, fun w v hv => refMask0_calls w v R hv hm⟩
  | true =>
    rw [show oneErr R = 0 by simp [oneErr, hm]]
    obtain ⟨W, H, q, hs, rfl⟩ := may_pix hm
    refine ⟨pixMask W H q, fun w v hv => ?_, fun w v hv => ?_⟩
    · obtain ⟨sa, sn, sc, rfl, _⟩ := hv.shape
      exact (pixMask_calls hs w sa sn sc q hv).mono fun _ _ h => by
        obtain ⟨ma, rfl, hb, hf⟩ := h
        exact ⟨ma, _, _, rfl, hb, hf⟩
    · obtain ⟨sa, sn, sc, rfl, _⟩ := hv.shape
      exact (refMask_calls hs w sa sn sc q hv).mono fun _ _ h => by
        obtain ⟨ma, rfl, hb, hf⟩ := h
        exact ⟨ma, _, _, rfl, hb, hf⟩
end Go.Proofs.Ytjgnbmgdnfldeaa
