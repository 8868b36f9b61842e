/- Masks of what may not be; masks of anything. -/
import Derived.Test.YtkgblkaihblgeaaRMsk
-- uses arrU
-- lit6
namespace Go.Proofs.Ytkgblkaihblgeaa
open Go.RowKit

/-- a mask and a number are returned -/
def MaskEnd (m : Msk) (er : Int) (w : World) (e : Ending) (w' : World) : Prop :=
  ∃ ma n, e = .returned (.tuple #[.agg #[.int .i64 m.W, .int .i64 m.H, .slice ma n n], .int .i64 er]) ∧ Below w.heap.size w w' ∧ Fresh w w' (MaskF (.agg #[.int .i64 m.W, .int .i64 m.H, .slice ma n n]) m)
theorem nilMask_at (w : World) : MaskAt w (.agg #[.int .i64 0, .int .i64 0, .slice none 0 0]) ⟨0, 0, []⟩ :=
  ⟨_, rfl, none, 0, rfl, Nat.le_refl _, by unfold maxLen; omega, fun i hi => by simp at hi⟩
theorem nilMask_end {w w' : World} {M : List Res} (hL : Holds w w' M []) : MaskEnd ⟨0, 0, []⟩ 1 w (.returned (.tuple #[.agg #[.int .i64 0, .int .i64 0, .slice none 0 0], .int .i64 1])) w' :=
  ⟨none, 0, rfl, hL.below, (hL.triv (χ := MaskF (.agg #[.int .i64 0, .int .i64 0, .slice none 0 0]) ⟨0, 0, []⟩) fun w => nilMask_at w).fresh⟩
set_option maxRecDepth 100000 in
set_option maxHeartbeats 8000000 in
theorem rMaskBad_calls (w : World) (v : Value) (l : List Sg) (hv : SegsAt w v l) (rule wi hi : Int) (hf : fairS l rule wi hi = false) :
    Calls Try.prog 18 #[v, .int .i64 rule, .int .i64 wi, .int .i64 hi] w (MaskEnd ⟨0, 0, []⟩ 1 w) := by
  have Hv := Lib.hid hv
  obtain ⟨a, cap, rfl, _⟩ := hv.parts
  clear hv
  have hL := Holds.start w
  have HF := Lib.hid (fun w' hv' => hf ▸ rFair_calls w' (.slice a l.length cap) l hv' rule wi hi)
  clear hf
  have n1 : True := trivial
  go_enter Try.func18, Try.ntmps18
  go_wp2_with (first | (go_at_call 43; (with_reducible refine (HF.out _ (Hv.out.hold hL)).mono ?_); rintro e _ ⟨rfl, hb⟩; replace hL := hL.call hb; clear hb) | (first | (clear hL n1; with_reducible intro b1 w1 hL) | (clear hL; with_reducible intro _ _ hL)) | (with_reducible refine wpC_alloc rfl _ rfl _ _ inferInstance hL ?_) | (with_reducible first | refine wpB_agg rfl _ _ _ rfl rfl hL ?_ | refine wpB_one rfl _ _ (.int _ _) rfl rfl rfl hL ?_ | refine wpB_one rfl _ _ (.slice _ _ _) rfl rfl rfl hL ?_ | refine wpB_one rfl _ _ (.bool _) rfl rfl rfl hL ?_ | refine wpB_one rfl _ _ (.pointer _) rfl rfl rfl hL ?_ | refine wpB_one rfl _ _ (.func _ _ _) rfl rfl rfl hL ?_) | (with_reducible first | refine wpH_max rfl _ _ _ _ rfl _ _ rfl rfl ?_ | refine wpH_min rfl _ _ _ _ rfl _ _ rfl rfl ?_) | ((with_reducible refine wpA_load rfl _ _ rfl _ rfl ?_); first | refine loadA hL ?_ | refine loadR hL ?_ | refine loadC hL ?_ | refine loadD ?_ | refine loadE hL ?_ | refine loadF ?_) | ((with_reducible refine wpA_index rfl _ _ _ rfl _ rfl _ rfl ?_); first | (refine indexA ?_; try rw [Int.toNat_natCast]) | refine indexC ?_) | ((with_reducible refine wpA_store rfl _ _ _ rfl _ rfl (.agg _) rfl ?_); refine storeR hL ?_; clear hL; intro _ hL) | ((with_reducible first | refine wpA_store rfl _ _ _ rfl _ rfl (.int _ _) rfl ?_ | refine wpA_store rfl _ _ _ rfl _ rfl (.slice _ _ _) rfl ?_ | refine wpA_store rfl _ _ _ rfl _ rfl (.bool _) rfl ?_ | refine wpA_store rfl _ _ _ rfl _ rfl (.pointer _) rfl ?_ | refine wpA_store rfl _ _ _ rfl _ rfl (.func _ _ _) rfl ?_); (first | refine storeA hL ?_ | refine storeO hL ?_); (clear hL; intro _ hL)) | ((with_reducible refine wpA_lit rfl _ _ _ rfl ?_); first | refine litA1 hL ?_ | refine litA2 hL ?_ | refine litA3 hL ?_ | refine litA4 hL ?_ | refine litA6 hL ?_) | ((with_reducible refine wpA_append rfl _ _ _ rfl (.slice _ _ _) rfl ?_); intro vq hvq; simp [go_sem] at hvq; subst hvq; refine appendA hL ?_; clear hL; intro _ _ _ hL; try dsimp only at hL) | ((with_reducible refine wpA_make rfl _ _ _ rfl _ rfl rfl ?_); refine makeA hL ?_))
  refine bodyPost_ret (results_row2 inferInstance rfl _ hL b1 rfl _ _ .here rfl) rfl ?_
  exact nilMask_end hL
theorem side_get {n : Int} (h : isSide n = true) : ∃ N : Nat, n = (N : Int) ∧ 1 ≤ N ∧ N ≤ 64 := by
  simp [isSide] at h
  exact ⟨n.toNat, by omega, by omega, by omega⟩
end Go.Proofs.Ytkgblkaihblgeaa
