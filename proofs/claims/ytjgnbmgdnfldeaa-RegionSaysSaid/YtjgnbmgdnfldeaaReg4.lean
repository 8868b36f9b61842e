/- Package region: Join, Meet, Less, Other. -/
import Derived.Test.YtjgnbmgdnfldeaaReg3
namespace Go.Proofs.Ytjgnbmgdnfldeaa
open Go.RowKit

/-- the function on two rows that region's Join, Meet, Less, Other hand on -/
def rowsOp (h : Bool → Bool → Bool) (la lb : List (Int × Int)) : List (Int × Int) := runsTo (fun i => h (inRuns la i) (inRuns lb i)) 64
theorem onJoin : OnRuns 22 (rowsOp fun x y => x || y) := ⟨fun w a b la lb ha hb => spanJoin_calls w a b la lb ha hb, fun _ _ _ => by kernel_rfl⟩
theorem onMeet : OnRuns 23 (rowsOp fun x y => x && y) := ⟨fun w a b la lb ha hb => spanMeet_calls w a b la lb ha hb, fun _ _ _ => by kernel_rfl⟩
theorem onLess : OnRuns 24 (rowsOp fun x y => x && !y) := ⟨fun w a b la lb ha hb => spanLess_calls w a b la lb ha hb, fun _ _ _ => by kernel_rfl⟩
theorem onOther : OnRuns 25 (rowsOp fun x y => x != y) := ⟨fun w a b la lb ha hb => spanOther_calls w a b la lb ha hb, fun _ _ _ => by kernel_rfl⟩

theorem regJoin_calls (w : World) (va vb : Value) (A B : Reg) (ha : RegAt w va A) (hb : RegAt w vb B) :
    Calls Try.prog 16 #[va, vb] w (RegOut (bothReg (rowsOp fun x y => x || y) A B) (bothErr A B) w) := by
  have Ha := Lib.hid ha
  have Hb := Lib.hid hb
  obtain ⟨xa, na, ca, rfl, _⟩ := ha.shape
  obtain ⟨xb, nb, cb, rfl, _⟩ := hb.shape
  clear ha hb
  have hL := Holds.start w
  have n1 : True := trivial; have n2 : True := trivial; have n3 : True := trivial; have n4 : True := trivial
  go_enter Try.func16, Try.ntmps16
  go_wp2_with (first | (go_at_call 61; (with_reducible refine (regBoth_calls _ _ _ A B (Ha.out.hold hL) (Hb.out.hold hL) _ _ onJoin).mono ?_); rintro e _ ⟨v, rfl, hb, hf⟩; obtain ⟨sa, sn, sc, rfl, _⟩ := RegAt.shape hf.now; replace hL := hL.callF hb hf; clear hb hf) | (first | (clear hL n1; with_reducible intro b1 w1 hL) | (clear hL n2; with_reducible intro b2 w2 hL) | (clear hL n3; with_reducible intro b3 w3 hL) | (clear hL n4; with_reducible intro b4 w4 hL) | (clear hL; with_reducible intro _ _ hL)) | (with_reducible refine wpC_alloc rfl _ rfl _ _ inferInstance hL ?_) | (with_reducible first | refine wpB_agg rfl _ _ _ rfl rfl hL ?_ | refine wpB_one rfl _ _ (.int _ _) rfl rfl rfl hL ?_ | refine wpB_one rfl _ _ (.slice _ _ _) rfl rfl rfl hL ?_ | refine wpB_one rfl _ _ (.bool _) rfl rfl rfl hL ?_ | refine wpB_one rfl _ _ (.pointer _) rfl rfl rfl hL ?_ | refine wpB_one rfl _ _ (.func _ _ _) rfl rfl rfl hL ?_) | (with_reducible first | refine wpH_max rfl _ _ _ _ rfl _ _ rfl rfl ?_ | refine wpH_min rfl _ _ _ _ rfl _ _ rfl rfl ?_) | ((with_reducible refine wpA_load rfl _ _ rfl _ rfl ?_); first | refine loadA hL ?_ | refine loadR hL ?_ | refine loadC hL ?_ | refine loadD ?_ | refine loadE hL ?_ | refine loadF ?_) | ((with_reducible refine wpA_index rfl _ _ _ rfl _ rfl _ rfl ?_); first | (refine indexA ?_; try rw [Int.toNat_natCast]) | refine indexC ?_) | ((with_reducible refine wpA_store rfl _ _ _ rfl _ rfl (.agg _) rfl ?_); refine storeR hL ?_; clear hL; intro _ hL) | ((with_reducible first | refine wpA_store rfl _ _ _ rfl _ rfl (.int _ _) rfl ?_ | refine wpA_store rfl _ _ _ rfl _ rfl (.slice _ _ _) rfl ?_ | refine wpA_store rfl _ _ _ rfl _ rfl (.bool _) rfl ?_ | refine wpA_store rfl _ _ _ rfl _ rfl (.pointer _) rfl ?_ | refine wpA_store rfl _ _ _ rfl _ rfl (.func _ _ _) rfl ?_); (first | refine storeA hL ?_ | refine storeO hL ?_); (clear hL; intro _ hL)) | ((with_reducible refine wpA_lit rfl _ _ _ rfl ?_); first | refine litA1 hL ?_ | refine litA2 hL ?_) | ((with_reducible refine wpA_append rfl _ _ _ rfl (.slice _ _ _) rfl ?_); intro vq hvq; simp [go_sem] at hvq; subst hvq; refine appendA hL ?_; clear hL; intro _ _ _ hL; try dsimp only at hL) | ((with_reducible refine wpA_make rfl _ _ _ rfl _ rfl rfl ?_); refine makeA hL ?_))
  exact bodyPost_ret (results_row2 inferInstance rfl _ hL b3 rfl _ _ .here rfl) rfl ⟨_, rfl, hL.below, hL.fresh⟩

theorem regMeet_calls (w : World) (va vb : Value) (A B : Reg) (ha : RegAt w va A) (hb : RegAt w vb B) :
    Calls Try.prog 17 #[va, vb] w (RegOut (bothReg (rowsOp fun x y => x && y) A B) (bothErr A B) w) := by
  have Ha := Lib.hid ha
  have Hb := Lib.hid hb
  obtain ⟨xa, na, ca, rfl, _⟩ := ha.shape
  obtain ⟨xb, nb, cb, rfl, _⟩ := hb.shape
  clear ha hb
  have hL := Holds.start w
  have n1 : True := trivial; have n2 : True := trivial; have n3 : True := trivial; have n4 : True := trivial
  go_enter Try.func17, Try.ntmps17
  go_wp2_with (first | (go_at_call 61; (with_reducible refine (regBoth_calls _ _ _ A B (Ha.out.hold hL) (Hb.out.hold hL) _ _ onMeet).mono ?_); rintro e _ ⟨v, rfl, hb, hf⟩; obtain ⟨sa, sn, sc, rfl, _⟩ := RegAt.shape hf.now; replace hL := hL.callF hb hf; clear hb hf) | (first | (clear hL n1; with_reducible intro b1 w1 hL) | (clear hL n2; with_reducible intro b2 w2 hL) | (clear hL n3; with_reducible intro b3 w3 hL) | (clear hL n4; with_reducible intro b4 w4 hL) | (clear hL; with_reducible intro _ _ hL)) | (with_reducible refine wpC_alloc rfl _ rfl _ _ inferInstance hL ?_) | (with_reducible first | refine wpB_agg rfl _ _ _ rfl rfl hL ?_ | refine wpB_one rfl _ _ (.int _ _) rfl rfl rfl hL ?_ | refine wpB_one rfl _ _ (.slice _ _ _) rfl rfl rfl hL ?_ | refine wpB_one rfl _ _ (.bool _) rfl rfl rfl hL ?_ | refine wpB_one rfl _ _ (.pointer _) rfl rfl rfl hL ?_ | refine wpB_one rfl _ _ (.func _ _ _) rfl rfl rfl hL ?_) | (with_reducible first | refine wpH_max rfl _ _ _ _ rfl _ _ rfl rfl ?_ | refine wpH_min rfl _ _ _ _ rfl _ _ rfl rfl ?_) | ((with_reducible refine wpA_load rfl _ _ rfl _ rfl ?_); first | refine loadA hL ?_ | refine loadR hL ?_ | refine loadC hL ?_ | refine loadD ?_ | refine loadE hL ?_ | refine loadF ?_) | ((with_reducible refine wpA_index rfl _ _ _ rfl _ rfl _ rfl ?_); first | (refine indexA ?_; try rw [Int.toNat_natCast]) | refine indexC ?_) | ((with_reducible refine wpA_store rfl _ _ _ rfl _ rfl (.agg _) rfl ?_); refine storeR hL ?_; clear hL; intro _ hL) | ((with_reducible first | refine wpA_store rfl _ _ _ rfl _ rfl (.int _ _) rfl ?_ | refine wpA_store rfl _ _ _ rfl _ rfl (.slice _ _ _) rfl ?_ | refine wpA_store rfl _ _ _ rfl _ rfl (.bool _) rfl ?_ | refine wpA_store rfl _ _ _ rfl _ rfl (.pointer _) rfl ?_ | refine wpA_store rfl _ _ _ rfl _ rfl (.func _ _ _) rfl ?_); (first | refine storeA hL ?_ | refine storeO hL ?_); (clear hL; intro _ hL)) | ((with_reducible refine wpA_lit rfl _ _ _ rfl ?_); first | refine litA1 hL ?_ | refine litA2 hL ?_) | ((with_reducible refine wpA_append rfl _ _ _ rfl (.slice _ _ _) rfl ?_); intro vq hvq; simp [go_sem] at hvq; subst hvq; refine appendA hL ?_; clear hL; intro _ _ _ hL; try dsimp only at hL) | ((with_reducible refine wpA_make rfl _ _ _ rfl _ rfl rfl ?_); refine makeA hL ?_))
  exact bodyPost_ret (results_row2 inferInstance rfl _ hL b3 rfl _ _ .here rfl) rfl ⟨_, rfl, hL.below, hL.fresh⟩

theorem regLess_calls (w : World) (va vb : Value) (A B : Reg) (ha : RegAt w va A) (hb : RegAt w vb B) :
    Calls Try.prog 18 #[va, vb] w (RegOut (bothReg (rowsOp fun x y => x && !y) A B) (bothErr A B) w) := by
  have Ha := Lib.hid ha
  have Hb := Lib.hid hb
  obtain ⟨xa, na, ca, rfl, _⟩ := ha.shape
  obtain ⟨xb, nb, cb, rfl, _⟩ := hb.shape
  clear ha hb
  have hL := Holds.start w
  have n1 : True := trivial; have n2 : True := trivial; have n3 : True := trivial; have n4 : True := trivial
  go_enter Try.func18, Try.ntmps18
  go_wp2_with (first | (go_at_call 61; (with_reducible refine (regBoth_calls _ _ _ A B (Ha.out.hold hL) (Hb.out.hold hL) _ _ onLess).mono ?_); rintro e _ ⟨v, rfl, hb, hf⟩; obtain ⟨sa, sn, sc, rfl, _⟩ := RegAt.shape hf.now; replace hL := hL.callF hb hf; clear hb hf) | (first | (clear hL n1; with_reducible intro b1 w1 hL) | (clear hL n2; with_reducible intro b2 w2 hL) | (clear hL n3; with_reducible intro b3 w3 hL) | (clear hL n4; with_reducible intro b4 w4 hL) | (clear hL; with_reducible intro _ _ hL)) | (with_reducible refine wpC_alloc rfl _ rfl _ _ inferInstance hL ?_) | (with_reducible first | refine wpB_agg rfl _ _ _ rfl rfl hL ?_ | refine wpB_one rfl _ _ (.int _ _) rfl rfl rfl hL ?_ | refine wpB_one rfl _ _ (.slice _ _ _) rfl rfl rfl hL ?_ | refine wpB_one rfl _ _ (.bool _) rfl rfl rfl hL ?_ | refine wpB_one rfl _ _ (.pointer _) rfl rfl rfl hL ?_ | refine wpB_one rfl _ _ (.func _ _ _) rfl rfl rfl hL ?_) | (with_reducible first | refine wpH_max rfl _ _ _ _ rfl _ _ rfl rfl ?_ | refine wpH_min rfl _ _ _ _ rfl _ _ rfl rfl ?_) | ((with_reducible refine wpA_load rfl _ _ rfl _ rfl ?_); first | refine loadA hL ?_ | refine loadR hL ?_ | refine loadC hL ?_ | refine loadD ?_ | refine loadE hL ?_ | refine loadF ?_) | ((with_reducible refine wpA_index rfl _ _ _ rfl _ rfl _ rfl ?_); first | (refine indexA ?_; try rw [Int.toNat_natCast]) | refine indexC ?_) | ((with_reducible refine wpA_store rfl _ _ _ rfl _ rfl (.agg _) rfl ?_); refine storeR hL ?_; clear hL; intro _ hL) | ((with_reducible first | refine wpA_store rfl _ _ _ rfl _ rfl (.int _ _) rfl ?_ | refine wpA_store rfl _ _ _ rfl _ rfl (.slice _ _ _) rfl ?_ | refine wpA_store rfl _ _ _ rfl _ rfl (.bool _) rfl ?_ | refine wpA_store rfl _ _ _ rfl _ rfl (.pointer _) rfl ?_ | refine wpA_store rfl _ _ _ rfl _ rfl (.func _ _ _) rfl ?_); (first | refine storeA hL ?_ | refine storeO hL ?_); (clear hL; intro _ hL)) | ((with_reducible refine wpA_lit rfl _ _ _ rfl ?_); first | refine litA1 hL ?_ | refine litA2 hL ?_) | ((with_reducible refine wpA_append rfl _ _ _ rfl (.slice _ _ _) rfl ?_); intro vq hvq; simp [go_sem] at hvq; subst hvq; refine appendA hL ?_; clear hL; intro _ _ _ hL; try dsimp only at hL) | ((with_reducible refine wpA_make rfl _ _ _ rfl _ rfl rfl ?_); refine makeA hL ?_))
  exact bodyPost_ret (results_row2 inferInstance rfl _ hL b3 rfl _ _ .here rfl) rfl ⟨_, rfl, hL.below, hL.fresh⟩

theorem regOther_calls (w : World) (va vb : Value) (A B : Reg) (ha : RegAt w va A) (hb : RegAt w vb B) :
    Calls Try.prog 19 #[va, vb] w (RegOut (bothReg (rowsOp fun x y => x != y) A B) (bothErr A B) w) := by
  have Ha := Lib.hid ha
  have Hb := Lib.hid hb
  obtain ⟨xa, na, ca, rfl, _⟩ := ha.shape
  obtain ⟨xb, nb, cb, rfl, _⟩ := hb.shape
  clear ha hb
  have hL := Holds.start w
  have n1 : True := trivial; have n2 : True := trivial; have n3 : True := trivial; have n4 : True := trivial
  go_enter Try.func19, Try.ntmps19
  go_wp2_with (first | (go_at_call 61; (with_reducible refine (regBoth_calls _ _ _ A B (Ha.out.hold hL) (Hb.out.hold hL) _ _ onOther).mono ?_); rintro e _ ⟨v, rfl, hb, hf⟩; obtain ⟨sa, sn, sc, rfl, _⟩ := RegAt.shape hf.now; replace hL := hL.callF hb hf; clear hb hf) | (first | (clear hL n1; with_reducible intro b1 w1 hL) | (clear hL n2; with_reducible intro b2 w2 hL) | (clear hL n3; with_reducible intro b3 w3 hL) | (clear hL n4; with_reducible intro b4 w4 hL) | (clear hL; with_reducible intro _ _ hL)) | (with_reducible refine wpC_alloc rfl _ rfl _ _ inferInstance hL ?_) | (with_reducible first | refine wpB_agg rfl _ _ _ rfl rfl hL ?_ | refine wpB_one rfl _ _ (.int _ _) rfl rfl rfl hL ?_ | refine wpB_one rfl _ _ (.slice _ _ _) rfl rfl rfl hL ?_ | refine wpB_one rfl _ _ (.bool _) rfl rfl rfl hL ?_ | refine wpB_one rfl _ _ (.pointer _) rfl rfl rfl hL ?_ | refine wpB_one rfl _ _ (.func _ _ _) rfl rfl rfl hL ?_) | (with_reducible first | refine wpH_max rfl _ _ _ _ rfl _ _ rfl rfl ?_ | refine wpH_min rfl _ _ _ _ rfl _ _ rfl rfl ?_) | ((with_reducible refine wpA_load rfl _ _ rfl _ rfl ?_); first | refine loadA hL ?_ | refine loadR hL ?_ | refine loadC hL ?_ | refine loadD ?_ | refine loadE hL ?_ | refine loadF ?_) | ((with_reducible refine wpA_index rfl _ _ _ rfl _ rfl _ rfl ?_); first | (refine indexA ?_; try rw [Int.toNat_natCast]) | refine indexC ?_) | ((with_reducible refine wpA_store rfl _ _ _ rfl _ rfl (.agg _) rfl ?_); refine storeR hL ?_; clear hL; intro _ hL) | ((with_reducible first | refine wpA_store rfl _ _ _ rfl _ rfl (.int _ _) rfl ?_ | refine wpA_store rfl _ _ _ rfl _ rfl (.slice _ _ _) rfl ?_ | refine wpA_store rfl _ _ _ rfl _ rfl (.bool _) rfl ?_ | refine wpA_store rfl _ _ _ rfl _ rfl (.pointer _) rfl ?_ | refine wpA_store rfl _ _ _ rfl _ rfl (.func _ _ _) rfl ?_); (first | refine storeA hL ?_ | refine storeO hL ?_); (clear hL; intro _ hL)) | ((with_reducible refine wpA_lit rfl _ _ _ rfl ?_); first | refine litA1 hL ?_ | refine litA2 hL ?_) | ((with_reducible refine wpA_append rfl _ _ _ rfl (.slice _ _ _) rfl ?_); intro vq hvq; simp [go_sem] at hvq; subst hvq; refine appendA hL ?_; clear hL; intro _ _ _ hL; try dsimp only at hL) | ((with_reducible refine wpA_make rfl _ _ _ rfl _ rfl rfl ?_); refine makeA hL ?_))
  exact bodyPost_ret (results_row2 inferInstance rfl _ hL b3 rfl _ _ .here rfl) rfl ⟨_, rfl, hL.below, hL.fresh⟩
end Go.Proofs.Ytjgnbmgdnfldeaa
