/- The document's example, which the statements of layer 32 look at first. -/
import Derived.Test.YtjgnbmgdnfldeaaSame
namespace Go.Proofs.Ytjgnbmgdnfldeaa
open Go.RowKit

theorem blk_runsN {w w0 : World} {M : List Res} {Φ : List (World → Prop)} {b n : Nat} {cs : Array Value} {T : TypeId} (h : Holds w0 w M Φ) (k : At M (blk b cs T)) (l : List (Int × Int)) (hcs : cs = (l.map runC).flatten.toArray) (hn : n = l.length) (hm : n ≤ maxLen) :
    RunsAt w (.slice (some ⟨b, 0, none⟩) n n) l := by
  subst hn; subst hcs
  refine ⟨_, l.length, by simp, by simp, hm, fun i hi => ⟨b, 0, rfl, fun j v hj => ?_⟩⟩
  rw [h.cell k, Nat.zero_add]
  have := flatten_get (runC_len l) i hi j v hj
  simpa using this
theorem rowsAt_blk {w w0 : World} {M : List Res} {Φ : List (World → Prop)} {b n : Nat} {cs : Array Value} {T : TypeId} (h : Holds w0 w M Φ) (k : At M (blk b cs T)) (rows : List (List (Int × Int))) (hn : n = rows.length) (hc : n = cs.size) (hm : n ≤ maxLen)
    (hv : ∀ i v, cs[i]? = some v → RunsAt w v (rows.getD i [])) : RowsAt w (.slice (some ⟨b, 0, none⟩) n n) rows := by
  subst hc
  refine ⟨cs.toList, by simpa using hn, ⟨_, cs.size, by simp, by simp, hm, fun i hi => ⟨b, 0, rfl, fun j v hj => ?_⟩⟩, fun i v hi => hv i v (by simpa using hi)⟩
  simp only [List.getElem_map] at hj
  have hj0 : j = 0 := by
    rcases j with _ | j
    · rfl
    · simp at hj
  subst hj0
  rw [h.cell k]
  simp at hj hi
  simp
  rw [Array.getElem?_eq_getElem hi, hj]

theorem known_same1 : sameReg (madeReg 4 2 (rectRow 1 0 3 9)) ⟨4, 2, [[(1, 3)], [(1, 3)]]⟩ = true := by decide +kernel
def notReg (R : Reg) : Reg := oneReg R fun j => notRow (R.rows.getD j []) R.W
theorem known_same2 : sameReg (notReg (madeReg 4 2 (rectRow 1 0 3 9))) ⟨4, 2, [[(0, 1), (3, 4)], [(0, 1), (3, 4)]]⟩ = true := by decide +kernel
theorem known_e1 : madeErr 4 2 = 0 := by decide +kernel
theorem known_e2 : oneErr (madeReg 4 2 (rectRow 1 0 3 9)) = 0 := by decide +kernel

set_option maxRecDepth 100000 in
set_option maxHeartbeats 2000000 in
theorem known_calls (w : World) : Calls Try.prog 13 #[] w fun e w' => e = .returned (.bool true) ∧ Below w.heap.size w w' := by
  have hL := Holds.start w
  have K1 := Lib.hid known_same1
  have K2 := Lib.hid known_same2
  have E1 := Lib.hid known_e1
  have E2 := Lib.hid known_e2
  have hR0 : ∃ R, R = madeReg 4 2 (rectRow 1 0 3 9) := ⟨_, rfl⟩
  obtain ⟨R, hR⟩ := hR0
  have HR := Lib.hid hR; clear hR
  rw [← HR.out] at K1 K2 E2
  have n1 : True := trivial; have n2 : True := trivial; have n3 : True := trivial; have n4 : True := trivial; have n5 : True := trivial; have n6 : True := trivial; have n7 : True := trivial; have n8 : True := trivial
  go_enter Try.func13, Try.ntmps13
  go_wp2_with (first | (go_at_call 27; (with_reducible refine (regRect_calls _ _ _ _ _ _ _).mono ?_); rintro e _ ⟨v, rfl, hb, hf⟩; rw [← HR.out] at hf; rw [E1.out]; obtain ⟨sa, sn, sc, rfl, _⟩ := RegAt.shape hf.now; replace hL := hL.callF hb hf; clear hb hf) | (go_at_call 20; (with_reducible refine (regNot_calls _ _ _ hL.fact0).mono ?_); rintro e _ ⟨v, rfl, hb, hf⟩; have hf : Fresh _ _ (fun w => RegAt w v (notReg R)) := hf; rw [E2.out]; obtain ⟨ta, tn, tc, rfl, _⟩ := RegAt.shape hf.now; replace hL := hL.callF hb hf; clear hb hf) | (first | (clear hL n1; with_reducible intro b1 w1 hL) | (clear hL n2; with_reducible intro b2 w2 hL) | (clear hL n3; with_reducible intro b3 w3 hL) | (clear hL n4; with_reducible intro b4 w4 hL) | (clear hL n5; with_reducible intro b5 w5 hL) | (clear hL n6; with_reducible intro b6 w6 hL) | (clear hL n7; with_reducible intro b7 w7 hL) | (clear hL n8; with_reducible intro b8 w8 hL) | (clear hL; with_reducible intro _ _ hL)) | (with_reducible refine wpC_alloc rfl _ rfl _ _ inferInstance hL ?_) | (with_reducible first | refine wpB_agg rfl _ _ _ rfl rfl hL ?_ | refine wpB_one rfl _ _ (.int _ _) rfl rfl rfl hL ?_ | refine wpB_one rfl _ _ (.slice _ _ _) rfl rfl rfl hL ?_ | refine wpB_one rfl _ _ (.bool _) rfl rfl rfl hL ?_ | refine wpB_one rfl _ _ (.pointer _) rfl rfl rfl hL ?_ | refine wpB_one rfl _ _ (.func _ _ _) rfl rfl rfl hL ?_) | (with_reducible first | refine wpH_max rfl _ _ _ _ rfl _ _ rfl rfl ?_ | refine wpH_min rfl _ _ _ _ rfl _ _ rfl rfl ?_) | ((with_reducible refine wpA_load rfl _ _ rfl _ rfl ?_); first | refine loadA hL ?_ | refine loadR hL ?_ | refine loadC hL ?_ | refine loadD ?_ | refine loadE hL ?_ | refine loadF ?_) | ((with_reducible refine wpA_index rfl _ _ _ rfl _ rfl _ rfl ?_); first | (refine indexA ?_; try rw [Int.toNat_natCast]) | refine indexC ?_) | ((with_reducible refine wpA_store rfl _ _ _ rfl _ rfl (.agg _) rfl ?_); refine storeR hL ?_; clear hL; intro _ hL) | ((with_reducible first | refine wpA_store rfl _ _ _ rfl _ rfl (.int _ _) rfl ?_ | refine wpA_store rfl _ _ _ rfl _ rfl (.slice _ _ _) rfl ?_ | refine wpA_store rfl _ _ _ rfl _ rfl (.bool _) rfl ?_ | refine wpA_store rfl _ _ _ rfl _ rfl (.pointer _) rfl ?_ | refine wpA_store rfl _ _ _ rfl _ rfl (.func _ _ _) rfl ?_); (first | refine storeA hL ?_ | refine storeO hL ?_); (clear hL; intro _ hL)) | ((with_reducible refine wpA_lit rfl _ _ _ rfl ?_); first | refine litA1 hL ?_ | refine litA2 hL ?_) | ((with_reducible refine wpA_append rfl _ _ _ rfl (.slice _ _ _) rfl ?_); intro vq hvq; simp [go_sem] at hvq; subst hvq; refine appendA hL ?_; clear hL; intro _ _ _ hL; try dsimp only at hL) | ((with_reducible refine wpA_make rfl _ _ _ rfl _ rfl rfl ?_); refine makeA hL ?_))
  have lit1 := rowsAt_blk hL .here [[(1, 3)], [(1, 3)]] rfl rfl (by simp [maxLen]) (fun i v hv => by
    rcases i with _ | _ | i
    · simp at hv; subst hv; exact blk_runs hL (.there (.there .here))
    · simp at hv; subst hv; exact blk_runs hL (.there .here)
    · simp at hv)
  refine (helpRegion_calls _ _ _ R ⟨4, 2, [[(1, 3)], [(1, 3)]]⟩ hL.fact1 ⟨_, rfl, lit1⟩).mono ?_
  rintro e _ ⟨rfl, hb⟩
  rw [K1.out]
  replace hL := hL.call hb
  clear hb lit1
  go_wp2_with (first | (first | (clear hL n1; with_reducible intro b1 w1 hL) | (clear hL n2; with_reducible intro b2 w2 hL) | (clear hL n3; with_reducible intro b3 w3 hL) | (clear hL n4; with_reducible intro b4 w4 hL) | (clear hL n5; with_reducible intro b5 w5 hL) | (clear hL n6; with_reducible intro b6 w6 hL) | (clear hL n7; with_reducible intro b7 w7 hL) | (clear hL n8; with_reducible intro b8 w8 hL) | (clear hL; with_reducible intro _ _ hL)) | (with_reducible refine wpC_alloc rfl _ rfl _ _ inferInstance hL ?_) | (with_reducible first | refine wpB_agg rfl _ _ _ rfl rfl hL ?_ | refine wpB_one rfl _ _ (.int _ _) rfl rfl rfl hL ?_ | refine wpB_one rfl _ _ (.slice _ _ _) rfl rfl rfl hL ?_ | refine wpB_one rfl _ _ (.bool _) rfl rfl rfl hL ?_ | refine wpB_one rfl _ _ (.pointer _) rfl rfl rfl hL ?_ | refine wpB_one rfl _ _ (.func _ _ _) rfl rfl rfl hL ?_) | (with_reducible first | refine wpH_max rfl _ _ _ _ rfl _ _ rfl rfl ?_ | refine wpH_min rfl _ _ _ _ rfl _ _ rfl rfl ?_) | ((with_reducible refine wpA_load rfl _ _ rfl _ rfl ?_); first | refine loadA hL ?_ | refine loadR hL ?_ | refine loadC hL ?_ | refine loadD ?_ | refine loadE hL ?_ | refine loadF ?_) | ((with_reducible refine wpA_index rfl _ _ _ rfl _ rfl _ rfl ?_); first | (refine indexA ?_; try rw [Int.toNat_natCast]) | refine indexC ?_) | ((with_reducible refine wpA_store rfl _ _ _ rfl _ rfl (.agg _) rfl ?_); refine storeR hL ?_; clear hL; intro _ hL) | ((with_reducible first | refine wpA_store rfl _ _ _ rfl _ rfl (.int _ _) rfl ?_ | refine wpA_store rfl _ _ _ rfl _ rfl (.slice _ _ _) rfl ?_ | refine wpA_store rfl _ _ _ rfl _ rfl (.bool _) rfl ?_ | refine wpA_store rfl _ _ _ rfl _ rfl (.pointer _) rfl ?_ | refine wpA_store rfl _ _ _ rfl _ rfl (.func _ _ _) rfl ?_); (first | refine storeA hL ?_ | refine storeO hL ?_); (clear hL; intro _ hL)) | ((with_reducible refine wpA_lit rfl _ _ _ rfl ?_); first | refine litA1 hL ?_ | refine litA2 hL ?_) | ((with_reducible refine wpA_append rfl _ _ _ rfl (.slice _ _ _) rfl ?_); intro vq hvq; simp [go_sem] at hvq; subst hvq; refine appendA hL ?_; clear hL; intro _ _ _ hL; try dsimp only at hL) | ((with_reducible refine wpA_make rfl _ _ _ rfl _ rfl rfl ?_); refine makeA hL ?_))
  have lit2 := rowsAt_blk hL .here [[(0, 1), (3, 4)], [(0, 1), (3, 4)]] rfl rfl (by simp [maxLen]) (fun i v hv => by
    rcases i with _ | _ | i
    · simp at hv; subst hv; exact blk_runsN hL (.there (.there .here)) _ rfl rfl (by unfold maxLen; omega)
    · simp at hv; subst hv; exact blk_runsN hL (.there .here) _ rfl rfl (by unfold maxLen; omega)
    · simp at hv)
  refine (helpRegion_calls _ _ _ (notReg R) ⟨4, 2, [[(0, 1), (3, 4)], [(0, 1), (3, 4)]]⟩ hL.fact0 ⟨_, rfl, lit2⟩).mono ?_
  rintro e _ ⟨rfl, hb⟩
  rw [K2.out]
  replace hL := hL.call hb
  clear hb lit2
  go_wp2_with (first | (first | (clear hL n1; with_reducible intro b1 w1 hL) | (clear hL n2; with_reducible intro b2 w2 hL) | (clear hL n3; with_reducible intro b3 w3 hL) | (clear hL n4; with_reducible intro b4 w4 hL) | (clear hL n5; with_reducible intro b5 w5 hL) | (clear hL n6; with_reducible intro b6 w6 hL) | (clear hL n7; with_reducible intro b7 w7 hL) | (clear hL n8; with_reducible intro b8 w8 hL) | (clear hL; with_reducible intro _ _ hL)) | (with_reducible refine wpC_alloc rfl _ rfl _ _ inferInstance hL ?_) | (with_reducible first | refine wpB_agg rfl _ _ _ rfl rfl hL ?_ | refine wpB_one rfl _ _ (.int _ _) rfl rfl rfl hL ?_ | refine wpB_one rfl _ _ (.slice _ _ _) rfl rfl rfl hL ?_ | refine wpB_one rfl _ _ (.bool _) rfl rfl rfl hL ?_ | refine wpB_one rfl _ _ (.pointer _) rfl rfl rfl hL ?_ | refine wpB_one rfl _ _ (.func _ _ _) rfl rfl rfl hL ?_) | (with_reducible first | refine wpH_max rfl _ _ _ _ rfl _ _ rfl rfl ?_ | refine wpH_min rfl _ _ _ _ rfl _ _ rfl rfl ?_) | ((with_reducible refine wpA_load rfl _ _ rfl _ rfl ?_); first | refine loadA hL ?_ | refine loadR hL ?_ | refine loadC hL ?_ | refine loadD ?_ | refine loadE hL ?_ | refine loadF ?_) | ((with_reducible refine wpA_index rfl _ _ _ rfl _ rfl _ rfl ?_); first | (refine indexA ?_; try rw [Int.toNat_natCast]) | refine indexC ?_) | ((with_reducible refine wpA_store rfl _ _ _ rfl _ rfl (.agg _) rfl ?_); refine storeR hL ?_; clear hL; intro _ hL) | ((with_reducible first | refine wpA_store rfl _ _ _ rfl _ rfl (.int _ _) rfl ?_ | refine wpA_store rfl _ _ _ rfl _ rfl (.slice _ _ _) rfl ?_ | refine wpA_store rfl _ _ _ rfl _ rfl (.bool _) rfl ?_ | refine wpA_store rfl _ _ _ rfl _ rfl (.pointer _) rfl ?_ | refine wpA_store rfl _ _ _ rfl _ rfl (.func _ _ _) rfl ?_); (first | refine storeA hL ?_ | refine storeO hL ?_); (clear hL; intro _ hL)) | ((with_reducible refine wpA_lit rfl _ _ _ rfl ?_); first | refine litA1 hL ?_ | refine litA2 hL ?_) | ((with_reducible refine wpA_append rfl _ _ _ rfl (.slice _ _ _) rfl ?_); intro vq hvq; simp [go_sem] at hvq; subst hvq; refine appendA hL ?_; clear hL; intro _ _ _ hL; try dsimp only at hL) | ((with_reducible refine wpA_make rfl _ _ _ rfl _ rfl rfl ?_); refine makeA hL ?_))
  go_ret
  exact ⟨rfl, hL.below⟩
end Go.Proofs.Ytjgnbmgdnfldeaa
