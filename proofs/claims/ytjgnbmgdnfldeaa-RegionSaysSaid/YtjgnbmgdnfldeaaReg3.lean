/- Package region: what is made of two. -/
import Derived.Test.YtjgnbmgdnfldeaaReg2
namespace Go.Proofs.Ytjgnbmgdnfldeaa
open Go.RowKit

theorem RegAt.hold {w0 w : World} {M : List Res} {Φ : List (World → Prop)} {v : Value} {R : Reg} (h : RegAt w0 v R) (hL : Holds w0 w M Φ) : RegAt w v R := h.below hL.below
theorem Below.from {w0 w w1 : World} {M : List Res} {Φ : List (World → Prop)} (hL : Holds w0 w M Φ) (h : Below w.heap.size w w1) : Below w0.heap.size w0 w1 := hL.below.trans (h.mono hL.size)

/-- what a function on two rows returns -/
def OnRuns (G : Nat) (f : List (Int × Int) → List (Int × Int) → List (Int × Int)) : Prop :=
  (∀ w a b la lb, RunsAt w a la → RunsAt w b lb → Calls Try.prog G #[a, b] w (RunsOut (f la lb) w)) ∧ ∀ a b w, (callFunc G #[a, b]).run Try.prog w = .ok (.enter G #[a, b]) w

set_option maxRecDepth 100000 in
set_option maxHeartbeats 1000000 in
theorem bothRow_calls (w : World) (j : Nat) (bh ba bb G : Nat) (f : List (Int × Int) → List (Int × Int) → List (Int × Int)) (hG : OnRuns G f) (sa sb : Value) (ra rb : List (List (Int × Int)))
    (hh : w.cell? ⟨bh, 0, none⟩ = some (.func (.func G) #[] #[])) (h1 : w.cell? ⟨ba, 2, none⟩ = some sa) (h2 : w.cell? ⟨bb, 2, none⟩ = some sb) (hsa : RowsAt w sa ra) (hsb : RowsAt w sb rb) (hja : j < ra.length) (hjb : j < rb.length) :
    Calls Try.prog 101 #[.int .i64 j, .pointer (some ⟨bh, 0, none⟩), .pointer (some ⟨ba, 0, none⟩), .pointer (some ⟨bb, 0, none⟩)] w (RunsRet (f (ra.getD j []) (rb.getD j [])) w) := by
  obtain ⟨a, ca, rfl, hla, hma, hea⟩ := hsa.parts
  obtain ⟨b, cb, rfl, hlb, hmb, heb⟩ := hsb.parts
  obtain ⟨xa, oa, rfl, va, na, vca, hca, hra⟩ := hea j hja
  obtain ⟨xb, ob, rfl, vb, nb, vcb, hcb, hrb⟩ := heb j hjb
  generalize ra.getD j [] = la at *
  generalize rb.getD j [] = lb at *
  clear hea heb hsa hsb
  unfold maxLen at hma hmb
  obtain ⟨hG1, hG2⟩ := hG
  have HG := Lib.hid hG1; clear hG1
  have Hra := Lib.hid hra; clear hra
  have Hrb := Lib.hid hrb; clear hrb
  have hL := Holds.start w
  go_enter Try.func101, Try.ntmps101
  go_wp2_with fail
  replace hL := hL.drew
  go_region_held3 (fun w' => w'.cell? ⟨bh, 0, none⟩ = some (.func (.func G) #[] #[]) ∧ w'.cell? ⟨ba, 2, none⟩ = some (.slice (some ⟨xa, oa, none⟩) ra.length ca) ∧ w'.cell? ⟨bb, 2, none⟩ = some (.slice (some ⟨xb, ob, none⟩) rb.length cb) ∧ w'.cell? ⟨xa, oa + j, none⟩ = some (.slice va na vca) ∧ w'.cell? ⟨xb, ob + j, none⟩ = some (.slice vb nb vcb))
    (first | go_keep | exact ⟨hL.old hh, hL.old h1, hL.old h2, hL.old hca, hL.old hcb⟩)
    (((refine (HG.out _ _ _ _ _ (Hra.out.hold hL) (Hrb.out.hold hL)).mono ?_); rintro e w2 ⟨v, rfl, hb, hf⟩; replace hL := hL.callF hb hf; clear hb))
  go_wp2
  go_ret
  exact ⟨v, rfl, hL.below, hL.fact0⟩

/-- may two be put together? -/
def bothMay (A B : Reg) : Bool := mayReg A && (mayReg B && (decide (A.W = B.W) && decide (A.H = B.H)))
def bothReg (f : List (Int × Int) → List (Int × Int) → List (Int × Int)) (A B : Reg) : Reg := if bothMay A B then madeReg A.W A.H fun j => f (A.rows.getD j []) (B.rows.getD j []) else noReg
def bothErr (A B : Reg) : Int := if bothMay A B then 0 else 1
theorem mayReg_len {R : Reg} (h : mayReg R = true) : isSide R.W = true ∧ isSide R.H = true ∧ (R.rows.length : Int) = R.H := by
  simp [mayReg] at h; exact ⟨h.1, h.2.1, h.2.2.1⟩
theorem ret_tup {v : Value} {k : IntKind} {a b : Int} (h : a = b) : Ending.returned (.tuple #[v, .int k a]) = .returned (.tuple #[v, .int k b]) := by rw [h]
theorem madeErr_ok {W H : Int} (h1 : isSide W = true) (h2 : isSide H = true) : madeErr W H = 0 := by simp [madeErr, h1, h2]

theorem RegAt.shape {w : World} {v : Value} {R : Reg} (h : RegAt w v R) : ∃ sa sn sc, v = .agg #[.int .i64 R.W, .int .i64 R.H, .slice sa sn sc] ∧ RowsAt w (.slice sa sn sc) R.rows := by
  obtain ⟨s, h1, h2⟩ := h
  obtain ⟨a, cap, rfl, _⟩ := h2.parts
  exact ⟨a, _, cap, h1, h2⟩

set_option maxRecDepth 100000 in
set_option maxHeartbeats 2000000 in
theorem regBoth_calls (w : World) (va vb : Value) (A B : Reg) (ha : RegAt w va A) (hb : RegAt w vb B) (G : Nat) (f : List (Int × Int) → List (Int × Int) → List (Int × Int)) (hG : OnRuns G f) :
    Calls Try.prog 61 #[va, vb, .func (.func G) #[] #[]] w (RegOut (bothReg f A B) (bothErr A B) w) := by
  have Ha := Lib.hid ha
  have Hb := Lib.hid hb
  obtain ⟨xa, na, ca, rfl, hsa⟩ := ha.shape
  obtain ⟨xb, nb, cb, rfl, hsb⟩ := hb.shape
  clear ha hb
  have Hsa := Lib.hid hsa; clear hsa
  have Hsb := Lib.hid hsb; clear hsb
  have HG := Lib.hid hG; clear hG
  have hL := Holds.start w
  by_cases hbm : bothMay A B = true
  · have hE : bothErr A B = 0 := by simp [bothErr, hbm]
    have HR := Lib.hid (show bothReg f A B = madeReg A.W A.H fun j => f (A.rows.getD j []) (B.rows.getD j []) by simp [bothReg, hbm])
    simp [bothMay] at hbm
    obtain ⟨m1, m2, m3, m4⟩ := hbm
    have l1 := mayReg_len m1
    have l2 := mayReg_len m2
    have HE := Lib.hid (hE.trans (madeErr_ok l1.1 l1.2.1).symm)
    clear hE
    have Hjl := Lib.hid (show ∀ j : Nat, (j : Int) < A.H → j < A.rows.length ∧ j < B.rows.length from fun j hj => by have := l1.2.2; have := l2.2.2; omega)
    have q1 : (A.W != B.W) = false := by simp [m3]
    have q2 : (A.H != B.H) = false := by simp [m4]
    clear l1 l2 m3 m4
    obtain ⟨WA, HA, rA⟩ := A
    obtain ⟨WB, HB, rB⟩ := B
    simp only at q1 q2 Hjl HR HE
    have n1 : True := trivial; have n2 : True := trivial; have n3 : True := trivial; have n4 : True := trivial; have n5 : True := trivial; have n6 : True := trivial
    go_enter Try.func61, Try.ntmps61
    go_wp2_with (first | (go_at_call 38; (first | (with_reducible refine (regMay_calls _ _ _ (Ha.out.hold hL)).mono ?_) | (with_reducible refine (regMay_calls _ _ _ (Hb.out.hold hL)).mono ?_)); rintro e _ ⟨rfl, hb⟩; replace hL := hL.call hb; clear hb) | (first | (clear hL n1; with_reducible intro b1 w1 hL) | (clear hL n2; with_reducible intro b2 w2 hL) | (clear hL n3; with_reducible intro b3 w3 hL) | (clear hL n4; with_reducible intro b4 w4 hL) | (clear hL n5; with_reducible intro b5 w5 hL) | (clear hL n6; with_reducible intro b6 w6 hL) | (clear hL; with_reducible intro _ _ hL)) | (with_reducible refine wpC_alloc rfl _ rfl _ _ inferInstance hL ?_) | (with_reducible first | refine wpB_agg rfl _ _ _ rfl rfl hL ?_ | refine wpB_one rfl _ _ (.int _ _) rfl rfl rfl hL ?_ | refine wpB_one rfl _ _ (.slice _ _ _) rfl rfl rfl hL ?_ | refine wpB_one rfl _ _ (.bool _) rfl rfl rfl hL ?_ | refine wpB_one rfl _ _ (.pointer _) rfl rfl rfl hL ?_ | refine wpB_one rfl _ _ (.func _ _ _) rfl rfl rfl hL ?_) | (with_reducible first | refine wpH_max rfl _ _ _ _ rfl _ _ rfl rfl ?_ | refine wpH_min rfl _ _ _ _ rfl _ _ rfl rfl ?_) | ((with_reducible refine wpA_load rfl _ _ rfl _ rfl ?_); first | refine loadA hL ?_ | refine loadR hL ?_ | refine loadC hL ?_ | refine loadD ?_ | refine loadE hL ?_ | refine loadF ?_) | ((with_reducible refine wpA_index rfl _ _ _ rfl _ rfl _ rfl ?_); first | (refine indexA ?_; try rw [Int.toNat_natCast]) | refine indexC ?_) | ((with_reducible refine wpA_store rfl _ _ _ rfl _ rfl (.agg _) rfl ?_); refine storeR hL ?_; clear hL; intro _ hL) | ((with_reducible first | refine wpA_store rfl _ _ _ rfl _ rfl (.int _ _) rfl ?_ | refine wpA_store rfl _ _ _ rfl _ rfl (.slice _ _ _) rfl ?_ | refine wpA_store rfl _ _ _ rfl _ rfl (.bool _) rfl ?_ | refine wpA_store rfl _ _ _ rfl _ rfl (.pointer _) rfl ?_ | refine wpA_store rfl _ _ _ rfl _ rfl (.func _ _ _) rfl ?_); (first | refine storeA hL ?_ | refine storeO hL ?_); (clear hL; intro _ hL)) | ((with_reducible refine wpA_lit rfl _ _ _ rfl ?_); first | refine litA1 hL ?_ | refine litA2 hL ?_) | ((with_reducible refine wpA_append rfl _ _ _ rfl (.slice _ _ _) rfl ?_); intro vq hvq; simp [go_sem] at hvq; subst hvq; refine appendA hL ?_; clear hL; intro _ _ _ hL; try dsimp only at hL) | ((with_reducible refine wpA_make rfl _ _ _ rfl _ rfl rfl ?_); refine makeA hL ?_))
    have c0 := hL.cell (o := 0) (.there .here)
    have c1 := hL.cell (o := 2) (.there (.there (.there .here)))
    have c2 := hL.cell (o := 2) (.there (.there .here))
    simp only [List.getElem?_toArray, List.getElem?_cons_zero, List.getElem?_cons_succ] at c0 c1 c2
    refine (made_calls _ _ _ _ _ (fun j => f (rA.getD j []) (rB.getD j [])) (fun j => #[.int .i64 j, .pointer (some ⟨b3, 0, none⟩), .pointer (some ⟨b1, 0, none⟩), .pointer (some ⟨b2, 0, none⟩)]) (fun j => rfl) (fun j hj w1 hb1 => ?_) (fun j w => ?_)).mono ?_
    · exact bothRow_calls w1 j b3 b1 b2 G f HG.out _ _ rA rB (cell_later hb1 c0) (cell_later hb1 c1) (cell_later hb1 c2) (Hsa.out.below (Below.from hL hb1)) (Hsb.out.below (Below.from hL hb1)) (Hjl.out j hj).1 (Hjl.out j hj).2
    · kernel_rfl
    rintro e _ ⟨v, rfl, hb, hf⟩
    obtain ⟨sa, sn, sc, rfl, _⟩ := RegAt.shape hf.now
    replace hL := hL.callF hb hf
    clear hb hf c0 c1 c2
    go_wp2_with (first | (first | (clear hL n1; with_reducible intro b1 w1 hL) | (clear hL n2; with_reducible intro b2 w2 hL) | (clear hL n3; with_reducible intro b3 w3 hL) | (clear hL n4; with_reducible intro b4 w4 hL) | (clear hL n5; with_reducible intro b5 w5 hL) | (clear hL n6; with_reducible intro b6 w6 hL) | (clear hL; with_reducible intro _ _ hL)) | (with_reducible refine wpC_alloc rfl _ rfl _ _ inferInstance hL ?_) | (with_reducible first | refine wpB_agg rfl _ _ _ rfl rfl hL ?_ | refine wpB_one rfl _ _ (.int _ _) rfl rfl rfl hL ?_ | refine wpB_one rfl _ _ (.slice _ _ _) rfl rfl rfl hL ?_ | refine wpB_one rfl _ _ (.bool _) rfl rfl rfl hL ?_ | refine wpB_one rfl _ _ (.pointer _) rfl rfl rfl hL ?_ | refine wpB_one rfl _ _ (.func _ _ _) rfl rfl rfl hL ?_) | (with_reducible first | refine wpH_max rfl _ _ _ _ rfl _ _ rfl rfl ?_ | refine wpH_min rfl _ _ _ _ rfl _ _ rfl rfl ?_) | ((with_reducible refine wpA_load rfl _ _ rfl _ rfl ?_); first | refine loadA hL ?_ | refine loadR hL ?_ | refine loadC hL ?_ | refine loadD ?_ | refine loadE hL ?_ | refine loadF ?_) | ((with_reducible refine wpA_index rfl _ _ _ rfl _ rfl _ rfl ?_); first | (refine indexA ?_; try rw [Int.toNat_natCast]) | refine indexC ?_) | ((with_reducible refine wpA_store rfl _ _ _ rfl _ rfl (.agg _) rfl ?_); refine storeR hL ?_; clear hL; intro _ hL) | ((with_reducible first | refine wpA_store rfl _ _ _ rfl _ rfl (.int _ _) rfl ?_ | refine wpA_store rfl _ _ _ rfl _ rfl (.slice _ _ _) rfl ?_ | refine wpA_store rfl _ _ _ rfl _ rfl (.bool _) rfl ?_ | refine wpA_store rfl _ _ _ rfl _ rfl (.pointer _) rfl ?_ | refine wpA_store rfl _ _ _ rfl _ rfl (.func _ _ _) rfl ?_); (first | refine storeA hL ?_ | refine storeO hL ?_); (clear hL; intro _ hL)) | ((with_reducible refine wpA_lit rfl _ _ _ rfl ?_); first | refine litA1 hL ?_ | refine litA2 hL ?_) | ((with_reducible refine wpA_append rfl _ _ _ rfl (.slice _ _ _) rfl ?_); intro vq hvq; simp [go_sem] at hvq; subst hvq; refine appendA hL ?_; clear hL; intro _ _ _ hL; try dsimp only at hL) | ((with_reducible refine wpA_make rfl _ _ _ rfl _ rfl rfl ?_); refine makeA hL ?_))
    exact bodyPost_ret (results_row2 inferInstance rfl _ hL b4 rfl _ _ .here rfl) rfl ⟨_, ret_tup HE.out.symm, hL.below, by rw [HR.out]; exact hL.fresh⟩
  · have hbm' : bothMay A B = false := by simpa using hbm
    have HE := Lib.hid (show bothErr A B = 1 by simp [bothErr, hbm'])
    have HR := Lib.hid (show bothReg f A B = noReg by simp [bothReg, hbm'])
    clear hbm
    simp only [bothMay] at hbm'
    cases m1 : mayReg A with
    | false =>
      clear hbm'
      have n1 : True := trivial; have n2 : True := trivial; have n3 : True := trivial; have n4 : True := trivial; have n5 : True := trivial; have n6 : True := trivial
      go_enter Try.func61, Try.ntmps61
      go_wp2_with (first | (go_at_call 38; (first | (with_reducible refine (regMay_calls _ _ _ (Ha.out.hold hL)).mono ?_) | (with_reducible refine (regMay_calls _ _ _ (Hb.out.hold hL)).mono ?_)); rintro e _ ⟨rfl, hb⟩; replace hL := hL.call hb; clear hb) | (first | (clear hL n1; with_reducible intro b1 w1 hL) | (clear hL n2; with_reducible intro b2 w2 hL) | (clear hL n3; with_reducible intro b3 w3 hL) | (clear hL n4; with_reducible intro b4 w4 hL) | (clear hL n5; with_reducible intro b5 w5 hL) | (clear hL n6; with_reducible intro b6 w6 hL) | (clear hL; with_reducible intro _ _ hL)) | (with_reducible refine wpC_alloc rfl _ rfl _ _ inferInstance hL ?_) | (with_reducible first | refine wpB_agg rfl _ _ _ rfl rfl hL ?_ | refine wpB_one rfl _ _ (.int _ _) rfl rfl rfl hL ?_ | refine wpB_one rfl _ _ (.slice _ _ _) rfl rfl rfl hL ?_ | refine wpB_one rfl _ _ (.bool _) rfl rfl rfl hL ?_ | refine wpB_one rfl _ _ (.pointer _) rfl rfl rfl hL ?_ | refine wpB_one rfl _ _ (.func _ _ _) rfl rfl rfl hL ?_) | (with_reducible first | refine wpH_max rfl _ _ _ _ rfl _ _ rfl rfl ?_ | refine wpH_min rfl _ _ _ _ rfl _ _ rfl rfl ?_) | ((with_reducible refine wpA_load rfl _ _ rfl _ rfl ?_); first | refine loadA hL ?_ | refine loadR hL ?_ | refine loadC hL ?_ | refine loadD ?_ | refine loadE hL ?_ | refine loadF ?_) | ((with_reducible refine wpA_index rfl _ _ _ rfl _ rfl _ rfl ?_); first | (refine indexA ?_; try rw [Int.toNat_natCast]) | refine indexC ?_) | ((with_reducible refine wpA_store rfl _ _ _ rfl _ rfl (.agg _) rfl ?_); refine storeR hL ?_; clear hL; intro _ hL) | ((with_reducible first | refine wpA_store rfl _ _ _ rfl _ rfl (.int _ _) rfl ?_ | refine wpA_store rfl _ _ _ rfl _ rfl (.slice _ _ _) rfl ?_ | refine wpA_store rfl _ _ _ rfl _ rfl (.bool _) rfl ?_ | refine wpA_store rfl _ _ _ rfl _ rfl (.pointer _) rfl ?_ | refine wpA_store rfl _ _ _ rfl _ rfl (.func _ _ _) rfl ?_); (first | refine storeA hL ?_ | refine storeO hL ?_); (clear hL; intro _ hL)) | ((with_reducible refine wpA_lit rfl _ _ _ rfl ?_); first | refine litA1 hL ?_ | refine litA2 hL ?_) | ((with_reducible refine wpA_append rfl _ _ _ rfl (.slice _ _ _) rfl ?_); intro vq hvq; simp [go_sem] at hvq; subst hvq; refine appendA hL ?_; clear hL; intro _ _ _ hL; try dsimp only at hL) | ((with_reducible refine wpA_make rfl _ _ _ rfl _ rfl rfl ?_); refine makeA hL ?_))
      exact bodyPost_ret (results_row2 inferInstance rfl _ hL b4 rfl _ _ .here rfl) rfl ⟨_, ret_tup HE.out.symm, hL.below, by rw [HR.out]; exact (hL.triv noReg_at).fresh⟩
    | true =>
      cases m2 : mayReg B with
      | false =>
        clear hbm'
        have n1 : True := trivial; have n2 : True := trivial; have n3 : True := trivial; have n4 : True := trivial; have n5 : True := trivial; have n6 : True := trivial
        go_enter Try.func61, Try.ntmps61
        go_wp2_with (first | (go_at_call 38; (first | (with_reducible refine (regMay_calls _ _ _ (Ha.out.hold hL)).mono ?_) | (with_reducible refine (regMay_calls _ _ _ (Hb.out.hold hL)).mono ?_)); rintro e _ ⟨rfl, hb⟩; replace hL := hL.call hb; clear hb) | (first | (clear hL n1; with_reducible intro b1 w1 hL) | (clear hL n2; with_reducible intro b2 w2 hL) | (clear hL n3; with_reducible intro b3 w3 hL) | (clear hL n4; with_reducible intro b4 w4 hL) | (clear hL n5; with_reducible intro b5 w5 hL) | (clear hL n6; with_reducible intro b6 w6 hL) | (clear hL; with_reducible intro _ _ hL)) | (with_reducible refine wpC_alloc rfl _ rfl _ _ inferInstance hL ?_) | (with_reducible first | refine wpB_agg rfl _ _ _ rfl rfl hL ?_ | refine wpB_one rfl _ _ (.int _ _) rfl rfl rfl hL ?_ | refine wpB_one rfl _ _ (.slice _ _ _) rfl rfl rfl hL ?_ | refine wpB_one rfl _ _ (.bool _) rfl rfl rfl hL ?_ | refine wpB_one rfl _ _ (.pointer _) rfl rfl rfl hL ?_ | refine wpB_one rfl _ _ (.func _ _ _) rfl rfl rfl hL ?_) | (with_reducible first | refine wpH_max rfl _ _ _ _ rfl _ _ rfl rfl ?_ | refine wpH_min rfl _ _ _ _ rfl _ _ rfl rfl ?_) | ((with_reducible refine wpA_load rfl _ _ rfl _ rfl ?_); first | refine loadA hL ?_ | refine loadR hL ?_ | refine loadC hL ?_ | refine loadD ?_ | refine loadE hL ?_ | refine loadF ?_) | ((with_reducible refine wpA_index rfl _ _ _ rfl _ rfl _ rfl ?_); first | (refine indexA ?_; try rw [Int.toNat_natCast]) | refine indexC ?_) | ((with_reducible refine wpA_store rfl _ _ _ rfl _ rfl (.agg _) rfl ?_); refine storeR hL ?_; clear hL; intro _ hL) | ((with_reducible first | refine wpA_store rfl _ _ _ rfl _ rfl (.int _ _) rfl ?_ | refine wpA_store rfl _ _ _ rfl _ rfl (.slice _ _ _) rfl ?_ | refine wpA_store rfl _ _ _ rfl _ rfl (.bool _) rfl ?_ | refine wpA_store rfl _ _ _ rfl _ rfl (.pointer _) rfl ?_ | refine wpA_store rfl _ _ _ rfl _ rfl (.func _ _ _) rfl ?_); (first | refine storeA hL ?_ | refine storeO hL ?_); (clear hL; intro _ hL)) | ((with_reducible refine wpA_lit rfl _ _ _ rfl ?_); first | refine litA1 hL ?_ | refine litA2 hL ?_) | ((with_reducible refine wpA_append rfl _ _ _ rfl (.slice _ _ _) rfl ?_); intro vq hvq; simp [go_sem] at hvq; subst hvq; refine appendA hL ?_; clear hL; intro _ _ _ hL; try dsimp only at hL) | ((with_reducible refine wpA_make rfl _ _ _ rfl _ rfl rfl ?_); refine makeA hL ?_))
        exact bodyPost_ret (results_row2 inferInstance rfl _ hL b4 rfl _ _ .here rfl) rfl ⟨_, ret_tup HE.out.symm, hL.below, by rw [HR.out]; exact (hL.triv noReg_at).fresh⟩
      | true =>
        rw [m1, m2] at hbm'
        cases q1 : (A.W != B.W) with
        | true =>
          clear hbm'
          have n1 : True := trivial; have n2 : True := trivial; have n3 : True := trivial; have n4 : True := trivial; have n5 : True := trivial; have n6 : True := trivial
          go_enter Try.func61, Try.ntmps61
          go_wp2_with (first | (go_at_call 38; (first | (with_reducible refine (regMay_calls _ _ _ (Ha.out.hold hL)).mono ?_) | (with_reducible refine (regMay_calls _ _ _ (Hb.out.hold hL)).mono ?_)); rintro e _ ⟨rfl, hb⟩; replace hL := hL.call hb; clear hb) | (first | (clear hL n1; with_reducible intro b1 w1 hL) | (clear hL n2; with_reducible intro b2 w2 hL) | (clear hL n3; with_reducible intro b3 w3 hL) | (clear hL n4; with_reducible intro b4 w4 hL) | (clear hL n5; with_reducible intro b5 w5 hL) | (clear hL n6; with_reducible intro b6 w6 hL) | (clear hL; with_reducible intro _ _ hL)) | (with_reducible refine wpC_alloc rfl _ rfl _ _ inferInstance hL ?_) | (with_reducible first | refine wpB_agg rfl _ _ _ rfl rfl hL ?_ | refine wpB_one rfl _ _ (.int _ _) rfl rfl rfl hL ?_ | refine wpB_one rfl _ _ (.slice _ _ _) rfl rfl rfl hL ?_ | refine wpB_one rfl _ _ (.bool _) rfl rfl rfl hL ?_ | refine wpB_one rfl _ _ (.pointer _) rfl rfl rfl hL ?_ | refine wpB_one rfl _ _ (.func _ _ _) rfl rfl rfl hL ?_) | (with_reducible first | refine wpH_max rfl _ _ _ _ rfl _ _ rfl rfl ?_ | refine wpH_min rfl _ _ _ _ rfl _ _ rfl rfl ?_) | ((with_reducible refine wpA_load rfl _ _ rfl _ rfl ?_); first | refine loadA hL ?_ | refine loadR hL ?_ | refine loadC hL ?_ | refine loadD ?_ | refine loadE hL ?_ | refine loadF ?_) | ((with_reducible refine wpA_index rfl _ _ _ rfl _ rfl _ rfl ?_); first | (refine indexA ?_; try rw [Int.toNat_natCast]) | refine indexC ?_) | ((with_reducible refine wpA_store rfl _ _ _ rfl _ rfl (.agg _) rfl ?_); refine storeR hL ?_; clear hL; intro _ hL) | ((with_reducible first | refine wpA_store rfl _ _ _ rfl _ rfl (.int _ _) rfl ?_ | refine wpA_store rfl _ _ _ rfl _ rfl (.slice _ _ _) rfl ?_ | refine wpA_store rfl _ _ _ rfl _ rfl (.bool _) rfl ?_ | refine wpA_store rfl _ _ _ rfl _ rfl (.pointer _) rfl ?_ | refine wpA_store rfl _ _ _ rfl _ rfl (.func _ _ _) rfl ?_); (first | refine storeA hL ?_ | refine storeO hL ?_); (clear hL; intro _ hL)) | ((with_reducible refine wpA_lit rfl _ _ _ rfl ?_); first | refine litA1 hL ?_ | refine litA2 hL ?_) | ((with_reducible refine wpA_append rfl _ _ _ rfl (.slice _ _ _) rfl ?_); intro vq hvq; simp [go_sem] at hvq; subst hvq; refine appendA hL ?_; clear hL; intro _ _ _ hL; try dsimp only at hL) | ((with_reducible refine wpA_make rfl _ _ _ rfl _ rfl rfl ?_); refine makeA hL ?_))
          exact bodyPost_ret (results_row2 inferInstance rfl _ hL b4 rfl _ _ .here rfl) rfl ⟨_, ret_tup HE.out.symm, hL.below, by rw [HR.out]; exact (hL.triv noReg_at).fresh⟩
        | false =>
          have q2 : (A.H != B.H) = true := by
            simp at q1 hbm' ⊢
            exact hbm' q1
          clear hbm'
          have n1 : True := trivial; have n2 : True := trivial; have n3 : True := trivial; have n4 : True := trivial; have n5 : True := trivial; have n6 : True := trivial
          go_enter Try.func61, Try.ntmps61
          go_wp2_with (first | (go_at_call 38; (first | (with_reducible refine (regMay_calls _ _ _ (Ha.out.hold hL)).mono ?_) | (with_reducible refine (regMay_calls _ _ _ (Hb.out.hold hL)).mono ?_)); rintro e _ ⟨rfl, hb⟩; replace hL := hL.call hb; clear hb) | (first | (clear hL n1; with_reducible intro b1 w1 hL) | (clear hL n2; with_reducible intro b2 w2 hL) | (clear hL n3; with_reducible intro b3 w3 hL) | (clear hL n4; with_reducible intro b4 w4 hL) | (clear hL n5; with_reducible intro b5 w5 hL) | (clear hL n6; with_reducible intro b6 w6 hL) | (clear hL; with_reducible intro _ _ hL)) | (with_reducible refine wpC_alloc rfl _ rfl _ _ inferInstance hL ?_) | (with_reducible first | refine wpB_agg rfl _ _ _ rfl rfl hL ?_ | refine wpB_one rfl _ _ (.int _ _) rfl rfl rfl hL ?_ | refine wpB_one rfl _ _ (.slice _ _ _) rfl rfl rfl hL ?_ | refine wpB_one rfl _ _ (.bool _) rfl rfl rfl hL ?_ | refine wpB_one rfl _ _ (.pointer _) rfl rfl rfl hL ?_ | refine wpB_one rfl _ _ (.func _ _ _) rfl rfl rfl hL ?_) | (with_reducible first | refine wpH_max rfl _ _ _ _ rfl _ _ rfl rfl ?_ | refine wpH_min rfl _ _ _ _ rfl _ _ rfl rfl ?_) | ((with_reducible refine wpA_load rfl _ _ rfl _ rfl ?_); first | refine loadA hL ?_ | refine loadR hL ?_ | refine loadC hL ?_ | refine loadD ?_ | refine loadE hL ?_ | refine loadF ?_) | ((with_reducible refine wpA_index rfl _ _ _ rfl _ rfl _ rfl ?_); first | (refine indexA ?_; try rw [Int.toNat_natCast]) | refine indexC ?_) | ((with_reducible refine wpA_store rfl _ _ _ rfl _ rfl (.agg _) rfl ?_); refine storeR hL ?_; clear hL; intro _ hL) | ((with_reducible first | refine wpA_store rfl _ _ _ rfl _ rfl (.int _ _) rfl ?_ | refine wpA_store rfl _ _ _ rfl _ rfl (.slice _ _ _) rfl ?_ | refine wpA_store rfl _ _ _ rfl _ rfl (.bool _) rfl ?_ | refine wpA_store rfl _ _ _ rfl _ rfl (.pointer _) rfl ?_ | refine wpA_store rfl _ _ _ rfl _ rfl (.func _ _ _) rfl ?_); (first | refine storeA hL ?_ | refine storeO hL ?_); (clear hL; intro _ hL)) | ((with_reducible refine wpA_lit rfl _ _ _ rfl ?_); first | refine litA1 hL ?_ | refine litA2 hL ?_) | ((with_reducible refine wpA_append rfl _ _ _ rfl (.slice _ _ _) rfl ?_); intro vq hvq; simp [go_sem] at hvq; subst hvq; refine appendA hL ?_; clear hL; intro _ _ _ hL; try dsimp only at hL) | ((with_reducible refine wpA_make rfl _ _ _ rfl _ rfl rfl ?_); refine makeA hL ?_))
          exact bodyPost_ret (results_row2 inferInstance rfl _ hL b4 rfl _ _ .here rfl) rfl ⟨_, ret_tup HE.out.symm, hL.below, by rw [HR.out]; exact (hL.triv noReg_at).fresh⟩

end Go.Proofs.Ytjgnbmgdnfldeaa
