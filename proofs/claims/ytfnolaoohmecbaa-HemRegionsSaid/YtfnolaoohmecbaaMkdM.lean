/- An upright box as pieces. -/
import Derived.Test.YtfnolaoohmecbaaCtrM
import Derived.Test.YtfnolaoohmecbaaWndM
import Derived.Test.YtfnolaoohmecbaaArmM
namespace Go.Proofs.Ytfnolaoohmecbaa
open Go.RowKit

theorem loadO {P : Program} {w0 w : World} {M : List Res} {Φ : List (World → Prop)} {K : Value → Prop} {T : TypeId} {g off : Nat} [hT : ScalarT P T] (hL : Holds w0 w M Φ) {B : Nat} {e : TypeId} {k n cap : Nat} {xs : List Value} {v : Value} (hi : xs[off]? = some v) (h : K v)
    (hat : At M (own B e k (.slice (some ⟨g, 0, none⟩) n cap) n xs) := by (repeat (first | with_reducible exact At.here | with_reducible apply At.there))) : LoadAt P T ⟨g, off, none⟩ w K := loadAt_cell hT v (hL.ownCell hat hi) h

/-- the kind of the last piece -/
def lastS (p : List Sg) : Int := lastK p p.length
/-- one more piece behind a path, and the numbers that are left -/
def segP (p : List Sg) (b : Bool) (n : List Int) : Sg × List Int :=
  if lastS p = 0 ∨ lastS p = 4 ∨ (n.headD 0 % 8 = 0 ∧ lastS p ≠ 1) then (⟨1, coI n.tail, coI n.tail.tail, 0, 0⟩, n.tail.tail.tail)
  else if n.headD 0 % 8 = 1 then (⟨4, 0, 0, 0, 0⟩, n.tail)
  else if n.headD 0 % 8 < 5 ∧ b = true then (⟨3, coI n.tail.tail.tail, coI n.tail.tail.tail.tail, coI n.tail, coI n.tail.tail⟩, n.tail.tail.tail.tail.tail)
  else (⟨2, coI n.tail, coI n.tail.tail, 0, 0⟩, n.tail.tail.tail)
theorem segC_len (l : List Sg) : ∀ c ∈ l.map segC, c.length = 5 := by
  intro c hc
  obtain ⟨e, _, rfl⟩ := List.mem_map.1 hc
  rfl
theorem own_last {p : List Sg} {m : Nat} (hm : p.length = m + 1) : (p.map segC).flatten[m * 5]? = some (.int .i64 (lastS p)) := by
  have := flatten_get (segC_len p) m (by rw [List.length_map]; omega) 0 (.int .i64 (lastS p)) (by
    simp only [List.getElem_map]
    unfold lastS lastK
    simp [segC, hm])
  simpa using this

set_option maxRecDepth 100000 in
set_option maxHeartbeats 8000000 in
theorem seg_calls {w0 w : World} {b : Nat} {s v : Value} {p : List Sg} {n : List Int} {bows : Bool} {Φ : List (World → Prop)}
    (hL : Holds w0 w [own w0.heap.size 51 5 v p.length (p.map segC).flatten, blk b #[s] 96] Φ) (hs : NumsAt w0 s n) (hp : p.length < 12) :
    Calls Try.prog 53 #[.pointer (some ⟨b, 0, none⟩), v, .bool bows] w fun e w' => ∃ v' s', e = .returned v' ∧ NumsAt w0 s' (segP p bows n).2 ∧ Holds w0 w' [own w0.heap.size 51 5 v' (p.length + 1) ((p ++ [(segP p bows n).1]).map segC).flatten, blk b #[s'] 96] Φ := by
  have HS := Lib.hid hs
  have hs1 := hs.tail
  obtain ⟨s1, e1⟩ : ∃ s1, tailV s = s1 := ⟨_, rfl⟩
  rw [e1] at hs1
  have hs2 := hs1.tail
  obtain ⟨s2, e2⟩ : ∃ s2, tailV s1 = s2 := ⟨_, rfl⟩
  rw [e2] at hs2
  have hs3 := hs2.tail
  obtain ⟨s3, e3⟩ : ∃ s3, tailV s2 = s3 := ⟨_, rfl⟩
  rw [e3] at hs3
  have hs4 := hs3.tail
  obtain ⟨s4, e4⟩ : ∃ s4, tailV s3 = s4 := ⟨_, rfl⟩
  rw [e4] at hs4
  have hs5 := hs4.tail
  obtain ⟨s5, e5⟩ : ∃ s5, tailV s4 = s5 := ⟨_, rfl⟩
  rw [e5] at hs5
  have hc0 := fun w0 hp hs => next_calls w0 b 96 s hp n hs 8 (by omega) (by omega)
  have hc1 := fun w0 hp hs => coord_calls w0 b 96 s1 hp n.tail hs
  have hc2 := fun w0 hp hs => coord_calls w0 b 96 s2 hp n.tail.tail hs
  have hc3 := fun w0 hp hs => coord_calls w0 b 96 s3 hp n.tail.tail.tail hs
  have hc4 := fun w0 hp hs => coord_calls w0 b 96 s4 hp n.tail.tail.tail.tail hs
  rw [e1] at hc0; rw [e2] at hc1; rw [e3] at hc2; rw [e4] at hc3; rw [e5] at hc4
  have HS1 := Lib.hid hs1; have HS2 := Lib.hid hs2; have HS3 := Lib.hid hs3; have HS4 := Lib.hid hs4; have HS5 := Lib.hid hs5
  have HC0 := Lib.hid hc0; have HC1 := Lib.hid hc1; have HC2 := Lib.hid hc2; have HC3 := Lib.hid hc3; have HC4 := Lib.hid hc4
  have hk0 := Int.emod_nonneg (n.headD 0) (show (8 : Int) ≠ 0 by omega)
  have hk1 := Int.emod_lt_of_pos (n.headD 0) (show (0 : Int) < 8 by omega)
  clear hs hs1 hs2 hs3 hs4 hs5 hc0 hc1 hc2 hc3 hc4 e1 e2 e3 e4 e5
  rcases Nat.eq_zero_or_pos p.length with h0 | h0
  · have hpn := List.length_eq_zero_iff.1 h0
    rw [h0] at hL ⊢
    subst hpn
    obtain ⟨ga, gc, rfl⟩ := own_slice hL .here
    clear h0
    have HR := Lib.hid (show segP [] bows n = (⟨1, coI n.tail, coI n.tail.tail, 0, 0⟩, n.tail.tail.tail) by unfold segP; rw [if_pos (.inl rfl)])
    generalize segP [] bows n = R at *
    have n1 : True := trivial
    go_enter Try.func53, Try.ntmps53
    go_wp2_with (first | (go_at_call 81; (refine (HC0.out _ (hL.row (.there .here)) (HS.out.hold hL)).mono ?_); rintro e _ ⟨rfl, rfl⟩; replace hL := hL.setCell (b := b) (o := 0) (v := s1) updO; simp only [List.setIfInBounds_toArray, List.set_cons_zero] at hL) | (go_at_call 82; (first | ((refine (HC1.out _ (hL.row (.there .here)) (HS1.out.hold hL)).mono ?_); rintro e _ ⟨rfl, rfl⟩; replace hL := hL.setCell (b := b) (o := 0) (v := s2) updO) | ((refine (HC2.out _ (hL.row (.there .here)) (HS2.out.hold hL)).mono ?_); rintro e _ ⟨rfl, rfl⟩; replace hL := hL.setCell (b := b) (o := 0) (v := s3) updO) | ((refine (HC3.out _ (hL.row (.there .here)) (HS3.out.hold hL)).mono ?_); rintro e _ ⟨rfl, rfl⟩; replace hL := hL.setCell (b := b) (o := 0) (v := s4) updO) | ((refine (HC4.out _ (hL.row (.there .here)) (HS4.out.hold hL)).mono ?_); rintro e _ ⟨rfl, rfl⟩; replace hL := hL.setCell (b := b) (o := 0) (v := s5) updO)); simp only [List.setIfInBounds_toArray, List.set_cons_zero] at hL) | (first | (clear hL n1; with_reducible intro b1 w1 hL) | (clear hL; with_reducible intro _ _ hL)) | (with_reducible refine wpC_alloc rfl _ rfl _ _ inferInstance hL ?_) | (with_reducible first | refine wpB_agg rfl _ _ _ rfl rfl hL ?_ | refine wpB_one rfl _ _ (.int _ _) rfl rfl rfl hL ?_ | refine wpB_one rfl _ _ (.slice _ _ _) rfl rfl rfl hL ?_ | refine wpB_one rfl _ _ (.bool _) rfl rfl rfl hL ?_ | refine wpB_one rfl _ _ (.pointer _) rfl rfl rfl hL ?_ | refine wpB_one rfl _ _ (.func _ _ _) rfl rfl rfl hL ?_) | (with_reducible first | refine wpH_max rfl _ _ _ _ rfl _ _ rfl rfl ?_ | refine wpH_min rfl _ _ _ _ rfl _ _ rfl rfl ?_) | ((with_reducible refine wpA_load rfl _ _ rfl _ rfl ?_); first | refine loadA hL ?_ | refine loadR hL ?_ | refine loadC hL ?_ | refine loadD ?_ | refine loadE hL ?_ | refine loadF ?_) | ((with_reducible refine wpA_index rfl _ _ _ rfl _ rfl _ rfl ?_); first | (refine indexA ?_; try rw [Int.toNat_natCast]) | refine indexC ?_) | ((with_reducible refine wpA_store rfl _ _ _ rfl _ rfl (.agg _) rfl ?_); refine storeR hL ?_; clear hL; intro _ hL) | ((with_reducible first | refine wpA_store rfl _ _ _ rfl _ rfl (.int _ _) rfl ?_ | refine wpA_store rfl _ _ _ rfl _ rfl (.slice _ _ _) rfl ?_ | refine wpA_store rfl _ _ _ rfl _ rfl (.bool _) rfl ?_ | refine wpA_store rfl _ _ _ rfl _ rfl (.pointer _) rfl ?_ | refine wpA_store rfl _ _ _ rfl _ rfl (.func _ _ _) rfl ?_); (first | refine storeA hL ?_ | refine storeO hL ?_); (clear hL; intro _ hL)) | ((with_reducible refine wpA_lit rfl _ _ _ rfl ?_); first | refine litA1 hL ?_ | refine litA2 hL ?_ | refine litA3 hL ?_ | refine litA4 hL ?_ | refine litA6 hL ?_) | ((with_reducible refine wpA_append rfl _ _ _ rfl (.slice _ _ _) rfl ?_); intro vq hvq; simp [go_sem] at hvq; subst hvq; refine appendA hL ?_; clear hL; intro _ _ _ hL; try dsimp only at hL) | ((with_reducible refine wpA_make rfl _ _ _ rfl _ rfl rfl ?_); refine makeA hL ?_))
    go_ret
    refine ⟨_, _, rfl, by rw [HR.out]; exact HS3.out, ?_⟩
    rw [HR.out]
    exact hL
  · obtain ⟨m, hm⟩ : ∃ m, p.length = m + 1 := ⟨p.length - 1, by omega⟩
    have HG := Lib.hid (own_last hm)
    obtain ⟨g, cap, rfl⟩ := own_shape hL .here h0
    have hxs : ∃ xs, (p.map segC).flatten = xs := ⟨_, rfl⟩
    rw [hm] at hL hp ⊢
    have HN := Lib.hid hm; clear hm h0 hxs
    have hsp : ∀ z, segP p bows n = z → segP p bows n = z := fun _ h => h
    clear hsp
    obtain ⟨la, hla⟩ : ∃ la, lastS p = la := ⟨_, rfl⟩
    obtain ⟨k, hk⟩ : ∃ k, n.headD 0 % 8 = k := ⟨_, rfl⟩
    rw [hla] at HG; rw [hk] at HC0 hk0 hk1
    have hlam : (0 : Int) < ((m + 1 : Nat) : Int) := by omega
    have hcs : (la = 0) ∨ (la = 4) ∨ (la ≠ 0 ∧ la ≠ 4 ∧ k = 0 ∧ la ≠ 1) ∨ (la ≠ 0 ∧ la ≠ 4 ∧ k = 1) ∨ (la ≠ 0 ∧ la ≠ 4 ∧ k = 0 ∧ la = 1 ∧ bows = true) ∨ (la ≠ 0 ∧ la ≠ 4 ∧ k = 0 ∧ la = 1 ∧ bows = false) ∨ (la ≠ 0 ∧ la ≠ 4 ∧ 2 ≤ k ∧ k < 5 ∧ bows = true) ∨ (la ≠ 0 ∧ la ≠ 4 ∧ 2 ≤ k ∧ k < 5 ∧ bows = false) ∨ (la ≠ 0 ∧ la ≠ 4 ∧ 5 ≤ k) := by
      cases bows <;> simp only [and_true, and_false, reduceCtorEq, false_or] <;> omega
    rcases hcs with h0 | h1 | h2 | h3 | h4 | h5 | h6 | h7 | h8
    · have q0 := h0; clear h0
      have HR := Lib.hid (show segP p bows n = (⟨1, coI n.tail, coI n.tail.tail, 0, 0⟩, n.tail.tail.tail) by unfold segP; rw [if_pos (.inl (by omega))])
      have d0 : (la == 0) = true := by simp; omega
      have HK := Lib.hid hk; have HLa := Lib.hid hla; clear hk hla
      generalize segP p bows n = R at *
      clear q0
      have n1 : True := trivial
      go_enter Try.func53, Try.ntmps53
      go_wp2_with (first | (go_at_call 81; (refine (HC0.out _ (hL.row (.there .here)) (HS.out.hold hL)).mono ?_); rintro e _ ⟨rfl, rfl⟩; replace hL := hL.setCell (b := b) (o := 0) (v := s1) updO; simp only [List.setIfInBounds_toArray, List.set_cons_zero] at hL) | (go_at_call 82; (first | ((refine (HC1.out _ (hL.row (.there .here)) (HS1.out.hold hL)).mono ?_); rintro e _ ⟨rfl, rfl⟩; replace hL := hL.setCell (b := b) (o := 0) (v := s2) updO) | ((refine (HC2.out _ (hL.row (.there .here)) (HS2.out.hold hL)).mono ?_); rintro e _ ⟨rfl, rfl⟩; replace hL := hL.setCell (b := b) (o := 0) (v := s3) updO) | ((refine (HC3.out _ (hL.row (.there .here)) (HS3.out.hold hL)).mono ?_); rintro e _ ⟨rfl, rfl⟩; replace hL := hL.setCell (b := b) (o := 0) (v := s4) updO) | ((refine (HC4.out _ (hL.row (.there .here)) (HS4.out.hold hL)).mono ?_); rintro e _ ⟨rfl, rfl⟩; replace hL := hL.setCell (b := b) (o := 0) (v := s5) updO)); simp only [List.setIfInBounds_toArray, List.set_cons_zero] at hL) | ((with_reducible refine wpA_load rfl _ _ rfl _ rfl ?_); refine loadO hL HG.out ?_) | (first | (clear hL n1; with_reducible intro b1 w1 hL) | (clear hL; with_reducible intro _ _ hL)) | (with_reducible refine wpC_alloc rfl _ rfl _ _ inferInstance hL ?_) | (with_reducible first | refine wpB_agg rfl _ _ _ rfl rfl hL ?_ | refine wpB_one rfl _ _ (.int _ _) rfl rfl rfl hL ?_ | refine wpB_one rfl _ _ (.slice _ _ _) rfl rfl rfl hL ?_ | refine wpB_one rfl _ _ (.bool _) rfl rfl rfl hL ?_ | refine wpB_one rfl _ _ (.pointer _) rfl rfl rfl hL ?_ | refine wpB_one rfl _ _ (.func _ _ _) rfl rfl rfl hL ?_) | (with_reducible first | refine wpH_max rfl _ _ _ _ rfl _ _ rfl rfl ?_ | refine wpH_min rfl _ _ _ _ rfl _ _ rfl rfl ?_) | ((with_reducible refine wpA_load rfl _ _ rfl _ rfl ?_); first | refine loadA hL ?_ | refine loadR hL ?_ | refine loadC hL ?_ | refine loadD ?_ | refine loadE hL ?_ | refine loadF ?_) | ((with_reducible refine wpA_index rfl _ _ _ rfl _ rfl _ rfl ?_); first | (refine indexA ?_; try rw [Int.toNat_natCast]) | refine indexC ?_) | ((with_reducible refine wpA_store rfl _ _ _ rfl _ rfl (.agg _) rfl ?_); refine storeR hL ?_; clear hL; intro _ hL) | ((with_reducible first | refine wpA_store rfl _ _ _ rfl _ rfl (.int _ _) rfl ?_ | refine wpA_store rfl _ _ _ rfl _ rfl (.slice _ _ _) rfl ?_ | refine wpA_store rfl _ _ _ rfl _ rfl (.bool _) rfl ?_ | refine wpA_store rfl _ _ _ rfl _ rfl (.pointer _) rfl ?_ | refine wpA_store rfl _ _ _ rfl _ rfl (.func _ _ _) rfl ?_); (first | refine storeA hL ?_ | refine storeO hL ?_); (clear hL; intro _ hL)) | ((with_reducible refine wpA_lit rfl _ _ _ rfl ?_); first | refine litA1 hL ?_ | refine litA2 hL ?_ | refine litA3 hL ?_ | refine litA4 hL ?_ | refine litA6 hL ?_) | ((with_reducible refine wpA_append rfl _ _ _ rfl (.slice _ _ _) rfl ?_); intro vq hvq; simp [go_sem] at hvq; subst hvq; refine appendA hL ?_; clear hL; intro _ _ _ hL; try dsimp only at hL) | ((with_reducible refine wpA_make rfl _ _ _ rfl _ rfl rfl ?_); refine makeA hL ?_))
      go_ret
      refine ⟨_, _, rfl, by rw [HR.out]; exact HS3.out, ?_⟩
      rw [HR.out, List.map_append, List.flatten_append]
      exact hL
    · have q0 := h1; clear h1
      have HR := Lib.hid (show segP p bows n = (⟨1, coI n.tail, coI n.tail.tail, 0, 0⟩, n.tail.tail.tail) by unfold segP; rw [if_pos (.inr (.inl (by omega)))])
      have d0 : (la == 0) = false := by simp; omega
      have d1 : (la == 4) = true := by simp; omega
      have HK := Lib.hid hk; have HLa := Lib.hid hla; clear hk hla
      generalize segP p bows n = R at *
      clear q0
      have n1 : True := trivial
      go_enter Try.func53, Try.ntmps53
      go_wp2_with (first | (go_at_call 81; (refine (HC0.out _ (hL.row (.there .here)) (HS.out.hold hL)).mono ?_); rintro e _ ⟨rfl, rfl⟩; replace hL := hL.setCell (b := b) (o := 0) (v := s1) updO; simp only [List.setIfInBounds_toArray, List.set_cons_zero] at hL) | (go_at_call 82; (first | ((refine (HC1.out _ (hL.row (.there .here)) (HS1.out.hold hL)).mono ?_); rintro e _ ⟨rfl, rfl⟩; replace hL := hL.setCell (b := b) (o := 0) (v := s2) updO) | ((refine (HC2.out _ (hL.row (.there .here)) (HS2.out.hold hL)).mono ?_); rintro e _ ⟨rfl, rfl⟩; replace hL := hL.setCell (b := b) (o := 0) (v := s3) updO) | ((refine (HC3.out _ (hL.row (.there .here)) (HS3.out.hold hL)).mono ?_); rintro e _ ⟨rfl, rfl⟩; replace hL := hL.setCell (b := b) (o := 0) (v := s4) updO) | ((refine (HC4.out _ (hL.row (.there .here)) (HS4.out.hold hL)).mono ?_); rintro e _ ⟨rfl, rfl⟩; replace hL := hL.setCell (b := b) (o := 0) (v := s5) updO)); simp only [List.setIfInBounds_toArray, List.set_cons_zero] at hL) | ((with_reducible refine wpA_load rfl _ _ rfl _ rfl ?_); refine loadO hL HG.out ?_) | (first | (clear hL n1; with_reducible intro b1 w1 hL) | (clear hL; with_reducible intro _ _ hL)) | (with_reducible refine wpC_alloc rfl _ rfl _ _ inferInstance hL ?_) | (with_reducible first | refine wpB_agg rfl _ _ _ rfl rfl hL ?_ | refine wpB_one rfl _ _ (.int _ _) rfl rfl rfl hL ?_ | refine wpB_one rfl _ _ (.slice _ _ _) rfl rfl rfl hL ?_ | refine wpB_one rfl _ _ (.bool _) rfl rfl rfl hL ?_ | refine wpB_one rfl _ _ (.pointer _) rfl rfl rfl hL ?_ | refine wpB_one rfl _ _ (.func _ _ _) rfl rfl rfl hL ?_) | (with_reducible first | refine wpH_max rfl _ _ _ _ rfl _ _ rfl rfl ?_ | refine wpH_min rfl _ _ _ _ rfl _ _ rfl rfl ?_) | ((with_reducible refine wpA_load rfl _ _ rfl _ rfl ?_); first | refine loadA hL ?_ | refine loadR hL ?_ | refine loadC hL ?_ | refine loadD ?_ | refine loadE hL ?_ | refine loadF ?_) | ((with_reducible refine wpA_index rfl _ _ _ rfl _ rfl _ rfl ?_); first | (refine indexA ?_; try rw [Int.toNat_natCast]) | refine indexC ?_) | ((with_reducible refine wpA_store rfl _ _ _ rfl _ rfl (.agg _) rfl ?_); refine storeR hL ?_; clear hL; intro _ hL) | ((with_reducible first | refine wpA_store rfl _ _ _ rfl _ rfl (.int _ _) rfl ?_ | refine wpA_store rfl _ _ _ rfl _ rfl (.slice _ _ _) rfl ?_ | refine wpA_store rfl _ _ _ rfl _ rfl (.bool _) rfl ?_ | refine wpA_store rfl _ _ _ rfl _ rfl (.pointer _) rfl ?_ | refine wpA_store rfl _ _ _ rfl _ rfl (.func _ _ _) rfl ?_); (first | refine storeA hL ?_ | refine storeO hL ?_); (clear hL; intro _ hL)) | ((with_reducible refine wpA_lit rfl _ _ _ rfl ?_); first | refine litA1 hL ?_ | refine litA2 hL ?_ | refine litA3 hL ?_ | refine litA4 hL ?_ | refine litA6 hL ?_) | ((with_reducible refine wpA_append rfl _ _ _ rfl (.slice _ _ _) rfl ?_); intro vq hvq; simp [go_sem] at hvq; subst hvq; refine appendA hL ?_; clear hL; intro _ _ _ hL; try dsimp only at hL) | ((with_reducible refine wpA_make rfl _ _ _ rfl _ rfl rfl ?_); refine makeA hL ?_))
      go_ret
      refine ⟨_, _, rfl, by rw [HR.out]; exact HS3.out, ?_⟩
      rw [HR.out, List.map_append, List.flatten_append]
      exact hL
    · obtain ⟨q0, q1, q2, q3⟩ := h2
      have HR := Lib.hid (show segP p bows n = (⟨1, coI n.tail, coI n.tail.tail, 0, 0⟩, n.tail.tail.tail) by unfold segP; rw [if_pos (.inr (.inr ⟨by omega, by omega⟩))])
      have d0 : (la == 0) = false := by simp; omega
      have d1 : (la == 4) = false := by simp; omega
      have d2 : (k == 0) = true := by simp; omega
      have d3 : (la != 1) = true := by simp; omega
      have HK := Lib.hid hk; have HLa := Lib.hid hla; clear hk hla
      generalize segP p bows n = R at *
      clear q0 q1 q2 q3
      have n1 : True := trivial
      go_enter Try.func53, Try.ntmps53
      go_wp2_with (first | (go_at_call 81; (refine (HC0.out _ (hL.row (.there .here)) (HS.out.hold hL)).mono ?_); rintro e _ ⟨rfl, rfl⟩; replace hL := hL.setCell (b := b) (o := 0) (v := s1) updO; simp only [List.setIfInBounds_toArray, List.set_cons_zero] at hL) | (go_at_call 82; (first | ((refine (HC1.out _ (hL.row (.there .here)) (HS1.out.hold hL)).mono ?_); rintro e _ ⟨rfl, rfl⟩; replace hL := hL.setCell (b := b) (o := 0) (v := s2) updO) | ((refine (HC2.out _ (hL.row (.there .here)) (HS2.out.hold hL)).mono ?_); rintro e _ ⟨rfl, rfl⟩; replace hL := hL.setCell (b := b) (o := 0) (v := s3) updO) | ((refine (HC3.out _ (hL.row (.there .here)) (HS3.out.hold hL)).mono ?_); rintro e _ ⟨rfl, rfl⟩; replace hL := hL.setCell (b := b) (o := 0) (v := s4) updO) | ((refine (HC4.out _ (hL.row (.there .here)) (HS4.out.hold hL)).mono ?_); rintro e _ ⟨rfl, rfl⟩; replace hL := hL.setCell (b := b) (o := 0) (v := s5) updO)); simp only [List.setIfInBounds_toArray, List.set_cons_zero] at hL) | ((with_reducible refine wpA_load rfl _ _ rfl _ rfl ?_); refine loadO hL HG.out ?_) | (first | (clear hL n1; with_reducible intro b1 w1 hL) | (clear hL; with_reducible intro _ _ hL)) | (with_reducible refine wpC_alloc rfl _ rfl _ _ inferInstance hL ?_) | (with_reducible first | refine wpB_agg rfl _ _ _ rfl rfl hL ?_ | refine wpB_one rfl _ _ (.int _ _) rfl rfl rfl hL ?_ | refine wpB_one rfl _ _ (.slice _ _ _) rfl rfl rfl hL ?_ | refine wpB_one rfl _ _ (.bool _) rfl rfl rfl hL ?_ | refine wpB_one rfl _ _ (.pointer _) rfl rfl rfl hL ?_ | refine wpB_one rfl _ _ (.func _ _ _) rfl rfl rfl hL ?_) | (with_reducible first | refine wpH_max rfl _ _ _ _ rfl _ _ rfl rfl ?_ | refine wpH_min rfl _ _ _ _ rfl _ _ rfl rfl ?_) | ((with_reducible refine wpA_load rfl _ _ rfl _ rfl ?_); first | refine loadA hL ?_ | refine loadR hL ?_ | refine loadC hL ?_ | refine loadD ?_ | refine loadE hL ?_ | refine loadF ?_) | ((with_reducible refine wpA_index rfl _ _ _ rfl _ rfl _ rfl ?_); first | (refine indexA ?_; try rw [Int.toNat_natCast]) | refine indexC ?_) | ((with_reducible refine wpA_store rfl _ _ _ rfl _ rfl (.agg _) rfl ?_); refine storeR hL ?_; clear hL; intro _ hL) | ((with_reducible first | refine wpA_store rfl _ _ _ rfl _ rfl (.int _ _) rfl ?_ | refine wpA_store rfl _ _ _ rfl _ rfl (.slice _ _ _) rfl ?_ | refine wpA_store rfl _ _ _ rfl _ rfl (.bool _) rfl ?_ | refine wpA_store rfl _ _ _ rfl _ rfl (.pointer _) rfl ?_ | refine wpA_store rfl _ _ _ rfl _ rfl (.func _ _ _) rfl ?_); (first | refine storeA hL ?_ | refine storeO hL ?_); (clear hL; intro _ hL)) | ((with_reducible refine wpA_lit rfl _ _ _ rfl ?_); first | refine litA1 hL ?_ | refine litA2 hL ?_ | refine litA3 hL ?_ | refine litA4 hL ?_ | refine litA6 hL ?_) | ((with_reducible refine wpA_append rfl _ _ _ rfl (.slice _ _ _) rfl ?_); intro vq hvq; simp [go_sem] at hvq; subst hvq; refine appendA hL ?_; clear hL; intro _ _ _ hL; try dsimp only at hL) | ((with_reducible refine wpA_make rfl _ _ _ rfl _ rfl rfl ?_); refine makeA hL ?_))
      go_ret
      refine ⟨_, _, rfl, by rw [HR.out]; exact HS3.out, ?_⟩
      rw [HR.out, List.map_append, List.flatten_append]
      exact hL
    · obtain ⟨q0, q1, q2⟩ := h3
      have HR := Lib.hid (show segP p bows n = (⟨4, 0, 0, 0, 0⟩, n.tail) by unfold segP; rw [if_neg (by omega), if_pos (by omega)])
      have d0 : (la == 0) = false := by simp; omega
      have d1 : (la == 4) = false := by simp; omega
      have d2 : (k == 0) = false := by simp; omega
      have d3 : (k == 1) = true := by simp; omega
      have HK := Lib.hid hk; have HLa := Lib.hid hla; clear hk hla
      generalize segP p bows n = R at *
      clear q0 q1 q2
      have n1 : True := trivial
      go_enter Try.func53, Try.ntmps53
      go_wp2_with (first | (go_at_call 81; (refine (HC0.out _ (hL.row (.there .here)) (HS.out.hold hL)).mono ?_); rintro e _ ⟨rfl, rfl⟩; replace hL := hL.setCell (b := b) (o := 0) (v := s1) updO; simp only [List.setIfInBounds_toArray, List.set_cons_zero] at hL) | (go_at_call 82; (first | ((refine (HC1.out _ (hL.row (.there .here)) (HS1.out.hold hL)).mono ?_); rintro e _ ⟨rfl, rfl⟩; replace hL := hL.setCell (b := b) (o := 0) (v := s2) updO) | ((refine (HC2.out _ (hL.row (.there .here)) (HS2.out.hold hL)).mono ?_); rintro e _ ⟨rfl, rfl⟩; replace hL := hL.setCell (b := b) (o := 0) (v := s3) updO) | ((refine (HC3.out _ (hL.row (.there .here)) (HS3.out.hold hL)).mono ?_); rintro e _ ⟨rfl, rfl⟩; replace hL := hL.setCell (b := b) (o := 0) (v := s4) updO) | ((refine (HC4.out _ (hL.row (.there .here)) (HS4.out.hold hL)).mono ?_); rintro e _ ⟨rfl, rfl⟩; replace hL := hL.setCell (b := b) (o := 0) (v := s5) updO)); simp only [List.setIfInBounds_toArray, List.set_cons_zero] at hL) | ((with_reducible refine wpA_load rfl _ _ rfl _ rfl ?_); refine loadO hL HG.out ?_) | (first | (clear hL n1; with_reducible intro b1 w1 hL) | (clear hL; with_reducible intro _ _ hL)) | (with_reducible refine wpC_alloc rfl _ rfl _ _ inferInstance hL ?_) | (with_reducible first | refine wpB_agg rfl _ _ _ rfl rfl hL ?_ | refine wpB_one rfl _ _ (.int _ _) rfl rfl rfl hL ?_ | refine wpB_one rfl _ _ (.slice _ _ _) rfl rfl rfl hL ?_ | refine wpB_one rfl _ _ (.bool _) rfl rfl rfl hL ?_ | refine wpB_one rfl _ _ (.pointer _) rfl rfl rfl hL ?_ | refine wpB_one rfl _ _ (.func _ _ _) rfl rfl rfl hL ?_) | (with_reducible first | refine wpH_max rfl _ _ _ _ rfl _ _ rfl rfl ?_ | refine wpH_min rfl _ _ _ _ rfl _ _ rfl rfl ?_) | ((with_reducible refine wpA_load rfl _ _ rfl _ rfl ?_); first | refine loadA hL ?_ | refine loadR hL ?_ | refine loadC hL ?_ | refine loadD ?_ | refine loadE hL ?_ | refine loadF ?_) | ((with_reducible refine wpA_index rfl _ _ _ rfl _ rfl _ rfl ?_); first | (refine indexA ?_; try rw [Int.toNat_natCast]) | refine indexC ?_) | ((with_reducible refine wpA_store rfl _ _ _ rfl _ rfl (.agg _) rfl ?_); refine storeR hL ?_; clear hL; intro _ hL) | ((with_reducible first | refine wpA_store rfl _ _ _ rfl _ rfl (.int _ _) rfl ?_ | refine wpA_store rfl _ _ _ rfl _ rfl (.slice _ _ _) rfl ?_ | refine wpA_store rfl _ _ _ rfl _ rfl (.bool _) rfl ?_ | refine wpA_store rfl _ _ _ rfl _ rfl (.pointer _) rfl ?_ | refine wpA_store rfl _ _ _ rfl _ rfl (.func _ _ _) rfl ?_); (first | refine storeA hL ?_ | refine storeO hL ?_); (clear hL; intro _ hL)) | ((with_reducible refine wpA_lit rfl _ _ _ rfl ?_); first | refine litA1 hL ?_ | refine litA2 hL ?_ | refine litA3 hL ?_ | refine litA4 hL ?_ | refine litA6 hL ?_) | ((with_reducible refine wpA_append rfl _ _ _ rfl (.slice _ _ _) rfl ?_); intro vq hvq; simp [go_sem] at hvq; subst hvq; refine appendA hL ?_; clear hL; intro _ _ _ hL; try dsimp only at hL) | ((with_reducible refine wpA_make rfl _ _ _ rfl _ rfl rfl ?_); refine makeA hL ?_))
      go_ret
      refine ⟨_, _, rfl, by rw [HR.out]; exact HS1.out, ?_⟩
      rw [HR.out, List.map_append, List.flatten_append]
      exact hL
    · obtain ⟨q0, q1, q2, q3, hb⟩ := h4
      have HR := Lib.hid (show segP p bows n = (⟨3, coI n.tail.tail.tail, coI n.tail.tail.tail.tail, coI n.tail, coI n.tail.tail⟩, n.tail.tail.tail.tail.tail) by unfold segP; rw [if_neg (by omega), if_neg (by omega), if_pos ⟨by omega, hb⟩])
      have d0 : (la == 0) = false := by simp; omega
      have d1 : (la == 4) = false := by simp; omega
      have d2 : (k == 0) = true := by simp; omega
      have d3 : (la != 1) = false := by simp; omega
      have d4 : (k == 1) = false := by simp; omega
      have d5 : decide (k < 5) = true := by simp; omega
      have HK := Lib.hid hk; have HLa := Lib.hid hla; clear hk hla
      generalize segP p bows n = R at *
      subst hb
      clear q0 q1 q2 q3
      have n1 : True := trivial
      go_enter Try.func53, Try.ntmps53
      go_wp2_with (first | (go_at_call 81; (refine (HC0.out _ (hL.row (.there .here)) (HS.out.hold hL)).mono ?_); rintro e _ ⟨rfl, rfl⟩; replace hL := hL.setCell (b := b) (o := 0) (v := s1) updO; simp only [List.setIfInBounds_toArray, List.set_cons_zero] at hL) | (go_at_call 82; (first | ((refine (HC1.out _ (hL.row (.there .here)) (HS1.out.hold hL)).mono ?_); rintro e _ ⟨rfl, rfl⟩; replace hL := hL.setCell (b := b) (o := 0) (v := s2) updO) | ((refine (HC2.out _ (hL.row (.there .here)) (HS2.out.hold hL)).mono ?_); rintro e _ ⟨rfl, rfl⟩; replace hL := hL.setCell (b := b) (o := 0) (v := s3) updO) | ((refine (HC3.out _ (hL.row (.there .here)) (HS3.out.hold hL)).mono ?_); rintro e _ ⟨rfl, rfl⟩; replace hL := hL.setCell (b := b) (o := 0) (v := s4) updO) | ((refine (HC4.out _ (hL.row (.there .here)) (HS4.out.hold hL)).mono ?_); rintro e _ ⟨rfl, rfl⟩; replace hL := hL.setCell (b := b) (o := 0) (v := s5) updO)); simp only [List.setIfInBounds_toArray, List.set_cons_zero] at hL) | ((with_reducible refine wpA_load rfl _ _ rfl _ rfl ?_); refine loadO hL HG.out ?_) | (first | (clear hL n1; with_reducible intro b1 w1 hL) | (clear hL; with_reducible intro _ _ hL)) | (with_reducible refine wpC_alloc rfl _ rfl _ _ inferInstance hL ?_) | (with_reducible first | refine wpB_agg rfl _ _ _ rfl rfl hL ?_ | refine wpB_one rfl _ _ (.int _ _) rfl rfl rfl hL ?_ | refine wpB_one rfl _ _ (.slice _ _ _) rfl rfl rfl hL ?_ | refine wpB_one rfl _ _ (.bool _) rfl rfl rfl hL ?_ | refine wpB_one rfl _ _ (.pointer _) rfl rfl rfl hL ?_ | refine wpB_one rfl _ _ (.func _ _ _) rfl rfl rfl hL ?_) | (with_reducible first | refine wpH_max rfl _ _ _ _ rfl _ _ rfl rfl ?_ | refine wpH_min rfl _ _ _ _ rfl _ _ rfl rfl ?_) | ((with_reducible refine wpA_load rfl _ _ rfl _ rfl ?_); first | refine loadA hL ?_ | refine loadR hL ?_ | refine loadC hL ?_ | refine loadD ?_ | refine loadE hL ?_ | refine loadF ?_) | ((with_reducible refine wpA_index rfl _ _ _ rfl _ rfl _ rfl ?_); first | (refine indexA ?_; try rw [Int.toNat_natCast]) | refine indexC ?_) | ((with_reducible refine wpA_store rfl _ _ _ rfl _ rfl (.agg _) rfl ?_); refine storeR hL ?_; clear hL; intro _ hL) | ((with_reducible first | refine wpA_store rfl _ _ _ rfl _ rfl (.int _ _) rfl ?_ | refine wpA_store rfl _ _ _ rfl _ rfl (.slice _ _ _) rfl ?_ | refine wpA_store rfl _ _ _ rfl _ rfl (.bool _) rfl ?_ | refine wpA_store rfl _ _ _ rfl _ rfl (.pointer _) rfl ?_ | refine wpA_store rfl _ _ _ rfl _ rfl (.func _ _ _) rfl ?_); (first | refine storeA hL ?_ | refine storeO hL ?_); (clear hL; intro _ hL)) | ((with_reducible refine wpA_lit rfl _ _ _ rfl ?_); first | refine litA1 hL ?_ | refine litA2 hL ?_ | refine litA3 hL ?_ | refine litA4 hL ?_ | refine litA6 hL ?_) | ((with_reducible refine wpA_append rfl _ _ _ rfl (.slice _ _ _) rfl ?_); intro vq hvq; simp [go_sem] at hvq; subst hvq; refine appendA hL ?_; clear hL; intro _ _ _ hL; try dsimp only at hL) | ((with_reducible refine wpA_make rfl _ _ _ rfl _ rfl rfl ?_); refine makeA hL ?_))
      go_ret
      refine ⟨_, _, rfl, by rw [HR.out]; exact HS5.out, ?_⟩
      rw [HR.out, List.map_append, List.flatten_append]
      exact hL
    · obtain ⟨q0, q1, q2, q3, hb⟩ := h5
      have HR := Lib.hid (show segP p bows n = (⟨2, coI n.tail, coI n.tail.tail, 0, 0⟩, n.tail.tail.tail) by unfold segP; rw [if_neg (by omega), if_neg (by omega), if_neg (by rw [hb]; simp)])
      have d0 : (la == 0) = false := by simp; omega
      have d1 : (la == 4) = false := by simp; omega
      have d2 : (k == 0) = true := by simp; omega
      have d3 : (la != 1) = false := by simp; omega
      have d4 : (k == 1) = false := by simp; omega
      have d5 : decide (k < 5) = true := by simp; omega
      have HK := Lib.hid hk; have HLa := Lib.hid hla; clear hk hla
      generalize segP p bows n = R at *
      subst hb
      clear q0 q1 q2 q3
      have n1 : True := trivial
      go_enter Try.func53, Try.ntmps53
      go_wp2_with (first | (go_at_call 81; (refine (HC0.out _ (hL.row (.there .here)) (HS.out.hold hL)).mono ?_); rintro e _ ⟨rfl, rfl⟩; replace hL := hL.setCell (b := b) (o := 0) (v := s1) updO; simp only [List.setIfInBounds_toArray, List.set_cons_zero] at hL) | (go_at_call 82; (first | ((refine (HC1.out _ (hL.row (.there .here)) (HS1.out.hold hL)).mono ?_); rintro e _ ⟨rfl, rfl⟩; replace hL := hL.setCell (b := b) (o := 0) (v := s2) updO) | ((refine (HC2.out _ (hL.row (.there .here)) (HS2.out.hold hL)).mono ?_); rintro e _ ⟨rfl, rfl⟩; replace hL := hL.setCell (b := b) (o := 0) (v := s3) updO) | ((refine (HC3.out _ (hL.row (.there .here)) (HS3.out.hold hL)).mono ?_); rintro e _ ⟨rfl, rfl⟩; replace hL := hL.setCell (b := b) (o := 0) (v := s4) updO) | ((refine (HC4.out _ (hL.row (.there .here)) (HS4.out.hold hL)).mono ?_); rintro e _ ⟨rfl, rfl⟩; replace hL := hL.setCell (b := b) (o := 0) (v := s5) updO)); simp only [List.setIfInBounds_toArray, List.set_cons_zero] at hL) | ((with_reducible refine wpA_load rfl _ _ rfl _ rfl ?_); refine loadO hL HG.out ?_) | (first | (clear hL n1; with_reducible intro b1 w1 hL) | (clear hL; with_reducible intro _ _ hL)) | (with_reducible refine wpC_alloc rfl _ rfl _ _ inferInstance hL ?_) | (with_reducible first | refine wpB_agg rfl _ _ _ rfl rfl hL ?_ | refine wpB_one rfl _ _ (.int _ _) rfl rfl rfl hL ?_ | refine wpB_one rfl _ _ (.slice _ _ _) rfl rfl rfl hL ?_ | refine wpB_one rfl _ _ (.bool _) rfl rfl rfl hL ?_ | refine wpB_one rfl _ _ (.pointer _) rfl rfl rfl hL ?_ | refine wpB_one rfl _ _ (.func _ _ _) rfl rfl rfl hL ?_) | (with_reducible first | refine wpH_max rfl _ _ _ _ rfl _ _ rfl rfl ?_ | refine wpH_min rfl _ _ _ _ rfl _ _ rfl rfl ?_) | ((with_reducible refine wpA_load rfl _ _ rfl _ rfl ?_); first | refine loadA hL ?_ | refine loadR hL ?_ | refine loadC hL ?_ | refine loadD ?_ | refine loadE hL ?_ | refine loadF ?_) | ((with_reducible refine wpA_index rfl _ _ _ rfl _ rfl _ rfl ?_); first | (refine indexA ?_; try rw [Int.toNat_natCast]) | refine indexC ?_) | ((with_reducible refine wpA_store rfl _ _ _ rfl _ rfl (.agg _) rfl ?_); refine storeR hL ?_; clear hL; intro _ hL) | ((with_reducible first | refine wpA_store rfl _ _ _ rfl _ rfl (.int _ _) rfl ?_ | refine wpA_store rfl _ _ _ rfl _ rfl (.slice _ _ _) rfl ?_ | refine wpA_store rfl _ _ _ rfl _ rfl (.bool _) rfl ?_ | refine wpA_store rfl _ _ _ rfl _ rfl (.pointer _) rfl ?_ | refine wpA_store rfl _ _ _ rfl _ rfl (.func _ _ _) rfl ?_); (first | refine storeA hL ?_ | refine storeO hL ?_); (clear hL; intro _ hL)) | ((with_reducible refine wpA_lit rfl _ _ _ rfl ?_); first | refine litA1 hL ?_ | refine litA2 hL ?_ | refine litA3 hL ?_ | refine litA4 hL ?_ | refine litA6 hL ?_) | ((with_reducible refine wpA_append rfl _ _ _ rfl (.slice _ _ _) rfl ?_); intro vq hvq; simp [go_sem] at hvq; subst hvq; refine appendA hL ?_; clear hL; intro _ _ _ hL; try dsimp only at hL) | ((with_reducible refine wpA_make rfl _ _ _ rfl _ rfl rfl ?_); refine makeA hL ?_))
      go_ret
      refine ⟨_, _, rfl, by rw [HR.out]; exact HS3.out, ?_⟩
      rw [HR.out, List.map_append, List.flatten_append]
      exact hL
    · obtain ⟨q0, q1, q2, q3, hb⟩ := h6
      have HR := Lib.hid (show segP p bows n = (⟨3, coI n.tail.tail.tail, coI n.tail.tail.tail.tail, coI n.tail, coI n.tail.tail⟩, n.tail.tail.tail.tail.tail) by unfold segP; rw [if_neg (by omega), if_neg (by omega), if_pos ⟨by omega, hb⟩])
      have d0 : (la == 0) = false := by simp; omega
      have d1 : (la == 4) = false := by simp; omega
      have d2 : (k == 0) = false := by simp; omega
      have d3 : (k == 1) = false := by simp; omega
      have d4 : decide (k < 5) = true := by simp; omega
      have HK := Lib.hid hk; have HLa := Lib.hid hla; clear hk hla
      generalize segP p bows n = R at *
      subst hb
      clear q0 q1 q2 q3
      have n1 : True := trivial
      go_enter Try.func53, Try.ntmps53
      go_wp2_with (first | (go_at_call 81; (refine (HC0.out _ (hL.row (.there .here)) (HS.out.hold hL)).mono ?_); rintro e _ ⟨rfl, rfl⟩; replace hL := hL.setCell (b := b) (o := 0) (v := s1) updO; simp only [List.setIfInBounds_toArray, List.set_cons_zero] at hL) | (go_at_call 82; (first | ((refine (HC1.out _ (hL.row (.there .here)) (HS1.out.hold hL)).mono ?_); rintro e _ ⟨rfl, rfl⟩; replace hL := hL.setCell (b := b) (o := 0) (v := s2) updO) | ((refine (HC2.out _ (hL.row (.there .here)) (HS2.out.hold hL)).mono ?_); rintro e _ ⟨rfl, rfl⟩; replace hL := hL.setCell (b := b) (o := 0) (v := s3) updO) | ((refine (HC3.out _ (hL.row (.there .here)) (HS3.out.hold hL)).mono ?_); rintro e _ ⟨rfl, rfl⟩; replace hL := hL.setCell (b := b) (o := 0) (v := s4) updO) | ((refine (HC4.out _ (hL.row (.there .here)) (HS4.out.hold hL)).mono ?_); rintro e _ ⟨rfl, rfl⟩; replace hL := hL.setCell (b := b) (o := 0) (v := s5) updO)); simp only [List.setIfInBounds_toArray, List.set_cons_zero] at hL) | ((with_reducible refine wpA_load rfl _ _ rfl _ rfl ?_); refine loadO hL HG.out ?_) | (first | (clear hL n1; with_reducible intro b1 w1 hL) | (clear hL; with_reducible intro _ _ hL)) | (with_reducible refine wpC_alloc rfl _ rfl _ _ inferInstance hL ?_) | (with_reducible first | refine wpB_agg rfl _ _ _ rfl rfl hL ?_ | refine wpB_one rfl _ _ (.int _ _) rfl rfl rfl hL ?_ | refine wpB_one rfl _ _ (.slice _ _ _) rfl rfl rfl hL ?_ | refine wpB_one rfl _ _ (.bool _) rfl rfl rfl hL ?_ | refine wpB_one rfl _ _ (.pointer _) rfl rfl rfl hL ?_ | refine wpB_one rfl _ _ (.func _ _ _) rfl rfl rfl hL ?_) | (with_reducible first | refine wpH_max rfl _ _ _ _ rfl _ _ rfl rfl ?_ | refine wpH_min rfl _ _ _ _ rfl _ _ rfl rfl ?_) | ((with_reducible refine wpA_load rfl _ _ rfl _ rfl ?_); first | refine loadA hL ?_ | refine loadR hL ?_ | refine loadC hL ?_ | refine loadD ?_ | refine loadE hL ?_ | refine loadF ?_) | ((with_reducible refine wpA_index rfl _ _ _ rfl _ rfl _ rfl ?_); first | (refine indexA ?_; try rw [Int.toNat_natCast]) | refine indexC ?_) | ((with_reducible refine wpA_store rfl _ _ _ rfl _ rfl (.agg _) rfl ?_); refine storeR hL ?_; clear hL; intro _ hL) | ((with_reducible first | refine wpA_store rfl _ _ _ rfl _ rfl (.int _ _) rfl ?_ | refine wpA_store rfl _ _ _ rfl _ rfl (.slice _ _ _) rfl ?_ | refine wpA_store rfl _ _ _ rfl _ rfl (.bool _) rfl ?_ | refine wpA_store rfl _ _ _ rfl _ rfl (.pointer _) rfl ?_ | refine wpA_store rfl _ _ _ rfl _ rfl (.func _ _ _) rfl ?_); (first | refine storeA hL ?_ | refine storeO hL ?_); (clear hL; intro _ hL)) | ((with_reducible refine wpA_lit rfl _ _ _ rfl ?_); first | refine litA1 hL ?_ | refine litA2 hL ?_ | refine litA3 hL ?_ | refine litA4 hL ?_ | refine litA6 hL ?_) | ((with_reducible refine wpA_append rfl _ _ _ rfl (.slice _ _ _) rfl ?_); intro vq hvq; simp [go_sem] at hvq; subst hvq; refine appendA hL ?_; clear hL; intro _ _ _ hL; try dsimp only at hL) | ((with_reducible refine wpA_make rfl _ _ _ rfl _ rfl rfl ?_); refine makeA hL ?_))
      go_ret
      refine ⟨_, _, rfl, by rw [HR.out]; exact HS5.out, ?_⟩
      rw [HR.out, List.map_append, List.flatten_append]
      exact hL
    · obtain ⟨q0, q1, q2, q3, hb⟩ := h7
      have HR := Lib.hid (show segP p bows n = (⟨2, coI n.tail, coI n.tail.tail, 0, 0⟩, n.tail.tail.tail) by unfold segP; rw [if_neg (by omega), if_neg (by omega), if_neg (by rw [hb]; simp)])
      have d0 : (la == 0) = false := by simp; omega
      have d1 : (la == 4) = false := by simp; omega
      have d2 : (k == 0) = false := by simp; omega
      have d3 : (k == 1) = false := by simp; omega
      have d4 : decide (k < 5) = true := by simp; omega
      have HK := Lib.hid hk; have HLa := Lib.hid hla; clear hk hla
      generalize segP p bows n = R at *
      subst hb
      clear q0 q1 q2 q3
      have n1 : True := trivial
      go_enter Try.func53, Try.ntmps53
      go_wp2_with (first | (go_at_call 81; (refine (HC0.out _ (hL.row (.there .here)) (HS.out.hold hL)).mono ?_); rintro e _ ⟨rfl, rfl⟩; replace hL := hL.setCell (b := b) (o := 0) (v := s1) updO; simp only [List.setIfInBounds_toArray, List.set_cons_zero] at hL) | (go_at_call 82; (first | ((refine (HC1.out _ (hL.row (.there .here)) (HS1.out.hold hL)).mono ?_); rintro e _ ⟨rfl, rfl⟩; replace hL := hL.setCell (b := b) (o := 0) (v := s2) updO) | ((refine (HC2.out _ (hL.row (.there .here)) (HS2.out.hold hL)).mono ?_); rintro e _ ⟨rfl, rfl⟩; replace hL := hL.setCell (b := b) (o := 0) (v := s3) updO) | ((refine (HC3.out _ (hL.row (.there .here)) (HS3.out.hold hL)).mono ?_); rintro e _ ⟨rfl, rfl⟩; replace hL := hL.setCell (b := b) (o := 0) (v := s4) updO) | ((refine (HC4.out _ (hL.row (.there .here)) (HS4.out.hold hL)).mono ?_); rintro e _ ⟨rfl, rfl⟩; replace hL := hL.setCell (b := b) (o := 0) (v := s5) updO)); simp only [List.setIfInBounds_toArray, List.set_cons_zero] at hL) | ((with_reducible refine wpA_load rfl _ _ rfl _ rfl ?_); refine loadO hL HG.out ?_) | (first | (clear hL n1; with_reducible intro b1 w1 hL) | (clear hL; with_reducible intro _ _ hL)) | (with_reducible refine wpC_alloc rfl _ rfl _ _ inferInstance hL ?_) | (with_reducible first | refine wpB_agg rfl _ _ _ rfl rfl hL ?_ | refine wpB_one rfl _ _ (.int _ _) rfl rfl rfl hL ?_ | refine wpB_one rfl _ _ (.slice _ _ _) rfl rfl rfl hL ?_ | refine wpB_one rfl _ _ (.bool _) rfl rfl rfl hL ?_ | refine wpB_one rfl _ _ (.pointer _) rfl rfl rfl hL ?_ | refine wpB_one rfl _ _ (.func _ _ _) rfl rfl rfl hL ?_) | (with_reducible first | refine wpH_max rfl _ _ _ _ rfl _ _ rfl rfl ?_ | refine wpH_min rfl _ _ _ _ rfl _ _ rfl rfl ?_) | ((with_reducible refine wpA_load rfl _ _ rfl _ rfl ?_); first | refine loadA hL ?_ | refine loadR hL ?_ | refine loadC hL ?_ | refine loadD ?_ | refine loadE hL ?_ | refine loadF ?_) | ((with_reducible refine wpA_index rfl _ _ _ rfl _ rfl _ rfl ?_); first | (refine indexA ?_; try rw [Int.toNat_natCast]) | refine indexC ?_) | ((with_reducible refine wpA_store rfl _ _ _ rfl _ rfl (.agg _) rfl ?_); refine storeR hL ?_; clear hL; intro _ hL) | ((with_reducible first | refine wpA_store rfl _ _ _ rfl _ rfl (.int _ _) rfl ?_ | refine wpA_store rfl _ _ _ rfl _ rfl (.slice _ _ _) rfl ?_ | refine wpA_store rfl _ _ _ rfl _ rfl (.bool _) rfl ?_ | refine wpA_store rfl _ _ _ rfl _ rfl (.pointer _) rfl ?_ | refine wpA_store rfl _ _ _ rfl _ rfl (.func _ _ _) rfl ?_); (first | refine storeA hL ?_ | refine storeO hL ?_); (clear hL; intro _ hL)) | ((with_reducible refine wpA_lit rfl _ _ _ rfl ?_); first | refine litA1 hL ?_ | refine litA2 hL ?_ | refine litA3 hL ?_ | refine litA4 hL ?_ | refine litA6 hL ?_) | ((with_reducible refine wpA_append rfl _ _ _ rfl (.slice _ _ _) rfl ?_); intro vq hvq; simp [go_sem] at hvq; subst hvq; refine appendA hL ?_; clear hL; intro _ _ _ hL; try dsimp only at hL) | ((with_reducible refine wpA_make rfl _ _ _ rfl _ rfl rfl ?_); refine makeA hL ?_))
      go_ret
      refine ⟨_, _, rfl, by rw [HR.out]; exact HS3.out, ?_⟩
      rw [HR.out, List.map_append, List.flatten_append]
      exact hL
    · obtain ⟨q0, q1, q2⟩ := h8
      have HR := Lib.hid (show segP p bows n = (⟨2, coI n.tail, coI n.tail.tail, 0, 0⟩, n.tail.tail.tail) by unfold segP; rw [if_neg (by omega), if_neg (by omega), if_neg (by omega)])
      have d0 : (la == 0) = false := by simp; omega
      have d1 : (la == 4) = false := by simp; omega
      have d2 : (k == 0) = false := by simp; omega
      have d3 : (k == 1) = false := by simp; omega
      have d4 : decide (k < 5) = false := by simp; omega
      have HK := Lib.hid hk; have HLa := Lib.hid hla; clear hk hla
      generalize segP p bows n = R at *
      clear q0 q1 q2
      have n1 : True := trivial
      go_enter Try.func53, Try.ntmps53
      go_wp2_with (first | (go_at_call 81; (refine (HC0.out _ (hL.row (.there .here)) (HS.out.hold hL)).mono ?_); rintro e _ ⟨rfl, rfl⟩; replace hL := hL.setCell (b := b) (o := 0) (v := s1) updO; simp only [List.setIfInBounds_toArray, List.set_cons_zero] at hL) | (go_at_call 82; (first | ((refine (HC1.out _ (hL.row (.there .here)) (HS1.out.hold hL)).mono ?_); rintro e _ ⟨rfl, rfl⟩; replace hL := hL.setCell (b := b) (o := 0) (v := s2) updO) | ((refine (HC2.out _ (hL.row (.there .here)) (HS2.out.hold hL)).mono ?_); rintro e _ ⟨rfl, rfl⟩; replace hL := hL.setCell (b := b) (o := 0) (v := s3) updO) | ((refine (HC3.out _ (hL.row (.there .here)) (HS3.out.hold hL)).mono ?_); rintro e _ ⟨rfl, rfl⟩; replace hL := hL.setCell (b := b) (o := 0) (v := s4) updO) | ((refine (HC4.out _ (hL.row (.there .here)) (HS4.out.hold hL)).mono ?_); rintro e _ ⟨rfl, rfl⟩; replace hL := hL.setCell (b := b) (o := 0) (v := s5) updO)); simp only [List.setIfInBounds_toArray, List.set_cons_zero] at hL) | ((with_reducible refine wpA_load rfl _ _ rfl _ rfl ?_); refine loadO hL HG.out ?_) | (first | (clear hL n1; with_reducible intro b1 w1 hL) | (clear hL; with_reducible intro _ _ hL)) | (with_reducible refine wpC_alloc rfl _ rfl _ _ inferInstance hL ?_) | (with_reducible first | refine wpB_agg rfl _ _ _ rfl rfl hL ?_ | refine wpB_one rfl _ _ (.int _ _) rfl rfl rfl hL ?_ | refine wpB_one rfl _ _ (.slice _ _ _) rfl rfl rfl hL ?_ | refine wpB_one rfl _ _ (.bool _) rfl rfl rfl hL ?_ | refine wpB_one rfl _ _ (.pointer _) rfl rfl rfl hL ?_ | refine wpB_one rfl _ _ (.func _ _ _) rfl rfl rfl hL ?_) | (with_reducible first | refine wpH_max rfl _ _ _ _ rfl _ _ rfl rfl ?_ | refine wpH_min rfl _ _ _ _ rfl _ _ rfl rfl ?_) | ((with_reducible refine wpA_load rfl _ _ rfl _ rfl ?_); first | refine loadA hL ?_ | refine loadR hL ?_ | refine loadC hL ?_ | refine loadD ?_ | refine loadE hL ?_ | refine loadF ?_) | ((with_reducible refine wpA_index rfl _ _ _ rfl _ rfl _ rfl ?_); first | (refine indexA ?_; try rw [Int.toNat_natCast]) | refine indexC ?_) | ((with_reducible refine wpA_store rfl _ _ _ rfl _ rfl (.agg _) rfl ?_); refine storeR hL ?_; clear hL; intro _ hL) | ((with_reducible first | refine wpA_store rfl _ _ _ rfl _ rfl (.int _ _) rfl ?_ | refine wpA_store rfl _ _ _ rfl _ rfl (.slice _ _ _) rfl ?_ | refine wpA_store rfl _ _ _ rfl _ rfl (.bool _) rfl ?_ | refine wpA_store rfl _ _ _ rfl _ rfl (.pointer _) rfl ?_ | refine wpA_store rfl _ _ _ rfl _ rfl (.func _ _ _) rfl ?_); (first | refine storeA hL ?_ | refine storeO hL ?_); (clear hL; intro _ hL)) | ((with_reducible refine wpA_lit rfl _ _ _ rfl ?_); first | refine litA1 hL ?_ | refine litA2 hL ?_ | refine litA3 hL ?_ | refine litA4 hL ?_ | refine litA6 hL ?_) | ((with_reducible refine wpA_append rfl _ _ _ rfl (.slice _ _ _) rfl ?_); intro vq hvq; simp [go_sem] at hvq; subst hvq; refine appendA hL ?_; clear hL; intro _ _ _ hL; try dsimp only at hL) | ((with_reducible refine wpA_make rfl _ _ _ rfl _ rfl rfl ?_); refine makeA hL ?_))
      go_ret
      refine ⟨_, _, rfl, by rw [HR.out]; exact HS3.out, ?_⟩
      rw [HR.out, List.map_append, List.flatten_append]
      exact hL
open Go.RowKit

def SegsOut (l : List Sg) (w : World) (e : Ending) (w' : World) : Prop := ∃ v, e = .returned v ∧ Below w.heap.size w w' ∧ Fresh w w' (fun w => SegsAt w v l)
def madeF (b : Bool) : Nat → List Sg → List Int → List Sg
  | 0, p, _ => p
  | f + 1, p, n => if n.length = 0 then p else madeF b f (p ++ [(segP p b n).1]) (segP p b n).2
def madeS (n : List Int) (b : Bool) : List Sg := madeF b 12 [] n
def lenV : Value → Nat
  | .slice _ n _ => n
  | _ => 0

theorem own_segs {w0 w : World} {e : TypeId} {a : Option Addr} {cap : Nat} {p : List Sg} {M : List Res} {Φ : List (World → Prop)} (hL : Holds w0 w (own w0.heap.size e 5 (.slice a p.length cap) p.length (p.map segC).flatten :: M) Φ) :
    Fresh w0 w (fun w => SegsAt w (.slice a p.length cap) p) :=
  (hL.settle .here (φ := fun w => SegsAt w (.slice a p.length cap) p) fun w h => own_sliceAt h (by simp) rfl (segC_len p)).fresh

set_option maxRecDepth 100000 in
set_option maxHeartbeats 4000000 in
theorem made_calls (w : World) (v : Value) (n : List Int) (hv : NumsAt w v n) (bows : Bool) : Calls Try.prog 25 #[v, .bool bows] w (SegsOut (madeS n bows) w) := by
  have hL := Holds.start w
  have HV := Lib.hid hv
  have HM := Lib.hid (show madeS n bows = madeF bows 12 [] n from rfl)
  generalize madeS n bows = L at *
  obtain ⟨va, vc, rfl, _⟩ := hv.parts
  clear hv
  have n1 : True := trivial
  go_enter Try.func25, Try.ntmps25
  go_wp2_with (first | (first | (clear hL n1; with_reducible intro b1 w1 hL) | (clear hL; with_reducible intro _ _ hL)) | (with_reducible refine wpC_alloc rfl _ rfl _ _ inferInstance hL ?_) | (with_reducible first | refine wpB_agg rfl _ _ _ rfl rfl hL ?_ | refine wpB_one rfl _ _ (.int _ _) rfl rfl rfl hL ?_ | refine wpB_one rfl _ _ (.slice _ _ _) rfl rfl rfl hL ?_ | refine wpB_one rfl _ _ (.bool _) rfl rfl rfl hL ?_ | refine wpB_one rfl _ _ (.pointer _) rfl rfl rfl hL ?_ | refine wpB_one rfl _ _ (.func _ _ _) rfl rfl rfl hL ?_) | (with_reducible first | refine wpH_max rfl _ _ _ _ rfl _ _ rfl rfl ?_ | refine wpH_min rfl _ _ _ _ rfl _ _ rfl rfl ?_) | ((with_reducible refine wpA_load rfl _ _ rfl _ rfl ?_); first | refine loadA hL ?_ | refine loadR hL ?_ | refine loadC hL ?_ | refine loadD ?_ | refine loadE hL ?_ | refine loadF ?_) | ((with_reducible refine wpA_index rfl _ _ _ rfl _ rfl _ rfl ?_); first | (refine indexA ?_; try rw [Int.toNat_natCast]) | refine indexC ?_) | ((with_reducible refine wpA_store rfl _ _ _ rfl _ rfl (.agg _) rfl ?_); refine storeR hL ?_; clear hL; intro _ hL) | ((with_reducible first | refine wpA_store rfl _ _ _ rfl _ rfl (.int _ _) rfl ?_ | refine wpA_store rfl _ _ _ rfl _ rfl (.slice _ _ _) rfl ?_ | refine wpA_store rfl _ _ _ rfl _ rfl (.bool _) rfl ?_ | refine wpA_store rfl _ _ _ rfl _ rfl (.pointer _) rfl ?_ | refine wpA_store rfl _ _ _ rfl _ rfl (.func _ _ _) rfl ?_); (first | refine storeA hL ?_ | refine storeO hL ?_); (clear hL; intro _ hL)) | ((with_reducible refine wpA_lit rfl _ _ _ rfl ?_); first | refine litA1 hL ?_ | refine litA2 hL ?_) | ((with_reducible refine wpA_append rfl _ _ _ rfl (.slice _ _ _) rfl ?_); intro vq hvq; simp [go_sem] at hvq; subst hvq; refine appendA hL ?_; clear hL; intro _ _ _ hL; try dsimp only at hL) | ((with_reducible refine wpA_make rfl _ _ _ rfl _ rfl rfl ?_); refine makeA hL ?_))
  generalize b1 = bp at *
  go_loopw [6] (fun s6 wr => ∃ (p : List Sg) (s : Value) (m : List Int) (f : Nat), p.length + f = 12 ∧ L = madeF bows f p m ∧ NumsAt w s m ∧ Holds w wr [own w.heap.size 51 5 s6 p.length (p.map segC).flatten, blk bp #[s] 96] [])
    (fun s6 wr => 12 - lenV s6)
  case atStart => exact ⟨[], _, n, 12, rfl, HM.out, HV.out, hL.newOwn⟩
  case round =>
    clear hL
    obtain ⟨p, s, m, f, hf, hLe, hs, hL⟩ := hrel
    obtain ⟨sa, sc, rfl, _⟩ := hs.parts
    have HS := Lib.hid hs
    have HLe := Lib.hid hLe
    clear hs hLe
    obtain ⟨ga, gc, rfl⟩ := own_slice hL .here
    by_cases hgo : 0 < m.length ∧ p.length < 12
    · obtain ⟨hg1, hg2⟩ := hgo
      have hg1' : (0 : Int) < (m.length : Int) := by omega
      have hg2' : (p.length : Int) < 12 := by omega
      obtain ⟨f, rfl⟩ : ∃ f', f = f' + 1 := ⟨f - 1, by omega⟩
      have HN := Lib.hid (show L = madeF bows f (p ++ [(segP p bows m).1]) (segP p bows m).2 by rw [HLe.out, madeF, if_neg (by omega)])
      clear HLe
      go_wp2_with (first | (go_at_call 53; (refine (seg_calls hL HS.out hg2).mono ?_); clear hL; rintro e _ ⟨v', s', rfl, hs', hL⟩; have HS' := Lib.hid hs'; clear hs') | (first | (clear hL n1; with_reducible intro b1 w1 hL) | (clear hL; with_reducible intro _ _ hL)) | (with_reducible refine wpC_alloc rfl _ rfl _ _ inferInstance hL ?_) | (with_reducible first | refine wpB_agg rfl _ _ _ rfl rfl hL ?_ | refine wpB_one rfl _ _ (.int _ _) rfl rfl rfl hL ?_ | refine wpB_one rfl _ _ (.slice _ _ _) rfl rfl rfl hL ?_ | refine wpB_one rfl _ _ (.bool _) rfl rfl rfl hL ?_ | refine wpB_one rfl _ _ (.pointer _) rfl rfl rfl hL ?_ | refine wpB_one rfl _ _ (.func _ _ _) rfl rfl rfl hL ?_) | (with_reducible first | refine wpH_max rfl _ _ _ _ rfl _ _ rfl rfl ?_ | refine wpH_min rfl _ _ _ _ rfl _ _ rfl rfl ?_) | ((with_reducible refine wpA_load rfl _ _ rfl _ rfl ?_); first | refine loadA hL ?_ | refine loadR hL ?_ | refine loadC hL ?_ | refine loadD ?_ | refine loadE hL ?_ | refine loadF ?_) | ((with_reducible refine wpA_index rfl _ _ _ rfl _ rfl _ rfl ?_); first | (refine indexA ?_; try rw [Int.toNat_natCast]) | refine indexC ?_) | ((with_reducible refine wpA_store rfl _ _ _ rfl _ rfl (.agg _) rfl ?_); refine storeR hL ?_; clear hL; intro _ hL) | ((with_reducible first | refine wpA_store rfl _ _ _ rfl _ rfl (.int _ _) rfl ?_ | refine wpA_store rfl _ _ _ rfl _ rfl (.slice _ _ _) rfl ?_ | refine wpA_store rfl _ _ _ rfl _ rfl (.bool _) rfl ?_ | refine wpA_store rfl _ _ _ rfl _ rfl (.pointer _) rfl ?_ | refine wpA_store rfl _ _ _ rfl _ rfl (.func _ _ _) rfl ?_); (first | refine storeA hL ?_ | refine storeO hL ?_); (clear hL; intro _ hL)) | ((with_reducible refine wpA_lit rfl _ _ _ rfl ?_); first | refine litA1 hL ?_ | refine litA2 hL ?_) | ((with_reducible refine wpA_append rfl _ _ _ rfl (.slice _ _ _) rfl ?_); intro vq hvq; simp [go_sem] at hvq; subst hvq; refine appendA hL ?_; clear hL; intro _ _ _ hL; try dsimp only at hL) | ((with_reducible refine wpA_make rfl _ _ _ rfl _ rfl rfl ?_); refine makeA hL ?_))
      go_roundw
      case rel => exact ⟨_, s', _, f, by rw [List.length_append]; simp only [List.length_cons, List.length_nil]; omega, HN.out, HS'.out, by rw [List.length_append]; exact hL⟩
      case measure =>
        obtain ⟨ga', gc', rfl⟩ := own_slice hL .here
        simp [lenV]; omega
    · have hL2 : L = p := by
        rw [HLe.out]
        cases f with
        | zero => rfl
        | succ f => rw [madeF, if_pos (by omega)]
      subst hL2
      clear HLe HM
      rcases (by omega : m.length = 0 ∨ (0 < m.length ∧ L.length = 12)) with h0 | ⟨h0, h12⟩
      · have h0' : ¬ (0 : Int) < (m.length : Int) := by omega
        clear h0 hgo hf
        go_wp2_with (first | (first | (clear hL n1; with_reducible intro b1 w1 hL) | (clear hL; with_reducible intro _ _ hL)) | (with_reducible refine wpC_alloc rfl _ rfl _ _ inferInstance hL ?_) | (with_reducible first | refine wpB_agg rfl _ _ _ rfl rfl hL ?_ | refine wpB_one rfl _ _ (.int _ _) rfl rfl rfl hL ?_ | refine wpB_one rfl _ _ (.slice _ _ _) rfl rfl rfl hL ?_ | refine wpB_one rfl _ _ (.bool _) rfl rfl rfl hL ?_ | refine wpB_one rfl _ _ (.pointer _) rfl rfl rfl hL ?_ | refine wpB_one rfl _ _ (.func _ _ _) rfl rfl rfl hL ?_) | (with_reducible first | refine wpH_max rfl _ _ _ _ rfl _ _ rfl rfl ?_ | refine wpH_min rfl _ _ _ _ rfl _ _ rfl rfl ?_) | ((with_reducible refine wpA_load rfl _ _ rfl _ rfl ?_); first | refine loadA hL ?_ | refine loadR hL ?_ | refine loadC hL ?_ | refine loadD ?_ | refine loadE hL ?_ | refine loadF ?_) | ((with_reducible refine wpA_index rfl _ _ _ rfl _ rfl _ rfl ?_); first | (refine indexA ?_; try rw [Int.toNat_natCast]) | refine indexC ?_) | ((with_reducible refine wpA_store rfl _ _ _ rfl _ rfl (.agg _) rfl ?_); refine storeR hL ?_; clear hL; intro _ hL) | ((with_reducible first | refine wpA_store rfl _ _ _ rfl _ rfl (.int _ _) rfl ?_ | refine wpA_store rfl _ _ _ rfl _ rfl (.slice _ _ _) rfl ?_ | refine wpA_store rfl _ _ _ rfl _ rfl (.bool _) rfl ?_ | refine wpA_store rfl _ _ _ rfl _ rfl (.pointer _) rfl ?_ | refine wpA_store rfl _ _ _ rfl _ rfl (.func _ _ _) rfl ?_); (first | refine storeA hL ?_ | refine storeO hL ?_); (clear hL; intro _ hL)) | ((with_reducible refine wpA_lit rfl _ _ _ rfl ?_); first | refine litA1 hL ?_ | refine litA2 hL ?_) | ((with_reducible refine wpA_append rfl _ _ _ rfl (.slice _ _ _) rfl ?_); intro vq hvq; simp [go_sem] at hvq; subst hvq; refine appendA hL ?_; clear hL; intro _ _ _ hL; try dsimp only at hL) | ((with_reducible refine wpA_make rfl _ _ _ rfl _ rfl rfl ?_); refine makeA hL ?_))
        go_ret
        exact ⟨_, rfl, hL.below, own_segs hL⟩
      · have h0' : (0 : Int) < (m.length : Int) := by omega
        have h12' : ¬ (L.length : Int) < 12 := by omega
        clear h0 h12 hgo hf
        go_wp2_with (first | (first | (clear hL n1; with_reducible intro b1 w1 hL) | (clear hL; with_reducible intro _ _ hL)) | (with_reducible refine wpC_alloc rfl _ rfl _ _ inferInstance hL ?_) | (with_reducible first | refine wpB_agg rfl _ _ _ rfl rfl hL ?_ | refine wpB_one rfl _ _ (.int _ _) rfl rfl rfl hL ?_ | refine wpB_one rfl _ _ (.slice _ _ _) rfl rfl rfl hL ?_ | refine wpB_one rfl _ _ (.bool _) rfl rfl rfl hL ?_ | refine wpB_one rfl _ _ (.pointer _) rfl rfl rfl hL ?_ | refine wpB_one rfl _ _ (.func _ _ _) rfl rfl rfl hL ?_) | (with_reducible first | refine wpH_max rfl _ _ _ _ rfl _ _ rfl rfl ?_ | refine wpH_min rfl _ _ _ _ rfl _ _ rfl rfl ?_) | ((with_reducible refine wpA_load rfl _ _ rfl _ rfl ?_); first | refine loadA hL ?_ | refine loadR hL ?_ | refine loadC hL ?_ | refine loadD ?_ | refine loadE hL ?_ | refine loadF ?_) | ((with_reducible refine wpA_index rfl _ _ _ rfl _ rfl _ rfl ?_); first | (refine indexA ?_; try rw [Int.toNat_natCast]) | refine indexC ?_) | ((with_reducible refine wpA_store rfl _ _ _ rfl _ rfl (.agg _) rfl ?_); refine storeR hL ?_; clear hL; intro _ hL) | ((with_reducible first | refine wpA_store rfl _ _ _ rfl _ rfl (.int _ _) rfl ?_ | refine wpA_store rfl _ _ _ rfl _ rfl (.slice _ _ _) rfl ?_ | refine wpA_store rfl _ _ _ rfl _ rfl (.bool _) rfl ?_ | refine wpA_store rfl _ _ _ rfl _ rfl (.pointer _) rfl ?_ | refine wpA_store rfl _ _ _ rfl _ rfl (.func _ _ _) rfl ?_); (first | refine storeA hL ?_ | refine storeO hL ?_); (clear hL; intro _ hL)) | ((with_reducible refine wpA_lit rfl _ _ _ rfl ?_); first | refine litA1 hL ?_ | refine litA2 hL ?_) | ((with_reducible refine wpA_append rfl _ _ _ rfl (.slice _ _ _) rfl ?_); intro vq hvq; simp [go_sem] at hvq; subst hvq; refine appendA hL ?_; clear hL; intro _ _ _ hL; try dsimp only at hL) | ((with_reducible refine wpA_make rfl _ _ _ rfl _ rfl rfl ?_); refine makeA hL ?_))
        go_ret
        exact ⟨_, rfl, hL.below, own_segs hL⟩

open Go.RowKit

theorem Holds.fact2 {w0 w : World} {M : List Res} {Φ : List (World → Prop)} {a b φ : World → Prop} (h : Holds w0 w M (a :: b :: φ :: Φ)) : φ w := h.fact (.tail _ (.tail _ (.head _)))
/-- of a slice of n elements, those from l to h -/
theorem SliceAt.part {w : World} {size n c : Nat} {a : Option Addr} {els : List (List Value)} (h : SliceAt w size (.slice a n c) els) {l m : Nat} (h1 : l ≤ m) (h2 : m ≤ n) : SliceAt w size (sliced a l m c size) ((els.take m).drop l) := by
  obtain ⟨a', c', he, hlc, hcm, hel⟩ := h
  injection he with e1 e2 e3
  subst e1; subst e2; subst e3
  have hlen : ((els.take m).drop l).length = m - l := by simp; omega
  refine ⟨if c = l then a else a.map (·.add (l * size)), c - l, by unfold sliced; rw [hlen], by omega, by omega, fun i hi => ?_⟩
  rw [hlen] at hi
  obtain ⟨b, o, e, hr⟩ := hel (l + i) (by omega)
  subst e
  rw [if_neg (by omega)]
  refine ⟨b, o + l * size, by simp [Addr.add], ?_⟩
  rw [List.getElem_drop, List.getElem_take]
  rwa [Nat.add_mul, ← Nat.add_assoc] at hr
section
variable {P : Program} {w0 w : World} {M M' : List Res} {Φ : List (World → Prop)} {K2 : Value → World → Prop}
end
open Go.RowKit

theorem Holds.range {w0 w : World} {M : List Res} {Φ : List (World → Prop)} {b : Nat} {cs : Array Value} {T : TypeId} (hL : Holds w0 w M Φ) (hat : At M (blk b cs T)) : w.rangeAt b 0 cs.toList := fun j v hv => by
  rw [Nat.zero_add, hL.cell hat]; simpa using hv
theorem Holds.segsLit {w0 w : World} {M : List Res} {Φ : List (World → Prop)} {b : Nat} {cs : Array Value} {T : TypeId} (l : List Sg) (hL : Holds w0 w M Φ) (k : At M (blk b cs T)) (hcs : cs.toList = (l.map segC).flatten) (hm : l.length ≤ maxLen) : SegsAt w (.slice (some ⟨b, 0, none⟩) l.length l.length) l := by
  refine ⟨_, l.length, by simp, by simp, hm, fun i hi => ⟨b, 0, rfl, fun j v hj => ?_⟩⟩
  rw [hL.cell k, ← Array.getElem?_toList, hcs, Nat.zero_add]
  exact flatten_get (segC_len l) i hi j v hj
end Go.Proofs.Ytfnolaoohmecbaa
