/- Package path: Shift, where points may leave the bounds. -/
import Derived.Test.YtmnoeoecjfhhbaaGreatShM
import Derived.Test.YtmnoeoecjfhhbaaGreatIm6
-- lit6
-- layer 43
namespace Go.Proofs.YtmnoeoecjfhhbaaGreat
open Go.RowKit

theorem moveS_add (dx dy : Int) (s : Sg) (hd : -400 ≤ dx ∧ dx ≤ 400 ∧ -400 ≤ dy ∧ dy ≤ 400) (hs : nearS s = true) : (-9000 ≤ s.x + dx ∧ s.x + dx ≤ 9000) ∧ (-9000 ≤ s.y + dy ∧ s.y + dy ≤ 9000) ∧ (-9000 ≤ s.cx + dx ∧ s.cx + dx ≤ 9000) ∧ (-9000 ≤ s.cy + dy ∧ s.cy + dy ≤ 9000) := by
  have := nearS_bd hs
  omega
set_option maxRecDepth 100000 in
set_option maxHeartbeats 8000000 in
theorem shiftNo_calls (w : World) (v : Value) (l : List Sg) (hv : SegsAt w v l) (dx dy : Int) (hd : -400 ≤ dx ∧ dx ≤ 400 ∧ -400 ≤ dy ∧ dy ≤ 400) (hm : pathMay l = true) (hns : ∀ s ∈ l, nearS s = true) (hno : ¬ ∀ k, k < l.length → nearS (moveS dx dy (l.getD k default)) = true) : Calls Tryz.prog 32 #[v, .int .i64 dx, .int .i64 dy] w fun e w' => e = .returned (.tuple #[.slice none 0 0, .int .i64 2]) ∧ Below w.heap.size w w' := by
  have Hv := Lib.hid hv
  obtain ⟨a, cap, rfl, hlc, hcm, hel⟩ := hv.parts
  clear hv
  unfold maxLen at hcm
  have Hel := Lib.hid hel; clear hel
  have hL := Holds.start w
  have hmm : l.length ≤ 300 ∧ maySF 0 l = true := by simpa [pathMay] using hm
  have hl300 := hmm.1
  clear hmm
  have HM := Lib.hid hm; clear hm
  have HN := Lib.hid hns; clear hns
  have HNo := Lib.hid hno; clear hno
  have HD := Lib.hid hd
  go_enter Tryz.func32, Tryz.ntmps32
  go_wp2_with (first | (go_at_call 45; (with_reducible refine (pathMay_calls _ _ l (Hv.out.hold hL)).mono ?_); rintro e _ ⟨rfl, hb⟩; rw [HM.out]; replace hL := hL.call hb; clear hb) | (with_reducible first | (clear hL; intro _ _ _ hL; try dsimp only at hL) | (clear hL; intro _ _ hL) | (clear hL; intro _ hL)) | ((with_reducible refine wpA_lit rfl _ _ _ rfl ?_); first | refine litA1 hL ?_ | refine litA2 hL ?_ | refine litA3 hL ?_ | refine litA4 hL ?_ | refine litA6 hL ?_) | ((with_reducible refine goJ rfl ?_); refine goW ?_))
  go_loopw [8, 16] (fun s8 s16 wr => ∃ (k : Nat) (xs : List Value), k ≤ l.length ∧ s16 = .int .i64 k ∧ (∀ j, j < k → nearS (moveS dx dy (l.getD j default)) = true) ∧ Holds w wr [own w.heap.size 78 5 s8 k xs] [])
    (fun s8 s16 wr => l.length - (intOf s16).toNat)
  case atStart => exact ⟨0, [], by omega, rfl, fun j hj => absurd hj (by omega), hL.newOwn⟩
  case round =>
    clear hL
    obtain ⟨k, xs, hk, rfl, hall, hL⟩ := hrel
    obtain ⟨ga, gc, rfl⟩ := own_slice hL .here
    by_cases hkt : k < l.length
    · obtain ⟨b, o, rfl, hc⟩ := Hel.out k hkt
      have hkb : (k : Int) < (l.length : Int) := by omega
      have hn1 := HN.out (l.getD k default) (by rw [show l.getD k default = l[k] by simp [hkt]]; exact List.getElem_mem hkt)
      obtain ⟨c1, c2, c3, c4⟩ := moveS_add dx dy _ HD.out hn1
      obtain ⟨b1, b2, b3, b4⟩ := nearS_bd hn1
      have Hall := Lib.hid (show nearS (moveS dx dy (l.getD k default)) = true → ∀ j, j < k + 1 → nearS (moveS dx dy (l.getD j default)) = true from fun h j hj => by
        by_cases e : j = k
        · subst e; exact h
        · exact hall j (by omega))
      clear hall hn1
      generalize l.getD k default = s at *
      obtain ⟨kind, x, y, cx, cy⟩ := s
      unfold segC at hc
      dsimp only at hc b1 b2 b3 b4 c1 c2 c3 c4
      rcases (by omega : kind = 4 ∨ kind = 3 ∨ (kind ≠ 4 ∧ kind ≠ 3)) with h | h | ⟨h, h2⟩
      · subst h
        have HE : Hid (nearS (moveS dx dy ⟨4, x, y, cx, cy⟩) = [x, y, cx, cy].all near1) := Lib.hid rfl
        obtain ⟨n1, n2, n3⟩ := tok3
        cases hnr : [x, y, cx, cy].all near1 with
        | true =>
          have HNr := Lib.hid hnr
          clear hnr
          go_wp2_with (first | (go_at_call 74; (refine (pathNear_calls _ _ [x, y, cx, cy] (hL.numsLit [x, y, cx, cy] atO (by rfl))).mono ?_); rintro e _ ⟨rfl, hb⟩; rw [HNr.out]; replace hL := hL.call hb; clear hb) | (with_reducible first | (clear hL; intro _ _ _ hL; try dsimp only at hL) | (clear hL n1; intro b1 w1 hL) | (clear hL n2; intro b2 w2 hL) | (clear hL n3; intro b3 w3 hL) | (clear hL; intro _ _ hL) | (clear hL; intro _ hL)) | ((with_reducible refine wpA_lit rfl _ _ _ rfl ?_); first | refine litA1 hL ?_ | refine litA2 hL ?_ | refine litA3 hL ?_ | refine litA4 hL ?_ | refine litA6 hL ?_) | ((with_reducible refine goJ rfl ?_); refine goW ?_))
          go_roundw
          case rel => exact ⟨k + 1, _, by omega, by go_num, Hall.out (HE.out.trans HNr.out), (hL.drop .here).drop .here⟩
          case measure => simp [intOf]; omega
        | false =>
          have HNr := Lib.hid hnr
          clear hnr
          go_wp2_with (first | (go_at_call 74; (refine (pathNear_calls _ _ [x, y, cx, cy] (hL.numsLit [x, y, cx, cy] atO (by rfl))).mono ?_); rintro e _ ⟨rfl, hb⟩; rw [HNr.out]; replace hL := hL.call hb; clear hb) | (with_reducible first | (clear hL; intro _ _ _ hL; try dsimp only at hL) | (clear hL n1; intro b1 w1 hL) | (clear hL n2; intro b2 w2 hL) | (clear hL n3; intro b3 w3 hL) | (clear hL; intro _ _ hL) | (clear hL; intro _ hL)) | ((with_reducible refine wpA_lit rfl _ _ _ rfl ?_); first | refine litA1 hL ?_ | refine litA2 hL ?_ | refine litA3 hL ?_ | refine litA4 hL ?_ | refine litA6 hL ?_) | ((with_reducible refine goJ rfl ?_); refine goW ?_))
          go_ret2
          exact ⟨rfl, hL.below⟩
      · subst h
        have HE : Hid (nearS (moveS dx dy ⟨3, x, y, cx, cy⟩) = [x + dx, y + dy, cx + dx, cy + dy].all near1) := Lib.hid rfl
        obtain ⟨n1, n2, n3⟩ := tok3
        cases hnr : [x + dx, y + dy, cx + dx, cy + dy].all near1 with
        | true =>
          have HNr := Lib.hid hnr
          clear hnr
          go_wp2_with (first | (go_at_call 74; (refine (pathNear_calls _ _ [x + dx, y + dy, cx + dx, cy + dy] (hL.numsLit [x + dx, y + dy, cx + dx, cy + dy] atO (by rfl))).mono ?_); rintro e _ ⟨rfl, hb⟩; rw [HNr.out]; replace hL := hL.call hb; clear hb) | (with_reducible first | (clear hL; intro _ _ _ hL; try dsimp only at hL) | (clear hL n1; intro b1 w1 hL) | (clear hL n2; intro b2 w2 hL) | (clear hL n3; intro b3 w3 hL) | (clear hL; intro _ _ hL) | (clear hL; intro _ hL)) | ((with_reducible refine wpA_lit rfl _ _ _ rfl ?_); first | refine litA1 hL ?_ | refine litA2 hL ?_ | refine litA3 hL ?_ | refine litA4 hL ?_ | refine litA6 hL ?_) | ((with_reducible refine goJ rfl ?_); refine goW ?_))
          go_roundw
          case rel => exact ⟨k + 1, _, by omega, by go_num, Hall.out (HE.out.trans HNr.out), (hL.drop .here).drop .here⟩
          case measure => simp [intOf]; omega
        | false =>
          have HNr := Lib.hid hnr
          clear hnr
          go_wp2_with (first | (go_at_call 74; (refine (pathNear_calls _ _ [x + dx, y + dy, cx + dx, cy + dy] (hL.numsLit [x + dx, y + dy, cx + dx, cy + dy] atO (by rfl))).mono ?_); rintro e _ ⟨rfl, hb⟩; rw [HNr.out]; replace hL := hL.call hb; clear hb) | (with_reducible first | (clear hL; intro _ _ _ hL; try dsimp only at hL) | (clear hL n1; intro b1 w1 hL) | (clear hL n2; intro b2 w2 hL) | (clear hL n3; intro b3 w3 hL) | (clear hL; intro _ _ hL) | (clear hL; intro _ hL)) | ((with_reducible refine wpA_lit rfl _ _ _ rfl ?_); first | refine litA1 hL ?_ | refine litA2 hL ?_ | refine litA3 hL ?_ | refine litA4 hL ?_ | refine litA6 hL ?_) | ((with_reducible refine goJ rfl ?_); refine goW ?_))
          go_ret2
          exact ⟨rfl, hL.below⟩
      · have HE : Hid (nearS (moveS dx dy ⟨kind, x, y, cx, cy⟩) = [x + dx, y + dy, cx, cy].all near1) := Lib.hid (by unfold moveS; rw [if_neg h, if_neg h2]; rfl)
        have d1 : (kind != 4) = true := by simp [h]
        have d2 : (kind == 3) = false := by simp [h2]
        clear h h2
        obtain ⟨n1, n2, n3⟩ := tok3
        cases hnr : [x + dx, y + dy, cx, cy].all near1 with
        | true =>
          have HNr := Lib.hid hnr
          clear hnr
          go_wp2_with (first | (go_at_call 74; (refine (pathNear_calls _ _ [x + dx, y + dy, cx, cy] (hL.numsLit [x + dx, y + dy, cx, cy] atO (by rfl))).mono ?_); rintro e _ ⟨rfl, hb⟩; rw [HNr.out]; replace hL := hL.call hb; clear hb) | (with_reducible first | (clear hL; intro _ _ _ hL; try dsimp only at hL) | (clear hL n1; intro b1 w1 hL) | (clear hL n2; intro b2 w2 hL) | (clear hL n3; intro b3 w3 hL) | (clear hL; intro _ _ hL) | (clear hL; intro _ hL)) | ((with_reducible refine wpA_lit rfl _ _ _ rfl ?_); first | refine litA1 hL ?_ | refine litA2 hL ?_ | refine litA3 hL ?_ | refine litA4 hL ?_ | refine litA6 hL ?_) | ((with_reducible refine goJ rfl ?_); refine goW ?_))
          go_roundw
          case rel => exact ⟨k + 1, _, by omega, by go_num, Hall.out (HE.out.trans HNr.out), (hL.drop .here).drop .here⟩
          case measure => simp [intOf]; omega
        | false =>
          have HNr := Lib.hid hnr
          clear hnr
          go_wp2_with (first | (go_at_call 74; (refine (pathNear_calls _ _ [x + dx, y + dy, cx, cy] (hL.numsLit [x + dx, y + dy, cx, cy] atO (by rfl))).mono ?_); rintro e _ ⟨rfl, hb⟩; rw [HNr.out]; replace hL := hL.call hb; clear hb) | (with_reducible first | (clear hL; intro _ _ _ hL; try dsimp only at hL) | (clear hL n1; intro b1 w1 hL) | (clear hL n2; intro b2 w2 hL) | (clear hL n3; intro b3 w3 hL) | (clear hL; intro _ _ hL) | (clear hL; intro _ hL)) | ((with_reducible refine wpA_lit rfl _ _ _ rfl ?_); first | refine litA1 hL ?_ | refine litA2 hL ?_ | refine litA3 hL ?_ | refine litA4 hL ?_ | refine litA6 hL ?_) | ((with_reducible refine goJ rfl ?_); refine goW ?_))
          go_ret2
          exact ⟨rfl, hL.below⟩
    · exact absurd (fun j hj => hall j (by omega)) HNo.out
end Go.Proofs.YtmnoeoecjfhhbaaGreat
