/- Package list: Band. -/
import Derived.Test.YtmnoeoecjfhhbaaGreatIm3
import Derived.Test.YtmnoeoecjfhhbaaGreatMskM
import Derived.Laws.CopyOwn
-- uses arrU
-- lit6
-- loadP
-- layer 43
namespace Go.Proofs.YtmnoeoecjfhhbaaGreat
open Go.RowKit

set_option maxRecDepth 100000 in
set_option maxHeartbeats 8000000 in
/-- a white page of the call's own -/
theorem inkNewO_calls {W H : Nat} (hs : Sides W H) (w : World) : Calls Tryz.prog 60 #[.int .i64 W, .int .i64 H] w fun e w' => ∃ b, e = .returned (.tuple #[.agg #[.int .i64 W, .int .i64 H, .slice (some ⟨b, 0, none⟩) (3 * W * H) (3 * W * H)], .int .i64 0]) ∧ Holds w w' [blk b (arrU (3 * W * H) fun _ => 255) 5] [] := by
  obtain ⟨m1, m2, m3, m4⟩ := page_mul hs
  have HW := Lib.hid (fun w => inkSide_calls (W : Int) w)
  have HH := Lib.hid (fun w => inkSide_calls (H : Int) w)
  rw [side_nat hs.w0 hs.w1] at HW
  rw [side_nat hs.h0 hs.h1] at HH
  have hw0 := hs.w0; have hw1 := hs.w1; have hh0 := hs.h0; have hh1 := hs.h1
  generalize hN : 3 * W * H = N at *
  clear hN
  have hL := Holds.start w
  obtain ⟨n1, n2, n3⟩ := tok3
  go_enter Tryz.func60, Tryz.ntmps60
  go_wp2_with (first | (go_at_call 94; (with_reducible first | refine (HW.out _).mono ?_ | refine (HH.out _).mono ?_); rintro e _ ⟨rfl, rfl⟩) | ((with_reducible refine wpA_make rfl _ _ _ rfl _ rfl rfl ?_); refine makeP N (by omega) (by omega) hL ?_) | (with_reducible first | (clear hL n1; intro b1 w1 hL) | (clear hL n2; intro b2 w2 hL) | (clear hL n3; intro b3 w3 hL) | (clear hL; intro _ _ hL) | (clear hL; intro _ hL)) | ((with_reducible refine goJ rfl ?_); refine goP ?_))
  rw [show arrU N (fun _ => 0) = arrU N (fun x => if x < 0 then 255 else 0) from arrU_congr fun x _ => by simp] at hL
  go_loopw [28] (fun s28 wr => ∃ k : Nat, k ≤ N ∧ s28 = .int .i64 k ∧ Holds w wr [blk b3 #[.int .i64 W, .int .i64 H, .slice (some ⟨b2, 0, none⟩) N N] 53, blk b2 (arrU N (fun x => if x < k then 255 else 0)) 5, blk b1 #[.int .i64 0, .int .i64 0, .slice none 0 0] 53] [])
    (fun s28 wr => N - (intOf s28).toNat)
  case atStart => exact ⟨0, by omega, rfl, hL⟩
  case round =>
    clear hL
    obtain ⟨k, hk, rfl, hL⟩ := hrel
    by_cases hkt : k < N
    · have hkb : (k : Int) < (N : Int) := by omega
      go_wp2_with (first | (with_reducible first | (clear hL n1; intro b1 w1 hL) | (clear hL n2; intro b2 w2 hL) | (clear hL n3; intro b3 w3 hL) | (clear hL; intro _ _ hL) | (clear hL; intro _ hL)) | ((with_reducible refine goJ rfl ?_); refine goP ?_))
      go_roundw
      case rel =>
        rw [ones_put] at hL
        exact ⟨k + 1, by omega, by go_num, hL⟩
      case measure => simp [intOf]; omega
    · have e : k = N := by omega
      subst e
      go_wp2_with (first | (with_reducible first | (clear hL n1; intro b1 w1 hL) | (clear hL n2; intro b2 w2 hL) | (clear hL n3; intro b3 w3 hL) | (clear hL; intro _ _ hL) | (clear hL; intro _ hL)) | ((with_reducible refine goJ rfl ?_); refine goP ?_))
      refine bodyPost_ret (results_row2 inferInstance rfl _ hL b1 rfl _ _ (by (repeat (first | with_reducible exact At.here | with_reducible apply At.there))) rfl) rfl ⟨b2, rfl, ?_⟩
      have h9 := (hL.drop .here).drop (.there .here)
      rwa [show arrU k (fun x => if x < k then (255 : Int) else 0) = arrU k (fun _ => 255) from arrU_congr fun x hx => by rw [if_pos hx]] at h9
theorem band_start (W : Nat) (a : Int) (F : Nat → Int) (N : Nat) : arrU N (fun _ => 255) = arrU N (bandF W a a F) := arrU_congr fun x _ => by unfold bandF; rw [if_neg (by omega)]
theorem band_step {W N D j o : Nat} {a : Int} (F : Nat → Int) (hD : 3 * W = D) (ho : D * j = o) (h0 : 0 < D) (ha : a ≤ (j : Int)) (_ : o + D ≤ N) : arrU N (fun x => if o ≤ x ∧ x < o + D then F (o + (x - o)) else bandF W a (j : Int) F x) = arrU N (bandF W a ((j + 1 : Nat) : Int) F) := by
  refine arrU_congr fun x _ => ?_
  subst hD; subst ho
  unfold bandF
  by_cases h : 3 * W * j ≤ x ∧ x < 3 * W * j + 3 * W
  · have e : x / (3 * W) = j := by
      refine Nat.div_eq_of_lt_le (by rw [Nat.mul_comm]; exact h.1) ?_
      rw [Nat.mul_comm (j + 1), Nat.mul_add, Nat.mul_one]; exact h.2
    rw [if_pos h, e, if_pos (by omega), show 3 * W * j + (x - 3 * W * j) = x by omega]
  · have e : ¬ x / (3 * W) = j := by
      intro e
      have h1 := Nat.div_add_mod x (3 * W)
      have h2 := Nat.mod_lt x h0
      rw [e] at h1
      omega
    rw [if_neg h]
    have : ((x / (3 * W) : Nat) : Int) < ((j + 1 : Nat) : Int) ↔ ((x / (3 * W) : Nat) : Int) < (j : Int) := by omega
    simp only [this]
theorem band_end {W H N : Nat} {f t j : Int} (F : Nat → Int) (hN : 3 * W * H = N) (hj : j ≤ max f 0 ∨ j ≤ min t (H : Int)) (hj0 : max f 0 ≤ j) (hjt : ¬ j < min t (H : Int)) : ∀ n, n < N → bandF W (max f 0) j F n = bandF W f t F n := by
  intro n hn
  subst hN
  have hr : n / (3 * W) < H := Nat.div_lt_of_lt_mul (by rwa [Nat.mul_comm] at hn ⊢)
  unfold bandF
  generalize n / (3 * W) = r at *
  have : (max f 0 ≤ (r : Int) ∧ (r : Int) < j) ↔ (f ≤ (r : Int) ∧ (r : Int) < t) := by omega
  simp only [this]
theorem st_copyA {P : Program} {ops : Array Oper} {Q : Exit → Act → World → Prop} {o : Oper} {K : Act → World → Prop} {a : Act} {w0 w : World} {M M' : List Res} {Φ : List (World → Prop)} (hgd : Region.wanted o (yielded ops a.tmps) = true) (d s : Operand) (dT sT : TypeId)
    (ho : o.op = .call { callee := .builtin .copy, args := #[d, s], argTypes := #[dT, sT] }) (elem : TypeId) (hu : P.underlying dT = some (.slice elem)) (hsz : (P.info? elem).map (·.size) = some 1)
    (g off dLen dCap : Nat) (ad : Addr) (sLen sCap : Nat) (hd : a.eval d = .slice (some ⟨g, off, none⟩) dLen dCap) (hs : a.eval s = .slice (some ad) sLen sCap)
    (hL : Holds w0 w M Φ) {n D : Nat} {f F : Nat → Int} {t : TypeId} (hat : At M (blk g (arrU n f) t)) (hn : D = Nat.min sLen dLen) (hfit : off + D ≤ n)
    (hsrc : ∀ j, j < D → w.cell? (ad.add j) = some (.int .u8 (F j))) (hup : Upd M (blk g (arrU n f) t) (blk g (arrU n (fun x => if off ≤ x ∧ x < off + D then F (x - off) else f x)) t) M')
    (h : ∀ w', Holds w0 w' M' Φ → K (a.put o.dst (goInt D)) w') : wpStep P ops Q o K a w := by
  have hg : w.heap[g]? = some (.cells (arrU n f) t (0, 0)) := hL.at hat
  have l1 : (arrU D F).toList.length = D := by rw [Array.length_toList, arrU_size]
  have hrun := run_copy_row (P := P) w dT sT o.type elem g off dLen dCap ad sLen sCap (arrU n f) t (arrU D F).toList hu hsz hg (by rw [l1]; exact hn) (fun j v hj => by
    by_cases hjD : j < D
    · rw [Array.getElem?_toList, arrU_get _ hjD] at hj
      cases hj
      exact hsrc j hjD
    · rw [List.getElem?_eq_none (by rw [l1]; omega)] at hj
      cases hj) (by rw [l1, arrU_size]; exact hfit) (cells_one _ _)
  rw [List.append_assoc, copy_arrU f F hfit, l1] at hrun
  refine st_run hgd _ _ ?_ (h _ (hL.setRow hup))
  unfold execOp
  simp [ho, resolve, invoke, builtin, hd, hs, hrun]
end Go.Proofs.YtmnoeoecjfhhbaaGreat
