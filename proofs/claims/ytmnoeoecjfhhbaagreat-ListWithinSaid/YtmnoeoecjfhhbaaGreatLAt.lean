/- Package ink: At. -/
import Derived.Test.YtmnoeoecjfhhbaaGreatLLi
-- lit6
-- loadP
-- layer 43
namespace Go.Proofs.YtmnoeoecjfhhbaaGreat
open Go.RowKit

/-- the ink at a pixel of a page of bytes -/
def inkP (l : List Int) (W x y : Nat) : Value := .agg #[.int .u8 (l.getD (3 * (y * W + x)) 0), .int .u8 (l.getD (3 * (y * W + x) + 1) 0), .int .u8 (l.getD (3 * (y * W + x) + 2) 0), .int .u8 255]
theorem at_in {W H x y : Nat} (hx : x < W) (hy : y < H) : 3 * (y * W + x) + 2 < 3 * W * H := by
  have h1 : y * W + x < W * H := by
    have : (y + 1) * W ≤ H * W := Nat.mul_le_mul_right W hy
    rw [Nat.add_mul, Nat.one_mul, Nat.mul_comm H W] at this
    omega
  rw [Nat.mul_assoc]
  omega
set_option maxRecDepth 100000 in
set_option maxHeartbeats 8000000 in
theorem inkAt_calls {W H : Nat} (hs : Sides W H) (a : Option Addr) (c : Nat) (l : List Int) (w : World) (hv : BytesAt w (.slice a (3 * W * H) c) l) (x y : Nat) (hx : x < W) (hy : y < H) : Calls Tryz.prog 27 #[.agg #[.int .i64 W, .int .i64 H, .slice a (3 * W * H) c], .int .i64 x, .int .i64 y] w fun e w' => e = .returned (.tuple #[inkP l W x y, .bool true]) ∧ Below w.heap.size w w' := by
  have HM := Lib.hid (fun w => inkMay_calls hs a c w)
  obtain ⟨a', c', e', hlc, hcm, hel⟩ := hv.parts
  injection e' with ea hl ec
  subst ea
  subst ec
  have hk := at_in hx hy
  obtain ⟨m1, m2, m3, m4⟩ := page_mul hs
  have hW1 := hs.w1
  have hH1 := hs.h1
  have hyW : y * W ≤ 64 * 64 := Nat.mul_le_mul (by omega) hW1
  obtain ⟨b, o, rfl, h0⟩ := hel (3 * (y * W + x)) (by omega)
  obtain ⟨_, _, e1, h1⟩ := hel (3 * (y * W + x) + 1) (by omega)
  cases e1
  obtain ⟨_, _, e2, h2⟩ := hel (3 * (y * W + x) + 2) (by omega)
  cases e2
  unfold inkP
  clear hv hel
  have w1 : IntKind.i64.wrap ((y : Int) * (W : Int)) = ((y * W : Nat) : Int) := by rw [Int.natCast_mul]; exact wrapS (by rw [← Int.natCast_mul]; omega) (by rw [← Int.natCast_mul]; omega)
  have w2 : IntKind.i64.wrap (((y * W : Nat) : Int) + (x : Int)) = ((y * W + x : Nat) : Int) := by rw [Int.natCast_add]; exact wrapS (by omega) (by omega)
  have w3 : IntKind.i64.wrap (3 * ((y * W + x : Nat) : Int)) = ((3 * (y * W + x) : Nat) : Int) := by rw [Int.natCast_mul 3]; exact wrapS (by omega) (by omega)
  generalize y * W = yW at *
  generalize yW + x = k at *
  generalize l.getD (3 * k) 0 = c0 at *
  generalize l.getD (3 * k + 1) 0 = c1 at *
  generalize l.getD (3 * k + 2) 0 = c2 at *
  generalize 3 * k = n at *
  generalize 3 * W * H = N at *
  have hx2 : (x : Int) < (W : Int) := by omega
  have hy2 : (y : Int) < (H : Int) := by omega
  have q1 : decide ((x : Int) < 0) = false := by simp
  have q2 : decide ((x : Int) ≥ (W : Int)) = false := by simp; omega
  have q3 : decide ((y : Int) < 0) = false := by simp
  have q4 : decide ((y : Int) ≥ (H : Int)) = false := by simp; omega
  have q5 : decide ((W : Int) ≤ (x : Int)) = false := by simp; omega
  have q6 : decide ((H : Int) ≤ (y : Int)) = false := by simp; omega
  have q7 : decide (W ≤ x) = false := by simp; omega
  have q8 : decide (H ≤ y) = false := by simp; omega
  have w4 : IntKind.i64.wrap ((n : Int) + 1) = (n : Int) + 1 := wrapS (by omega) (by omega)
  have w5 : IntKind.i64.wrap ((n : Int) + 2) = (n : Int) + 2 := wrapS (by omega) (by omega)
  have i1 : ((n : Int) + 1).toNat = n + 1 := by omega
  have i2 : ((n : Int) + 2).toNat = n + 2 := by omega
  have j1 : (n : Int) < (N : Int) := by omega
  have j2 : (n : Int) + 1 < (N : Int) := by omega
  have j3 : (n : Int) + 2 < (N : Int) := by omega
  have j4 : (0 : Int) ≤ (n : Int) + 1 := by omega
  have j5 : (0 : Int) ≤ (n : Int) + 2 := by omega
  clear hl hlc
  have hL := Holds.start w
  obtain ⟨n1, n2⟩ := tok2
  go_enter Tryz.func27, Tryz.ntmps27
  go_wp2_with (first | (go_at_call 67; (with_reducible refine (HM.out _).mono ?_); rintro e _ ⟨rfl, hb⟩; replace hL := hL.call hb; clear hb) | (with_reducible first | (clear hL n1; intro b1 w1 hL) | (clear hL n2; intro b2 w2 hL) | (clear hL; intro _ _ hL) | (clear hL; intro _ hL)) | ((with_reducible refine goJ rfl ?_); refine goP ?_))
  refine wpN_holds 18 (by kernel_rfl) hL fun hS => ?_
  replace hL := hS
  refine deN 0 hS ?_
  refine stN (i := 1) ?_ hS (fun w' hw => ?_) ?_; rotate_left; (· refine run_loadOp _ _ rfl _ rfl _ ?_; (first | refine loadA hw ?_ | refine loadU hw ?_ | refine loadR hw ?_ | refine loadP hw ?_ | refine loadC hw ?_ | refine loadE hw ?_ | refine loadD ?_ | refine loadF ?_); rfl)
  simp only [Act.put, setP]
  refine deN 2 hS ?_
  refine deN 3 hS ?_
  refine stN (i := 4) ?_ hS (fun w' hw => ?_) ?_; rotate_left; (· refine run_loadOp _ _ rfl _ rfl _ ?_; (first | refine loadA hw ?_ | refine loadU hw ?_ | refine loadR hw ?_ | refine loadP hw ?_ | refine loadC hw ?_ | refine loadE hw ?_ | refine loadD ?_ | refine loadF ?_); rfl)
  simp only [Act.put, setP]
  refine deN 5 hS ?_
  refine stN (i := 6) ?_ hS (fun w' hw => ?_) ?_; rotate_left; (· refine run_loadOp _ _ rfl _ rfl _ ?_; (first | refine loadA hw ?_ | refine loadU hw ?_ | refine loadR hw ?_ | refine loadP hw ?_ | refine loadC hw ?_ | refine loadE hw ?_ | refine loadD ?_ | refine loadF ?_); rfl)
  simp only [Act.put, setP]
  refine deN 7 hS ?_
  refine deN 8 hS ?_
  refine deN 9 hS ?_
  refine stN (i := 10) ?_ hS (fun w' hw => ?_) ?_; rotate_left; (· refine run_loadOp _ _ rfl _ rfl _ ?_; (first | refine loadA hw ?_ | refine loadU hw ?_ | refine loadR hw ?_ | refine loadP hw ?_ | refine loadC hw ?_ | refine loadE hw ?_ | refine loadD ?_ | refine loadF ?_); rfl)
  simp only [Act.put, setP]
  refine deN 11 hS ?_
  refine stN (i := 12) ?_ hS (fun w' hw => ?_) ?_; rotate_left; (· refine run_loadOp _ _ rfl _ rfl _ ?_; (first | refine loadA hw ?_ | refine loadU hw ?_ | refine loadR hw ?_ | refine loadP hw ?_ | refine loadC hw ?_ | refine loadE hw ?_ | refine loadD ?_ | refine loadF ?_); rfl)
  simp only [Act.put, setP]
  refine deN 13 hS ?_
  refine deN 14 hS ?_
  refine deN 15 hS ?_
  refine stN (i := 16) ?_ hS (fun w' hw => ?_) ?_; rotate_left; (· refine run_loadOp _ _ rfl _ rfl _ ?_; (first | refine loadA hw ?_ | refine loadU hw ?_ | refine loadR hw ?_ | refine loadP hw ?_ | refine loadC hw ?_ | refine loadE hw ?_ | refine loadD ?_ | refine loadF ?_); rfl)
  simp only [Act.put, setP]
  refine deN 17 hS ?_
  refine wpN_one (i := 18) (by kernel_rfl) (wpOp_of (by simp only [List.getElem?_toArray, List.getElem?_cons_zero, List.getElem?_cons_succ]; rfl) ?_)
  clear hS
  refine st_store rfl _ _ _ rfl _ rfl (.agg _) rfl ?_
  first | refine storeA hL ?_ | refine storeO hL ?_ | refine storeR hL ?_
  clear hL; intro w9 hL
  refine ⟨fun h => absurd h (by decide), ?_⟩
  try simp only [Act.put]
  refine wpN_one (i := 19) (by kernel_rfl) (wpOp_of (by simp only [List.getElem?_toArray, List.getElem?_cons_zero, List.getElem?_cons_succ]; rfl) ?_)
  refine st_easy rfl ?_ ?_ ?_; rotate_left; (· go_simp; try with_reducible rfl)
  refine ⟨fun h => absurd h (by decide), ?_⟩
  simp only [Act.put, setP]
  refine wpN_done (by kernel_rfl) ?_
  go_wp2
  exact bodyPost_ret (results_row2 inferInstance rfl _ hL b2 rfl _ _ .here rfl) rfl ⟨rfl, hL.below⟩
end Go.Proofs.YtmnoeoecjfhhbaaGreat
