/- Package list: Band, of marks that may be. -/
import Derived.Test.YtmnoeoecjfhhbaaGreatLBn
-- uses arrU
-- lit6
-- loadP
-- layer 43
namespace Go.Proofs.YtmnoeoecjfhhbaaGreat
open Go.RowKit

/-- a page's bytes at their place -/
def PixF (pb po N : Nat) (F : Nat → Int) (w : World) : Prop := ∀ i, i < N → w.cell? ⟨pb, po + i, none⟩ = some (.int .u8 (F i))
theorem PixF.add {pb po N o D : Nat} {F : Nat → Int} {w : World} (h : PixF pb po N F w) (hb : o + D ≤ N) (i : Nat) (hi : i < D) : w.cell? ((⟨pb, po + o, none⟩ : Addr).add i) = some (.int .u8 (F (o + i))) := by
  have hadd : (⟨pb, po + o, none⟩ : Addr).add i = ⟨pb, po + (o + i), none⟩ := by unfold Addr.add; split <;> simp_all [Nat.add_assoc]
  rw [hadd]
  exact h (o + i) (by omega)
/-- a page is returned, and no error: its bytes at their place -/
def PageIs (W H N : Nat) (F : Nat → Int) (w : World) (e : Ending) (w' : World) : Prop := ∃ pb po c, (e = .returned (.tuple #[.agg #[.int .i64 W, .int .i64 H, .slice (some ⟨pb, po, none⟩) N c], .int .i64 0]) ∧ N ≤ c ∧ c ≤ 2 ^ 63 - 1) ∧ Below w.heap.size w w' ∧ Fresh w w' (PixF pb po N F)
set_option maxRecDepth 100000 in
set_option maxHeartbeats 16000000 in
theorem listBand_core (how : Int) {W H : Nat} (hs : Sides W H) (w : World) (v : Value) (F : Nat → Int)
    (HP0 : ∀ w', Below w.heap.size w w' → Calls Tryz.prog 22 #[v, .int .i64 W, .int .i64 H, .int .i64 how] w' (PageIs W H (3 * W * H) F w')) (f t : Int) : Calls Tryz.prog 25 #[v, .int .i64 W, .int .i64 H, .int .i64 f, .int .i64 t, .int .i64 how] w (PageOut W H (bandF W f t F) w) := by
  obtain ⟨m1, m2, m3, m4⟩ := page_mul hs
  have hw0 := hs.w0; have hw1 := hs.w1; have hh0 := hs.h0; have hh1 := hs.h1
  have HN := Lib.hid (fun w => inkNewO_calls hs w)
  obtain ⟨N, hN⟩ : ∃ N, 3 * W * H = N := ⟨_, rfl⟩
  obtain ⟨D, hD⟩ : ∃ D, 3 * W = D := ⟨_, rfl⟩
  have hDH : D * H = N := by rw [← hD, hN]
  have hp : 0 < N := by rw [← hDH]; exact Nat.mul_pos (by omega) (by omega)
  rw [hN] at HP0
  have HP := Lib.hid HP0
  have HS := Lib.hid (fun a F => band_start W a F N)
  have HT := Lib.hid (fun (j o : Nat) (a : Int) (F : Nat → Int) (ho : D * j = o) (ha : a ≤ (j : Int)) (hb : o + D ≤ N) => band_step (W := W) F hD ho (by omega) ha hb)
  have HE := Lib.hid (fun (j : Int) F => band_end (W := W) (H := H) (f := f) (t := t) (j := j) F hN)
  have HNe := Lib.hid hN
  clear HP0
  rw [hN] at HN m1
  have q1 : IntKind.i64.wrap (3 * (W : Int)) = (D : Int) := by rw [m3, ← hD]; simp
  have hD9 : D ≤ 192 := by omega
  have hD1 : 0 < D := by omega
  clear m2 m3 m4 hN hs
  have hL := Holds.start w
  obtain ⟨n1, n2, n3⟩ := tok3
  go_enter Tryz.func25, Tryz.ntmps25
  go_wp2_with (first | (go_at_call 22; (with_reducible refine (HP.out _ hL.below).mono ?_); rintro e _ ⟨pb, po, pc, ⟨rfl, hpc1, hpc2⟩, hb, hf⟩; replace hL := hL.callF hb hf; clear hb hf) | (go_at_call 60; (with_reducible refine (HN.out _).mono ?_); rintro e _ ⟨bn, rfl, hk⟩; replace hL := hL.comp hk; clear hk; dsimp only [List.cons_append, List.nil_append] at hL) | (with_reducible first | (clear hL n1; intro b1 w1 hL) | (clear hL n2; intro b2 w2 hL) | (clear hL n3; intro b3 w3 hL) | (clear hL; intro _ _ hL) | (clear hL; intro _ hL)) | ((with_reducible refine goJ rfl ?_); refine goP ?_))
  rw [HS.out (max f 0) F] at hL
  go_loopw [15] (fun s15 wr => ∃ j : Int, max f 0 ≤ j ∧ (j ≤ max f 0 ∨ j ≤ min t (H : Int)) ∧ s15 = .int .i64 j ∧ Holds w wr [blk bn (arrU N (bandF W (max f 0) j F)) 5, blk b2 #[.int .i64 W, .int .i64 H, .slice (some ⟨pb, po, none⟩) N pc] 53, blk b1 #[.int .i64 W, .int .i64 H, .slice (some ⟨bn, 0, none⟩) N N] 53] [PixF pb po N F])
    (fun s15 wr => (min t (H : Int) - intOf s15).toNat)
  case atStart => exact ⟨max f 0, by omega, by omega, rfl, hL⟩
  case round =>
    clear hL
    obtain ⟨j, hj0, hj1, rfl, hL⟩ := hrel
    by_cases hjt : j < min t (H : Int)
    · obtain ⟨k, rfl⟩ := Int.eq_ofNat_of_zero_le (show 0 ≤ j by omega)
      obtain ⟨o, ho⟩ : ∃ o, D * k = o := ⟨_, rfl⟩
      have hoN : o + D ≤ N := by
        have := Nat.mul_le_mul_left D (show k + 1 ≤ H by omega)
        rw [Nat.mul_add, Nat.mul_one] at this
        omega
      have q2 : IntKind.i64.wrap ((D : Int) * (k : Int)) = (o : Int) := by rw [← ho, Int.natCast_mul]; exact wrapS (by rw [← Int.natCast_mul]; omega) (by rw [← Int.natCast_mul]; omega)
      have q3 : IntKind.i64.wrap ((k : Int) + 1) = (k : Int) + 1 := wrapS (by omega) (by omega)
      obtain ⟨e, he⟩ : ∃ e, o + D = e := ⟨_, rfl⟩
      have he1 : o ≤ e := by omega
      have he2 : e ≤ N := by omega
      have he3 : e ≤ pc := by omega
      have he4 : D = e - o := by omega
      have q4 : IntKind.i64.wrap ((D : Int) * ((k : Int) + 1)) = (e : Int) := by
        rw [← he]
        rw [Int.mul_add, Int.mul_one, ← Int.natCast_mul, ho, ← Int.natCast_add]; exact wrapS (by omega) (by omega)
      have hne : ¬ N = o := by omega
      have hne2 : ¬ pc = o := by omega
      have HTk := Lib.hid (HT.out k o (max f 0) F ho hj0 hoN)
      have He4 := Lib.hid he4
      clear ho he he4
      go_wp2_with (first | (with_reducible first | (clear hL n1; intro b1 w1 hL) | (clear hL n2; intro b2 w2 hL) | (clear hL n3; intro b3 w3 hL) | (clear hL; intro _ _ hL) | (clear hL; intro _ hL)) | ((with_reducible refine goJ rfl ?_); refine goP ?_))
      replace hL := hL.drew
      have hV : ∀ k, (fun (_ : Nat) (w' : World) => ∃ g : Nat → Int, Holds w w' [blk bn (arrU N g) 5, blk b2 #[.int .i64 W, .int .i64 H, .slice (some ⟨pb, po, none⟩) N pc] 53, blk b1 #[.int .i64 W, .int .i64 H, .slice (some ⟨bn, 0, none⟩) N N] 53] [PixF pb po N F]) k _ := fun _ => ⟨_, hL⟩
      refine wpV_begin (by kernel_rfl) (fun (_ : Nat) (w' : World) => ∃ g : Nat → Int, Holds w w' [blk bn (arrU N g) 5, blk b2 #[.int .i64 W, .int .i64 H, .slice (some ⟨pb, po, none⟩) N pc] 53, blk b1 #[.int .i64 W, .int .i64 H, .slice (some ⟨bn, 0, none⟩) N N] 53] [PixF pb po N F]) 24 ?_
      refine stV (i := 0) ?_ (fun k _ => hV k) (fun w' hw => ?_) ?_ (by repeat (first | exact pinned_none | refine pinned_put ?_)); rotate_left; (· obtain ⟨g9, hw⟩ := hw; go_simp; try with_reducible rfl)
      simp only [Act.put, setP]
      refine stV (i := 1) ?_ (fun k _ => hV k) (fun w' hw => ?_) ?_ (by repeat (first | exact pinned_none | refine pinned_put ?_)); rotate_left; (· obtain ⟨g9, hw⟩ := hw; refine run_loadOp _ _ rfl _ rfl _ ?_; (first | refine loadA hw ?_ | refine loadU hw ?_ | refine loadR hw ?_ | refine loadP hw ?_ | refine loadC hw ?_ | refine loadE hw ?_ | refine loadD ?_ | refine loadF ?_); rfl)
      simp only [Act.put, setP]
      refine stV (i := 2) ?_ (fun k _ => hV k) (fun w' hw => ?_) ?_ (by repeat (first | exact pinned_none | refine pinned_put ?_)); rotate_left; (· obtain ⟨g9, hw⟩ := hw; go_simp; try with_reducible rfl)
      simp only [Act.put, setP]
      refine stV (i := 3) ?_ (fun k _ => hV k) (fun w' hw => ?_) ?_ (by repeat (first | exact pinned_none | refine pinned_put ?_)); rotate_left; (· obtain ⟨g9, hw⟩ := hw; go_simp; try with_reducible rfl)
      simp only [Act.put, setP]
      refine stV (i := 4) ?_ (fun k _ => hV k) (fun w' hw => ?_) ?_ (by repeat (first | exact pinned_none | refine pinned_put ?_)); rotate_left; (· obtain ⟨g9, hw⟩ := hw; go_simp; try with_reducible rfl)
      simp only [Act.put, setP]
      refine stV (i := 5) ?_ (fun k _ => hV k) (fun w' hw => ?_) ?_ (by repeat (first | exact pinned_none | refine pinned_put ?_)); rotate_left; (· obtain ⟨g9, hw⟩ := hw; go_simp; try with_reducible rfl)
      simp only [Act.put, setP]
      refine stV (i := 6) ?_ (fun k _ => hV k) (fun w' hw => ?_) ?_ (by repeat (first | exact pinned_none | refine pinned_put ?_)); rotate_left; (· obtain ⟨g9, hw⟩ := hw; go_simp; try with_reducible rfl)
      simp only [Act.put, setP]
      refine stV (i := 7) ?_ (fun k _ => hV k) (fun w' hw => ?_) ?_ (by repeat (first | exact pinned_none | refine pinned_put ?_)); rotate_left; (· obtain ⟨g9, hw⟩ := hw; go_simp; try with_reducible rfl)
      simp only [Act.put, setP]
      refine stV (i := 8) ?_ (fun k _ => hV k) (fun w' hw => ?_) ?_ (by repeat (first | exact pinned_none | refine pinned_put ?_)); rotate_left; (· obtain ⟨g9, hw⟩ := hw; go_simp; try with_reducible rfl)
      simp only [Act.put, setP]
      refine stV (i := 9) ?_ (fun k _ => hV k) (fun w' hw => ?_) ?_ (by repeat (first | exact pinned_none | refine pinned_put ?_)); rotate_left; (· obtain ⟨g9, hw⟩ := hw; go_simp; try with_reducible rfl)
      simp only [Act.put, setP]
      refine stV (i := 10) ?_ (fun k _ => hV k) (fun w' hw => ?_) ?_ (by repeat (first | exact pinned_none | refine pinned_put ?_)); rotate_left; (· obtain ⟨g9, hw⟩ := hw; go_simp; try with_reducible rfl)
      simp only [Act.put, setP]
      refine stV (i := 11) ?_ (fun k _ => hV k) (fun w' hw => ?_) ?_ (by repeat (first | exact pinned_none | refine pinned_put ?_)); rotate_left; (· obtain ⟨g9, hw⟩ := hw; go_simp; try with_reducible rfl)
      simp only [Act.put, setP]
      refine stV (i := 12) ?_ (fun k _ => hV k) (fun w' hw => ?_) ?_ (by repeat (first | exact pinned_none | refine pinned_put ?_)); rotate_left; (· obtain ⟨g9, hw⟩ := hw; go_simp; try with_reducible rfl)
      simp only [Act.put, setP]
      refine stV (i := 13) ?_ (fun k _ => hV k) (fun w' hw => ?_) ?_ (by repeat (first | exact pinned_none | refine pinned_put ?_)); rotate_left; (· obtain ⟨g9, hw⟩ := hw; refine run_loadOp _ _ rfl _ rfl _ ?_; (first | refine loadA hw ?_ | refine loadU hw ?_ | refine loadR hw ?_ | refine loadP hw ?_ | refine loadC hw ?_ | refine loadE hw ?_ | refine loadD ?_ | refine loadF ?_); rfl)
      simp only [Act.put, setP]
      refine stV (i := 14) ?_ (fun k _ => hV k) (fun w' hw => ?_) ?_ (by repeat (first | exact pinned_none | refine pinned_put ?_)); rotate_left; (· obtain ⟨g9, hw⟩ := hw; go_simp; try with_reducible rfl)
      simp only [Act.put, setP]
      refine stV (i := 15) ?_ (fun k _ => hV k) (fun w' hw => ?_) ?_ (by repeat (first | exact pinned_none | refine pinned_put ?_)); rotate_left; (· obtain ⟨g9, hw⟩ := hw; go_simp; try with_reducible rfl)
      simp only [Act.put, setP]
      refine stV (i := 16) ?_ (fun k _ => hV k) (fun w' hw => ?_) ?_ (by repeat (first | exact pinned_none | refine pinned_put ?_)); rotate_left; (· obtain ⟨g9, hw⟩ := hw; go_simp; try with_reducible rfl)
      simp only [Act.put, setP]
      refine stV (i := 17) ?_ (fun k _ => hV k) (fun w' hw => ?_) ?_ (by repeat (first | exact pinned_none | refine pinned_put ?_)); rotate_left; (· obtain ⟨g9, hw⟩ := hw; go_simp; try with_reducible rfl)
      simp only [Act.put, setP]
      refine stV (i := 18) ?_ (fun k _ => hV k) (fun w' hw => ?_) ?_ (by repeat (first | exact pinned_none | refine pinned_put ?_)); rotate_left; (· obtain ⟨g9, hw⟩ := hw; go_simp; try with_reducible rfl)
      simp only [Act.put, setP]
      refine stV (i := 19) ?_ (fun k _ => hV k) (fun w' hw => ?_) ?_ (by repeat (first | exact pinned_none | refine pinned_put ?_)); rotate_left; (· obtain ⟨g9, hw⟩ := hw; go_simp; try with_reducible rfl)
      simp only [Act.put, setP]
      refine stV (i := 20) ?_ (fun k _ => hV k) (fun w' hw => ?_) ?_ (by repeat (first | exact pinned_none | refine pinned_put ?_)); rotate_left; (· obtain ⟨g9, hw⟩ := hw; go_simp; try with_reducible rfl)
      simp only [Act.put, setP]
      refine stV (i := 21) ?_ (fun k _ => hV k) (fun w' hw => ?_) ?_ (by repeat (first | exact pinned_none | refine pinned_put ?_)); rotate_left; (· obtain ⟨g9, hw⟩ := hw; go_simp; try with_reducible rfl)
      simp only [Act.put, setP]
      refine stV (i := 22) ?_ (fun k _ => hV k) (fun w' hw => ?_) ?_ (by repeat (first | exact pinned_none | refine pinned_put ?_)); rotate_left; (· obtain ⟨g9, hw⟩ := hw; go_simp; try with_reducible rfl)
      simp only [Act.put, setP]
      refine stV (i := 23) ?_ (fun k _ => hV k) (fun w' hw => ?_) ?_ (by repeat (first | exact pinned_none | refine pinned_put ?_)); rotate_left; (· obtain ⟨g9, hw⟩ := hw; go_simp; try with_reducible rfl)
      simp only [Act.put, setP]
      refine wpV_one (i := 24) (by kernel_rfl) (wpOp_of (by simp only [List.getElem?_toArray, List.getElem?_cons_zero, List.getElem?_cons_succ]; rfl) ?_)
      refine st_copyA rfl _ _ _ _ rfl 5 (by kernel_rfl) (by kernel_rfl) bn o _ _ ⟨pb, po + o, none⟩ _ _ rfl rfl hL (n := N) (D := D) (f := bandF W (max f 0) (k : Int) F) (F := fun i => F (o + i)) .here ?_ hoN (hL.fact0.add hoN) Upd.here ?_
      (· rw [← He4.out]; exact (Nat.min_self D).symm)
      clear hV hL; intro w9 hL
      refine ⟨fun _ _ => ⟨_, hL⟩, ?_⟩
      simp only [Act.put, setP]
      refine wpV_done (by kernel_rfl) ?_
      rw [HTk.out] at hL
      go_wp2_with (first | (with_reducible first | (clear hL n1; intro b1 w1 hL) | (clear hL n2; intro b2 w2 hL) | (clear hL n3; intro b3 w3 hL) | (clear hL; intro _ _ hL) | (clear hL; intro _ hL)) | ((with_reducible refine goJ rfl ?_); refine goP ?_))
      go_roundw
      case rel => exact ⟨((k + 1 : Nat) : Int), by omega, by omega, by go_num, hL⟩
      case measure => simp [intOf]; omega
    · have HEj := Lib.hid (HE.out j F hj1 hj0 (by omega))
      go_wp2_with (first | (with_reducible first | (clear hL n1; intro b1 w1 hL) | (clear hL n2; intro b2 w2 hL) | (clear hL n3; intro b3 w3 hL) | (clear hL; intro _ _ hL) | (clear hL; intro _ hL)) | ((with_reducible refine goJ rfl ?_); refine goP ?_))
      refine bodyPost_ret (results_row2 inferInstance rfl _ hL b1 rfl _ _ (.there (.there .here)) rfl) rfl ?_
      have hr := HNe.out
      subst hr
      refine ⟨_, _, rfl, hL.below, ?_⟩
      refine ((hL.settle .here (φ := fun w => w.heap[bn]? = some (.cells (arrU (3 * W * H) (bandF W (max f 0) j F)) 5 (0, 0))) fun _ h => h).map fun w' h1 => ?_).fresh
      refine ⟨_, rfl, ?_⟩
      have h9 := bytes_of h1 (by unfold maxLen; omega)
      rwa [show (List.range (3 * W * H)).map (bandF W (max f 0) j F) = (List.range (3 * W * H)).map (bandF W f t F) from List.map_congr_left fun x hx => HEj.out x (by simpa using hx)] at h9
end Go.Proofs.YtmnoeoecjfhhbaaGreat
