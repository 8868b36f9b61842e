/- ListBands returns true. -/
import Derived.Test.YtmnoeoecjfhhbaaGreatLBd
import Derived.Test.YtmnoeoecjfhhbaaGreatLLi
-- uses arrU
-- lit6
-- loadP
-- layer 43
namespace Go.Proofs.YtmnoeoecjfhhbaaGreat
open Go.RowKit

theorem page_is {W H N : Nat} {G : Nat → Int} {w : World} {e : Ending} {w' : World} (hN : 3 * W * H = N) (hp : 0 < N) (h : PageOut W H G w e w') : PageIs W H N G w e w' := by
  obtain ⟨a, c, rfl, hb, hf⟩ := h
  subst hN
  obtain ⟨a2, c2, e2, h2, h3, h4⟩ := hf.now.shape
  cases e2
  obtain ⟨pb, po, rfl, _⟩ := PageF.cell h4 hp
  unfold maxLen at h3
  refine ⟨pb, po, c, ⟨rfl, h2, h3⟩, hb, hf.mono fun w2 h5 i hi => ?_⟩
  obtain ⟨a3, c3, e3, _, _, h6⟩ := h5.shape
  cases e3
  obtain ⟨b', o', e', hc⟩ := PageF.cell h6 hi
  cases e'
  exact hc
theorem page_ok {l : List Itm} {W H N : Nat} {w : World} {e : Ending} {w' : World} (hN : 3 * W * H = N) (hp : 0 < N) (h : PaintOut l W H w e w') (h0 : paintErr l W H = 0) : PageIs W H N (paintL W l) w e w' := by
  obtain ⟨W', H', hW, hH, _, h1⟩ := h.1 h0
  have eW : W' = W := by omega
  have eH : H' = H := by omega
  subst eW; subst eH
  exact page_is hN hp h1
theorem listBand_ok {how : Int} {E : Prop} (Wy : WayE how E) {W H : Nat} (hs : Sides W H) (w : World) (v : Value) (l : List Itm) (hv : ItmsAt w v l) (hE : ∀ i ∈ l, i.kind = 2 → E) (h0 : paintErr l W H = 0) (f t : Int) : Calls Tryz.prog 25 #[v, .int .i64 W, .int .i64 H, .int .i64 f, .int .i64 t, .int .i64 how] w (PageOut W H (bandF W f t (paintL W l)) w) :=
  listBand_core how hs w v (paintL W l) (fun w' hb => (listPaintE_calls Wy w' v l (hv.below hb) (W : Int) (H : Int) hE).mono fun e w2 h => page_ok rfl (Nat.mul_pos (Nat.mul_pos (by decide) hs.w0) hs.h0) h h0) f t
/-- a part of a page's bytes as a string -/
theorem run_pix {w : World} {pb po N : Nat} {F : Nat → Int} (h : PixF pb po N F w) {lo n cap : Nat} (hb : lo + n ≤ N) : (convert 51 9 (.slice (some ⟨pb, po + lo, none⟩) n cap)).run Tryz.prog w = .ok (.string (strS (cutF F lo n))) w := by
  rw [run_convert_bytes_string w _ _ _ _ n cap Tryz.underlying51 Tryz.underlying5 Tryz.underlying9]
  refine run_bytesToString w ⟨pb, po + lo, none⟩ n cap (cutF F lo n) ?_
  rw [run_loadCells (P := Tryz.prog) w ⟨pb, po + lo, none⟩ n (fun k => .int .u8 (F (lo + k))) (fun k hk => by
    have hadd : (⟨pb, po + lo, none⟩ : Addr).add k = ⟨pb, po + (lo + k), none⟩ := by unfold Addr.add; split <;> simp_all [Nat.add_assoc]
    rw [hadd]
    exact h (lo + k) (by omega))]
  unfold cutF
  rw [List.map_map]
  rfl
theorem run_pixZ {w : World} {a : Option Addr} {G : Nat → Int} {o1 o2 cap : Nat} (h : o2 = o1) : (convert 51 9 (.slice a (o2 - o1) cap)).run Tryz.prog w = .ok (.string (strS (cutF G o1 (o2 - o1)))) w := by
  rw [run_convert_bytes_string w _ _ _ _ (o2 - o1) cap Tryz.underlying51 Tryz.underlying5 Tryz.underlying9, h, Nat.sub_self]
  exact run_cut0
theorem cut_size (F : Nat → Int) (lo n : Nat) : (strS (cutF F lo n)).size = n := by
  rw [strS_size]; unfold cutF; simp
theorem wpA_convC {ops : Array Oper} {rest : List Oper} {o : Oper} {a : Act} {w : World} {Q : Exit → Act → World → Prop} (hgd : Region.wanted o (yielded ops a.tmps) = true) (x : Operand) (ho : o.op = .convert 51 9 x) (v : Value) (hx : a.eval x = v) {s : ByteArray} (hb : (convert 51 9 v).run Tryz.prog w = .ok (.string s) w)
    (h : wpList Tryz.prog ops Q rest (a.put o.dst (.string s)) w) : wpList Tryz.prog ops Q (o :: rest) a w := by
  refine wpList_run hgd _ w ?_ h
  unfold execOp
  simp only [ho, Sem.run_bind, hx, hb]
  rfl
theorem cut_out {W N D at_ en : Nat} (F : Nat → Int) (hD : 3 * W = D) (h0 : 0 < D) (ha : at_ ≤ en) (_ : D * en ≤ N) : strS (cutF F 0 (D * at_)) ++ strS (cutF (bandF W (at_ : Int) (en : Int) F) (D * at_) (D * en - D * at_)) = strS (cutF F 0 (D * en)) := by
  have h1 : D * at_ ≤ D * en := Nat.mul_le_mul_left D ha
  rw [strS_append]
  congr 1
  have e := cutF_add F 0 (D * at_) (D * en - D * at_)
  rw [show D * at_ + (D * en - D * at_) = D * en by omega, Nat.zero_add] at e
  rw [← e]
  congr 1
  refine cutF_congr fun k hk => ?_
  unfold bandF
  rw [hD]
  have h2 : at_ ≤ (D * at_ + k) / D := by
    rw [Nat.le_div_iff_mul_le h0, Nat.mul_comm]; omega
  have h3 : (D * at_ + k) / D < en := by
    rw [Nat.div_lt_iff_lt_mul h0, Nat.mul_comm en D]; omega
  rw [if_pos ⟨by omega, by omega⟩]
theorem band_out {W D k : Nat} {a e : Int} (F : Nat → Int) (hD : 3 * W = D) (h : ((k / D : Nat) : Int) < a ∨ e ≤ ((k / D : Nat) : Int)) : bandF W a e F k = 255 := by
  unfold bandF
  rw [hD, if_neg (by omega)]
set_option maxRecDepth 100000 in
set_option maxHeartbeats 40000000 in
theorem listBands_calls (w : World) (v : Value) (l : List Itm) (hv : ItmsAt w v l) (z1 z2 : Int) (h1 : 0 ≤ z1 ∧ z1 ≤ 255) (h2 : 0 ≤ z2 ∧ z2 ≤ 255) (u : Value) (cs : List Int) (hu : BytesAt w u cs) (hcs : ∀ z ∈ cs, 0 ≤ z ∧ z ≤ 255) : Calls Tryz.prog 6 #[v, .int .u8 z1, .int .u8 z2, u] w fun e w' => e = .returned (.bool true) ∧ Below w.heap.size w w' := by
  obtain ⟨W, hX, hX1, hX2⟩ : ∃ W : Nat, 1 + z1 % 20 = (W : Int) ∧ 1 ≤ W ∧ W ≤ 20 := ⟨(1 + z1 % 20).toNat, by omega, by omega, by omega⟩
  obtain ⟨H, hY, hY1, hY2⟩ : ∃ H : Nat, 1 + z2 % 20 = (H : Int) ∧ 1 ≤ H ∧ H ≤ 20 := ⟨(1 + z2 % 20).toNat, by omega, by omega, by omega⟩
  have r1 : z1.tmod 20 = z1 % 20 := Int.tmod_eq_emod_of_nonneg (by omega)
  have r2 : z2.tmod 20 = z2 % 20 := Int.tmod_eq_emod_of_nonneg (by omega)
  have w1 : IntKind.i64.wrap z1 = z1 := wrapS (by omega) (by omega)
  have w2 : IntKind.i64.wrap z2 = z2 := wrapS (by omega) (by omega)
  have hs : Sides W H := ⟨hX1, by omega, hY1, by omega⟩
  obtain ⟨m1, m2, m3, m4⟩ := page_mul hs
  obtain ⟨N, hN⟩ : ∃ N, 3 * W * H = N := ⟨_, rfl⟩
  obtain ⟨D, hD⟩ : ∃ D, 3 * W = D := ⟨_, rfl⟩
  have hDH : D * H = N := by rw [← hD, hN]
  have hp : 0 < N := by rw [← hDH]; exact Nat.mul_pos (by omega) (by omega)
  have HFw := Lib.hid (fun w' (hb : Below w.heap.size w w') => few_calls w' _ l (hv.below hb))
  have HP0 := Lib.hid (fun w' (hb : Below w.heap.size w w') => (listPaint_calls wayLine w' _ l (hv.below hb) (W : Int) (H : Int)).mono fun e w2 h => PaintOut.some h)
  have HP1 := Lib.hid (fun (h0 : paintErr l W H = 0) w' (hb : Below w.heap.size w w') => (listPaint_calls wayLine w' _ l (hv.below hb) (W : Int) (H : Int)).mono fun e w2 h => page_ok hN hp h h0)
  have HB := Lib.hid (fun (h0 : paintErr l W H = 0) (f t : Int) w' (hb : Below w.heap.size w w') => (listBand_ok wayLine hs w' _ l (hv.below hb) (fun _ _ _ => trivial) h0 f t).mono fun e w2 h => page_is hN hp h)
  obtain ⟨ca, cc, rfl, hc1, hc2, hel⟩ := hu.parts
  have Hel := Lib.hid (fun i (hi : i < cs.length) => show (0 ≤ cs.getD i 0 ∧ cs.getD i 0 ≤ 255) ∧ ∃ b o, ca = some ⟨b, o, none⟩ ∧ w.cell? ⟨b, o + i, none⟩ = some (.int .u8 (cs.getD i 0)) from ⟨by rw [getD_in _ hi]; exact hcs _ (List.getElem_mem hi), hel i hi⟩)
  clear hel hu hcs
  unfold maxLen at hc2
  obtain ⟨a, cap, rfl, _, hcm, _⟩ := hv
  unfold maxLen at hcm
  have HO := Lib.hid (fun (a e : Nat) F (ha : a ≤ e) (he : D * e ≤ N) => cut_out (W := W) (N := N) F hD (by omega) ha he)
  have HQ := Lib.hid (fun (k : Nat) (a e : Int) F => band_out (W := W) (D := D) (k := k) (a := a) (e := e) F hD)
  have q1 : IntKind.i64.wrap (3 * (W : Int)) = (D : Int) := by rw [m3, ← hD]; simp
  have q5 : IntKind.i64.wrap ((D : Int) * (H : Int)) = (N : Int) := by rw [← Int.natCast_mul, hDH]; exact wrapS (by omega) (by omega)
  have eW : ((W : Int) != (W : Int)) = false := by simp
  have eH : ((H : Int) != (H : Int)) = false := by simp
  have eN : ((N : Int) != (N : Int)) = false := by simp
  have hD9 : D ≤ 60 := by omega
  have hD1 : 0 < D := by omega
  have hN9 : N ≤ 1200 := by rw [← hDH]; exact Nat.le_trans (Nat.mul_le_mul hD9 hY2) (by decide)
  clear m1 m2 m3 m4 hN hs h1 h2
  generalize paintErr l (W : Int) (H : Int) = E at *
  generalize paintL W l = F at *
  generalize l.length = ln at *
  generalize hn : cs.length = n at *
  clear hn
  have hL := Holds.start w
  obtain ⟨n1, n2, n3, n4, n5, n6⟩ := tok6
  go_enter Tryz.func6, Tryz.ntmps6
  go_wp2_with (first | (go_at_call 11; (with_reducible refine (known_calls _).mono ?_); rintro e _ ⟨rfl, hb⟩; replace hL := hL.call hb; clear hb) | (with_reducible first | (clear hL n1; intro b1 w1 hL) | (clear hL n2; intro b2 w2 hL) | (clear hL n3; intro b3 w3 hL) | (clear hL n4; intro b4 w4 hL) | (clear hL n5; intro b5 w5 hL) | (clear hL n6; intro b6 w6 hL) | (clear hL; intro _ _ hL) | (clear hL; intro _ hL)) | ((with_reducible refine goJ rfl ?_); refine goP ?_))
  refine (HFw.out _ hL.below).mono ?_
  rintro e _ ⟨⟨bf, rfl, _⟩, hb⟩
  replace hL := hL.call hb
  clear hb
  cases bf
  · go_wp2_with (first | (with_reducible first | (clear hL n1; intro b1 w1 hL) | (clear hL n2; intro b2 w2 hL) | (clear hL n3; intro b3 w3 hL) | (clear hL n4; intro b4 w4 hL) | (clear hL n5; intro b5 w5 hL) | (clear hL n6; intro b6 w6 hL) | (clear hL; intro _ _ hL) | (clear hL; intro _ hL)) | ((with_reducible refine goJ rfl ?_); refine goP ?_))
    go_ret
    exact ⟨rfl, hL.below⟩
  by_cases h6 : 6 < n
  · have h6i : (6 : Int) < (n : Int) := by omega
    go_wp2_with (first | (with_reducible first | (clear hL n1; intro b1 w1 hL) | (clear hL n2; intro b2 w2 hL) | (clear hL n3; intro b3 w3 hL) | (clear hL n4; intro b4 w4 hL) | (clear hL n5; intro b5 w5 hL) | (clear hL n6; intro b6 w6 hL) | (clear hL; intro _ _ hL) | (clear hL; intro _ hL)) | ((with_reducible refine goJ rfl ?_); refine goP ?_))
    go_ret
    exact ⟨rfl, hL.below⟩
  have h6i : ¬ (6 : Int) < (n : Int) := by omega
  go_wp2_with (first | (with_reducible first | (clear hL n1; intro b1 w1 hL) | (clear hL n2; intro b2 w2 hL) | (clear hL n3; intro b3 w3 hL) | (clear hL n4; intro b4 w4 hL) | (clear hL n5; intro b5 w5 hL) | (clear hL n6; intro b6 w6 hL) | (clear hL; intro _ _ hL) | (clear hL; intro _ hL)) | ((with_reducible refine goJ rfl ?_); refine goP ?_))
  by_cases hE : E = 0
  rotate_left
  · have hE1 : (E == 0) = false := by simp [hE]
    refine (HP0.out _ hL.below).mono ?_
    rintro e _ ⟨x1, x2, xa, xn, xc, rfl, hb⟩
    replace hL := hL.call hb
    clear hb
    go_wp2_with (first | (with_reducible first | (clear hL n1; intro b1 w1 hL) | (clear hL n2; intro b2 w2 hL) | (clear hL n3; intro b3 w3 hL) | (clear hL n4; intro b4 w4 hL) | (clear hL n5; intro b5 w5 hL) | (clear hL n6; intro b6 w6 hL) | (clear hL; intro _ _ hL) | (clear hL; intro _ hL)) | ((with_reducible refine goJ rfl ?_); refine goP ?_))
    go_ret
    exact ⟨rfl, hL.below⟩
  refine (HP1.out hE _ hL.below).mono ?_
  rintro e _ ⟨pb, po, pc, ⟨rfl, hp1, hp2⟩, hb, hf⟩
  replace hL := hL.callF hb hf
  clear hb hf
  have HBd := Lib.hid (HB.out hE)
  clear HB HP0 HP1 hE HFw
  go_wp2_with (first | (with_reducible first | (clear hL n1; intro b1 w1 hL) | (clear hL n2; intro b2 w2 hL) | (clear hL n3; intro b3 w3 hL) | (clear hL n4; intro b4 w4 hL) | (clear hL n5; intro b5 w5 hL) | (clear hL n6; intro b6 w6 hL) | (clear hL; intro _ _ hL) | (clear hL; intro _ hL)) | ((with_reducible refine goJ rfl ?_); refine goP ?_))
  go_loopw [13, 14, 15] (fun s13 s14 s15 wr => ∃ i at_ : Nat, i ≤ n + 1 ∧ at_ ≤ H ∧ (i = n + 1 → at_ = H) ∧ s15 = .int .i64 i ∧ s13 = .int .i64 at_ ∧ s14 = .string (strS (cutF F 0 (D * at_))) ∧ Holds w wr [blk b1 #[.int .i64 W, .int .i64 H, .slice (some ⟨pb, po, none⟩) N pc] 53] [PixF pb po N F])
    (fun s13 s14 s15 wr => n + 1 - (intOf s15).toNat)
  case atStart => exact ⟨0, 0, by omega, by omega, fun h => absurd h (by omega), rfl, rfl, rfl, hL⟩
  case round =>
    clear hL
    obtain ⟨i, at_, hi, ha, hat, rfl, rfl, rfl, hL⟩ := hrel
    by_cases hit : i ≤ n
    · have hib : (i : Int) ≤ (n : Int) := by omega
      have hcase : ∃ en : Nat, at_ ≤ en ∧ en ≤ H ∧ (i + 1 = n + 1 → en = H) ∧ ((i < n ∧ ∃ cb co z, (ca = some ⟨cb, co, none⟩ ∧ w.cell? ⟨cb, co + i, none⟩ = some (.int .u8 z)) ∧ (IntKind.i64.wrap z = z ∧ z.tmod 8 = z % 8) ∧ IntKind.i64.wrap ((at_ : Int) + z % 8) = (at_ : Int) + z % 8 ∧ min (H : Int) ((at_ : Int) + z % 8) = (en : Int)) ∨ (¬ (i : Int) < (n : Int) ∧ H = en)) := by
        by_cases hin : i < n
        · obtain ⟨⟨z0, z1⟩, cb, co, e, hc⟩ := Hel.out i hin
          generalize cs.getD i 0 = z at *
          refine ⟨(min (H : Int) ((at_ : Int) + z % 8)).toNat, by omega, by omega, fun h => by omega, .inl ⟨hin, cb, co, z, ⟨e, hc⟩, ⟨wrapS (by omega) (by omega), Int.tmod_eq_emod_of_nonneg z0⟩, wrapS (by omega) (by omega), by omega⟩⟩
        · exact ⟨H, ha, Nat.le_refl _, fun _ => rfl, .inr ⟨by omega, rfl⟩⟩
      obtain ⟨en, hea, heH, henH, hcase⟩ := hcase
      obtain ⟨o1, ho1⟩ : ∃ o, D * at_ = o := ⟨_, rfl⟩
      obtain ⟨o2, ho2⟩ : ∃ o, D * en = o := ⟨_, rfl⟩
      have ho12 : o1 ≤ o2 := by rw [← ho1, ← ho2]; exact Nat.mul_le_mul_left D hea
      have ho2N : o2 ≤ N := by rw [← ho2, ← hDH]; exact Nat.mul_le_mul_left D heH
      have q6 : IntKind.i64.wrap ((D : Int) * (at_ : Int)) = (o1 : Int) := by rw [← Int.natCast_mul, ho1]; exact wrapS (by omega) (by omega)
      have q7 : IntKind.i64.wrap ((D : Int) * (en : Int)) = (o2 : Int) := by rw [← Int.natCast_mul, ho2]; exact wrapS (by omega) (by omega)
      have HOk := Lib.hid (HO.out at_ en F hea (by rw [ho2]; exact ho2N))
      have HQk := Lib.hid (fun k => HQ.out k (at_ : Int) (en : Int) F)
      rw [ho1, ho2] at HOk
      rw [ho1]
      have Ho1 := Lib.hid ho1
      have Ho2 := Lib.hid ho2
      have HhenH := Lib.hid henH
      clear ho1 ho2 henH hat
      generalize hG : bandF W (at_ : Int) (en : Int) F = G at *
      have HG := Lib.hid hG
      clear hG
      obtain ⟨n1, n2, n3, n4, n5, n6, n7, n8⟩ := tok8
      clear n1
      rcases hcase with ⟨hin, cb, co, z, ⟨rfl, hcell⟩, ⟨w3, r3⟩, w4, hen⟩ | ⟨hin, rfl⟩
      · go_wp2_with (first | (go_at_call 25; (with_reducible refine (HBd.out _ _ _ hL.below).mono ?_); rintro e _ ⟨qb, qo, qc, ⟨rfl, hq1, hq2⟩, hb, hf⟩; rw [HG.out] at hf; replace hL := hL.callF hb hf; clear hb hf) | (with_reducible first | (clear hL n1; intro b1 w1 hL) | (clear hL n2; intro b2 w2 hL) | (clear hL n3; intro b3 w3 hL) | (clear hL n4; intro b4 w4 hL) | (clear hL n5; intro b5 w5 hL) | (clear hL n6; intro b6 w6 hL) | (clear hL n7; intro b7 w7 hL) | (clear hL n8; intro b8 w8 hL) | (clear hL; intro _ _ hL) | (clear hL; intro _ hL)) | ((with_reducible refine goJ rfl ?_); refine goP ?_))
        go_loopw [19] (fun s19 wq => ∃ k : Nat, k ≤ N ∧ s19 = .int .i64 k ∧ Holds w wq [blk b2 #[.int .i64 W, .int .i64 H, .slice (some ⟨qb, qo, none⟩) N qc] 53, blk b1 #[.int .i64 W, .int .i64 H, .slice (some ⟨pb, po, none⟩) N pc] 53] [PixF qb qo N G, PixF pb po N F])
          (fun s19 wq => N - (intOf s19).toNat)
        case atStart => exact ⟨0, by omega, rfl, hL⟩
        case round =>
          clear hL
          obtain ⟨k, hk, rfl, hL⟩ := hrel
          by_cases hkt : k < N
          · have hkb : (k : Int) < (N : Int) := by omega
            have hcq : _ := (show PixF qb qo N G _ from hL.fact0) k hkt
            have HQj := Lib.hid (HQk.out k)
            obtain ⟨j, hj⟩ : ∃ j, k / D = j := ⟨_, rfl⟩
            rw [hj] at HQj
            have rj : (k : Int).tdiv (D : Int) = (j : Int) := by rw [Int.tdiv_eq_ediv_of_nonneg (by omega), ← hj]; simp
            have hD0 : ¬ (D : Int) = 0 := by omega
            have hj9 : j ≤ k := by rw [← hj]; exact Nat.div_le_self k D
            have wj : IntKind.i64.wrap (j : Int) = (j : Int) := wrapS (by omega) (by omega)
            clear hj
            rcases (by omega : (j : Int) < (at_ : Int) ∨ (¬ (j : Int) < (at_ : Int) ∧ (en : Int) ≤ (j : Int)) ∨ (¬ (j : Int) < (at_ : Int) ∧ ¬ (en : Int) ≤ (j : Int))) with j1 | ⟨j1, j2⟩ | ⟨j1, j2⟩
            · rw [HQj.out (.inl j1)] at hcq
              go_wp2_with (first | (with_reducible first | (clear hL n1; intro b1 w1 hL) | (clear hL n2; intro b2 w2 hL) | (clear hL n3; intro b3 w3 hL) | (clear hL n4; intro b4 w4 hL) | (clear hL n5; intro b5 w5 hL) | (clear hL n6; intro b6 w6 hL) | (clear hL n7; intro b7 w7 hL) | (clear hL n8; intro b8 w8 hL) | (clear hL; intro _ _ hL) | (clear hL; intro _ hL)) | ((with_reducible refine goJ rfl ?_); refine goP ?_))
              go_roundw
              case rel => exact ⟨k + 1, by omega, by go_num, hL⟩
              case measure => simp [intOf]; omega
            · rw [HQj.out (.inr j2)] at hcq
              go_wp2_with (first | (with_reducible first | (clear hL n1; intro b1 w1 hL) | (clear hL n2; intro b2 w2 hL) | (clear hL n3; intro b3 w3 hL) | (clear hL n4; intro b4 w4 hL) | (clear hL n5; intro b5 w5 hL) | (clear hL n6; intro b6 w6 hL) | (clear hL n7; intro b7 w7 hL) | (clear hL n8; intro b8 w8 hL) | (clear hL; intro _ _ hL) | (clear hL; intro _ hL)) | ((with_reducible refine goJ rfl ?_); refine goP ?_))
              go_roundw
              case rel => exact ⟨k + 1, by omega, by go_num, hL⟩
              case measure => simp [intOf]; omega
            · go_wp2_with (first | (with_reducible first | (clear hL n1; intro b1 w1 hL) | (clear hL n2; intro b2 w2 hL) | (clear hL n3; intro b3 w3 hL) | (clear hL n4; intro b4 w4 hL) | (clear hL n5; intro b5 w5 hL) | (clear hL n6; intro b6 w6 hL) | (clear hL n7; intro b7 w7 hL) | (clear hL n8; intro b8 w8 hL) | (clear hL; intro _ _ hL) | (clear hL; intro _ hL)) | ((with_reducible refine goJ rfl ?_); refine goP ?_))
              go_roundw
              case rel => exact ⟨k + 1, by omega, by go_num, hL⟩
              case measure => simp [intOf]; omega
          · have hkb : ¬ (k : Int) < (N : Int) := by omega
            have hsz : ¬ 9223372036854775807 < (strS (cutF F 0 o1)).size + (strS (cutF G o1 (o2 - o1))).size := by rw [cut_size, cut_size]; omega
            by_cases hq0 : qc = o1
            · have Hz := Lib.hid (show o2 = o1 by omega)
              go_wp2_with (first | (with_reducible refine wpA_convC rfl _ rfl (.slice _ _ _) rfl (run_pixZ (G := G) Hz.out) ?_) | (with_reducible first | (clear hL n1; intro b1 w1 hL) | (clear hL n2; intro b2 w2 hL) | (clear hL n3; intro b3 w3 hL) | (clear hL n4; intro b4 w4 hL) | (clear hL n5; intro b5 w5 hL) | (clear hL n6; intro b6 w6 hL) | (clear hL n7; intro b7 w7 hL) | (clear hL n8; intro b8 w8 hL) | (clear hL; intro _ _ hL) | (clear hL; intro _ hL)) | ((with_reducible refine goJ rfl ?_); refine goP ?_))
              go_roundw
              case rel => exact ⟨i + 1, en, by omega, heH, HhenH.out, by go_num, rfl, by rw [Ho2.out, HOk.out], (hL.drop .here).forget⟩
              case measure => simp [intOf]; omega
            · go_wp2_with (first | (with_reducible refine wpA_convC rfl _ rfl (.slice _ _ _) rfl (run_pix (lo := o1) (n := o2 - o1) hL.fact0 (by omega)) ?_) | (with_reducible first | (clear hL n1; intro b1 w1 hL) | (clear hL n2; intro b2 w2 hL) | (clear hL n3; intro b3 w3 hL) | (clear hL n4; intro b4 w4 hL) | (clear hL n5; intro b5 w5 hL) | (clear hL n6; intro b6 w6 hL) | (clear hL n7; intro b7 w7 hL) | (clear hL n8; intro b8 w8 hL) | (clear hL; intro _ _ hL) | (clear hL; intro _ hL)) | ((with_reducible refine goJ rfl ?_); refine goP ?_))
              go_roundw
              case rel => exact ⟨i + 1, en, by omega, heH, HhenH.out, by go_num, rfl, by rw [Ho2.out, HOk.out], (hL.drop .here).forget⟩
              case measure => simp [intOf]; omega
      · obtain rfl : N = o2 := hDH.symm.trans Ho2.out
        go_wp2_with (first | (go_at_call 25; (with_reducible refine (HBd.out _ _ _ hL.below).mono ?_); rintro e _ ⟨qb, qo, qc, ⟨rfl, hq1, hq2⟩, hb, hf⟩; rw [HG.out] at hf; replace hL := hL.callF hb hf; clear hb hf) | (with_reducible first | (clear hL n1; intro b1 w1 hL) | (clear hL n2; intro b2 w2 hL) | (clear hL n3; intro b3 w3 hL) | (clear hL n4; intro b4 w4 hL) | (clear hL n5; intro b5 w5 hL) | (clear hL n6; intro b6 w6 hL) | (clear hL n7; intro b7 w7 hL) | (clear hL n8; intro b8 w8 hL) | (clear hL; intro _ _ hL) | (clear hL; intro _ hL)) | ((with_reducible refine goJ rfl ?_); refine goP ?_))
        go_loopw [19] (fun s19 wq => ∃ k : Nat, k ≤ N ∧ s19 = .int .i64 k ∧ Holds w wq [blk b2 #[.int .i64 W, .int .i64 H, .slice (some ⟨qb, qo, none⟩) N qc] 53, blk b1 #[.int .i64 W, .int .i64 H, .slice (some ⟨pb, po, none⟩) N pc] 53] [PixF qb qo N G, PixF pb po N F])
          (fun s19 wq => N - (intOf s19).toNat)
        case atStart => exact ⟨0, by omega, rfl, hL⟩
        case round =>
          clear hL
          obtain ⟨k, hk, rfl, hL⟩ := hrel
          by_cases hkt : k < N
          · have hkb : (k : Int) < (N : Int) := by omega
            have hcq : _ := (show PixF qb qo N G _ from hL.fact0) k hkt
            have HQj := Lib.hid (HQk.out k)
            obtain ⟨j, hj⟩ : ∃ j, k / D = j := ⟨_, rfl⟩
            rw [hj] at HQj
            have rj : (k : Int).tdiv (D : Int) = (j : Int) := by rw [Int.tdiv_eq_ediv_of_nonneg (by omega), ← hj]; simp
            have hD0 : ¬ (D : Int) = 0 := by omega
            have hj9 : j ≤ k := by rw [← hj]; exact Nat.div_le_self k D
            have wj : IntKind.i64.wrap (j : Int) = (j : Int) := wrapS (by omega) (by omega)
            clear hj
            rcases (by omega : (j : Int) < (at_ : Int) ∨ (¬ (j : Int) < (at_ : Int) ∧ (H : Int) ≤ (j : Int)) ∨ (¬ (j : Int) < (at_ : Int) ∧ ¬ (H : Int) ≤ (j : Int))) with j1 | ⟨j1, j2⟩ | ⟨j1, j2⟩
            · rw [HQj.out (.inl j1)] at hcq
              go_wp2_with (first | (with_reducible first | (clear hL n1; intro b1 w1 hL) | (clear hL n2; intro b2 w2 hL) | (clear hL n3; intro b3 w3 hL) | (clear hL n4; intro b4 w4 hL) | (clear hL n5; intro b5 w5 hL) | (clear hL n6; intro b6 w6 hL) | (clear hL n7; intro b7 w7 hL) | (clear hL n8; intro b8 w8 hL) | (clear hL; intro _ _ hL) | (clear hL; intro _ hL)) | ((with_reducible refine goJ rfl ?_); refine goP ?_))
              go_roundw
              case rel => exact ⟨k + 1, by omega, by go_num, hL⟩
              case measure => simp [intOf]; omega
            · rw [HQj.out (.inr j2)] at hcq
              go_wp2_with (first | (with_reducible first | (clear hL n1; intro b1 w1 hL) | (clear hL n2; intro b2 w2 hL) | (clear hL n3; intro b3 w3 hL) | (clear hL n4; intro b4 w4 hL) | (clear hL n5; intro b5 w5 hL) | (clear hL n6; intro b6 w6 hL) | (clear hL n7; intro b7 w7 hL) | (clear hL n8; intro b8 w8 hL) | (clear hL; intro _ _ hL) | (clear hL; intro _ hL)) | ((with_reducible refine goJ rfl ?_); refine goP ?_))
              go_roundw
              case rel => exact ⟨k + 1, by omega, by go_num, hL⟩
              case measure => simp [intOf]; omega
            · go_wp2_with (first | (with_reducible first | (clear hL n1; intro b1 w1 hL) | (clear hL n2; intro b2 w2 hL) | (clear hL n3; intro b3 w3 hL) | (clear hL n4; intro b4 w4 hL) | (clear hL n5; intro b5 w5 hL) | (clear hL n6; intro b6 w6 hL) | (clear hL n7; intro b7 w7 hL) | (clear hL n8; intro b8 w8 hL) | (clear hL; intro _ _ hL) | (clear hL; intro _ hL)) | ((with_reducible refine goJ rfl ?_); refine goP ?_))
              go_roundw
              case rel => exact ⟨k + 1, by omega, by go_num, hL⟩
              case measure => simp [intOf]; omega
          · have hkb : ¬ (k : Int) < (N : Int) := by omega
            have hsz : ¬ 9223372036854775807 < (strS (cutF F 0 o1)).size + (strS (cutF G o1 (N - o1))).size := by rw [cut_size, cut_size]; omega
            by_cases hq0 : qc = o1
            · have Hz := Lib.hid (show N = o1 by omega)
              go_wp2_with (first | (with_reducible refine wpA_convC rfl _ rfl (.slice _ _ _) rfl (run_pixZ (G := G) Hz.out) ?_) | (with_reducible first | (clear hL n1; intro b1 w1 hL) | (clear hL n2; intro b2 w2 hL) | (clear hL n3; intro b3 w3 hL) | (clear hL n4; intro b4 w4 hL) | (clear hL n5; intro b5 w5 hL) | (clear hL n6; intro b6 w6 hL) | (clear hL n7; intro b7 w7 hL) | (clear hL n8; intro b8 w8 hL) | (clear hL; intro _ _ hL) | (clear hL; intro _ hL)) | ((with_reducible refine goJ rfl ?_); refine goP ?_))
              go_roundw
              case rel => exact ⟨i + 1, H, by omega, heH, fun _ => rfl, by go_num, rfl, by rw [Ho2.out, HOk.out], (hL.drop .here).forget⟩
              case measure => simp [intOf]; omega
            · go_wp2_with (first | (with_reducible refine wpA_convC rfl _ rfl (.slice _ _ _) rfl (run_pix (lo := o1) (n := N - o1) hL.fact0 (by omega)) ?_) | (with_reducible first | (clear hL n1; intro b1 w1 hL) | (clear hL n2; intro b2 w2 hL) | (clear hL n3; intro b3 w3 hL) | (clear hL n4; intro b4 w4 hL) | (clear hL n5; intro b5 w5 hL) | (clear hL n6; intro b6 w6 hL) | (clear hL n7; intro b7 w7 hL) | (clear hL n8; intro b8 w8 hL) | (clear hL; intro _ _ hL) | (clear hL; intro _ hL)) | ((with_reducible refine goJ rfl ?_); refine goP ?_))
              go_roundw
              case rel => exact ⟨i + 1, H, by omega, heH, fun _ => rfl, by go_num, rfl, by rw [Ho2.out, HOk.out], (hL.drop .here).forget⟩
              case measure => simp [intOf]; omega
    · have e : i = n + 1 := by omega
      have hib : ¬ (i : Int) ≤ (n : Int) := by omega
      have e2 := hat e
      subst e2
      rw [hDH]
      go_wp2_with (first | (with_reducible refine wpA_convC rfl _ rfl (.slice _ _ _) rfl (run_pix (lo := 0) (n := N) hL.fact0 (by omega)) ?_) | (with_reducible first | (clear hL n1; intro b1 w1 hL) | (clear hL n2; intro b2 w2 hL) | (clear hL n3; intro b3 w3 hL) | (clear hL n4; intro b4 w4 hL) | (clear hL n5; intro b5 w5 hL) | (clear hL n6; intro b6 w6 hL) | (clear hL n7; intro b7 w7 hL) | (clear hL n8; intro b8 w8 hL) | (clear hL; intro _ _ hL) | (clear hL; intro _ hL)) | ((with_reducible refine goJ rfl ?_); refine goP ?_))
      go_ret
      exact ⟨ret_bool (by simp), hL.below⟩
end Go.Proofs.YtmnoeoecjfhhbaaGreat
