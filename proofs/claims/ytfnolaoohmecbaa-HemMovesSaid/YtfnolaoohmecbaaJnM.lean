/- Plain laws: two paths joined. -/
import Derived.Test.YtfnolaoohmecbaaMkdM
import Derived.Test.YtfnolaoohmecbaaShM
namespace Go.Proofs.Ytfnolaoohmecbaa
open Go.RowKit

theorem wpA_makeOwn {P : Program} {w0 w : World} {M : List Res} {Φ : List (World → Prop)} {ops : Array Oper} {rest : List Oper} {o : Oper} {a : Act} {Q : Exit → Act → World → Prop} (hgd : Region.wanted o (yielded ops a.tmps) = true) (l c : Operand) (t : TypeId) (ho : o.op = .makeSlice t l c) (hl : a.eval l = .int .i64 0) {C : Int} (hc : a.eval c = .int .i64 C)
    {e size bytes : Nat} {z : Value} [ht : SliceT P t e] [hi : ElemT P e size bytes z] (n : Nat) (hC : C = (n : Int)) (hz : z.cells.size = size) (hb : bytes * n ≤ 281474976710656) (hm : n ≤ maxLen) (hL : Holds w0 w M Φ)
    (h : ∀ b w', Holds w0 w' (own w0.heap.size e size (.slice (some ⟨b, 0, none⟩) 0 n) 0 [] :: M) Φ → wpList P ops Q rest (a.put o.dst (.slice (some ⟨b, 0, none⟩) 0 n)) w') : wpList P ops Q (o :: rest) a w := by
  obtain ⟨i, hi1, hi2, hi3, hi4⟩ := info_parts hi.info
  subst hC
  have hb' : (i.bytes : Int) * (n : Int) ≤ 281474976710656 := by
    have h : ((bytes * n : Nat) : Int) ≤ 281474976710656 := by omega
    rw [hi4]
    rwa [Int.natCast_mul] at h
  have hrun := run_make (P := P) w t e i z ht.out hi1 hi2 .i64 .i64 0 (n : Int) (by omega) (by omega) hb' (by unfold maxLen at hm; omega)
  simp only [Int.toNat_natCast, Int.toNat_zero] at hrun
  refine wpList_run hgd (.slice (some ⟨w.heap.size, 0, none⟩) 0 n) (w.alloc (.cells (madeCells z.cells (n * i.size)) e)) ?_ (h _ _ ?_)
  · unfold execOp
    simp only [ho, hl, hc, Sem.run_bind, hrun]
    rfl
  · have hL2 := hL.alloc (madeCells z.cells (n * i.size)) e
    have hat := hL2.at (.here : At _ (blk w.heap.size (madeCells z.cells (n * i.size)) e))
    refine hL2.upd .here ⟨rfl, rfl, rfl, Nat.le_refl _, fun _ _ _ => rfl⟩ ⟨by simp, .inr ⟨w.heap.size, n, madeCells z.cells (n * i.size), rfl, hL.size, hat, Nat.zero_le _, hm, by rw [hi3]; simp [madeCells], by simp⟩⟩ (fun b hb => .inl hb)
theorem appendS {P : Program} {w0 w : World} {M : List Res} {Φ : List (World → Prop)} {K2 : Value → World → Prop} {t ty e bytes : Nat} {z v u : Value} [ht : SliceT P t e] [hi : ElemT P e 5 bytes z] {l : List Sg} (hs : SegsAt w u l)
    (hL : Holds w0 w M Φ) {n : Nat} {xs : List Value} {f : Res → List Res} (hu : ∀ r', Upd M (own w0.heap.size e 5 v n xs) r' (f r'))
    (hz : z.cells.size = 5) (h63 : n + l.length ≤ maxLen) (hbytes : (n + l.length) * bytes ≤ 140737488355328)
    (h : ∀ v' w', Holds w0 w' (f (own w0.heap.size e 5 v' (n + l.length) (xs ++ (l.map segC).flatten))) Φ → K2 v' w') : AppendAt P t ty v u w K2 :=
  appendOld hs (segC_len l) (by intro x hx y hy; obtain ⟨e, _, rfl⟩ := List.mem_map.1 hx; unfold segC at hy; simp only [List.mem_cons, List.not_mem_nil, or_false] at hy; rcases hy with h | h | h | h | h <;> subst h <;> rfl) hL hu hz (by decide) (by rw [List.length_map]; exact h63) (by rw [List.length_map]; exact hbytes) (by intro v' w' h'; rw [List.length_map] at h'; exact h v' w' h')

set_option maxRecDepth 100000 in
theorem last_calls (w : World) (v : Value) (l : List Sg) (hv : SegsAt w v l) : Calls Try.prog 55 #[v] w fun e w' => e = .returned (.int .i64 (lastS l)) ∧ Below w.heap.size w w' := by
  obtain ⟨a, cap, rfl, hlc, hcm, hel⟩ := hv.parts
  clear hv
  unfold maxLen at hcm
  have hL := Holds.start w
  rcases Nat.eq_zero_or_pos l.length with h0 | h0
  · have HR := Lib.hid (show lastS l = 0 by unfold lastS; rw [h0]; rfl)
    rw [h0]
    clear hel
    go_enter Try.func55, Try.ntmps55
    go_wp2_with (first | ((clear hL; with_reducible intro _ _ hL)) | (with_reducible refine wpC_alloc rfl _ rfl _ _ inferInstance hL ?_) | (with_reducible first | refine wpB_agg rfl _ _ _ rfl rfl hL ?_ | refine wpB_one rfl _ _ (.int _ _) rfl rfl rfl hL ?_ | refine wpB_one rfl _ _ (.slice _ _ _) rfl rfl rfl hL ?_ | refine wpB_one rfl _ _ (.bool _) rfl rfl rfl hL ?_ | refine wpB_one rfl _ _ (.pointer _) rfl rfl rfl hL ?_ | refine wpB_one rfl _ _ (.func _ _ _) rfl rfl rfl hL ?_) | (with_reducible first | refine wpH_max rfl _ _ _ _ rfl _ _ rfl rfl ?_ | refine wpH_min rfl _ _ _ _ rfl _ _ rfl rfl ?_) | ((with_reducible refine wpA_load rfl _ _ rfl _ rfl ?_); first | refine loadA hL ?_ | refine loadR hL ?_ | refine loadC hL ?_ | refine loadD ?_ | refine loadE hL ?_ | refine loadF ?_) | ((with_reducible refine wpA_index rfl _ _ _ rfl _ rfl _ rfl ?_); first | (refine indexA ?_; try rw [Int.toNat_natCast]) | refine indexC ?_) | ((with_reducible refine wpA_store rfl _ _ _ rfl _ rfl (.agg _) rfl ?_); refine storeR hL ?_; clear hL; intro _ hL) | ((with_reducible first | refine wpA_store rfl _ _ _ rfl _ rfl (.int _ _) rfl ?_ | refine wpA_store rfl _ _ _ rfl _ rfl (.slice _ _ _) rfl ?_ | refine wpA_store rfl _ _ _ rfl _ rfl (.bool _) rfl ?_ | refine wpA_store rfl _ _ _ rfl _ rfl (.pointer _) rfl ?_ | refine wpA_store rfl _ _ _ rfl _ rfl (.func _ _ _) rfl ?_); (first | refine storeA hL ?_ | refine storeO hL ?_); (clear hL; intro _ hL)) | ((with_reducible refine wpA_lit rfl _ _ _ rfl ?_); first | refine litA1 hL ?_ | refine litA2 hL ?_ | refine litA3 hL ?_ | refine litA4 hL ?_ | refine litA6 hL ?_) | ((with_reducible refine wpA_append rfl _ _ _ rfl (.slice _ _ _) rfl ?_); intro vq hvq; simp [go_sem] at hvq; subst hvq; refine appendA hL ?_; clear hL; intro _ _ _ hL; try dsimp only at hL) | ((with_reducible refine wpA_make rfl _ _ _ rfl _ rfl rfl ?_); refine makeA hL ?_))
    go_ret
    exact ⟨ret_int HR.out.symm, hL.below⟩
  · obtain ⟨m, hm⟩ : ∃ m, l.length = m + 1 := ⟨l.length - 1, by omega⟩
    obtain ⟨b, o, rfl, hc⟩ := hel m (by omega)
    have HR := Lib.hid (show lastS l = (l.getD m default).kind by unfold lastS lastK; rw [hm, if_neg (by omega)]; rfl)
    rw [hm]
    have hlen9 := hm
    clear hel hm h0
    have hm9 : m < 9223372036854775807 := by omega
    clear hlen9
    generalize l.getD m default = s at *
    obtain ⟨kind, x, y, cx, cy⟩ := s
    unfold segC at hc
    dsimp only at hc
    have hk : w.cell? ⟨b, o + m * 5, none⟩ = some (.int .i64 kind) := hc 0 _ rfl
    have hne : (((m + 1 : Nat) : Int) == 0) = false := by simp; omega
    go_enter Try.func55, Try.ntmps55
    go_wp2_with (first | ((clear hL; with_reducible intro _ _ hL)) | (with_reducible refine wpC_alloc rfl _ rfl _ _ inferInstance hL ?_) | (with_reducible first | refine wpB_agg rfl _ _ _ rfl rfl hL ?_ | refine wpB_one rfl _ _ (.int _ _) rfl rfl rfl hL ?_ | refine wpB_one rfl _ _ (.slice _ _ _) rfl rfl rfl hL ?_ | refine wpB_one rfl _ _ (.bool _) rfl rfl rfl hL ?_ | refine wpB_one rfl _ _ (.pointer _) rfl rfl rfl hL ?_ | refine wpB_one rfl _ _ (.func _ _ _) rfl rfl rfl hL ?_) | (with_reducible first | refine wpH_max rfl _ _ _ _ rfl _ _ rfl rfl ?_ | refine wpH_min rfl _ _ _ _ rfl _ _ rfl rfl ?_) | ((with_reducible refine wpA_load rfl _ _ rfl _ rfl ?_); first | refine loadA hL ?_ | refine loadR hL ?_ | refine loadC hL ?_ | refine loadD ?_ | refine loadE hL ?_ | refine loadF ?_) | ((with_reducible refine wpA_index rfl _ _ _ rfl _ rfl _ rfl ?_); first | (refine indexA ?_; try rw [Int.toNat_natCast]) | refine indexC ?_) | ((with_reducible refine wpA_store rfl _ _ _ rfl _ rfl (.agg _) rfl ?_); refine storeR hL ?_; clear hL; intro _ hL) | ((with_reducible first | refine wpA_store rfl _ _ _ rfl _ rfl (.int _ _) rfl ?_ | refine wpA_store rfl _ _ _ rfl _ rfl (.slice _ _ _) rfl ?_ | refine wpA_store rfl _ _ _ rfl _ rfl (.bool _) rfl ?_ | refine wpA_store rfl _ _ _ rfl _ rfl (.pointer _) rfl ?_ | refine wpA_store rfl _ _ _ rfl _ rfl (.func _ _ _) rfl ?_); (first | refine storeA hL ?_ | refine storeO hL ?_); (clear hL; intro _ hL)) | ((with_reducible refine wpA_lit rfl _ _ _ rfl ?_); first | refine litA1 hL ?_ | refine litA2 hL ?_ | refine litA3 hL ?_ | refine litA4 hL ?_ | refine litA6 hL ?_) | ((with_reducible refine wpA_append rfl _ _ _ rfl (.slice _ _ _) rfl ?_); intro vq hvq; simp [go_sem] at hvq; subst hvq; refine appendA hL ?_; clear hL; intro _ _ _ hL; try dsimp only at hL) | ((with_reducible refine wpA_make rfl _ _ _ rfl _ rfl rfl ?_); refine makeA hL ?_))
    go_ret
    exact ⟨ret_int HR.out.symm, hL.below⟩
set_option maxRecDepth 100000 in
theorem longer_calls (w : World) (v u : Value) (l m : List Sg) (hv : SegsAt w v l) (hu : SegsAt w u m) (hlen : l.length + m.length ≤ 300) : Calls Try.prog 56 #[v, u] w (SegsErr (l ++ m) w) := by
  have Hv := Lib.hid hv
  have Hu := Lib.hid hu
  obtain ⟨a, cap, rfl, _⟩ := hv.parts
  obtain ⟨ua, ucap, rfl, _⟩ := hu.parts
  clear hv hu
  have hL := Holds.start w
  have hlen2 : ¬ (300 : Int) < (l.length : Int) + (m.length : Int) := by omega
  go_enter Try.func56, Try.ntmps56
  go_wp2_with (first | ((with_reducible refine wpA_makeOwn rfl _ _ _ rfl rfl rfl (l.length + m.length) ?_ ?_ ?_ ?_ hL ?_); (· omega); (· rfl); (· omega); (· unfold maxLen; omega); clear hL; intro bo _ hL) | ((with_reducible refine wpA_append rfl _ _ _ rfl (.slice _ _ _) rfl ?_); intro vq hvq; simp [go_sem] at hvq; subst hvq; (first | refine appendS (Hv.out.hold hL) hL (fun r' => .here) rfl ?_ ?_ ?_ | refine appendS (Hu.out.hold hL) hL (fun r' => .here) rfl ?_ ?_ ?_); (· unfold maxLen; omega); (· omega); clear hL; intro ve2 _ hL; (try simp only [Nat.zero_add, List.nil_append] at hL); obtain ⟨gz, cz, rfl⟩ := own_slice hL .here) | ((clear hL; with_reducible intro _ _ hL)) | (with_reducible refine wpC_alloc rfl _ rfl _ _ inferInstance hL ?_) | (with_reducible first | refine wpB_agg rfl _ _ _ rfl rfl hL ?_ | refine wpB_one rfl _ _ (.int _ _) rfl rfl rfl hL ?_ | refine wpB_one rfl _ _ (.slice _ _ _) rfl rfl rfl hL ?_ | refine wpB_one rfl _ _ (.bool _) rfl rfl rfl hL ?_ | refine wpB_one rfl _ _ (.pointer _) rfl rfl rfl hL ?_ | refine wpB_one rfl _ _ (.func _ _ _) rfl rfl rfl hL ?_) | (with_reducible first | refine wpH_max rfl _ _ _ _ rfl _ _ rfl rfl ?_ | refine wpH_min rfl _ _ _ _ rfl _ _ rfl rfl ?_) | ((with_reducible refine wpA_load rfl _ _ rfl _ rfl ?_); first | refine loadA hL ?_ | refine loadR hL ?_ | refine loadC hL ?_ | refine loadD ?_ | refine loadE hL ?_ | refine loadF ?_) | ((with_reducible refine wpA_index rfl _ _ _ rfl _ rfl _ rfl ?_); first | (refine indexA ?_; try rw [Int.toNat_natCast]) | refine indexC ?_) | ((with_reducible refine wpA_store rfl _ _ _ rfl _ rfl (.agg _) rfl ?_); refine storeR hL ?_; clear hL; intro _ hL) | ((with_reducible first | refine wpA_store rfl _ _ _ rfl _ rfl (.int _ _) rfl ?_ | refine wpA_store rfl _ _ _ rfl _ rfl (.slice _ _ _) rfl ?_ | refine wpA_store rfl _ _ _ rfl _ rfl (.bool _) rfl ?_ | refine wpA_store rfl _ _ _ rfl _ rfl (.pointer _) rfl ?_ | refine wpA_store rfl _ _ _ rfl _ rfl (.func _ _ _) rfl ?_); (first | refine storeA hL ?_ | refine storeO hL ?_); (clear hL; intro _ hL)) | ((with_reducible refine wpA_lit rfl _ _ _ rfl ?_); first | refine litA1 hL ?_ | refine litA2 hL ?_ | refine litA3 hL ?_ | refine litA4 hL ?_ | refine litA6 hL ?_) | ((with_reducible refine wpA_make rfl _ _ _ rfl _ rfl rfl ?_); refine makeA hL ?_))
  go_ret2
  have hF := own_segs (p := l ++ m) (by rw [List.length_append, List.map_append, List.flatten_append]; exact hL)
  rw [List.length_append] at hF
  exact ⟨_, rfl, hL.below, hF⟩
/-- one path behind the other -/
def joinS (l m : List Sg) : List Sg := (if lastS l = 1 ∧ m ≠ [] then l.take (l.length - 1) else l) ++ m
set_option maxRecDepth 100000 in
theorem join_calls (w : World) (v u : Value) (l m : List Sg) (hv : SegsAt w v l) (hu : SegsAt w u m) (hl : pathMay l = true) (hm : pathMay m = true) (hlen : l.length + m.length ≤ 300) : Calls Try.prog 26 #[v, u] w (SegsErr (joinS l m) w) := by
  have Hv := Lib.hid hv
  have Hu := Lib.hid hu
  obtain ⟨a, cap, rfl, hlc, hcm, hel⟩ := hv.parts
  obtain ⟨ua, ucap, rfl, _⟩ := hu.parts
  clear hu
  unfold maxLen at hcm
  have Hl := Lib.hid hl
  have Hm := Lib.hid hm
  clear hl hm
  have hL := Holds.start w
  by_cases hc : lastS l = 1 ∧ m ≠ []
  · obtain ⟨h1, h2⟩ := hc
    have hl0 : 0 < l.length := by
      rcases Nat.eq_zero_or_pos l.length with h0 | h0
      · unfold lastS at h1; rw [h0] at h1; exact absurd (show (0 : Int) = 1 from h1) (by decide)
      · exact h0
    obtain ⟨n, hn⟩ : ∃ n, l.length = n + 1 := ⟨l.length - 1, by omega⟩
    obtain ⟨b, o, rfl, _⟩ := hel 0 (by omega)
    have HT : Hid (SegsAt w (.slice (some ⟨b, o, none⟩) n cap) (l.take n)) := by
      have := SliceAt.part hv (Nat.zero_le n) (by rw [hn]; omega)
      rw [List.drop_zero, ← List.map_take] at this
      have e : sliced (some ⟨b, o, none⟩) 0 n cap 5 = .slice (some ⟨b, o, none⟩) n cap := by unfold sliced; rw [if_neg (by omega)]; simp [Addr.add]
      rw [e] at this
      exact this
    have HJ := Lib.hid (show joinS l m = l.take n ++ m by unfold joinS; rw [if_pos ⟨h1, h2⟩, hn]; rfl)
    have HL1 := Lib.hid h1
    have hm0 : (0 : Int) < (m.length : Int) := by have := List.length_pos_iff.2 h2; omega
    have HLo := Lib.hid (fun w' hv hu => longer_calls w' (.slice (some ⟨b, o, none⟩) n cap) (.slice ua m.length ucap) (l.take n) m hv hu (by rw [List.length_take]; omega))
    generalize joinS l m = J at *
    rw [hn]
    have hv2 : Hid (SegsAt w (.slice (some ⟨b, o, none⟩) (n + 1) cap) l) := by rw [← hn]; exact Hv.out
    have hcap : ¬ cap = 0 := by omega
    have hncap : n ≤ cap := by omega
    clear hv hel Hv hn hl0 h1 h2 hlc hlen
    go_enter Try.func26, Try.ntmps26
    go_wp2_with (first | (go_at_call 54; (first | ((with_reducible refine (pathMay_calls _ _ l (hv2.out.hold hL)).mono ?_); rintro e _ ⟨rfl, hb⟩; rw [Hl.out]) | ((with_reducible refine (pathMay_calls _ _ m (Hu.out.hold hL)).mono ?_); rintro e _ ⟨rfl, hb⟩; rw [Hm.out])); replace hL := hL.call hb; clear hb) | (go_at_call 55; (with_reducible refine (last_calls _ _ l (hv2.out.hold hL)).mono ?_); rintro e _ ⟨rfl, hb⟩; rw [HL1.out]; replace hL := hL.call hb; clear hb) | (go_at_call 56; (with_reducible refine (HLo.out _ (HT.out.hold hL) (Hu.out.hold hL)).mono ?_); rintro e _ ⟨vj, rfl, hb, hf⟩; replace hL := hL.callF hb hf; clear hb hf) | ((clear hL; with_reducible intro _ _ hL)) | (with_reducible refine wpC_alloc rfl _ rfl _ _ inferInstance hL ?_) | (with_reducible first | refine wpB_agg rfl _ _ _ rfl rfl hL ?_ | refine wpB_one rfl _ _ (.int _ _) rfl rfl rfl hL ?_ | refine wpB_one rfl _ _ (.slice _ _ _) rfl rfl rfl hL ?_ | refine wpB_one rfl _ _ (.bool _) rfl rfl rfl hL ?_ | refine wpB_one rfl _ _ (.pointer _) rfl rfl rfl hL ?_ | refine wpB_one rfl _ _ (.func _ _ _) rfl rfl rfl hL ?_) | (with_reducible first | refine wpH_max rfl _ _ _ _ rfl _ _ rfl rfl ?_ | refine wpH_min rfl _ _ _ _ rfl _ _ rfl rfl ?_) | ((with_reducible refine wpA_load rfl _ _ rfl _ rfl ?_); first | refine loadA hL ?_ | refine loadR hL ?_ | refine loadC hL ?_ | refine loadD ?_ | refine loadE hL ?_ | refine loadF ?_) | ((with_reducible refine wpA_index rfl _ _ _ rfl _ rfl _ rfl ?_); first | (refine indexA ?_; try rw [Int.toNat_natCast]) | refine indexC ?_) | ((with_reducible refine wpA_store rfl _ _ _ rfl _ rfl (.agg _) rfl ?_); refine storeR hL ?_; clear hL; intro _ hL) | ((with_reducible first | refine wpA_store rfl _ _ _ rfl _ rfl (.int _ _) rfl ?_ | refine wpA_store rfl _ _ _ rfl _ rfl (.slice _ _ _) rfl ?_ | refine wpA_store rfl _ _ _ rfl _ rfl (.bool _) rfl ?_ | refine wpA_store rfl _ _ _ rfl _ rfl (.pointer _) rfl ?_ | refine wpA_store rfl _ _ _ rfl _ rfl (.func _ _ _) rfl ?_); (first | refine storeA hL ?_ | refine storeO hL ?_); (clear hL; intro _ hL)) | ((with_reducible refine wpA_lit rfl _ _ _ rfl ?_); first | refine litA1 hL ?_ | refine litA2 hL ?_ | refine litA3 hL ?_ | refine litA4 hL ?_ | refine litA6 hL ?_) | ((with_reducible refine wpA_append rfl _ _ _ rfl (.slice _ _ _) rfl ?_); intro vq hvq; simp [go_sem] at hvq; subst hvq; refine appendA hL ?_; clear hL; intro _ _ _ hL; try dsimp only at hL) | ((with_reducible refine wpA_make rfl _ _ _ rfl _ rfl rfl ?_); refine makeA hL ?_))
    go_ret2
    rw [HJ.out]
    exact ⟨_, rfl, hL.below, hL.fresh⟩
  · have HJ := Lib.hid (show joinS l m = l ++ m by unfold joinS; rw [if_neg hc])
    have hcs : ((lastS l == 1) = true ∧ m.length = 0) ∨ (lastS l == 1) = false := by
      by_cases h1 : lastS l = 1
      · left
        refine ⟨by simp [h1], ?_⟩
        by_cases h2 : m = []
        · rw [h2]; rfl
        · exact absurd ⟨h1, h2⟩ hc
      · right; simp [h1]
    have HLo := Lib.hid (fun w' hv hu => longer_calls w' (.slice a l.length cap) (.slice ua m.length ucap) l m hv hu hlen)
    generalize joinS l m = J at *
    clear hv hel hc hlen
    rcases hcs with ⟨h1, h2⟩ | h1
    · have h2' : ¬ (0 : Int) < (m.length : Int) := by omega
      clear h2
      go_enter Try.func26, Try.ntmps26
      go_wp2_with (first | (go_at_call 54; (first | ((with_reducible refine (pathMay_calls _ _ l (Hv.out.hold hL)).mono ?_); rintro e _ ⟨rfl, hb⟩; rw [Hl.out]) | ((with_reducible refine (pathMay_calls _ _ m (Hu.out.hold hL)).mono ?_); rintro e _ ⟨rfl, hb⟩; rw [Hm.out])); replace hL := hL.call hb; clear hb) | (go_at_call 55; (with_reducible refine (last_calls _ _ l (Hv.out.hold hL)).mono ?_); rintro e _ ⟨rfl, hb⟩; replace hL := hL.call hb; clear hb) | (go_at_call 56; (with_reducible refine (HLo.out _ (Hv.out.hold hL) (Hu.out.hold hL)).mono ?_); rintro e _ ⟨vj, rfl, hb, hf⟩; replace hL := hL.callF hb hf; clear hb hf) | ((clear hL; with_reducible intro _ _ hL)) | (with_reducible refine wpC_alloc rfl _ rfl _ _ inferInstance hL ?_) | (with_reducible first | refine wpB_agg rfl _ _ _ rfl rfl hL ?_ | refine wpB_one rfl _ _ (.int _ _) rfl rfl rfl hL ?_ | refine wpB_one rfl _ _ (.slice _ _ _) rfl rfl rfl hL ?_ | refine wpB_one rfl _ _ (.bool _) rfl rfl rfl hL ?_ | refine wpB_one rfl _ _ (.pointer _) rfl rfl rfl hL ?_ | refine wpB_one rfl _ _ (.func _ _ _) rfl rfl rfl hL ?_) | (with_reducible first | refine wpH_max rfl _ _ _ _ rfl _ _ rfl rfl ?_ | refine wpH_min rfl _ _ _ _ rfl _ _ rfl rfl ?_) | ((with_reducible refine wpA_load rfl _ _ rfl _ rfl ?_); first | refine loadA hL ?_ | refine loadR hL ?_ | refine loadC hL ?_ | refine loadD ?_ | refine loadE hL ?_ | refine loadF ?_) | ((with_reducible refine wpA_index rfl _ _ _ rfl _ rfl _ rfl ?_); first | (refine indexA ?_; try rw [Int.toNat_natCast]) | refine indexC ?_) | ((with_reducible refine wpA_store rfl _ _ _ rfl _ rfl (.agg _) rfl ?_); refine storeR hL ?_; clear hL; intro _ hL) | ((with_reducible first | refine wpA_store rfl _ _ _ rfl _ rfl (.int _ _) rfl ?_ | refine wpA_store rfl _ _ _ rfl _ rfl (.slice _ _ _) rfl ?_ | refine wpA_store rfl _ _ _ rfl _ rfl (.bool _) rfl ?_ | refine wpA_store rfl _ _ _ rfl _ rfl (.pointer _) rfl ?_ | refine wpA_store rfl _ _ _ rfl _ rfl (.func _ _ _) rfl ?_); (first | refine storeA hL ?_ | refine storeO hL ?_); (clear hL; intro _ hL)) | ((with_reducible refine wpA_lit rfl _ _ _ rfl ?_); first | refine litA1 hL ?_ | refine litA2 hL ?_ | refine litA3 hL ?_ | refine litA4 hL ?_ | refine litA6 hL ?_) | ((with_reducible refine wpA_append rfl _ _ _ rfl (.slice _ _ _) rfl ?_); intro vq hvq; simp [go_sem] at hvq; subst hvq; refine appendA hL ?_; clear hL; intro _ _ _ hL; try dsimp only at hL) | ((with_reducible refine wpA_make rfl _ _ _ rfl _ rfl rfl ?_); refine makeA hL ?_))
      go_ret2
      rw [HJ.out]
      exact ⟨_, rfl, hL.below, hL.fresh⟩
    · go_enter Try.func26, Try.ntmps26
      go_wp2_with (first | (go_at_call 54; (first | ((with_reducible refine (pathMay_calls _ _ l (Hv.out.hold hL)).mono ?_); rintro e _ ⟨rfl, hb⟩; rw [Hl.out]) | ((with_reducible refine (pathMay_calls _ _ m (Hu.out.hold hL)).mono ?_); rintro e _ ⟨rfl, hb⟩; rw [Hm.out])); replace hL := hL.call hb; clear hb) | (go_at_call 55; (with_reducible refine (last_calls _ _ l (Hv.out.hold hL)).mono ?_); rintro e _ ⟨rfl, hb⟩; replace hL := hL.call hb; clear hb) | (go_at_call 56; (with_reducible refine (HLo.out _ (Hv.out.hold hL) (Hu.out.hold hL)).mono ?_); rintro e _ ⟨vj, rfl, hb, hf⟩; replace hL := hL.callF hb hf; clear hb hf) | ((clear hL; with_reducible intro _ _ hL)) | (with_reducible refine wpC_alloc rfl _ rfl _ _ inferInstance hL ?_) | (with_reducible first | refine wpB_agg rfl _ _ _ rfl rfl hL ?_ | refine wpB_one rfl _ _ (.int _ _) rfl rfl rfl hL ?_ | refine wpB_one rfl _ _ (.slice _ _ _) rfl rfl rfl hL ?_ | refine wpB_one rfl _ _ (.bool _) rfl rfl rfl hL ?_ | refine wpB_one rfl _ _ (.pointer _) rfl rfl rfl hL ?_ | refine wpB_one rfl _ _ (.func _ _ _) rfl rfl rfl hL ?_) | (with_reducible first | refine wpH_max rfl _ _ _ _ rfl _ _ rfl rfl ?_ | refine wpH_min rfl _ _ _ _ rfl _ _ rfl rfl ?_) | ((with_reducible refine wpA_load rfl _ _ rfl _ rfl ?_); first | refine loadA hL ?_ | refine loadR hL ?_ | refine loadC hL ?_ | refine loadD ?_ | refine loadE hL ?_ | refine loadF ?_) | ((with_reducible refine wpA_index rfl _ _ _ rfl _ rfl _ rfl ?_); first | (refine indexA ?_; try rw [Int.toNat_natCast]) | refine indexC ?_) | ((with_reducible refine wpA_store rfl _ _ _ rfl _ rfl (.agg _) rfl ?_); refine storeR hL ?_; clear hL; intro _ hL) | ((with_reducible first | refine wpA_store rfl _ _ _ rfl _ rfl (.int _ _) rfl ?_ | refine wpA_store rfl _ _ _ rfl _ rfl (.slice _ _ _) rfl ?_ | refine wpA_store rfl _ _ _ rfl _ rfl (.bool _) rfl ?_ | refine wpA_store rfl _ _ _ rfl _ rfl (.pointer _) rfl ?_ | refine wpA_store rfl _ _ _ rfl _ rfl (.func _ _ _) rfl ?_); (first | refine storeA hL ?_ | refine storeO hL ?_); (clear hL; intro _ hL)) | ((with_reducible refine wpA_lit rfl _ _ _ rfl ?_); first | refine litA1 hL ?_ | refine litA2 hL ?_ | refine litA3 hL ?_ | refine litA4 hL ?_ | refine litA6 hL ?_) | ((with_reducible refine wpA_append rfl _ _ _ rfl (.slice _ _ _) rfl ?_); intro vq hvq; simp [go_sem] at hvq; subst hvq; refine appendA hL ?_; clear hL; intro _ _ _ hL; try dsimp only at hL) | ((with_reducible refine wpA_make rfl _ _ _ rfl _ rfl rfl ?_); refine makeA hL ?_))
      go_ret2
      rw [HJ.out]
      exact ⟨_, rfl, hL.below, hL.fresh⟩
theorem maySF_append : ∀ (p m : List Sg) (last : Int), maySF last (p ++ m) = (maySF last p && maySF ((p.map Sg.kind).getLastD last) m)
  | [], m, last => by simp [maySF]
  | a :: p, m, last => by
    rw [List.cons_append, maySF, maySF_append p, maySF, Bool.and_assoc]
    congr 2
    cases p with
    | nil => rfl
    | cons b p => simp [List.getLastD]
theorem rightS_move0 {s : Sg} {k last : Int} (h : rightS s k = true) (h1 : s.kind = 1) (hl : last ≠ 1) : rightS s last = true := by
  unfold rightS at h ⊢
  simp only [h1] at h ⊢
  simp at h ⊢
  exact ⟨h.1, h.2.1, hl⟩
theorem may_after {m : List Sg} (h : maySF 0 m = true) {last : Int} (hl : m ≠ [] → last ≠ 1) : maySF last m = true := by
  cases m with
  | nil => rfl
  | cons s m =>
    rw [maySF, Bool.and_eq_true] at h ⊢
    exact ⟨rightS_move0 h.1 (rightS_first h.1) (hl (by simp)), h.2⟩
theorem ctFold_done : ∀ (l : List Sg) (d1 d2 : List Ct) (cur : Option Ct) (x y : Int), ctFold l (d1 ++ d2) cur x y = d1 ++ ctFold l d2 cur x y
  | [], d1, d2, cur, x, y => by rw [ctFold, ctFold, List.append_assoc]
  | s :: l, d1, d2, cur, x, y => by
    rw [ctFold.eq_def, ctFold.eq_def (s :: l) d2]
    dsimp only
    split
    · rw [List.append_assoc]; exact ctFold_done l d1 _ _ _ _
    · cases cur with
      | none => exact ctFold_done l d1 d2 none x y
      | some c =>
        dsimp only
        split
        · exact ctFold_done l d1 d2 _ _ _
        · exact ctFold_done l d1 d2 _ _ _
theorem ctFold_two {m : List Sg} (hm : ∀ s r, m = s :: r → s.kind = 1) : ∀ (p : List Sg) (done : List Ct) (cur : Option Ct) (x y : Int), ctFold (p ++ m) done cur x y = ctFold p done cur x y ++ ctFold m [] none 0 0
  | [], done, cur, x, y => by
    rw [List.nil_append, ctFold.eq_def []]
    dsimp only
    cases m with
    | nil => rw [ctFold.eq_def [], ctFold.eq_def []]; simp
    | cons s r =>
      have h1 := hm s r rfl
      rw [ctFold.eq_def (s :: r) done, ctFold.eq_def (s :: r) []]
      dsimp only
      rw [if_pos h1, if_pos h1]
      have := ctFold_done r (done ++ cur.toList) [] (some ⟨s.x, s.y, [], false⟩) s.x s.y
      rw [List.append_nil] at this
      rw [this]
      rfl
  | s :: p, done, cur, x, y => by
    rw [List.cons_append, ctFold.eq_def (s :: (p ++ m)), ctFold.eq_def (s :: p)]
    dsimp only
    split
    · exact ctFold_two hm p _ _ _ _
    · cases cur with
      | none => exact ctFold_two hm p done none x y
      | some c =>
        dsimp only
        split
        · exact ctFold_two hm p done _ _ _
        · exact ctFold_two hm p done _ _ _
theorem edges_of_may {l : List Sg} (h : pathMay l = true) : edgesS l = (ctFold l [] none 0 0).flatMap edgesC := by
  unfold edgesS contoursS; rw [h]; rfl
/-- two paths joined: they may be, and have the edges of both -/
theorem join_law {l m : List Sg} (hl : pathMay l = true) (hm : pathMay m = true) (hlen : l.length + m.length ≤ 300) : pathMay (joinS l m) = true ∧ edgesS (joinS l m) = edgesS l ++ edgesS m := by
  have hl2 : l.length ≤ 300 ∧ maySF 0 l = true := by simpa [pathMay] using hl
  have hm2 : m.length ≤ 300 ∧ maySF 0 m = true := by simpa [pathMay] using hm
  have hmove : ∀ s r, m = s :: r → s.kind = 1 := by
    intro s r e
    have := hm2.2
    rw [e, maySF, Bool.and_eq_true] at this
    exact rightS_first this.1
  obtain ⟨p, hp⟩ : ∃ p, (if lastS l = 1 ∧ m ≠ [] then l.take (l.length - 1) else l) = p := ⟨_, rfl⟩
  have hkey : maySF 0 p = true ∧ (m ≠ [] → (p.map Sg.kind).getLastD 0 ≠ 1) ∧ (ctFold p [] none 0 0).flatMap edgesC = (ctFold l [] none 0 0).flatMap edgesC ∧ p.length ≤ l.length := by
    by_cases hc : lastS l = 1 ∧ m ≠ []
    · rw [if_pos hc] at hp
      rcases List.eq_nil_or_concat l with h0 | ⟨q, s, h0⟩
      · exfalso
        have := hc.1
        rw [h0] at this
        exact absurd (show (0 : Int) = 1 from this) (by decide)
      · rw [List.concat_eq_append] at h0
        have hpq : p = q := by rw [← hp, h0]; simp
        have hk : s.kind = 1 := by
          have := hc.1
          rw [lastS_eq, h0] at this
          simpa using this
        have hma := hl2.2
        rw [h0, maySF_snoc, Bool.and_eq_true] at hma
        rw [hpq]
        refine ⟨hma.1, fun _ hlast => ?_, ?_, by rw [h0]; simp⟩
        · have := hma.2
          rw [hlast] at this
          unfold rightS at this
          simp [hk] at this
        · rw [h0, ctFold_two (m := [s]) (by intro a r e; cases e; exact hk)]
          rw [List.flatMap_append, ctFold.eq_def [s]]
          dsimp only
          rw [if_pos hk, ctFold.eq_def []]
          dsimp only
          simp [edgesC]
    · rw [if_neg hc] at hp
      subst hp
      refine ⟨hl2.2, fun hne h1 => hc ⟨by rw [lastS_eq]; exact h1, hne⟩, rfl, Nat.le_refl _⟩
  obtain ⟨k1, k2, k3, k4⟩ := hkey
  have hmayj : pathMay (joinS l m) = true := by
    unfold pathMay joinS
    rw [hp, maySF_append, k1, may_after hm2.2 k2, decide_eq_true (by rw [List.length_append]; omega)]
    rfl
  refine ⟨hmayj, ?_⟩
  rw [edges_of_may hmayj, edges_of_may hl, edges_of_may hm]
  unfold joinS
  rw [hp, ctFold_two hmove, List.flatMap_append, k3]
end Go.Proofs.Ytfnolaoohmecbaa
