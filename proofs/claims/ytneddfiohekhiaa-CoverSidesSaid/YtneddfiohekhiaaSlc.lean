/- A part of a slice; an empty literal; facts by their place. -/
import Derived.Test.YtneddfiohekhiaaMkd2
import Derived.Test.YtneddfiohekhiaaSteps
namespace Go.Proofs.Ytneddfiohekhiaa
open Go.RowKit

theorem Holds.fact2 {w0 w : World} {M : List Res} {Φ : List (World → Prop)} {a b φ : World → Prop} (h : Holds w0 w M (a :: b :: φ :: Φ)) : φ w := h.fact (.tail _ (.tail _ (.head _)))
theorem Holds.fact3 {w0 w : World} {M : List Res} {Φ : List (World → Prop)} {a b c φ : World → Prop} (h : Holds w0 w M (a :: b :: c :: φ :: Φ)) : φ w := h.fact (.tail _ (.tail _ (.tail _ (.head _))))
theorem Holds.fact4 {w0 w : World} {M : List Res} {Φ : List (World → Prop)} {a b c d φ : World → Prop} (h : Holds w0 w M (a :: b :: c :: d :: φ :: Φ)) : φ w := h.fact (.tail _ (.tail _ (.tail _ (.tail _ (.head _)))))

/-- of a slice of n elements, those from l to h -/
theorem SliceAt.part {w : World} {size n c : Nat} {a : Option Addr} {els : List (List Value)} (h : SliceAt w size (.slice a n c) els) {l m : Nat} (h1 : l ≤ m) (h2 : m ≤ n) : SliceAt w size (sliced a l m c size) ((els.take m).drop l) := by
  obtain ⟨a', c', he, hlc, hcm, hel⟩ := h
  injection he with e1 e2 e3
  subst e1; subst e2; subst e3
  have hlen : ((els.take m).drop l).length = m - l := by simp; omega
  refine ⟨if c = l then a else a.map (·.add (l * size)), c - l, by unfold sliced; rw [hlen], by omega, by omega, fun i hi => ?_⟩
  rw [hlen] at hi
  obtain ⟨b, o, e, hr⟩ := hel (l + i) (by omega)
  subst e
  rw [if_neg (by omega)]
  refine ⟨b, o + l * size, by simp [Addr.add], ?_⟩
  rw [List.getElem_drop, List.getElem_take]
  rwa [Nat.add_mul, ← Nat.add_assoc] at hr
section
variable {P : Program} {w0 w : World} {M M' : List Res} {Φ : List (World → Prop)} {K2 : Value → World → Prop}
theorem run_lo {o : Oper} {a : Act} {w : World} {t e size bytes : Nat} {z : Value} [ht : SliceT P t e] [hi : ElemT P e size bytes z] (x lo : Operand) (ho : o.op = .slice t x (some lo) none none) {b : Option Addr} {n c : Nat} (hx : a.eval x = .slice b n c) {k : Int} (hl : a.eval lo = .int .i64 k) (h0 : 0 ≤ k) (h1 : k ≤ n) : (execOp a.eval o).run P w = .ok (.value (sliced b k.toNat n c size)) w := by
  obtain ⟨i, hi1, _, hi3, _⟩ := info_parts hi.info
  have hu : P.underlying t = some (.slice (P.elem t)) := by
    have := ht.out
    rw [this]; unfold Program.elem; rw [this]
  have he : P.elem t = e := by have h2 := hu; rw [ht.out] at h2; simpa using h2.symm
  unfold execOp
  simp [ho, hx, hl, run_sliceAt_slice _ _ _ _ _ _ hu, run_slice_l _ _ _ _ _ hu _ _ h0 h1, he, sizeOf, typeInfo, hi1, hi3]
theorem run_hi {o : Oper} {a : Act} {w : World} {t e size bytes : Nat} {z : Value} [ht : SliceT P t e] [hi : ElemT P e size bytes z] (x hi' : Operand) (ho : o.op = .slice t x none (some hi') none) {b : Option Addr} {n c : Nat} (hx : a.eval x = .slice b n c) {k : Int} (hl : a.eval hi' = .int .i64 k) (h0 : 0 ≤ k) (h1 : k ≤ c) : (execOp a.eval o).run P w = .ok (.value (sliced b 0 k.toNat c size)) w := by
  obtain ⟨i, hi1, _, hi3, _⟩ := info_parts hi.info
  have hu : P.underlying t = some (.slice (P.elem t)) := by
    have := ht.out
    rw [this]; unfold Program.elem; rw [this]
  have he : P.elem t = e := by have h2 := hu; rw [ht.out] at h2; simpa using h2.symm
  unfold execOp
  simp [ho, hx, hl, run_sliceAt_slice _ _ _ _ _ _ hu, run_slice_h _ _ _ _ _ hu _ _ h0 h1, he, sizeOf, typeInfo, hi1, hi3]
theorem appendE2 {t ty e bytes : Nat} {z v u : Value} [ht : SliceT P t e] [hi : ElemT P e 7 bytes z] {l : List Edg} (hs : EdgesAt w u l)
    (hL : Holds w0 w M Φ) {n : Nat} {xs : List Value} {f : Res → List Res} (hu : ∀ r', Upd M (own w0.heap.size e 7 v n xs) r' (f r'))
    (hz : z.cells.size = 7) (h63 : n + l.length ≤ maxLen) (hbytes : (n + l.length) * bytes ≤ 140737488355328)
    (h : ∀ v' w', Holds w0 w' (f (own w0.heap.size e 7 v' (n + l.length) (xs ++ (l.map edgeC).flatten))) Φ → K2 v' w') : AppendAt P t ty v u w K2 :=
  appendE hs hL h hu hz h63 hbytes
theorem litA0 {t e size bytes : Nat} {z : Value} {vp : Array (Nat × Value)} [ht : SliceT P t e] [hi : ElemT P e size bytes z]
    (hL : Holds w0 w M Φ) (h : ∀ b w', Holds w0 w' (own w0.heap.size e size (.slice (some ⟨b, 0, none⟩) 0 0) 0 [] :: M) Φ → K2 (.slice (some ⟨b, 0, none⟩) 0 0) w') (hvs : vp = #[] := by simp only [List.map_toArray, List.map_nil]) : LitAt P t 0 vp w K2 :=
  litAt ht hi [] hvs rfl rfl (by simp) #[] rfl hL fun b w' h' => h b w' (h'.litOwn .here (by simp) (by decide))
end
end Go.Proofs.Ytneddfiohekhiaa
