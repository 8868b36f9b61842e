/- Plain laws: a path moved. -/
import Derived.Test.YtjgnbmgdnfldeaaCtrM
import Derived.Test.YtjgnbmgdnfldeaaMkdM
import Derived.Test.YtjgnbmgdnfldeaaTrnM
namespace Go.Proofs.Ytjgnbmgdnfldeaa
section
variable (Q : Edg → Prop) (R : Int → Int → Prop)
end
theorem maySF_snoc : ∀ (p : List Sg) (last : Int) (s : Sg), maySF last (p ++ [s]) = (maySF last p && rightS s ((p.map Sg.kind).getLastD last))
  | [], last, s => by simp [maySF]
  | a :: p, last, s => by
    rw [List.cons_append, maySF, maySF_snoc p, maySF, Bool.and_assoc]
    congr 2
    cases p with
    | nil => rfl
    | cons b p => simp [List.getLastD]
theorem lastS_eq (p : List Sg) : lastS p = (p.map Sg.kind).getLastD 0 := by
  unfold lastS lastK
  rcases List.eq_nil_or_concat p with h | ⟨q, s, h⟩
  · subst h; rfl
  · subst h
    simp [List.concat_eq_append]
def smallI (v : Int) : Prop := -32 ≤ v ∧ v ≤ 287
def SmallS (s : Sg) : Prop := smallI s.x ∧ smallI s.y ∧ smallI s.cx ∧ smallI s.cy
theorem smallI_near {v : Int} (h : smallI v) : near1 v = true := by unfold near1; simp; unfold smallI at h; omega
theorem coI_small (l : List Int) : smallI (coI l) := coI_bd l
theorem segP_ok (p : List Sg) (b : Bool) (n : List Int) : SmallS (segP p b n).1 ∧ rightS (segP p b n).1 (lastS p) = true := by
  have z : smallI 0 := by unfold smallI; omega
  have hn : ∀ l, near1 (coI l) = true := fun l => smallI_near (coI_small l)
  have hz : near1 0 = true := by decide
  unfold segP
  split
  · rename_i h
    refine ⟨⟨coI_small _, coI_small _, z, z⟩, ?_⟩
    have : lastS p ≠ 1 := by omega
    simp [rightS, hn, hz, this]
  · rename_i h
    have h0 : lastS p ≠ 0 := by omega
    have h4 : lastS p ≠ 4 := by omega
    split
    · exact ⟨⟨z, z, z, z⟩, by simp [rightS, hz, h0, h4]⟩
    · split
      · exact ⟨⟨coI_small _, coI_small _, coI_small _, coI_small _⟩, by simp [rightS, hn, h0, h4]⟩
      · exact ⟨⟨coI_small _, coI_small _, z, z⟩, by simp [rightS, hn, hz, h0, h4]⟩
structure Good (p : List Sg) : Prop where
  small : ∀ s ∈ p, SmallS s
  may : maySF 0 p = true
theorem Good.snoc {p : List Sg} {s : Sg} (h : Good p) (hs : SmallS s) (hr : rightS s (lastS p) = true) : Good (p ++ [s]) where
  small t ht := by
    rcases List.mem_append.1 ht with ht | ht
    · exact h.small t ht
    · rw [List.mem_singleton.1 ht]; exact hs
  may := by rw [maySF_snoc, ← lastS_eq, h.may, hr]; rfl
theorem madeF_good (b : Bool) : ∀ (f : Nat) (p : List Sg) (n : List Int), Good p → Good (madeF b f p n) ∧ (madeF b f p n).length ≤ p.length + f
  | 0, p, n, h => ⟨h, Nat.le_refl _⟩
  | f + 1, p, n, h => by
    rw [madeF]
    split
    · exact ⟨h, by omega⟩
    · obtain ⟨h1, h2⟩ := segP_ok p b n
      obtain ⟨h3, h4⟩ := madeF_good b f _ (segP p b n).2 (h.snoc h1 h2)
      refine ⟨h3, ?_⟩
      rw [List.length_append] at h4
      simp only [List.length_cons, List.length_nil] at h4
      omega
theorem made_good (n : List Int) (b : Bool) : Good (madeS n b) ∧ (madeS n b).length ≤ 12 := by
  have := madeF_good b 12 [] n ⟨by simp, rfl⟩
  exact ⟨this.1, by have h := this.2; simp only [List.length_nil, Nat.zero_add] at h; exact h⟩
theorem made_may (n : List Int) (b : Bool) : pathMay (madeS n b) = true := by
  obtain ⟨h1, h2⟩ := made_good n b
  unfold pathMay
  rw [h1.may, decide_eq_true (by omega)]; rfl
theorem sgn_neg (p : Int) : sgn (-p) = -sgn p := by unfold sgn; (repeat' split) <;> omega
theorem sgR_neg (p q d : Int) : sgR (-p) (-q) d = -sgR p q d := by
  unfold sgR
  rw [sgn_neg, sgn_neg, Int.neg_mul, Int.neg_mul_neg, Int.neg_mul_neg]
  generalize cmpI (p * p) (q * q * d) = c
  generalize sgn q * sgn d = u
  generalize sgn p = s
  by_cases h1 : s = 0 ∨ s = u
  · rw [if_pos h1, if_pos (by omega)]
  · rw [if_neg h1, if_neg (by omega)]
    by_cases h2 : u = 0
    · rw [if_pos h2, if_pos (by omega)]
    · rw [if_neg h2, if_neg (by omega), Int.neg_mul]
/-! moved -/
open Go.RowKit

/-! small paths -/
end Go.Proofs.Ytjgnbmgdnfldeaa
