/- Plain laws: two paths joined. -/
import Derived.Test.YtneddfiohekhiaaJoin
import Derived.Test.YtneddfiohekhiaaShM
namespace Go.Proofs.Ytneddfiohekhiaa

theorem maySF_append : ∀ (p m : List Sg) (last : Int), maySF last (p ++ m) = (maySF last p && maySF ((p.map Sg.kind).getLastD last) m)
  | [], m, last => by simp [maySF]
  | a :: p, m, last => by
    rw [List.cons_append, maySF, maySF_append p, maySF, Bool.and_assoc]
    congr 2
    cases p with
    | nil => rfl
    | cons b p => simp [List.getLastD]
theorem rightS_move0 {s : Sg} {k last : Int} (h : rightS s k = true) (h1 : s.kind = 1) (hl : last ≠ 1) : rightS s last = true := by
  unfold rightS at h ⊢
  simp only [h1] at h ⊢
  simp at h ⊢
  exact ⟨h.1, h.2.1, hl⟩
theorem may_after {m : List Sg} (h : maySF 0 m = true) {last : Int} (hl : m ≠ [] → last ≠ 1) : maySF last m = true := by
  cases m with
  | nil => rfl
  | cons s m =>
    rw [maySF, Bool.and_eq_true] at h ⊢
    exact ⟨rightS_move0 h.1 (rightS_first h.1) (hl (by simp)), h.2⟩
theorem ctFold_done : ∀ (l : List Sg) (d1 d2 : List Ct) (cur : Option Ct) (x y : Int), ctFold l (d1 ++ d2) cur x y = d1 ++ ctFold l d2 cur x y
  | [], d1, d2, cur, x, y => by rw [ctFold, ctFold, List.append_assoc]
  | s :: l, d1, d2, cur, x, y => by
    rw [ctFold.eq_def, ctFold.eq_def (s :: l) d2]
    dsimp only
    split
    · rw [List.append_assoc]; exact ctFold_done l d1 _ _ _ _
    · cases cur with
      | none => exact ctFold_done l d1 d2 none x y
      | some c =>
        dsimp only
        split
        · exact ctFold_done l d1 d2 _ _ _
        · exact ctFold_done l d1 d2 _ _ _
theorem ctFold_two {m : List Sg} (hm : ∀ s r, m = s :: r → s.kind = 1) : ∀ (p : List Sg) (done : List Ct) (cur : Option Ct) (x y : Int), ctFold (p ++ m) done cur x y = ctFold p done cur x y ++ ctFold m [] none 0 0
  | [], done, cur, x, y => by
    rw [List.nil_append, ctFold.eq_def []]
    dsimp only
    cases m with
    | nil => rw [ctFold.eq_def [], ctFold.eq_def []]; simp
    | cons s r =>
      have h1 := hm s r rfl
      rw [ctFold.eq_def (s :: r) done, ctFold.eq_def (s :: r) []]
      dsimp only
      rw [if_pos h1, if_pos h1]
      have := ctFold_done r (done ++ cur.toList) [] (some ⟨s.x, s.y, [], false⟩) s.x s.y
      rw [List.append_nil] at this
      rw [this]
      rfl
  | s :: p, done, cur, x, y => by
    rw [List.cons_append, ctFold.eq_def (s :: (p ++ m)), ctFold.eq_def (s :: p)]
    dsimp only
    split
    · exact ctFold_two hm p _ _ _ _
    · cases cur with
      | none => exact ctFold_two hm p done none x y
      | some c =>
        dsimp only
        split
        · exact ctFold_two hm p done _ _ _
        · exact ctFold_two hm p done _ _ _
theorem edges_of_may {l : List Sg} (h : pathMay l = true) : edgesS l = (ctFold l [] none 0 0).flatMap edgesC := by
  unfold edgesS contoursS; rw [h]; rfl
/-- two paths joined: they may be, and have the edges of both -/
theorem join_law {l m : List Sg} (hl : pathMay l = true) (hm : pathMay m = true) (hlen : l.length + m.length ≤ 300) : pathMay (joinS l m) = true ∧ edgesS (joinS l m) = edgesS l ++ edgesS m := by
  have hl2 : l.length ≤ 300 ∧ maySF 0 l = true := by simpa [pathMay] using hl
  have hm2 : m.length ≤ 300 ∧ maySF 0 m = true := by simpa [pathMay] using hm
  have hmove : ∀ s r, m = s :: r → s.kind = 1 := by
    intro s r e
    have := hm2.2
    rw [e, maySF, Bool.and_eq_true] at this
    exact rightS_first this.1
  obtain ⟨p, hp⟩ : ∃ p, (if lastS l = 1 ∧ m ≠ [] then l.take (l.length - 1) else l) = p := ⟨_, rfl⟩
  have hkey : maySF 0 p = true ∧ (m ≠ [] → (p.map Sg.kind).getLastD 0 ≠ 1) ∧ (ctFold p [] none 0 0).flatMap edgesC = (ctFold l [] none 0 0).flatMap edgesC ∧ p.length ≤ l.length := by
    by_cases hc : lastS l = 1 ∧ m ≠ []
    · rw [if_pos hc] at hp
      rcases List.eq_nil_or_concat l with h0 | ⟨q, s, h0⟩
      · exfalso
        have := hc.1
        rw [h0] at this
        exact absurd (show (0 : Int) = 1 from this) (by decide)
      · rw [List.concat_eq_append] at h0
        have hpq : p = q := by rw [← hp, h0]; simp
        have hk : s.kind = 1 := by
          have := hc.1
          rw [lastS_eq, h0] at this
          simpa using this
        have hma := hl2.2
        rw [h0, maySF_snoc, Bool.and_eq_true] at hma
        rw [hpq]
        refine ⟨hma.1, fun _ hlast => ?_, ?_, by rw [h0]; simp⟩
        · have := hma.2
          rw [hlast] at this
          unfold rightS at this
          simp [hk] at this
        · rw [h0, ctFold_two (m := [s]) (by intro a r e; cases e; exact hk)]
          rw [List.flatMap_append, ctFold.eq_def [s]]
          dsimp only
          rw [if_pos hk, ctFold.eq_def []]
          dsimp only
          simp [edgesC]
    · rw [if_neg hc] at hp
      subst hp
      refine ⟨hl2.2, fun hne h1 => hc ⟨by rw [lastS_eq]; exact h1, hne⟩, rfl, Nat.le_refl _⟩
  obtain ⟨k1, k2, k3, k4⟩ := hkey
  have hmayj : pathMay (joinS l m) = true := by
    unfold pathMay joinS
    rw [hp, maySF_append, k1, may_after hm2.2 k2, decide_eq_true (by rw [List.length_append]; omega)]
    rfl
  refine ⟨hmayj, ?_⟩
  rw [edges_of_may hmayj, edges_of_may hl, edges_of_may hm]
  unfold joinS
  rw [hp, ctFold_two hmove, List.flatMap_append, k3]
end Go.Proofs.Ytneddfiohekhiaa
