/- Plain laws: the edges of a path are closed chains. -/
import Derived.Test.YtmoabhfpibkcnaaEdg
namespace Go.Proofs.Ytmoabhfpibkcnaa

def chained (x y : Int) : List Edg → Prop
  | [] => True
  | e :: l => (e.x0 = x ∧ e.y0 = y) ∧ chained e.x1 e.y1 l
def endX (x : Int) : List Edg → Int
  | [] => x
  | e :: l => endX e.x1 l
def endY (y : Int) : List Edg → Int
  | [] => y
  | e :: l => endY e.y1 l
theorem chained_snoc : ∀ (l : List Edg) (x y : Int) (e : Edg), chained x y l → e.x0 = endX x l → e.y0 = endY y l → chained x y (l ++ [e])
  | [], x, y, e, _, h1, h2 => ⟨⟨h1, h2⟩, trivial⟩
  | a :: l, x, y, e, h, h1, h2 => ⟨h.1, chained_snoc l _ _ e h.2 h1 h2⟩
theorem endX_snoc : ∀ (l : List Edg) (x : Int) (e : Edg), endX x (l ++ [e]) = e.x1
  | [], _, _ => rfl
  | _ :: l, _, e => endX_snoc l _ e
theorem endY_snoc : ∀ (l : List Edg) (y : Int) (e : Edg), endY y (l ++ [e]) = e.y1
  | [], _, _ => rfl
  | _ :: l, _, e => endY_snoc l _ e
theorem chained_sum (G : Int → Int → Int) : ∀ (l : List Edg) (x y : Int), chained x y l → (l.map fun e => G e.x0 e.y0 - G e.x1 e.y1).sum = G x y - G (endX x l) (endY y l)
  | [], x, y, _ => by simp [endX, endY]
  | e :: l, x, y, h => by
    rw [List.map_cons, List.sum_cons, chained_sum G l _ _ h.2, h.1.1, h.1.2]
    simp only [endX, endY]; omega
theorem endE_eq (c : Ct) (h : c.edges.length ≠ 0) : endX c.x c.edges = (endE c).x1 ∧ endY c.y c.edges = (endE c).y1 := by
  unfold endE
  rcases List.eq_nil_or_concat c.edges with h0 | ⟨l, e, h0⟩
  · rw [h0] at h; exact absurd rfl h
  · rw [h0]
    simp only [List.concat_eq_append, endX_snoc, endY_snoc, List.length_append, List.length_cons, List.length_nil, Nat.zero_add, Nat.add_sub_cancel]
    simp
def Chained (c : Ct) : Prop := chained c.x c.y c.edges
theorem ctFold_chained : ∀ (l : List Sg) (done : List Ct) (cur : Option Ct) (x y : Int), (∀ c ∈ done, Chained c) → (∀ c, cur = some c → Chained c ∧ endX c.x c.edges = x ∧ endY c.y c.edges = y) → ∀ c ∈ ctFold l done cur x y, Chained c
  | [], done, cur, x, y, hd, hc => by
    intro c h
    rw [ctFold] at h
    rcases List.mem_append.1 h with h | h
    · exact hd c h
    · exact (hc c (by simpa using h)).1
  | s :: l, done, cur, x, y, hd, hc => by
    have hd2 : ∀ c ∈ done ++ cur.toList, Chained c := by
      intro c h
      rcases List.mem_append.1 h with h | h
      · exact hd c h
      · exact (hc c (by simpa using h)).1
    intro c h
    unfold ctFold at h
    split at h
    · exact ctFold_chained l _ _ _ _ hd2 (by rintro c h; cases h; exact ⟨trivial, rfl, rfl⟩) c h
    · cases cur with
      | none => exact ctFold_chained l _ none x y hd (by intro c h; cases h) c h
      | some a =>
        obtain ⟨ha, hx, hy⟩ := hc a rfl
        simp only at h
        split at h
        · exact ctFold_chained l _ _ x y hd (by rintro c h; cases h; exact ⟨ha, hx, hy⟩) c h
        · refine ctFold_chained l _ _ _ _ hd ?_ c h
          rintro c h; cases h
          exact ⟨chained_snoc _ _ _ _ ha hx.symm hy.symm, endX_snoc _ _ _, endY_snoc _ _ _⟩
theorem contours_chained (l : List Sg) : ∀ c ∈ contoursS l, Chained c := by
  unfold contoursS
  split
  · exact ctFold_chained l [] none 0 0 (by simp) (by intro c h; cases h)
  · simp
theorem edgesC_sum (G : Int → Int → Int) {c : Ct} (h : Chained c) : ((edgesC c).map fun e => G e.x0 e.y0 - G e.x1 e.y1).sum = 0 := by
  by_cases h0 : c.edges.length = 0
  · rw [edgesC_nil h0]; rfl
  · obtain ⟨hx, hy⟩ := endE_eq c h0
    have hs := chained_sum G _ _ _ h
    rw [hx, hy] at hs
    by_cases h1 : (endE c).x1 = c.x ∧ (endE c).y1 = c.y
    · rw [edgesC_shut h0 h1, hs, h1.1, h1.2]; omega
    · rw [edgesC_open h0 h1, List.map_append, List.sum_append, hs]
      simp only [List.map_cons, List.map_nil, List.sum_cons, List.sum_nil]
      omega
/-- around all edges of a path, what is counted at their ends comes to nothing -/
theorem edges_closed (G : Int → Int → Int) (l : List Sg) : ((edgesS l).map fun e => G e.x0 e.y0 - G e.x1 e.y1).sum = 0 := by
  unfold edgesS
  have h := contours_chained l
  generalize contoursS l = cs at *
  induction cs with
  | nil => rfl
  | cons c cs ih =>
    rw [List.flatMap_cons, List.map_append, List.sum_append, edgesC_sum G (h c List.mem_cons_self), ih fun c hc => h c (List.mem_cons_of_mem _ hc)]
    rfl

section
variable (Q : Edg → Prop) (R : Int → Int → Prop)
def CtAll (c : Ct) : Prop := R c.x c.y ∧ ∀ e ∈ c.edges, Q e ∧ R e.x1 e.y1
theorem ctFold_all : ∀ (l : List Sg) (done : List Ct) (cur : Option Ct) (x y : Int), (∀ s ∈ l, s.kind ≠ 4 → R s.x s.y) → (∀ s ∈ l, s.kind ≠ 1 → s.kind ≠ 4 → ∀ x y, R x y → Q (segE x y s)) → (∀ c ∈ done, CtAll Q R c) → (∀ c, cur = some c → CtAll Q R c ∧ R x y) → ∀ c ∈ ctFold l done cur x y, CtAll Q R c
  | [], done, cur, x, y, _, _, hd, hc => by
    intro c h
    rw [ctFold] at h
    rcases List.mem_append.1 h with h | h
    · exact hd c h
    · exact (hc c (by simpa using h)).1
  | s :: l, done, cur, x, y, hp, hs, hd, hc => by
    have hd2 : ∀ c ∈ done ++ cur.toList, CtAll Q R c := by
      intro c h
      rcases List.mem_append.1 h with h | h
      · exact hd c h
      · exact (hc c (by simpa using h)).1
    have hp2 := fun t ht => hp t (List.mem_cons_of_mem s ht)
    have hs2 := fun t ht => hs t (List.mem_cons_of_mem s ht)
    intro c h
    unfold ctFold at h
    split at h
    · rename_i h1
      have hr := hp s List.mem_cons_self (by omega)
      exact ctFold_all l _ _ _ _ hp2 hs2 hd2 (by rintro c h; cases h; exact ⟨⟨hr, by simp⟩, hr⟩) c h
    · rename_i h1
      cases cur with
      | none => exact ctFold_all l _ none x y hp2 hs2 hd (by intro c h; cases h) c h
      | some a =>
        obtain ⟨ha, hr⟩ := hc a rfl
        simp only at h
        split at h
        · exact ctFold_all l _ _ x y hp2 hs2 hd (by rintro c h; cases h; exact ⟨ha, hr⟩) c h
        · rename_i h4
          have hr2 := hp s List.mem_cons_self h4
          refine ctFold_all l _ _ _ _ hp2 hs2 hd ?_ c h
          rintro c h; cases h
          refine ⟨⟨ha.1, fun e he => ?_⟩, hr2⟩
          rcases List.mem_append.1 he with he | he
          · exact ha.2 e he
          · rw [List.mem_singleton.1 he]
            exact ⟨hs s List.mem_cons_self h1 h4 x y hr, hr2⟩
/-- what holds of each piece's edge and of each closing one -/
theorem edges_all (l : List Sg) (hcl : ∀ a b c d, R a b → R c d → Q ⟨a, b, false, 0, 0, c, d⟩) (hp : ∀ s ∈ l, s.kind ≠ 4 → R s.x s.y) (hs : ∀ s ∈ l, s.kind ≠ 1 → s.kind ≠ 4 → ∀ x y, R x y → Q (segE x y s)) : ∀ e ∈ edgesS l, Q e := by
  have hall : ∀ c ∈ contoursS l, CtAll Q R c := by
    unfold contoursS
    split
    · exact ctFold_all Q R l [] none 0 0 hp hs (by simp) (by intro c h; cases h)
    · simp
  intro e he
  obtain ⟨c, hc, he⟩ := List.mem_flatMap.1 he
  have ha := hall c hc
  by_cases h0 : c.edges.length = 0
  · rw [edgesC_nil h0] at he; cases he
  · by_cases h1 : (endE c).x1 = c.x ∧ (endE c).y1 = c.y
    · rw [edgesC_shut h0 h1] at he; exact (ha.2 e he).1
    · rw [edgesC_open h0 h1] at he
      rcases List.mem_append.1 he with he | he
      · exact (ha.2 e he).1
      · rw [List.mem_singleton.1 he]
        have hm : endE c ∈ c.edges := by
          unfold endE
          have : c.edges.length - 1 < c.edges.length := by omega
          rw [show c.edges.getD (c.edges.length - 1) default = c.edges[c.edges.length - 1] by simp [this]]
          exact List.getElem_mem this
        exact hcl _ _ _ _ (ha.2 _ hm).2 ha.1
end
/-- no bow: no bent edge -/
theorem edges_straight {l : List Sg} (h : ∀ s ∈ l, s.kind ≠ 3) : ∀ e ∈ edgesS l, e.bent = false :=
  edges_all (fun e => e.bent = false) (fun _ _ => True) l (fun _ _ _ _ _ _ => rfl) (fun _ _ _ => trivial) fun s hs _ _ _ _ _ => by
    simp [segE, h s hs]
end Go.Proofs.Ytmoabhfpibkcnaa
