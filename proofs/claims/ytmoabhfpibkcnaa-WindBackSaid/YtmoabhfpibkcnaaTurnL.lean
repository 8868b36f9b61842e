/- Plain laws: an edge turned round, an edge moved. -/
import Derived.Test.YtmoabhfpibkcnaaTurnsH
namespace Go.Proofs.Ytmoabhfpibkcnaa

theorem sgn_neg (p : Int) : sgn (-p) = -sgn p := by unfold sgn; (repeat' split) <;> omega
theorem sgR_neg (p q d : Int) : sgR (-p) (-q) d = -sgR p q d := by
  unfold sgR
  rw [sgn_neg, sgn_neg, Int.neg_mul, Int.neg_mul_neg, Int.neg_mul_neg]
  generalize cmpI (p * p) (q * q * d) = c
  generalize sgn q * sgn d = u
  generalize sgn p = s
  by_cases h1 : s = 0 ∨ s = u
  · rw [if_pos h1, if_pos (by omega)]
  · rw [if_neg h1, if_neg (by omega)]
    by_cases h2 : u = 0
    · rw [if_pos h2, if_pos (by omega)]
    · rw [if_neg h2, if_neg (by omega), Int.neg_mul]
def negT (s : Spt) : Spt := ⟨-s.turn, s.p, s.q, s.d, s.m⟩
theorem negT_no : negT noSpt = noSpt := rfl
theorem hitT_neg (s : Spt) (x : Int) : hitT (negT s) x = -hitT s x := by
  unfold hitT negT
  dsimp only
  (repeat' split) <;> omega
/-- the even bow turned round -/
theorem evenS_back (b c ax bx x0 : Int) : evenS (-b) (c + 2 * b) ax (-(ax + bx)) (x0 + ax + 2 * bx) = negT (evenS b c ax bx x0) := by
  have hp : evP (-b) (c + 2 * b) ax (-(ax + bx)) (x0 + ax + 2 * bx) = evP b c ax bx x0 := by unfold evP; grind
  have hm : 4 * -b * -b = 4 * b * b := by grind
  unfold evenS
  rw [hp, hm]
  rcases (by omega : (0 < b ∧ c ≤ 0 ∧ -c < 2 * b) ∨ (b < 0 ∧ 0 < c ∧ c ≤ -2 * b) ∨ (¬ (0 < b ∧ c ≤ 0 ∧ -c < 2 * b) ∧ ¬ (b < 0 ∧ 0 < c ∧ c ≤ -2 * b))) with h | h | ⟨h, k⟩
  · rw [if_neg (by omega), if_pos (by omega), if_pos h]; rfl
  · rw [if_pos (by omega), if_neg (by omega), if_pos h]; rfl
  · rw [if_neg (by omega), if_neg (by omega), if_neg h, if_neg k]; rfl
theorem oneS_back (s : Int) (hs : s = 1 ∨ s = -1) (x0 a b d ax bx : Int) : oneS (-s) (x0 + ax + 2 * bx) a (-(a + b)) d ax (-(ax + bx)) = negT (oneS s x0 a b d ax bx) := by
  have hp : oneP (x0 + ax + 2 * bx) a (-(a + b)) d ax (-(ax + bx)) = oneP x0 a b d ax bx := by unfold oneP; grind
  have hq : oneQ (-s) a (-(a + b)) ax (-(ax + bx)) = oneQ s a b ax bx := by unfold oneQ; grind
  have h1 : sgR (-(-(a + b))) (-s) d = -sgR (-b - a) s d := by rw [← sgR_neg]; congr 1; omega
  have h2 : sgR (-(-(a + b)) - a) (-s) d = -sgR (-b) s d := by rw [← sgR_neg]; congr 1; omega
  unfold oneS
  rw [hp, hq, h1, h2, Int.mul_neg, Int.mul_neg]
  generalize sideI a * sgR (-b - a) s d = u
  generalize sideI a * sgR (-b) s d = v
  by_cases h : (0 < s ∧ (v < 0 ∨ 0 ≤ u)) ∨ (s < 0 ∧ (v ≤ 0 ∨ 0 < u))
  · rw [if_pos h, if_pos (by omega)]; rfl
  · rw [if_neg h, if_neg (by omega)]; rfl
def revE (e : Edg) : Edg := ⟨e.x1, e.y1, e.bent, e.cx, e.cy, e.x0, e.y0⟩
theorem bent_back (e : Edg) (y : Int) : bent1 e.x1 (bA (revE e)) (bB (revE e)) (bC (revE e) y) (bAX (revE e)) (bBX (revE e)) = (if bA e = 0 then negT (bent1 e.x0 (bA e) (bB e) (bC e y) (bAX e) (bBX e)) else negT (bent2 e.x0 (bA e) (bB e) (bC e y) (bAX e) (bBX e))) ∧ bent2 e.x1 (bA (revE e)) (bB (revE e)) (bC (revE e) y) (bAX (revE e)) (bBX (revE e)) = (if bA e = 0 then noSpt else negT (bent1 e.x0 (bA e) (bB e) (bC e y) (bAX e) (bBX e))) := by
  have ea : bA (revE e) = bA e := by unfold bA revE; dsimp only; omega
  have eb : bB (revE e) = -(bA e + bB e) := by unfold bA bB revE; dsimp only; omega
  have ec : bC (revE e) y = bC e y + bA e + 2 * bB e := by unfold bC bA bB revE; dsimp only; omega
  have eax : bAX (revE e) = bAX e := by unfold bAX revE; dsimp only; omega
  have ebx : bBX (revE e) = -(bAX e + bBX e) := by unfold bAX bBX revE; dsimp only; omega
  have ex : e.x1 = e.x0 + bAX e + 2 * bBX e := by unfold bAX bBX; omega
  rw [ea, eb, ec, eax, ebx, ex]
  generalize e.x0 = x0
  generalize bA e = a
  generalize bB e = b
  generalize bC e y = c
  generalize bAX e = ax
  generalize bBX e = bx
  by_cases h0 : a = 0
  · subst h0
    have := evenS_back b c ax bx x0
    refine ⟨?_, ?_⟩
    · unfold bent1
      rw [if_pos rfl, if_pos rfl, if_pos rfl, ← this]
      congr 1 <;> omega
    · unfold bent2
      rw [if_pos rfl, if_pos rfl]
  · have hd : -(a + b) * -(a + b) - a * (c + a + 2 * b) = b * b - a * c := by grind
    unfold bent1 bent2
    rw [hd]
    simp only [if_neg h0]
    by_cases h1 : b * b - a * c < 0 ∨ b * b - a * c = 0 ∧ a < 0
    · simp only [if_pos h1]; exact ⟨rfl, rfl⟩
    · simp only [if_neg h1]
      exact ⟨by have := oneS_back (-1) (.inr rfl) x0 a b (b * b - a * c) ax bx; simpa using this, oneS_back 1 (.inl rfl) x0 a b (b * b - a * c) ax bx⟩
theorem straight_back (e : Edg) (y : Int) : spT (revE e) y = -spT e y ∧ spP (revE e) y = spP e y ∧ spM (revE e) y = spM e y := by
  have h1 : -(e.x1 * (e.y0 - e.y1) + (e.x0 - e.x1) * (y - e.y1)) = e.x0 * (e.y1 - e.y0) + (e.x1 - e.x0) * (y - e.y0) := by grind
  have h2 : -(e.x0 * (e.y1 - e.y0) + (e.x1 - e.x0) * (y - e.y0)) = e.x1 * (e.y0 - e.y1) + (e.x0 - e.x1) * (y - e.y1) := by grind
  unfold spT spP spM revE
  dsimp only
  rw [h1, h2]
  generalize e.x0 * (e.y1 - e.y0) + (e.x1 - e.x0) * (y - e.y0) = p
  generalize e.x1 * (e.y0 - e.y1) + (e.x0 - e.x1) * (y - e.y1) = q
  refine ⟨?_, ?_, ?_⟩ <;> (repeat' split) <;> omega
theorem spt_back (e : Edg) (x y : Int) : hitT (spt1 (revE e) y) x + hitT (spt2 (revE e) y) x = -(hitT (spt1 e y) x + hitT (spt2 e y) x) := by
  unfold spt1 spt2
  have hb : (revE e).bent = e.bent := rfl
  rw [hb]
  by_cases h : e.bent = true
  · simp only [if_pos h]
    obtain ⟨h1, h2⟩ := bent_back e y
    have hx : (revE e).x0 = e.x1 := rfl
    rw [hx, h1, h2]
    by_cases h0 : bA e = 0
    · simp only [if_pos h0]
      rw [hitT_neg]
      have : bent2 e.x0 (bA e) (bB e) (bC e y) (bAX e) (bBX e) = noSpt := by unfold bent2; rw [if_pos h0]
      rw [this]
      have hn : hitT noSpt x = 0 := by unfold hitT noSpt; rw [if_neg (by simp)]
      rw [hn]; omega
    · simp only [if_neg h0]
      rw [hitT_neg, hitT_neg]; omega
  · simp only [if_neg h]
    obtain ⟨h1, h2, h3⟩ := straight_back e y
    rw [h1, h2, h3]
    have := hitT_neg ⟨spT e y, spP e y, 0, 0, spM e y⟩ x
    unfold negT at this
    dsimp only at this
    rw [this]
    have hn : hitT noSpt x = 0 := by unfold hitT noSpt; rw [if_neg (by simp)]
    rw [hn]; omega
theorem mayE_rev (e : Edg) : mayE (revE e) = mayE e := by
  obtain ⟨a, b, t, p, q, c, d⟩ := e
  unfold mayE revE
  dsimp only
  generalize near1 a = A; generalize near1 b = B; generalize near1 c = C; generalize near1 d = D; generalize near1 p = P; generalize near1 q = Q
  cases A <;> cases B <;> cases C <;> cases D <;> cases P <;> cases Q <;> rfl
theorem turnG_rev (e : Edg) (x y : Int) : turnG (revE e) x y = -turnG e x y := by
  unfold turnG
  rw [mayE_rev, spt_back]
  split <;> omega

/-! moved -/
def movE (dx dy : Int) (e : Edg) : Edg := if e.bent then ⟨e.x0 + dx, e.y0 + dy, true, e.cx + dx, e.cy + dy, e.x1 + dx, e.y1 + dy⟩ else ⟨e.x0 + dx, e.y0 + dy, false, e.cx, e.cy, e.x1 + dx, e.y1 + dy⟩
def addP (dx : Int) (s : Spt) : Spt := ⟨s.turn, s.p + dx * s.m, s.q, s.d, s.m⟩
theorem hitT_add (dx x : Int) (s : Spt) : hitT (addP dx s) (x + dx) = hitT s x := by
  unfold hitT addP
  dsimp only
  rw [show s.p + dx * s.m - (x + dx) * s.m = s.p - x * s.m by grind]
theorem addP_no (dx : Int) : addP dx noSpt = noSpt := by unfold addP noSpt; simp
theorem evenS_add (b c ax bx x0 dx : Int) : evenS b c ax bx (x0 + dx) = addP dx (evenS b c ax bx x0) := by
  have hp : evP b c ax bx (x0 + dx) = evP b c ax bx x0 + dx * (4 * b * b) := by unfold evP; grind
  unfold evenS
  rw [hp]
  split
  · rfl
  · split
    · rfl
    · exact (addP_no dx).symm
theorem oneS_add (s x0 a b d ax bx dx : Int) : oneS s (x0 + dx) a b d ax bx = addP dx (oneS s x0 a b d ax bx) := by
  have hp : oneP (x0 + dx) a b d ax bx = oneP x0 a b d ax bx + dx * (a * a) := by unfold oneP; grind
  unfold oneS
  rw [hp]
  split
  · exact (addP_no dx).symm
  · rfl
theorem bent1_add (x0 a b c ax bx dx : Int) : bent1 (x0 + dx) a b c ax bx = addP dx (bent1 x0 a b c ax bx) := by
  unfold bent1
  split
  · exact evenS_add _ _ _ _ _ _
  · split
    · exact (addP_no dx).symm
    · exact oneS_add _ _ _ _ _ _ _ _
theorem bent2_add (x0 a b c ax bx dx : Int) : bent2 (x0 + dx) a b c ax bx = addP dx (bent2 x0 a b c ax bx) := by
  unfold bent2
  split
  · exact (addP_no dx).symm
  · split
    · exact (addP_no dx).symm
    · exact oneS_add _ _ _ _ _ _ _ _
theorem spt_add (e : Edg) (dx dy y : Int) : spt1 (movE dx dy e) (y + dy) = addP dx (spt1 e y) ∧ spt2 (movE dx dy e) (y + dy) = addP dx (spt2 e y) := by
  unfold spt1 spt2 movE
  by_cases h : e.bent = true
  · simp only [if_pos h, if_true]
    rw [← bent1_add, ← bent2_add]
    unfold bA bB bC bAX bBX
    dsimp only
    refine ⟨?_, ?_⟩ <;> congr 1 <;> omega
  · simp only [if_neg h, Bool.false_eq_true, if_false]
    refine ⟨?_, (addP_no dx).symm⟩
    have e1 : (e.x0 + dx) * (e.y1 + dy - (e.y0 + dy)) + (e.x1 + dx - (e.x0 + dx)) * (y + dy - (e.y0 + dy)) = (e.x0 * (e.y1 - e.y0) + (e.x1 - e.x0) * (y - e.y0)) + dx * (e.y1 - e.y0) := by grind
    have e2 : e.y1 + dy - (e.y0 + dy) = e.y1 - e.y0 := by omega
    have e3 : dx * -(e.y1 - e.y0) = -(dx * (e.y1 - e.y0)) := by grind
    unfold addP spT spP spM
    dsimp only
    rw [e1, e2]
    generalize e.x0 * (e.y1 - e.y0) + (e.x1 - e.x0) * (y - e.y0) = p
    by_cases h1 : y < min e.y0 e.y1 ∨ max e.y0 e.y1 ≤ y
    · rw [if_pos (show y + dy < min (e.y0 + dy) (e.y1 + dy) ∨ max (e.y0 + dy) (e.y1 + dy) ≤ y + dy by omega), if_pos (show y + dy < min (e.y0 + dy) (e.y1 + dy) ∨ max (e.y0 + dy) (e.y1 + dy) ≤ y + dy by omega), if_pos (show y + dy < min (e.y0 + dy) (e.y1 + dy) ∨ max (e.y0 + dy) (e.y1 + dy) ≤ y + dy by omega)]
      simp only [if_pos h1]
      simp
    · rw [if_neg (show ¬ (y + dy < min (e.y0 + dy) (e.y1 + dy) ∨ max (e.y0 + dy) (e.y1 + dy) ≤ y + dy) by omega), if_neg (show ¬ (y + dy < min (e.y0 + dy) (e.y1 + dy) ∨ max (e.y0 + dy) (e.y1 + dy) ≤ y + dy) by omega), if_neg (show ¬ (y + dy < min (e.y0 + dy) (e.y1 + dy) ∨ max (e.y0 + dy) (e.y1 + dy) ≤ y + dy) by omega)]
      simp only [if_neg h1]
      by_cases h2 : e.y1 - e.y0 < 0
      · simp only [if_pos h2]; rw [e3, Int.neg_add]
      · simp only [if_neg h2]
theorem turnG_mov (e : Edg) (dx dy x y : Int) (h : mayE (movE dx dy e) = mayE e) (hx : near1 (x + dx) = near1 x) (hy : near1 (y + dy) = near1 y) : turnG (movE dx dy e) (x + dx) (y + dy) = turnG e x y := by
  obtain ⟨h1, h2⟩ := spt_add e dx dy y
  unfold turnG
  rw [h, hx, hy, h1, h2, hitT_add, hitT_add]
end Go.Proofs.Ytmoabhfpibkcnaa
