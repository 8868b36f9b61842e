/- Plain laws: an upright box as a path. -/
import Derived.Test.YtmnoeoecjfhhbaaGreatBak
import Derived.Test.YtmnoeoecjfhhbaaGreatShM
import Derived.Test.YtmnoeoecjfhhbaaGreatMkdM
import Derived.Test.YtmnoeoecjfhhbaaGreatBowM
namespace Go.Proofs.YtmnoeoecjfhhbaaGreat
/-! a path turned round may be -/
def NE (c : Ct) : Prop := c.edges ≠ [] ∨ c.shut = true
def NearE (e : Edg) : Prop := ((near1 e.x0 = true ∧ near1 e.y0 = true) ∧ (near1 e.cx = true ∧ near1 e.cy = true) ∧ near1 e.x1 = true ∧ near1 e.y1 = true) ∧ (e.bent = false → e.cx = 0 ∧ e.cy = 0)
def NearP (x y : Int) : Prop := near1 x = true ∧ near1 y = true
theorem rightS_straight {s : Sg} {last : Int} (h : rightS s last = true) (h3 : s.kind ≠ 3) : s.cx = 0 ∧ s.cy = 0 := by
  unfold rightS at h
  simp only [Bool.and_eq_true] at h
  have := h.2.1
  simpa [h3] using this
theorem may_right : ∀ (l : List Sg) (last : Int), maySF last l = true → ∀ s ∈ l, ∃ k, rightS s k = true
  | [], _, _, s, hs => by cases hs
  | a :: l, last, h, s, hs => by
    rw [maySF, Bool.and_eq_true] at h
    rcases List.mem_cons.1 hs with rfl | hs
    · exact ⟨_, h.1⟩
    · exact may_right l _ h.2 s hs
/-! it winds the other way -/
end Go.Proofs.YtmnoeoecjfhhbaaGreat
