/- The proof's texts LawA: what the statement leads to. No condition is added. -/
import Derived.Test.YtfbiahlogclkbaaStkE
set_option linter.unusedVariables false
set_option linter.unusedSimpArgs false
namespace Go.Proofs.Ytfbiahlogclkbaa.H
open Go.RowKit Go.Proofs.YtfbiahlogclkbaaW.PrintWords Go.Proofs.YtfbiahlogclkbaaW.PrintLast Go.Proofs.YtfbiahlogclkbaaW.PrintMore Go.Proofs.Ytfbiahlogclkbaa.P

theorem kept_zero {e n e1 : Int} (h : (keptR e n e1).2 = 0) : e = 0 ∧ e1 = 0 ∧ (keptR e n e1).1 = n := by
  unfold keptR at h ⊢
  by_cases he : e = 0
  · simp only [he, if_true] at h ⊢
    simp [h]
  · simp [he] at h
theorem half_zero {a : Int} (h : (halfR a).2 = 0) : Len a ∧ (halfR a).1 = a / 2 := by
  unfold halfR halfOut at h ⊢
  by_cases ha : Len a
  · rw [if_pos ha] at h ⊢
    have h2 : Len (a / 2) := by unfold Len at ha ⊢; omega
    exact ⟨ha, by simp [Out.res, h2]⟩
  · rw [if_neg ha] at h
    simp [Out.res] at h
theorem set_zero {e x : Int} {l : List Kx} (h : (lsetR e x l).2 = 0) : e = 0 ∧ l.all kidLens = true ∧ Len x ∧ (lsetR e x l).1 = ⟨3, x, setH l, setD l, 0, 0, l⟩ := by
  unfold lsetR at h ⊢
  by_cases he : e = 0
  · rw [if_pos he] at h ⊢
    unfold setR at h ⊢
    by_cases h1 : l.all kidLens = true
    · rw [if_pos h1] at h ⊢
      by_cases h2 : Len x
      · rw [if_pos h2] at h ⊢
        by_cases h3 : Len (setH l) ∧ Len (setD l)
        · rw [if_pos h3]
          exact ⟨he, h1, h2, rfl⟩
        · rw [if_neg h3] at h
          simp at h
      · rw [if_neg h2] at h
        simp at h
    · rw [if_neg h1] at h
      simp at h
  · rw [if_neg he] at h
    exact absurd h he
theorem set_err {e x : Int} {l : List Kx} (h : (lsetR e x l).2 ≠ 0) : (lsetR e x l).1 = z39 := by
  unfold lsetR at h ⊢
  by_cases he : e = 0
  · rw [if_pos he] at h ⊢
    unfold setR at h ⊢
    by_cases h1 : l.all kidLens = true
    · rw [if_pos h1] at h ⊢
      by_cases h2 : Len x
      · rw [if_pos h2] at h ⊢
        by_cases h3 : Len (setH l) ∧ Len (setD l)
        · rw [if_pos h3] at h
          simp at h
        · rw [if_neg h3]
      · rw [if_neg h2]
    · rw [if_neg h1]
  · rw [if_neg he]
end Go.Proofs.Ytfbiahlogclkbaa.H
