/- The plain law of what is in the middle of the axis. No condition is added. -/
import Derived.Test.YtfbiahlogclkbaaStkE
set_option linter.unusedVariables false
set_option linter.unusedSimpArgs false
namespace Go.Proofs.Ytfbiahlogclkbaa.H
open Go.RowKit Go.Proofs.YtfbiahlogclkbaaW.PrintWords Go.Proofs.YtfbiahlogclkbaaW.PrintLast Go.Proofs.YtfbiahlogclkbaaW.PrintMore Go.Proofs.Ytfbiahlogclkbaa.P

theorem kept_zero {e n e1 : Int} (h : (keptR e n e1).2 = 0) : e = 0 ∧ e1 = 0 ∧ (keptR e n e1).1 = n := by
  unfold keptR at h ⊢
  by_cases he : e = 0
  · simp only [he, if_true] at h ⊢
    simp [h]
  · simp [he] at h
theorem sum2_zero {x y : Int} (h : (sumR [x, y]).2 = 0) : Len x ∧ Len y ∧ Len (x + y) ∧ (sumR [x, y]).1 = x + y := by
  unfold sumR sumOut at h ⊢
  by_cases ha : allLen [x, y] = true
  · rw [if_pos ha] at h ⊢
    have hx : Len x ∧ Len y := by
      simp only [allLen, List.all_cons, List.all_nil, Bool.and_true, Bool.and_eq_true, decide_eq_true_eq] at ha
      exact ha
    simp only [sumGo] at h ⊢
    by_cases h1 : Len (0 + x)
    · rw [if_pos h1] at h ⊢
      by_cases h2 : Len (0 + x + y)
      · rw [if_pos h2] at h ⊢
        have h3 : (0 : Int) + x + y = x + y := by omega
        rw [h3] at h2 ⊢
        refine ⟨hx.1, hx.2, h2, ?_⟩
        simp [Out.res, h2]
      · rw [if_neg h2] at h
        simp [Out.res] at h
    · rw [if_neg h1] at h
      simp [Out.res] at h
  · rw [if_neg ha] at h
    simp [Out.res] at h
theorem half_zero {a : Int} (h : (halfR a).2 = 0) : Len a ∧ (halfR a).1 = a / 2 := by
  unfold halfR halfOut at h ⊢
  by_cases ha : Len a
  · rw [if_pos ha] at h ⊢
    have h2 : Len (a / 2) := by unfold Len at ha ⊢; omega
    exact ⟨ha, by simp [Out.res, h2]⟩
  · rw [if_neg ha] at h
    simp [Out.res] at h
theorem set_zero {e x : Int} {l : List Kx} (h : (lsetR e x l).2 = 0) : e = 0 ∧ l.all kidLens = true ∧ Len x ∧ (lsetR e x l).1 = ⟨3, x, setH l, setD l, 0, 0, l⟩ := by
  unfold lsetR at h ⊢
  by_cases he : e = 0
  · rw [if_pos he] at h ⊢
    unfold setR at h ⊢
    by_cases h1 : l.all kidLens = true
    · rw [if_pos h1] at h ⊢
      by_cases h2 : Len x
      · rw [if_pos h2] at h ⊢
        by_cases h3 : Len (setH l) ∧ Len (setD l)
        · rw [if_pos h3]
          exact ⟨he, h1, h2, rfl⟩
        · rw [if_neg h3] at h
          simp at h
      · rw [if_neg h2] at h
        simp at h
    · rw [if_neg h1] at h
      simp at h
  · rw [if_neg he] at h
    exact absurd h he
theorem set_err {e x : Int} {l : List Kx} (h : (lsetR e x l).2 ≠ 0) : (lsetR e x l).1 = z39 := by
  unfold lsetR at h ⊢
  by_cases he : e = 0
  · rw [if_pos he] at h ⊢
    unfold setR at h ⊢
    by_cases h1 : l.all kidLens = true
    · rw [if_pos h1] at h ⊢
      by_cases h2 : Len x
      · rw [if_pos h2] at h ⊢
        by_cases h3 : Len (setH l) ∧ Len (setD l)
        · rw [if_pos h3] at h
          simp at h
        · rw [if_neg h3]
      · rw [if_neg h2]
    · rw [if_neg h1]
  · rw [if_neg he]
theorem need1_zero {e : Int} {b : Bx} (h : needE e [b] = 0) : e = 0 ∧ Len b.f1 ∧ Len b.f2 ∧ Len b.f3 := by
  unfold needE at h
  simp only [List.foldl_cons, List.foldl_nil] at h
  by_cases hb : lensB b = true
  · rw [if_pos hb] at h
    refine ⟨h, ?_⟩
    simp only [lensB, allLen, List.all_cons, List.all_nil, Bool.and_true, Bool.and_eq_true, decide_eq_true_eq] at hb
    exact hb
  · rw [if_neg hb] at h
    have := kept_zero h
    omega
theorem len_wrap {x : Int} (h : Len x) : wrap64 (-x) = -x := by
  unfold Len at h
  unfold wrap64
  omega
theorem center_err {h : S23} {l : List Int} {c z : Int} {b : Bx} (he : (centerR h l c z b).2 ≠ 0) : (centerR h l c z b).1.f6 = [] := by
  unfold centerR at he ⊢
  rw [set_err he]
  rfl
theorem center_law {h : S23} {l : List Int} {c z : Int} {b : Bx} (he : (centerR h l c z b).2 = 0) : (konstR h l 5 c z).2 = 0 ∧ ∃ y H D, (centerR h l c z b).1 = ⟨3, b.f1, H, D, 0, 0, [⟨0, y, b⟩]⟩ ∧ Len y ∧
    (wrap64 (wrap64 (y + b.f2) - (konstR h l 5 c z).1) = wrap64 ((konstR h l 5 c z).1 - wrap64 (y - b.f3)) ∨ wrap64 (wrap64 (y + b.f2) - (konstR h l 5 c z).1) = wrap64 (wrap64 ((konstR h l 5 c z).1 - wrap64 (y - b.f3)) + 1)) := by
  unfold centerR at he ⊢
  obtain ⟨h1, h2, h3, h4⟩ := set_zero he
  rw [h4]
  obtain ⟨k1, k2, k3⟩ := kept_zero h1
  obtain ⟨m1, m2, m3⟩ := kept_zero k1
  obtain ⟨s1, s2, s3⟩ := kept_zero m1
  obtain ⟨n1, n2, n3, n4⟩ := need1_zero s1
  obtain ⟨a1, a2, a3⟩ := kept_zero n1
  refine ⟨a2, _, _, _, rfl, ?_, ?_⟩
  all_goals
    rw [k3]
    obtain ⟨q1, q2, q3, q4⟩ := sum2_zero k2
    rw [q4]
    rw [m3] at q2 q3 ⊢
    rw [a3] at q1 q3 ⊢
    obtain ⟨p1, p2⟩ := half_zero m2
    rw [p2] at q2 q3 ⊢
    rw [s3] at p1 q2 q3 ⊢
    obtain ⟨r1, r2, r3, r4⟩ := sum2_zero s2
    rw [r4] at p1 q2 q3 ⊢
    rw [len_wrap n4] at p1 q2 q3 r2 r3 ⊢
    have p3 : Len ((b.f2 + -b.f3) / 2) := by unfold Len at p1 ⊢; omega
    rw [len_wrap p3] at q2 q3 ⊢
  · exact q3
  · unfold Len at *
    unfold wrap64
    omega
end Go.Proofs.Ytfbiahlogclkbaa.H
