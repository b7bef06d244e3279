/- The proof's texts PlnA: what the statement leads to. No condition is added. -/
import Derived.Test.YtfbiahlogclkbaaLawA
import Derived.Test.YtfbiahlogclkbaaEvQ
set_option linter.unusedVariables false
set_option linter.unusedSimpArgs false
namespace Go.Proofs.Ytfbiahlogclkbaa.H
open Go.RowKit Go.Proofs.YtfbiahlogclkbaaW.PrintWords Go.Proofs.YtfbiahlogclkbaaW.PrintLast Go.Proofs.YtfbiahlogclkbaaW.PrintMore Go.Proofs.Ytfbiahlogclkbaa.P
theorem kp_zero {e : Int} {r : Int × Int} (h : (kp e r).2 = 0) : e = 0 ∧ r.2 = 0 ∧ (kp e r).1 = r.1 := kept_zero h
theorem sumGo_zero : ∀ {l : List Int} {n : Int}, (sumGo n l).res.2 = 0 → Len (n + l.sum) ∧ (sumGo n l).res.1 = n + l.sum
  | [], n, h => by
    simp only [sumGo, Out.res] at h ⊢
    by_cases hn : Len n
    · rw [if_pos hn]; simp only [List.sum_nil, Int.add_zero]; exact ⟨hn, trivial⟩
    · rw [if_neg hn] at h; simp at h
  | a :: l, n, h => by
    simp only [sumGo] at h ⊢
    by_cases hn : Len (n + a)
    · rw [if_pos hn] at h ⊢
      have := sumGo_zero h
      rw [List.sum_cons, ← Int.add_assoc]
      exact this
    · rw [if_neg hn] at h; simp [Out.res] at h
theorem sum_zero {l : List Int} (h : (sumR l).2 = 0) : (∀ x, x ∈ l → Len x) ∧ Len l.sum ∧ (sumR l).1 = l.sum := by
  unfold sumR sumOut at h ⊢
  by_cases ha : allLen l = true
  · rw [if_pos ha] at h ⊢
    have := sumGo_zero h
    simp only [Int.zero_add] at this
    refine ⟨fun x hx => ?_, this⟩
    have h2 := List.all_eq_true.1 ha x hx
    simpa using h2
  · rw [if_neg ha] at h
    simp [Out.res] at h
theorem sum2_of {x y : Int} (h : (sumR [x, y]).2 = 0) : Len x ∧ Len y ∧ Len (x + y) ∧ (sumR [x, y]).1 = x + y := by
  obtain ⟨h1, h2, h3⟩ := sum_zero h
  simp only [List.sum_cons, List.sum_nil, Int.add_zero] at h2 h3
  exact ⟨h1 x (by simp), h1 y (by simp), h2, h3⟩
theorem sum3_of {x y z : Int} (h : (sumR [x, y, z]).2 = 0) : Len x ∧ Len y ∧ Len z ∧ Len (x + (y + z)) ∧ (sumR [x, y, z]).1 = x + (y + z) := by
  obtain ⟨h1, h2, h3⟩ := sum_zero h
  simp only [List.sum_cons, List.sum_nil, Int.add_zero] at h2 h3
  exact ⟨h1 x (by simp), h1 y (by simp), h1 z (by simp), h2, h3⟩
theorem sum4_of {x y z u : Int} (h : (sumR [x, y, z, u]).2 = 0) : Len x ∧ Len y ∧ Len z ∧ Len u ∧ Len (x + (y + (z + u))) ∧ (sumR [x, y, z, u]).1 = x + (y + (z + u)) := by
  obtain ⟨h1, h2, h3⟩ := sum_zero h
  simp only [List.sum_cons, List.sum_nil, Int.add_zero] at h2 h3
  exact ⟨h1 x (by simp), h1 y (by simp), h1 z (by simp), h1 u (by simp), h2, h3⟩
theorem need_zero : ∀ {l : List Bx} {e : Int}, needE e l = 0 → e = 0 ∧ ∀ b, b ∈ l → Len b.f1 ∧ Len b.f2 ∧ Len b.f3
  | [], e, h => ⟨h, fun b hb => by simp at hb⟩
  | b :: l, e, h => by
    have h' : needE (if lensB b = true then e else (keptR e 0 1).2) l = 0 := h
    obtain ⟨h1, h2⟩ := need_zero h'
    by_cases hb : lensB b = true
    · rw [if_pos hb] at h1
      refine ⟨h1, fun x hx => ?_⟩
      rcases List.mem_cons.1 hx with rfl | hx
      · simp only [lensB, allLen, List.all_cons, List.all_nil, Bool.and_true, Bool.and_eq_true, decide_eq_true_eq] at hb
        exact hb
      · exact h2 x hx
    · rw [if_neg hb] at h1
      have := kept_zero h1
      omega
theorem needs2 {e : Int} {b c : Bx} (h : needE e [b, c] = 0) : e = 0 ∧ (Len b.f1 ∧ Len b.f2 ∧ Len b.f3) ∧ Len c.f1 ∧ Len c.f2 ∧ Len c.f3 := ⟨(need_zero h).1, (need_zero h).2 b (by simp), (need_zero h).2 c (by simp)⟩
theorem setR_zero {x : Int} {l : List Kx} (h : (setR x l).2 = 0) : l.all kidLens = true ∧ Len x ∧ setR x l = (⟨3, x, setH l, setD l, 0, 0, l⟩, 0) := by
  have h1 := set_zero (e := 0) (x := x) (l := l) (by unfold lsetR; rw [if_pos rfl]; exact h)
  refine ⟨h1.2.1, h1.2.2.1, ?_⟩
  have h2 := h1.2.2.2
  unfold lsetR at h2
  rw [if_pos rfl] at h2
  exact Prod.ext h2 h
theorem setR_err {x : Int} {l : List Kx} (h : (setR x l).2 ≠ 0) : (setR x l).1 = ⟨0, 0, 0, 0, 0, 0, []⟩ := by
  have h1 := set_err (e := 0) (x := x) (l := l) (by unfold lsetR; rw [if_pos rfl]; exact h)
  unfold lsetR at h1
  rw [if_pos rfl] at h1
  exact h1
theorem wrap_small {x : Int} (h1 : -4611686018427387904 ≤ x) (h2 : x ≤ 4611686018427387904) : IntKind.i64.wrap x = x := by
  rw [IntKind.wrap_i64]
  omega
end Go.Proofs.Ytfbiahlogclkbaa.H
