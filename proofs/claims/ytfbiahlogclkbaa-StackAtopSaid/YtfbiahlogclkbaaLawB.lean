/- The plain laws of what is in the middle of a fraction. No condition is added. -/
import Derived.Test.YtfbiahlogclkbaaLawA
import Derived.Test.YtfbiahlogclkbaaStkF
import Derived.Test.YtfbiahlogclkbaaStkG
set_option linter.unusedVariables false
set_option linter.unusedSimpArgs false
namespace Go.Proofs.Ytfbiahlogclkbaa.H
open Go.RowKit Go.Proofs.YtfbiahlogclkbaaW.PrintWords Go.Proofs.YtfbiahlogclkbaaW.PrintLast Go.Proofs.YtfbiahlogclkbaaW.PrintMore Go.Proofs.Ytfbiahlogclkbaa.P

theorem wrapI (x : Int) : IntKind.i64.wrap x = wrap64 x := by simp only [i64_w]
theorem mid_zero {e x b : Int} (h : (midR e x b).2 = 0) : e = 0 ∧ Len x ∧ Len (x + wrap64 (-b)) ∧ (midR e x b).1 = (x + wrap64 (-b)) / 2 := by
  unfold midR at h ⊢
  simp only [wrapI] at h ⊢
  obtain ⟨h1, h2, h3⟩ := kept_zero h
  obtain ⟨k1, k2, k3⟩ := kept_zero h1
  rw [k3] at h2
  rw [h3, k3]
  obtain ⟨s1, s2, s3, s4⟩ := sum2_zero k2
  rw [s4] at h2 ⊢
  obtain ⟨p1, p2⟩ := half_zero h2
  exact ⟨k1, s1, s3, p2⟩
theorem kidLens_len {k : Kx} (h : kidLens k = true) : Len k.f0 ∧ Len k.f1 ∧ Len k.f2.f1 ∧ Len k.f2.f2 ∧ Len k.f2.f3 := by
  simp only [kidLens, allLen, List.all_cons, List.all_nil, Bool.and_true, Bool.and_eq_true, decide_eq_true_eq] at h
  exact h
/-- On the left is as much as on the right, or one less. -/
def inMid (W x b : Int) : Prop := (wrap64 (wrap64 (W - b) - x) = x ∨ wrap64 (wrap64 (W - b) - x) = wrap64 (x + 1)) ∧ b ≤ W
theorem inMid_of {W b x : Int} (hb : Len b) (hW : Len W) (h : b ≤ W) (hx : x = (W + wrap64 (-b)) / 2) : inMid W x b := by
  rw [len_wrap hb] at hx
  subst hx
  unfold Len at hb hW
  refine ⟨?_, h⟩
  unfold wrap64
  omega
theorem frac_mid {h : S23} {l : List Int} {c z : Int} {n d : Bx} (he : (fracR h l c z n d).2 = 0) : ∃ x up k2 k3 H D, (fracR h l c z n d).1 = ⟨3, max n.f1 d.f1, H, D, 0, 0, [⟨x, up, n⟩, k2, k3]⟩ ∧ inMid (max n.f1 d.f1) x n.f1 ∧ d.f1 ≤ max n.f1 d.f1 := by
  unfold fracR threeR at he ⊢
  obtain ⟨h1, h2, h3, h4⟩ := set_zero he
  rw [h4]
  obtain ⟨m1, _, _, _⟩ := mid_zero h1
  obtain ⟨q1, q2, q3, q4⟩ := mid_zero m1
  rw [List.all_cons, Bool.and_eq_true] at h2
  have hn := (kidLens_len h2.1).2.2.1
  exact ⟨_, _, _, _, _, _, rfl, inMid_of hn h3 (by omega) q4, by omega⟩
theorem atop_mid {h : S23} {l : List Int} {c z : Int} {n d : Bx} (he : (atopR h l c z n d).2 = 0) : ∃ x dn k1 H D, (atopR h l c z n d).1 = ⟨3, max n.f1 d.f1, H, D, 0, 0, [k1, ⟨x, dn, d⟩]⟩ ∧ inMid (max n.f1 d.f1) x d.f1 ∧ n.f1 ≤ max n.f1 d.f1 := by
  unfold atopR twoR at he ⊢
  obtain ⟨h1, h2, h3, h4⟩ := set_zero he
  rw [h4]
  obtain ⟨m1, _, _, m4⟩ := mid_zero h1
  rw [List.all_cons, List.all_cons, Bool.and_eq_true, Bool.and_eq_true] at h2
  have hd := (kidLens_len h2.2.1).2.2.1
  exact ⟨_, _, _, _, _, rfl, inMid_of hd h3 (by omega) m4, by omega⟩
theorem frac_err {h : S23} {l : List Int} {c z : Int} {n d : Bx} (he : (fracR h l c z n d).2 ≠ 0) : (fracR h l c z n d).1 = z39 := by
  unfold fracR threeR at he ⊢
  exact set_err he
theorem atop_err {h : S23} {l : List Int} {c z : Int} {n d : Bx} (he : (atopR h l c z n d).2 ≠ 0) : (atopR h l c z n d).1 = z39 := by
  unfold atopR twoR at he ⊢
  exact set_err he
end Go.Proofs.Ytfbiahlogclkbaa.H
