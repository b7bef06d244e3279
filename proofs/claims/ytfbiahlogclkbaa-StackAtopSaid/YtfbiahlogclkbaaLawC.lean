/- The plain law of one on another one. No condition is added. -/
import Derived.Test.YtfbiahlogclkbaaLawB
set_option linter.unusedVariables false
set_option linter.unusedSimpArgs false
namespace Go.Proofs.Ytfbiahlogclkbaa.H
open Go.RowKit Go.Proofs.YtfbiahlogclkbaaW.PrintWords Go.Proofs.YtfbiahlogclkbaaW.PrintLast Go.Proofs.YtfbiahlogclkbaaW.PrintMore Go.Proofs.Ytfbiahlogclkbaa.P

theorem need2_zero {e : Int} {n d : Bx} (h : needE e [n, d] = 0) : e = 0 ∧ (Len n.f1 ∧ Len n.f2 ∧ Len n.f3) ∧ Len d.f1 ∧ Len d.f2 ∧ Len d.f3 := by
  have h2 : needE e [n, d] = needE (needE e [n]) [d] := rfl
  rw [h2] at h
  obtain ⟨a, b⟩ := need1_zero h
  obtain ⟨c, e⟩ := need1_zero a
  exact ⟨c, e, b⟩
theorem there_zero {e up dn : Int} {n d : Bx} (hn : Len n.f3) (h : (atopThere e up dn n d).2 = 0) : e = 0 ∧ Len up ∧ Len (up - n.f3) ∧ Len (wrap64 (-dn)) ∧ Len (d.f2 + wrap64 (-dn)) ∧ (atopThere e up dn n d).1 = up - n.f3 - (d.f2 + wrap64 (-dn)) ∧ Len (up - n.f3 - (d.f2 + wrap64 (-dn))) := by
  unfold atopThere at h ⊢
  simp only [wrapI] at h ⊢
  obtain ⟨h1, h2, h3⟩ := kept_zero h
  obtain ⟨k1, k2, k3⟩ := kept_zero h1
  obtain ⟨m1, m2, m3⟩ := kept_zero k1
  rw [h3]
  rw [m3, k3] at h2 ⊢
  obtain ⟨a1, a2, a3, a4⟩ := sum2_zero m2
  obtain ⟨b1, b2, b3, b4⟩ := sum2_zero k2
  rw [a4, b4] at h2 ⊢
  obtain ⟨c1, c2, c3, c4⟩ := sum2_zero h2
  rw [c4]
  rw [len_wrap hn] at a3 c1 c3 ⊢
  rw [len_wrap b3] at c3 ⊢
  exact ⟨m1, a1, by rw [show up - n.f3 = up + -n.f3 by omega]; exact a3, b2, b3, by omega, by rw [show up - n.f3 - (d.f2 + wrap64 (-dn)) = up + -n.f3 + -(d.f2 + wrap64 (-dn)) by omega]; exact c3⟩
theorem move_zero {e mi up dn : Int} (h : (atopMove e mi up dn).2.2 = 0) : e = 0 ∧ (0 < mi → Len mi ∧ Len up ∧ Len (up + mi / 2) ∧ Len (wrap64 (mi - mi / 2)) ∧ Len dn ∧ Len (dn + wrap64 (mi - mi / 2)) ∧ (atopMove e mi up dn).1 = up + mi / 2 ∧ (atopMove e mi up dn).2.1 = dn + wrap64 (mi - mi / 2)) ∧ (¬ 0 < mi → (atopMove e mi up dn).1 = up ∧ (atopMove e mi up dn).2.1 = dn) := by
  by_cases hm : 0 < mi
  · rw [atopMove_pos hm] at h ⊢
    obtain ⟨h1, h2, h3⟩ := kept_zero h
    obtain ⟨k1, k2, k3⟩ := kept_zero h1
    obtain ⟨m1, m2, m3⟩ := kept_zero k1
    obtain ⟨p1, p2⟩ := half_zero m2
    rw [m3] at h2 k2
    rw [p2] at h2 k2
    obtain ⟨a1, a2, a3, a4⟩ := sum2_zero h2
    obtain ⟨b1, b2, b3, b4⟩ := sum2_zero k2
    refine ⟨m1, fun _ => ⟨p1, b1, b3, a2, a1, a3, ?_, ?_⟩, fun hx => absurd hm hx⟩
    · rw [k3, m3, p2, b4]
    · rw [h3, m3, p2, a4]
  · rw [atopMove_neg hm] at h ⊢
    exact ⟨h, fun hx => absurd hx hm, fun _ => ⟨rfl, rfl⟩⟩
theorem res_len (r : Out) : Len r.res.1 := by
  cases r with
  | ret n =>
    simp only [Out.res]
    by_cases hn : Len n
    · rw [if_pos hn]; exact hn
    · rw [if_neg hn]; exact ⟨by decide, by decide⟩
  | pan k => exact ⟨by simp [Out.res], by simp [Out.res]⟩
theorem konst_len (h : S23) (l : List Int) (k c z : Int) : Len (konstR h l k c z).1 := by
  have h0 : Len 0 := ⟨by decide, by decide⟩
  unfold konstR
  split
  · split
    · unfold unitsR
      split
      · exact res_len _
      · exact h0
    · exact h0
  · exact h0
theorem atop_law {h : S23} {l : List Int} {c z : Int} {n d : Bx} (he : (atopR h l c z n d).2 = 0) : ∃ x1 x x2 y2 W H D, (atopR h l c z n d).1 = ⟨3, W, H, D, 0, 0, [⟨x1, x, n⟩, ⟨x2, y2, d⟩]⟩ ∧ (konstR h l (tallK 22 c) c z).2 = 0 ∧ (konstR h l (tallK 24 c) c z).2 = 0 ∧ (konstR h l (tallK 26 c) c z).2 = 0 ∧
    (konstR h l (tallK 26 c) c z).1 ≤ wrap64 (wrap64 (wrap64 (x - n.f3) - d.f2) + wrap64 (0 - y2)) ∧ (konstR h l (tallK 22 c) c z).1 ≤ x ∧ (konstR h l (tallK 24 c) c z).1 ≤ wrap64 (0 - y2) ∧
    ((x = (konstR h l (tallK 22 c) c z).1 ∧ wrap64 (0 - y2) = (konstR h l (tallK 24 c) c z).1) ∨ (wrap64 (wrap64 (wrap64 (x - n.f3) - d.f2) + wrap64 (0 - y2)) = (konstR h l (tallK 26 c) c z).1 ∧
      wrap64 (wrap64 (wrap64 (0 - y2) - (konstR h l (tallK 24 c) c z).1) - wrap64 (x - (konstR h l (tallK 22 c) c z).1)) ≤ 1 ∧ 0 ≤ wrap64 (wrap64 (wrap64 (0 - y2) - (konstR h l (tallK 24 c) c z).1) - wrap64 (x - (konstR h l (tallK 22 c) c z).1)))) := by
  unfold atopR twoR at he ⊢
  obtain ⟨h1, h2, h3, h4⟩ := set_zero he
  rw [h4]
  obtain ⟨m1, _, _, _⟩ := mid_zero h1
  obtain ⟨m2, _, _, _⟩ := mid_zero m1
  obtain ⟨v1, v2, v3⟩ := move_zero m2
  obtain ⟨i1, i2, i3⟩ := kept_zero v1
  rw [List.all_cons, List.all_cons, Bool.and_eq_true, Bool.and_eq_true] at h2
  obtain ⟨_, q1, _, q3, q4⟩ := kidLens_len h2.1
  obtain ⟨_, r1, _, r3, r4⟩ := kidLens_len h2.2.1
  obtain ⟨t1, t2, t3, t4, t5, t6, t7⟩ := there_zero q4 i1
  obtain ⟨n1, _⟩ := need2_zero t1
  obtain ⟨g1, g2, g3⟩ := kept_zero n1
  obtain ⟨d1, d2, d3⟩ := kept_zero g1
  obtain ⟨u1, u2, u3⟩ := kept_zero d1
  obtain ⟨j1, j2, j3, j4⟩ := sum2_zero i2
  have q1' : Len (atopMove _ _ _ _).1 := q1
  have r1' : Len (IntKind.i64.wrap (-(atopMove _ _ _ _).2.1)) := r1
  have q3' : Len n.f2 := q3
  have q4' : Len n.f3 := q4
  have r3' : Len d.f2 := r3
  have r4' : Len d.f3 := r4
  clear h2 q1 r1 h1 he h4 h3 m1 m2 v1 q3 q4 r3 r4
  refine ⟨_, _, _, _, _, _, _, rfl, u2, d2, g2, ?_⟩
  show _ ∧ _ ∧ _ ∧ _
  revert v2 v3 q1' r1'
  generalize atopMove _ _ _ _ = MV
  intro v2 v3 q1' r1'
  simp only [i3] at v2 v3
  simp only [j4] at v2 v3
  simp only [u3, d3] at t6
  simp only [u3, d3, g3, t6] at t2 t3 t4 t5 t7 j1 j2 j3 v2 v3
  have lU := konst_len h l (tallK 22 c) c z
  have lV := konst_len h l (tallK 24 c) c z
  have lG := konst_len h l (tallK 26 c) c z
  simp only [wrapI] at r1' ⊢
  clear i1 i2 t1 n1 g1 d1 i3 j4 t6 u3 d3 g3
  revert t2 t3 t4 t5 t7 j1 j2 j3 v2 v3 lU lV lG
  generalize (konstR h l (tallK 22 c) c z).1 = U
  generalize (konstR h l (tallK 24 c) c z).1 = V
  generalize (konstR h l (tallK 26 c) c z).1 = G
  intro t2 t3 t4 t5 t7 j1 j2 j3 v2 v3 lU lV lG
  rw [len_wrap lV] at t4 t5 t7 j2 j3 v2 v3
  rw [len_wrap t7] at j2 j3 v2 v3
  obtain ⟨a, b, e⟩ := MV
  simp only at v2 v3 q1' r1' ⊢
  by_cases hm : 0 < G + -(U - n.f3 - (d.f2 + -V))
  · obtain ⟨w1, w2, w3, w4, w5, w6, w7, w8⟩ := v2 hm
    clear v2 v3
    have w9 : wrap64 (G + -(U - n.f3 - (d.f2 + -V)) - (G + -(U - n.f3 - (d.f2 + -V))) / 2) = G + -(U - n.f3 - (d.f2 + -V)) - (G + -(U - n.f3 - (d.f2 + -V))) / 2 := by
      unfold Len at w1
      unfold wrap64
      omega
    rw [w9] at w4 w6 w8
    subst w7 w8
    generalize hmi : G + -(U - n.f3 - (d.f2 + -V)) = mi at *
    unfold Len at *
    have e1 : wrap64 (-(V + (mi - mi / 2))) = -(V + (mi - mi / 2)) := by unfold wrap64; omega
    rw [e1]
    have e2 : wrap64 (0 - -(V + (mi - mi / 2))) = V + (mi - mi / 2) := by unfold wrap64; omega
    rw [e2]
    have e3 : wrap64 (wrap64 (wrap64 (U + mi / 2 - n.f3) - d.f2) + (V + (mi - mi / 2))) = G := by unfold wrap64; omega
    rw [e3]
    have e4 : wrap64 (wrap64 (V + (mi - mi / 2) - V) - wrap64 (U + mi / 2 - U)) = mi - mi / 2 - mi / 2 := by unfold wrap64; omega
    rw [e4]
    refine ⟨by omega, by omega, by omega, Or.inr ⟨rfl, by omega, by omega⟩⟩
  · obtain ⟨w1, w2⟩ := v3 hm
    clear v2 v3
    subst w1 w2
    unfold Len at *
    have e1 : wrap64 (-b) = -b := by unfold wrap64; omega
    rw [e1]
    have e2 : wrap64 (0 - -b) = b := by unfold wrap64; omega
    rw [e2]
    have e3 : wrap64 (wrap64 (wrap64 (a - n.f3) - d.f2) + b) = a - n.f3 - d.f2 + b := by unfold wrap64; omega
    rw [e3]
    exact ⟨by omega, by omega, by omega, Or.inl ⟨rfl, rfl⟩⟩
end Go.Proofs.Ytfbiahlogclkbaa.H
