/- The proof's texts BarP: what the statement leads to. No condition is added. -/
import Derived.Test.YtfbiahlogclkbaaPlnA
import Derived.Test.YtfbiahlogclkbaaBarB
import Derived.Test.YtfbiahlogclkbaaBarC
import Derived.Test.YtfbiahlogclkbaaBarD
set_option linter.unusedVariables false
set_option linter.unusedSimpArgs false
namespace Go.Proofs.Ytfbiahlogclkbaa.H
open Go.RowKit Go.Proofs.YtfbiahlogclkbaaW.PrintWords Go.Proofs.YtfbiahlogclkbaaW.PrintLast Go.Proofs.YtfbiahlogclkbaaW.PrintMore Go.Proofs.Ytfbiahlogclkbaa.P Ev

/-- A root without a degree: as high as its sign; the gap is the font's, or more. -/
structure RadOk (k : Int) (f : FV) (fl : List Int) (c z : Int) (b s : Bx) (r : Bx × Int) (nr : Int × Int) (W H D u y t S n g : Int) : Prop where
  r_ : r = (⟨3, W, H, D, 0, 0, [⟨0, u, s⟩, ⟨s.f1, y, ⟨2, b.f1, t, 0, 0, 0, []⟩⟩, ⟨s.f1, 0, b⟩, ⟨0, 0, ⟨0, 0, S, 0, 0, 0, []⟩⟩]⟩, 0)
  nr_ : nr = (n, 0)
  k_ : (konstR f.h fl k c z).2 = 0
  g_ : (konstR f.h fl k c z).1 = g
  hg : Len g
  ht : Len t
  hy : Len y
  hu : Len u
  hb : Len b.f2
  hd : Len b.f3
  hw : Len b.f1
  hs : Len s.f2
  he : Len s.f3
  hv : Len s.f1
  hn : n = g + (t + (b.f2 + b.f3))
  hl : Len n
  hW : W = s.f1 + b.f1
  hWl : Len W
  hyu : y + t = u + s.f2
  hf : (s.f2 + s.f3 ≤ n ∧ y = b.f2 + g) ∨ (n < s.f2 + s.f3 ∧ y = b.f2 + g + (s.f2 + s.f3 - n) / 2)
theorem need1_of {b : Bx} (h1 : Len b.f1) (h2 : Len b.f2) (h3 : Len b.f3) : needE 0 [b] = 0 := by
  have h : lensB b = true := by simp only [lensB, allLen, List.all_cons, List.all_nil, Bool.and_true, Bool.and_eq_true, decide_eq_true_eq]; exact ⟨h1, h2, h3⟩
  unfold needE
  simp only [List.foldl_cons, List.foldl_nil]
  rw [if_pos h]
theorem kp_one {r : Int × Int} (h : r.2 = 0) : kp 0 r = r := by
  unfold kp keptR
  rw [if_pos rfl, h, if_pos rfl]
  exact Prod.ext rfl h.symm
set_option maxHeartbeats 1000000 in
theorem rad_tbff_law (f : FV) (fl : List Int) (c : Int) (z : Int) (b : Bx) (s : Bx) (hc : Ev.Told (rad_tbff f fl c z b s).2) (h0 : (rad_tbff f fl c z b s).1.2 = 0) : ∃ W H D u y t S n g, RadOk 50 f fl c z b s (rad_tbff f fl c z b s).1 (need_t f fl c z b).1 W H D u y t S n g := by
  obtain ⟨v1, h1, v2, h2, v3, h3, v4, h4, v5, h5, v6, h6, v7, h7, v8, h8, v9, h9, v10, h10, v11, h11, v12, h12, v13, h13, v14, h14, v15, h15, v16, h16, v17, h17, v18, h18, v19, h19, v20, h20, v21, h21, v22, h22, v23, h23, v24, h24, v25, h25, hX⟩ := rad_tbff_vars f fl c z b s
  rw [hX] at hc h0 ⊢
  obtain ⟨w1, g1, w2, g2, w3, g3, w4, g4, w5, g5, w6, g6, w7, g7, hY⟩ := need_t_vars f fl c z b
  rw [hY]
  clear hX hY
  have c2 := hc _ (List.mem_cons_of_mem _ (List.mem_cons_of_mem _ (List.mem_cons_self ..)))
  have c3 := hc _ (List.mem_cons_of_mem _ (List.mem_cons_of_mem _ (List.mem_cons_of_mem _ (List.mem_cons_self ..))))
  simp only [bne_eq_false_iff_eq] at c3
  have e24 : v24.snd = 0 := c3
  have e25 : v25.snd = 0 := h0
  clear hc h0 c3
  have x25 := e25; rw [h25] at x25
  obtain ⟨s25, t25, q25⟩ := setR_zero x25
  have x24 := e24; rw [h24] at x24
  obtain ⟨e22, e23, q24⟩ := kp_zero x24; rw [← h24] at q24
  have x23 := e23; rw [h23] at x23
  obtain ⟨l23_0, l23_1, m23, q23⟩ := sum2_of x23; rw [← h23] at q23
  have x22 := e22; rw [h22] at x22
  obtain ⟨e20, e21, q22⟩ := kp_zero x22; rw [← h22] at q22
  have x21 := e21; rw [h21] at x21
  obtain ⟨l21_0, l21_1, m21, q21⟩ := sum2_of x21; rw [← h21] at q21
  have x20 := e20; rw [h20] at x20
  obtain ⟨e18, e19, q20⟩ := kp_zero x20; rw [← h20] at q20
  have x19 := e19; rw [h19] at x19
  obtain ⟨l19_0, l19_1, m19, q19⟩ := sum2_of x19; rw [← h19] at q19
  have x18 := e18; rw [h18] at x18
  obtain ⟨e16, e17, q18⟩ := kp_zero x18; rw [← h18] at q18
  have x17 := e17; rw [h17] at x17
  obtain ⟨l17_0, l17_1, m17, q17⟩ := sum2_of x17; rw [← h17] at q17
  have x16 := e16; rw [h16] at x16
  obtain ⟨e14, e15, q16⟩ := kp_zero x16; rw [← h16] at q16
  have x15 := e15; rw [h15] at x15
  obtain ⟨l15_0, l15_1, m15, q15⟩ := sum2_of x15; rw [← h15] at q15
  have x14 := e14; rw [h14] at x14
  obtain ⟨e12, e13, q14⟩ := kp_zero x14; rw [← h14] at q14
  have x13 := e13; rw [h13] at x13
  obtain ⟨l13_0, l13_1, l13_2, m13, q13⟩ := sum3_of x13; rw [← h13] at q13
  have x12 := e12; rw [h12] at x12
  obtain ⟨e10, e11, q12⟩ := kp_zero x12; rw [← h12] at q12
  have x11 := e11; rw [h11] at x11
  obtain ⟨l11_0, l11_1, m11, q11⟩ := sum2_of x11; rw [← h11] at q11
  have x10 := e10; rw [h10] at x10
  obtain ⟨e8, e9, q10⟩ := kp_zero x10; rw [← h10] at q10
  have x9 := e9; rw [h9] at x9
  obtain ⟨l9_0, l9_1, l9_2, l9_3, m9, q9⟩ := sum4_of x9; rw [← h9] at q9
  have x8 := e8; rw [h8] at x8
  have e7 := x8
  have x7 := e7; rw [h7] at x7
  obtain ⟨e6, ⟨n7_0, o7_0, p7_0⟩, ⟨n7_1, o7_1, p7_1⟩⟩ := needs2 x7
  have x6 := e6; rw [h6] at x6
  obtain ⟨e4, e5, q6⟩ := kp_zero x6; rw [← h6] at q6
  have x4 := e4; rw [h4] at x4
  obtain ⟨e2, e3, q4⟩ := kp_zero x4; rw [← h4] at q4
  have x2 := e2; rw [h2] at x2
  obtain ⟨_, e1, q2⟩ := kp_zero x2; rw [← h2] at q2
  have i1 : v1 = w1 := h1.trans g1.symm
  subst i1
  have i2 : v2 = w2 := h2.trans g2.symm
  subst i2
  have i3 : v3 = w3 := h3.trans g3.symm
  subst i3
  have i4 : v4 = w4 := h4.trans g4.symm
  subst i4
  have i6 : v9 = w6 := h9.trans g6.symm
  subst i6
  rw [e4, need1_of n7_0 o7_0 p7_0] at g5
  subst g5
  rw [kp_one e9] at g7
  subst g7
  have hV : v25 = (⟨3, v24.fst, _, _, 0, 0, _⟩, 0) := h25.trans q25
  have ha : v18.fst = s.f1 := by omega
  rw [ha] at hV
  simp only [decide_eq_false_iff_not] at c2
  have z15 : IntKind.i64.wrap (0 - s.f2) = 0 - s.f2 := wrap_small (by unfold Len at *; omega) (by unfold Len at *; omega)
  rw [z15] at q15 m15 l15_1
  have z19 : IntKind.i64.wrap (0 - v4.fst) = 0 - v4.fst := wrap_small (by unfold Len at *; omega) (by unfold Len at *; omega)
  rw [z19] at q19 m19 l19_1
  refine ⟨_, _, _, _, _, _, _, w7.fst, v1.fst, ⟨hV, Prod.ext rfl e9, by rw [← h1]; exact e1, by rw [← h1], ?_, ?_, ?_, ?_, o7_0, p7_0, n7_0, o7_1, p7_1, n7_1, ?_, ?_, ?_, ?_, ?_, ?_⟩⟩
  all_goals unfold Len at *
  all_goals omega
set_option maxHeartbeats 1000000 in
theorem rad_tbtf_law (f : FV) (fl : List Int) (c : Int) (z : Int) (b : Bx) (s : Bx) (hc : Ev.Told (rad_tbtf f fl c z b s).2) (h0 : (rad_tbtf f fl c z b s).1.2 = 0) : ∃ W H D u y t S n g, RadOk 50 f fl c z b s (rad_tbtf f fl c z b s).1 (need_t f fl c z b).1 W H D u y t S n g := by
  obtain ⟨v1, h1, v2, h2, v3, h3, v4, h4, v5, h5, v6, h6, v7, h7, v8, h8, v9, h9, v10, h10, v11, h11, v12, h12, v13, h13, v14, h14, v15, h15, v16, h16, v17, h17, v18, h18, v19, h19, v20, h20, v21, h21, v22, h22, v23, h23, v24, h24, v25, h25, v26, h26, v27, h27, v28, h28, v29, h29, v30, h30, v31, h31, hX⟩ := rad_tbtf_vars f fl c z b s
  rw [hX] at hc h0 ⊢
  obtain ⟨w1, g1, w2, g2, w3, g3, w4, g4, w5, g5, w6, g6, w7, g7, hY⟩ := need_t_vars f fl c z b
  rw [hY]
  clear hX hY
  have c2 := hc _ (List.mem_cons_of_mem _ (List.mem_cons_of_mem _ (List.mem_cons_self ..)))
  have c3 := hc _ (List.mem_cons_of_mem _ (List.mem_cons_of_mem _ (List.mem_cons_of_mem _ (List.mem_cons_self ..))))
  simp only [bne_eq_false_iff_eq] at c3
  have e30 : v30.snd = 0 := c3
  have e31 : v31.snd = 0 := h0
  clear hc h0 c3
  have x31 := e31; rw [h31] at x31
  obtain ⟨s31, t31, q31⟩ := setR_zero x31
  have x30 := e30; rw [h30] at x30
  obtain ⟨e28, e29, q30⟩ := kp_zero x30; rw [← h30] at q30
  have x29 := e29; rw [h29] at x29
  obtain ⟨l29_0, l29_1, m29, q29⟩ := sum2_of x29; rw [← h29] at q29
  have x28 := e28; rw [h28] at x28
  obtain ⟨e26, e27, q28⟩ := kp_zero x28; rw [← h28] at q28
  have x27 := e27; rw [h27] at x27
  obtain ⟨l27_0, l27_1, m27, q27⟩ := sum2_of x27; rw [← h27] at q27
  have x26 := e26; rw [h26] at x26
  obtain ⟨e24, e25, q26⟩ := kp_zero x26; rw [← h26] at q26
  have x25 := e25; rw [h25] at x25
  obtain ⟨l25_0, l25_1, m25, q25⟩ := sum2_of x25; rw [← h25] at q25
  have x24 := e24; rw [h24] at x24
  obtain ⟨e22, e23, q24⟩ := kp_zero x24; rw [← h24] at q24
  have x23 := e23; rw [h23] at x23
  obtain ⟨l23_0, l23_1, m23, q23⟩ := sum2_of x23; rw [← h23] at q23
  have x22 := e22; rw [h22] at x22
  obtain ⟨e20, e21, q22⟩ := kp_zero x22; rw [← h22] at q22
  have x21 := e21; rw [h21] at x21
  obtain ⟨l21_0, l21_1, m21, q21⟩ := sum2_of x21; rw [← h21] at q21
  have x20 := e20; rw [h20] at x20
  obtain ⟨e18, e19, q20⟩ := kp_zero x20; rw [← h20] at q20
  have x19 := e19; rw [h19] at x19
  obtain ⟨l19_0, l19_1, l19_2, m19, q19⟩ := sum3_of x19; rw [← h19] at q19
  have x18 := e18; rw [h18] at x18
  obtain ⟨e16, e17, q18⟩ := kp_zero x18; rw [← h18] at q18
  have x17 := e17; rw [h17] at x17
  obtain ⟨l17_0, l17_1, m17, q17⟩ := sum2_of x17; rw [← h17] at q17
  have x16 := e16; rw [h16] at x16
  obtain ⟨e14, e15, q16⟩ := kp_zero x16; rw [← h16] at q16
  have x15 := e15; rw [h15] at x15
  obtain ⟨m15, q15⟩ := half_zero x15; rw [← h15] at q15
  have x14 := e14; rw [h14] at x14
  obtain ⟨e12, e13, q14⟩ := kp_zero x14; rw [← h14] at q14
  have x13 := e13; rw [h13] at x13
  obtain ⟨l13_0, l13_1, m13, q13⟩ := sum2_of x13; rw [← h13] at q13
  have x12 := e12; rw [h12] at x12
  obtain ⟨e10, e11, q12⟩ := kp_zero x12; rw [← h12] at q12
  have x11 := e11; rw [h11] at x11
  obtain ⟨l11_0, l11_1, m11, q11⟩ := sum2_of x11; rw [← h11] at q11
  have x10 := e10; rw [h10] at x10
  obtain ⟨e8, e9, q10⟩ := kp_zero x10; rw [← h10] at q10
  have x9 := e9; rw [h9] at x9
  obtain ⟨l9_0, l9_1, l9_2, l9_3, m9, q9⟩ := sum4_of x9; rw [← h9] at q9
  have x8 := e8; rw [h8] at x8
  have e7 := x8
  have x7 := e7; rw [h7] at x7
  obtain ⟨e6, ⟨n7_0, o7_0, p7_0⟩, ⟨n7_1, o7_1, p7_1⟩⟩ := needs2 x7
  have x6 := e6; rw [h6] at x6
  obtain ⟨e4, e5, q6⟩ := kp_zero x6; rw [← h6] at q6
  have x4 := e4; rw [h4] at x4
  obtain ⟨e2, e3, q4⟩ := kp_zero x4; rw [← h4] at q4
  have x2 := e2; rw [h2] at x2
  obtain ⟨_, e1, q2⟩ := kp_zero x2; rw [← h2] at q2
  have i1 : v1 = w1 := h1.trans g1.symm
  subst i1
  have i2 : v2 = w2 := h2.trans g2.symm
  subst i2
  have i3 : v3 = w3 := h3.trans g3.symm
  subst i3
  have i4 : v4 = w4 := h4.trans g4.symm
  subst i4
  have i6 : v9 = w6 := h9.trans g6.symm
  subst i6
  rw [e4, need1_of n7_0 o7_0 p7_0] at g5
  subst g5
  rw [kp_one e9] at g7
  subst g7
  have hV : v31 = (⟨3, v30.fst, _, _, 0, 0, _⟩, 0) := h31.trans q31
  have ha : v24.fst = s.f1 := by omega
  rw [ha] at hV
  simp only [decide_eq_true_eq] at c2
  have z13 : IntKind.i64.wrap (0 - v10.fst) = 0 - v10.fst := wrap_small (by unfold Len at *; omega) (by unfold Len at *; omega)
  rw [z13] at q13 m13 l13_1
  have z21 : IntKind.i64.wrap (0 - s.f2) = 0 - s.f2 := wrap_small (by unfold Len at *; omega) (by unfold Len at *; omega)
  rw [z21] at q21 m21 l21_1
  have z25 : IntKind.i64.wrap (0 - v4.fst) = 0 - v4.fst := wrap_small (by unfold Len at *; omega) (by unfold Len at *; omega)
  rw [z25] at q25 m25 l25_1
  refine ⟨_, _, _, _, _, _, _, w7.fst, v1.fst, ⟨hV, Prod.ext rfl e9, by rw [← h1]; exact e1, by rw [← h1], ?_, ?_, ?_, ?_, o7_0, p7_0, n7_0, o7_1, p7_1, n7_1, ?_, ?_, ?_, ?_, ?_, ?_⟩⟩
  all_goals unfold Len at *
  all_goals omega
set_option maxHeartbeats 1000000 in
theorem rad_fbff_law (f : FV) (fl : List Int) (c : Int) (z : Int) (b : Bx) (s : Bx) (hc : Ev.Told (rad_fbff f fl c z b s).2) (h0 : (rad_fbff f fl c z b s).1.2 = 0) : ∃ W H D u y t S n g, RadOk 49 f fl c z b s (rad_fbff f fl c z b s).1 (need_f f fl c z b).1 W H D u y t S n g := by
  obtain ⟨v1, h1, v2, h2, v3, h3, v4, h4, v5, h5, v6, h6, v7, h7, v8, h8, v9, h9, v10, h10, v11, h11, v12, h12, v13, h13, v14, h14, v15, h15, v16, h16, v17, h17, v18, h18, v19, h19, v20, h20, v21, h21, v22, h22, v23, h23, v24, h24, v25, h25, hX⟩ := rad_fbff_vars f fl c z b s
  rw [hX] at hc h0 ⊢
  obtain ⟨w1, g1, w2, g2, w3, g3, w4, g4, w5, g5, w6, g6, w7, g7, hY⟩ := need_f_vars f fl c z b
  rw [hY]
  clear hX hY
  have c2 := hc _ (List.mem_cons_of_mem _ (List.mem_cons_of_mem _ (List.mem_cons_self ..)))
  have c3 := hc _ (List.mem_cons_of_mem _ (List.mem_cons_of_mem _ (List.mem_cons_of_mem _ (List.mem_cons_self ..))))
  simp only [bne_eq_false_iff_eq] at c3
  have e24 : v24.snd = 0 := c3
  have e25 : v25.snd = 0 := h0
  clear hc h0 c3
  have x25 := e25; rw [h25] at x25
  obtain ⟨s25, t25, q25⟩ := setR_zero x25
  have x24 := e24; rw [h24] at x24
  obtain ⟨e22, e23, q24⟩ := kp_zero x24; rw [← h24] at q24
  have x23 := e23; rw [h23] at x23
  obtain ⟨l23_0, l23_1, m23, q23⟩ := sum2_of x23; rw [← h23] at q23
  have x22 := e22; rw [h22] at x22
  obtain ⟨e20, e21, q22⟩ := kp_zero x22; rw [← h22] at q22
  have x21 := e21; rw [h21] at x21
  obtain ⟨l21_0, l21_1, m21, q21⟩ := sum2_of x21; rw [← h21] at q21
  have x20 := e20; rw [h20] at x20
  obtain ⟨e18, e19, q20⟩ := kp_zero x20; rw [← h20] at q20
  have x19 := e19; rw [h19] at x19
  obtain ⟨l19_0, l19_1, m19, q19⟩ := sum2_of x19; rw [← h19] at q19
  have x18 := e18; rw [h18] at x18
  obtain ⟨e16, e17, q18⟩ := kp_zero x18; rw [← h18] at q18
  have x17 := e17; rw [h17] at x17
  obtain ⟨l17_0, l17_1, m17, q17⟩ := sum2_of x17; rw [← h17] at q17
  have x16 := e16; rw [h16] at x16
  obtain ⟨e14, e15, q16⟩ := kp_zero x16; rw [← h16] at q16
  have x15 := e15; rw [h15] at x15
  obtain ⟨l15_0, l15_1, m15, q15⟩ := sum2_of x15; rw [← h15] at q15
  have x14 := e14; rw [h14] at x14
  obtain ⟨e12, e13, q14⟩ := kp_zero x14; rw [← h14] at q14
  have x13 := e13; rw [h13] at x13
  obtain ⟨l13_0, l13_1, l13_2, m13, q13⟩ := sum3_of x13; rw [← h13] at q13
  have x12 := e12; rw [h12] at x12
  obtain ⟨e10, e11, q12⟩ := kp_zero x12; rw [← h12] at q12
  have x11 := e11; rw [h11] at x11
  obtain ⟨l11_0, l11_1, m11, q11⟩ := sum2_of x11; rw [← h11] at q11
  have x10 := e10; rw [h10] at x10
  obtain ⟨e8, e9, q10⟩ := kp_zero x10; rw [← h10] at q10
  have x9 := e9; rw [h9] at x9
  obtain ⟨l9_0, l9_1, l9_2, l9_3, m9, q9⟩ := sum4_of x9; rw [← h9] at q9
  have x8 := e8; rw [h8] at x8
  have e7 := x8
  have x7 := e7; rw [h7] at x7
  obtain ⟨e6, ⟨n7_0, o7_0, p7_0⟩, ⟨n7_1, o7_1, p7_1⟩⟩ := needs2 x7
  have x6 := e6; rw [h6] at x6
  obtain ⟨e4, e5, q6⟩ := kp_zero x6; rw [← h6] at q6
  have x4 := e4; rw [h4] at x4
  obtain ⟨e2, e3, q4⟩ := kp_zero x4; rw [← h4] at q4
  have x2 := e2; rw [h2] at x2
  obtain ⟨_, e1, q2⟩ := kp_zero x2; rw [← h2] at q2
  have i1 : v1 = w1 := h1.trans g1.symm
  subst i1
  have i2 : v2 = w2 := h2.trans g2.symm
  subst i2
  have i3 : v3 = w3 := h3.trans g3.symm
  subst i3
  have i4 : v4 = w4 := h4.trans g4.symm
  subst i4
  have i6 : v9 = w6 := h9.trans g6.symm
  subst i6
  rw [e4, need1_of n7_0 o7_0 p7_0] at g5
  subst g5
  rw [kp_one e9] at g7
  subst g7
  have hV : v25 = (⟨3, v24.fst, _, _, 0, 0, _⟩, 0) := h25.trans q25
  have ha : v18.fst = s.f1 := by omega
  rw [ha] at hV
  simp only [decide_eq_false_iff_not] at c2
  have z15 : IntKind.i64.wrap (0 - s.f2) = 0 - s.f2 := wrap_small (by unfold Len at *; omega) (by unfold Len at *; omega)
  rw [z15] at q15 m15 l15_1
  have z19 : IntKind.i64.wrap (0 - v4.fst) = 0 - v4.fst := wrap_small (by unfold Len at *; omega) (by unfold Len at *; omega)
  rw [z19] at q19 m19 l19_1
  refine ⟨_, _, _, _, _, _, _, w7.fst, v1.fst, ⟨hV, Prod.ext rfl e9, by rw [← h1]; exact e1, by rw [← h1], ?_, ?_, ?_, ?_, o7_0, p7_0, n7_0, o7_1, p7_1, n7_1, ?_, ?_, ?_, ?_, ?_, ?_⟩⟩
  all_goals unfold Len at *
  all_goals omega
set_option maxHeartbeats 1000000 in
theorem rad_fbtf_law (f : FV) (fl : List Int) (c : Int) (z : Int) (b : Bx) (s : Bx) (hc : Ev.Told (rad_fbtf f fl c z b s).2) (h0 : (rad_fbtf f fl c z b s).1.2 = 0) : ∃ W H D u y t S n g, RadOk 49 f fl c z b s (rad_fbtf f fl c z b s).1 (need_f f fl c z b).1 W H D u y t S n g := by
  obtain ⟨v1, h1, v2, h2, v3, h3, v4, h4, v5, h5, v6, h6, v7, h7, v8, h8, v9, h9, v10, h10, v11, h11, v12, h12, v13, h13, v14, h14, v15, h15, v16, h16, v17, h17, v18, h18, v19, h19, v20, h20, v21, h21, v22, h22, v23, h23, v24, h24, v25, h25, v26, h26, v27, h27, v28, h28, v29, h29, v30, h30, v31, h31, hX⟩ := rad_fbtf_vars f fl c z b s
  rw [hX] at hc h0 ⊢
  obtain ⟨w1, g1, w2, g2, w3, g3, w4, g4, w5, g5, w6, g6, w7, g7, hY⟩ := need_f_vars f fl c z b
  rw [hY]
  clear hX hY
  have c2 := hc _ (List.mem_cons_of_mem _ (List.mem_cons_of_mem _ (List.mem_cons_self ..)))
  have c3 := hc _ (List.mem_cons_of_mem _ (List.mem_cons_of_mem _ (List.mem_cons_of_mem _ (List.mem_cons_self ..))))
  simp only [bne_eq_false_iff_eq] at c3
  have e30 : v30.snd = 0 := c3
  have e31 : v31.snd = 0 := h0
  clear hc h0 c3
  have x31 := e31; rw [h31] at x31
  obtain ⟨s31, t31, q31⟩ := setR_zero x31
  have x30 := e30; rw [h30] at x30
  obtain ⟨e28, e29, q30⟩ := kp_zero x30; rw [← h30] at q30
  have x29 := e29; rw [h29] at x29
  obtain ⟨l29_0, l29_1, m29, q29⟩ := sum2_of x29; rw [← h29] at q29
  have x28 := e28; rw [h28] at x28
  obtain ⟨e26, e27, q28⟩ := kp_zero x28; rw [← h28] at q28
  have x27 := e27; rw [h27] at x27
  obtain ⟨l27_0, l27_1, m27, q27⟩ := sum2_of x27; rw [← h27] at q27
  have x26 := e26; rw [h26] at x26
  obtain ⟨e24, e25, q26⟩ := kp_zero x26; rw [← h26] at q26
  have x25 := e25; rw [h25] at x25
  obtain ⟨l25_0, l25_1, m25, q25⟩ := sum2_of x25; rw [← h25] at q25
  have x24 := e24; rw [h24] at x24
  obtain ⟨e22, e23, q24⟩ := kp_zero x24; rw [← h24] at q24
  have x23 := e23; rw [h23] at x23
  obtain ⟨l23_0, l23_1, m23, q23⟩ := sum2_of x23; rw [← h23] at q23
  have x22 := e22; rw [h22] at x22
  obtain ⟨e20, e21, q22⟩ := kp_zero x22; rw [← h22] at q22
  have x21 := e21; rw [h21] at x21
  obtain ⟨l21_0, l21_1, m21, q21⟩ := sum2_of x21; rw [← h21] at q21
  have x20 := e20; rw [h20] at x20
  obtain ⟨e18, e19, q20⟩ := kp_zero x20; rw [← h20] at q20
  have x19 := e19; rw [h19] at x19
  obtain ⟨l19_0, l19_1, l19_2, m19, q19⟩ := sum3_of x19; rw [← h19] at q19
  have x18 := e18; rw [h18] at x18
  obtain ⟨e16, e17, q18⟩ := kp_zero x18; rw [← h18] at q18
  have x17 := e17; rw [h17] at x17
  obtain ⟨l17_0, l17_1, m17, q17⟩ := sum2_of x17; rw [← h17] at q17
  have x16 := e16; rw [h16] at x16
  obtain ⟨e14, e15, q16⟩ := kp_zero x16; rw [← h16] at q16
  have x15 := e15; rw [h15] at x15
  obtain ⟨m15, q15⟩ := half_zero x15; rw [← h15] at q15
  have x14 := e14; rw [h14] at x14
  obtain ⟨e12, e13, q14⟩ := kp_zero x14; rw [← h14] at q14
  have x13 := e13; rw [h13] at x13
  obtain ⟨l13_0, l13_1, m13, q13⟩ := sum2_of x13; rw [← h13] at q13
  have x12 := e12; rw [h12] at x12
  obtain ⟨e10, e11, q12⟩ := kp_zero x12; rw [← h12] at q12
  have x11 := e11; rw [h11] at x11
  obtain ⟨l11_0, l11_1, m11, q11⟩ := sum2_of x11; rw [← h11] at q11
  have x10 := e10; rw [h10] at x10
  obtain ⟨e8, e9, q10⟩ := kp_zero x10; rw [← h10] at q10
  have x9 := e9; rw [h9] at x9
  obtain ⟨l9_0, l9_1, l9_2, l9_3, m9, q9⟩ := sum4_of x9; rw [← h9] at q9
  have x8 := e8; rw [h8] at x8
  have e7 := x8
  have x7 := e7; rw [h7] at x7
  obtain ⟨e6, ⟨n7_0, o7_0, p7_0⟩, ⟨n7_1, o7_1, p7_1⟩⟩ := needs2 x7
  have x6 := e6; rw [h6] at x6
  obtain ⟨e4, e5, q6⟩ := kp_zero x6; rw [← h6] at q6
  have x4 := e4; rw [h4] at x4
  obtain ⟨e2, e3, q4⟩ := kp_zero x4; rw [← h4] at q4
  have x2 := e2; rw [h2] at x2
  obtain ⟨_, e1, q2⟩ := kp_zero x2; rw [← h2] at q2
  have i1 : v1 = w1 := h1.trans g1.symm
  subst i1
  have i2 : v2 = w2 := h2.trans g2.symm
  subst i2
  have i3 : v3 = w3 := h3.trans g3.symm
  subst i3
  have i4 : v4 = w4 := h4.trans g4.symm
  subst i4
  have i6 : v9 = w6 := h9.trans g6.symm
  subst i6
  rw [e4, need1_of n7_0 o7_0 p7_0] at g5
  subst g5
  rw [kp_one e9] at g7
  subst g7
  have hV : v31 = (⟨3, v30.fst, _, _, 0, 0, _⟩, 0) := h31.trans q31
  have ha : v24.fst = s.f1 := by omega
  rw [ha] at hV
  simp only [decide_eq_true_eq] at c2
  have z13 : IntKind.i64.wrap (0 - v10.fst) = 0 - v10.fst := wrap_small (by unfold Len at *; omega) (by unfold Len at *; omega)
  rw [z13] at q13 m13 l13_1
  have z21 : IntKind.i64.wrap (0 - s.f2) = 0 - s.f2 := wrap_small (by unfold Len at *; omega) (by unfold Len at *; omega)
  rw [z21] at q21 m21 l21_1
  have z25 : IntKind.i64.wrap (0 - v4.fst) = 0 - v4.fst := wrap_small (by unfold Len at *; omega) (by unfold Len at *; omega)
  rw [z25] at q25 m25 l25_1
  refine ⟨_, _, _, _, _, _, _, w7.fst, v1.fst, ⟨hV, Prod.ext rfl e9, by rw [← h1]; exact e1, by rw [← h1], ?_, ?_, ?_, ?_, o7_0, p7_0, n7_0, o7_1, p7_1, n7_1, ?_, ?_, ?_, ?_, ?_, ?_⟩⟩
  all_goals unfold Len at *
  all_goals omega
end Go.Proofs.Ytfbiahlogclkbaa.H
