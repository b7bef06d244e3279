/- Package stack: Frac. No condition is added. -/
import Derived.Test.YtfbiahlogclkbaaLitD
set_option linter.unusedVariables false
set_option linter.unusedSimpArgs false
namespace Go.Proofs.Ytfbiahlogclkbaa.H
open Go.RowKit Go.Proofs.YtfbiahlogclkbaaW.PrintWords Go.Proofs.YtfbiahlogclkbaaW.PrintLast Go.Proofs.YtfbiahlogclkbaaW.PrintMore Go.Proofs.Ytfbiahlogclkbaa.P
attribute [local go_sem] max2_int min2_int

theorem grown_new {a b c : World} {row : Option Nat} {i : Nat} (h : a.grownBy b row) (k : b.grownBy c (some i)) (hi : a.heap.size ≤ i) : a.grownBy c row :=
  ⟨k.os.trans h.os, k.tape.trans h.tape, k.output.trans h.output, Nat.le_trans h.size k.size, fun j hj hne => (k.block j (Nat.lt_of_lt_of_le hj h.size) (fun he => by injection he with he; omega)).trans (h.block j hj hne)⟩
/-- Two boxes, each in the middle, and a rule between them. -/
def threeR (e wd up dn top neg : Int) (n d : Bx) : Bx × Int :=
  let k1 := midR e wd n.f1
  let k2 := midR k1.2 wd d.f1
  lsetR k2.2 wd [⟨k1.1, up, n⟩, ⟨0, 0, ruleB wd top neg⟩, ⟨k2.1, IntKind.i64.wrap (-dn), d⟩]
/-- P26.1. -/
def fracR (h : S23) (l : List Int) (c z : Int) (n d : Bx) : Bx × Int :=
  let a := keptR 0 (konstR h l 5 c z).1 (konstR h l 5 c z).2
  let t := keptR a.2 (konstR h l 38 c z).1 (konstR h l 38 c z).2
  let u := keptR t.2 (konstR h l (tallK 32 c) c z).1 (konstR h l (tallK 32 c) c z).2
  let v := keptR u.2 (konstR h l (tallK 34 c) c z).1 (konstR h l (tallK 34 c) c z).2
  let ab := keptR v.2 (konstR h l (tallK 36 c) c z).1 (konstR h l (tallK 36 c) c z).2
  let be := keptR ab.2 (konstR h l (tallK 39 c) c z).1 (konstR h l (tallK 39 c) c z).2
  let hf := keptR (needE be.2 [n, d]) (halfR t.1).1 (halfR t.1).2
  let bo := keptR hf.2 (sumR [a.1, wrap64 (-hf.1)]).1 (sumR [a.1, wrap64 (-hf.1)]).2
  let tp := keptR bo.2 (sumR [bo.1, t.1]).1 (sumR [bo.1, t.1]).2
  let s1 := keptR tp.2 (sumR [tp.1, ab.1, n.f3]).1 (sumR [tp.1, ab.1, n.f3]).2
  let s2 := keptR s1.2 (sumR [d.f2, be.1, wrap64 (-bo.1)]).1 (sumR [d.f2, be.1, wrap64 (-bo.1)]).2
  threeR s2.2 (max n.f1 d.f1) (max u.1 s1.1) (max v.1 s2.1) tp.1 (wrap64 (-bo.1)) n d
set_option maxHeartbeats 4000000 in
set_option maxRecDepth 100000 in
theorem Frac_any (ok : Nat → Prop) (f : FV) (l : List Int) (c z : Int) (n d : Bx) (An Ad : Option Addr) (cn cd : Nat) (w : World) (hf : f.Konst w l) (hn : BoxAt w ok n An cn) (hd : BoxAt w ok d Ad cd) (hok : ∀ k, ok k → k < w.heap.size) :
    Calls Try.prog 14 #[f.v, .int .i64 c, .int .i64 z, boxV n An cn, boxV d Ad cd] w (BoxPost (fracR f.h l c z n d) ok w) := by
  have HF := Aside0.mk hf
  have HBN := Aside0.mk hn
  have HBD := Aside0.mk hd
  have HOK := Aside0.mk hok
  clear hf hn hd hok
  go_enter Try.func14, Try.ntmps14
  go_wp2_with fail
  obtain ⟨W0, hW0⟩ : ∃ W0 : World, W0 = (((((w.alloc (.cells f.cells 36)).alloc (.cells #[.int .i64 n.f0, .int .i64 n.f1, .int .i64 n.f2, .int .i64 n.f3, .int .i64 n.f4, .int .i64 n.f5, .slice An n.f6.length cn] 39)).alloc (.cells #[.int .i64 d.f0, .int .i64 d.f1, .int .i64 d.f2, .int .i64 d.f3, .int .i64 d.f4, .int .i64 d.f5, .slice Ad d.f6.length cd] 39)).alloc (.cells #[.int .i64 0, .int .i64 0, .int .i64 0, .int .i64 0, .int .i64 0, .int .i64 0, .slice none 0 0] 39)).alloc (.cells #[.int .i64 f.h.f0, .int .i64 f.h.f1, .int .i64 f.h.f2, .int .i64 f.h.f3, .int .i64 f.h.f4, .bool f.h.f5, .slice f.s6.A f.s6.n f.s6.c, .slice f.s7.A f.s7.n f.s7.c, .slice f.s8.A f.s8.n f.s8.c, .slice f.s9.A f.s9.n f.s9.c, .slice f.s10.A f.s10.n f.s10.c, .slice f.s11.A f.s11.n f.s11.c, .slice f.s12.A f.s12.n f.s12.c, .slice f.s13.A f.s13.n f.s13.c, .int .i64 f.i, .slice f.s15.A f.s15.n f.s15.c, .slice f.s16.A f.s16.n f.s16.c, .int .i64 c, .int .i64 z, .int .i64 0] 66)) := ⟨_, rfl⟩
  obtain ⟨g, hg⟩ : ∃ g, g = w.heap.size + 1 + 1 + 1 + 1 := ⟨_, rfl⟩
  have hB0 : Below w.heap.size w W0 := by rw [hW0]; exact below_alloc (below_alloc (below_alloc (below_alloc (below_alloc (Below.refl _ _) _) _) _) _) _
  have hL0 : stk_B W0 g f c z 0 := by
    rw [hW0, hg]
    have h := blk_new ((((w.alloc (.cells f.cells 36)).alloc (.cells #[.int .i64 n.f0, .int .i64 n.f1, .int .i64 n.f2, .int .i64 n.f3, .int .i64 n.f4, .int .i64 n.f5, .slice An n.f6.length cn] 39)).alloc (.cells #[.int .i64 d.f0, .int .i64 d.f1, .int .i64 d.f2, .int .i64 d.f3, .int .i64 d.f4, .int .i64 d.f5, .slice Ad d.f6.length cd] 39)).alloc (.cells #[.int .i64 0, .int .i64 0, .int .i64 0, .int .i64 0, .int .i64 0, .int .i64 0, .slice none 0 0] 39)) (.cells #[.int .i64 f.h.f0, .int .i64 f.h.f1, .int .i64 f.h.f2, .int .i64 f.h.f3, .int .i64 f.h.f4, .bool f.h.f5, .slice f.s6.A f.s6.n f.s6.c, .slice f.s7.A f.s7.n f.s7.c, .slice f.s8.A f.s8.n f.s8.c, .slice f.s9.A f.s9.n f.s9.c, .slice f.s10.A f.s10.n f.s10.c, .slice f.s11.A f.s11.n f.s11.c, .slice f.s12.A f.s12.n f.s12.c, .slice f.s13.A f.s13.n f.s13.c, .int .i64 f.i, .slice f.s15.A f.s15.n f.s15.c, .slice f.s16.A f.s16.n f.s16.c, .int .i64 c, .int .i64 z, .int .i64 0] 66)
    simp only [World.size_alloc] at h
    exact h
  have h6 : W0.heap[w.heap.size + 1]? = some (.cells #[.int .i64 n.f0, .int .i64 n.f1, .int .i64 n.f2, .int .i64 n.f3, .int .i64 n.f4, .int .i64 n.f5, .slice An n.f6.length cn] 39 (0, 0)) := by
    rw [hW0]
    have h := blk_new (w.alloc (.cells f.cells 36)) (.cells #[.int .i64 n.f0, .int .i64 n.f1, .int .i64 n.f2, .int .i64 n.f3, .int .i64 n.f4, .int .i64 n.f5, .slice An n.f6.length cn] 39)
    rw [World.size_alloc] at h
    exact blk_alloc (blk_alloc (blk_alloc h _) _) _
  have h7 : W0.heap[w.heap.size + 1 + 1]? = some (.cells #[.int .i64 d.f0, .int .i64 d.f1, .int .i64 d.f2, .int .i64 d.f3, .int .i64 d.f4, .int .i64 d.f5, .slice Ad d.f6.length cd] 39 (0, 0)) := by
    rw [hW0]
    have h := blk_new ((w.alloc (.cells f.cells 36)).alloc (.cells #[.int .i64 n.f0, .int .i64 n.f1, .int .i64 n.f2, .int .i64 n.f3, .int .i64 n.f4, .int .i64 n.f5, .slice An n.f6.length cn] 39)) (.cells #[.int .i64 d.f0, .int .i64 d.f1, .int .i64 d.f2, .int .i64 d.f3, .int .i64 d.f4, .int .i64 d.f5, .slice Ad d.f6.length cd] 39)
    simp only [World.size_alloc] at h
    exact blk_alloc (blk_alloc h _) _
  have h8 : W0.heap[w.heap.size + 1 + 1 + 1]? = some (.cells #[.int .i64 0, .int .i64 0, .int .i64 0, .int .i64 0, .int .i64 0, .int .i64 0, .slice none 0 0] 39 (0, 0)) := by
    rw [hW0]
    have h := blk_new (((w.alloc (.cells f.cells 36)).alloc (.cells #[.int .i64 n.f0, .int .i64 n.f1, .int .i64 n.f2, .int .i64 n.f3, .int .i64 n.f4, .int .i64 n.f5, .slice An n.f6.length cn] 39)).alloc (.cells #[.int .i64 d.f0, .int .i64 d.f1, .int .i64 d.f2, .int .i64 d.f3, .int .i64 d.f4, .int .i64 d.f5, .slice Ad d.f6.length cd] 39)) (.cells #[.int .i64 0, .int .i64 0, .int .i64 0, .int .i64 0, .int .i64 0, .int .i64 0, .slice none 0 0] 39)
    simp only [World.size_alloc] at h
    exact blk_alloc h _
  rw [← hW0, ← hg]
  generalize (Value.agg #[.int .i64 f.h.f0, .int .i64 f.h.f1, .int .i64 f.h.f2, .int .i64 f.h.f3, .int .i64 f.h.f4, .bool f.h.f5, .slice f.s6.A f.s6.n f.s6.c, .slice f.s7.A f.s7.n f.s7.c, .slice f.s8.A f.s8.n f.s8.c, .slice f.s9.A f.s9.n f.s9.c, .slice f.s10.A f.s10.n f.s10.c, .slice f.s11.A f.s11.n f.s11.c, .slice f.s12.A f.s12.n f.s12.c, .slice f.s13.A f.s13.n f.s13.c, .int .i64 f.i, .slice f.s15.A f.s15.n f.s15.c, .slice f.s16.A f.s16.n f.s16.c, .int .i64 c, .int .i64 z, .int .i64 0]) = v16
  generalize (Value.agg #[.int .i64 f.h.f0, .int .i64 f.h.f1, .int .i64 f.h.f2, .int .i64 f.h.f3, .int .i64 f.h.f4, .bool f.h.f5, .slice f.s6.A f.s6.n f.s6.c, .slice f.s7.A f.s7.n f.s7.c, .slice f.s8.A f.s8.n f.s8.c, .slice f.s9.A f.s9.n f.s9.c, .slice f.s10.A f.s10.n f.s10.c, .slice f.s11.A f.s11.n f.s11.c, .slice f.s12.A f.s12.n f.s12.c, .slice f.s13.A f.s13.n f.s13.c, .int .i64 f.i, .slice f.s15.A f.s15.n f.s15.c, .slice f.s16.A f.s16.n f.s16.c]) = v13
  obtain ⟨b8, hb8⟩ : ∃ b8, b8 = w.heap.size + 1 + 1 + 1 := ⟨_, rfl⟩
  rw [← hb8] at h8 ⊢
  obtain ⟨b7, hb7⟩ : ∃ b7, b7 = w.heap.size + 1 + 1 := ⟨_, rfl⟩
  rw [← hb7] at h7 ⊢
  obtain ⟨b6, hb6⟩ : ∃ b6, b6 = w.heap.size + 1 := ⟨_, rfl⟩
  rw [← hb6] at h6 ⊢
  have H6 := Aside0.mk h6
  have H7 := Aside0.mk h7
  have H8 := Aside0.mk h8
  have HG := Aside0.mk hg
  have HB0 := Aside0.mk hB0
  have HL0 := Aside0.mk hL0
  have HBS := Aside0.mk (And.intro hb6 (And.intro hb7 hb8))
  have hne6 : some b6 ≠ some g := by rw [hb6, hg]; simp
  have hne7 : some b7 ≠ some g := by rw [hb7, hg]; simp
  have hne8 : some b8 ≠ some g := by rw [hb8, hg]; simp
  have HNE := Aside0.mk (show b6 ≠ b8 ∧ b7 ≠ b8 from ⟨by rw [hb6, hb8]; simp, by rw [hb7, hb8]; simp⟩)
  have HGB : Aside0 (w.heap.size ≤ g) := ⟨by rw [hg]; omega⟩
  clear hW0 hg hL0 h6 h7 h8 hB0 hb6 hb7 hb8
  refine (stk_konst_any g f l c z 0 5 _ HL0.out (HF.out.below HB0.out)).mono ?_
  rintro ex W1 ⟨rfl, hg1, hL1⟩
  obtain ⟨a, ha⟩ : ∃ x, x = keptR 0 (konstR f.h l 5 c z).1 (konstR f.h l 5 c z).2 := ⟨_, rfl⟩
  rw [← ha] at hL1 ⊢
  have HA := Aside0.mk ha
  have HG1 := Aside0.mk (hg1)
  have HL1 := Aside0.mk hL1
  clear hg1 hL1 ha
  as_aux_lemma =>
    go_wp2_with fail
    refine (stk_konst_any g f l c z a.2 38 _ HL1.out (HF.out.below (mk_below HB0.out HGB.out HG1.out))).mono ?_
    rintro ex W2 ⟨rfl, hg2, hL2⟩
    obtain ⟨t, ht⟩ : ∃ x, x = keptR a.2 (konstR f.h l 38 c z).1 (konstR f.h l 38 c z).2 := ⟨_, rfl⟩
    rw [← ht] at hL2 ⊢
    have HT := Aside0.mk ht
    have HG2 := Aside0.mk (grown_trans HG1.out hg2)
    have HL2 := Aside0.mk hL2
    clear hg2 hL2 ht
    as_aux_lemma =>
      go_wp2_with fail
      refine (stk_either_any g f l c z t.2 32 _ HL2.out (HF.out.below (mk_below HB0.out HGB.out HG2.out)) (by omega) (by omega)).mono ?_
      rintro ex W3 ⟨rfl, hg3, hL3⟩
      obtain ⟨u, hu⟩ : ∃ x, x = keptR t.2 (konstR f.h l (tallK 32 c) c z).1 (konstR f.h l (tallK 32 c) c z).2 := ⟨_, rfl⟩
      rw [← hu] at hL3 ⊢
      have HU := Aside0.mk hu
      have HG3 := Aside0.mk (grown_trans HG2.out hg3)
      have HL3 := Aside0.mk hL3
      clear hg3 hL3 hu
      as_aux_lemma =>
        go_wp2_with fail
        refine (stk_either_any g f l c z u.2 34 _ HL3.out (HF.out.below (mk_below HB0.out HGB.out HG3.out)) (by omega) (by omega)).mono ?_
        rintro ex W4 ⟨rfl, hg4, hL4⟩
        obtain ⟨v, hv⟩ : ∃ x, x = keptR u.2 (konstR f.h l (tallK 34 c) c z).1 (konstR f.h l (tallK 34 c) c z).2 := ⟨_, rfl⟩
        rw [← hv] at hL4 ⊢
        have HV := Aside0.mk hv
        have HG4 := Aside0.mk (grown_trans HG3.out hg4)
        have HL4 := Aside0.mk hL4
        clear hg4 hL4 hv
        as_aux_lemma =>
          go_wp2_with fail
          refine (stk_either_any g f l c z v.2 36 _ HL4.out (HF.out.below (mk_below HB0.out HGB.out HG4.out)) (by omega) (by omega)).mono ?_
          rintro ex W5 ⟨rfl, hg5, hL5⟩
          obtain ⟨ab, hab⟩ : ∃ x, x = keptR v.2 (konstR f.h l (tallK 36 c) c z).1 (konstR f.h l (tallK 36 c) c z).2 := ⟨_, rfl⟩
          rw [← hab] at hL5 ⊢
          have HAB := Aside0.mk hab
          have HG5 := Aside0.mk (grown_trans HG4.out hg5)
          have HL5 := Aside0.mk hL5
          clear hg5 hL5 hab
          as_aux_lemma =>
            go_wp2_with fail
            refine (stk_either_any g f l c z ab.2 39 _ HL5.out (HF.out.below (mk_below HB0.out HGB.out HG5.out)) (by omega) (by omega)).mono ?_
            rintro ex W6 ⟨rfl, hg6, hL6⟩
            obtain ⟨be, hbe⟩ : ∃ x, x = keptR ab.2 (konstR f.h l (tallK 39 c) c z).1 (konstR f.h l (tallK 39 c) c z).2 := ⟨_, rfl⟩
            rw [← hbe] at hL6 ⊢
            have HBE := Aside0.mk hbe
            have HG6 := Aside0.mk (grown_trans HG5.out hg6)
            have HL6 := Aside0.mk hL6
            clear hg6 hL6 hbe
            as_aux_lemma =>
              have k6 := blk_grown H6.out HG6.out hne6
              have k7 := blk_grown H7.out HG6.out hne7
              have HX := Aside0.mk (HBN.out.below (mk_below HB0.out HGB.out HG6.out))
              have HY := Aside0.mk (HBD.out.below (mk_below HB0.out HGB.out HG6.out))
              obtain ⟨⟨d0, d1, d2, d3, d4, d5, d6⟩, _⟩ := blk7 k6
              obtain ⟨⟨e0, e1, e2, e3, e4, e5, e6⟩, _⟩ := blk7 k7
              clear k6 k7
              as_aux_lemma =>
                go_wp2_with (refine lit_box2 rfl (.tmp 41) (.tmp 42) rfl rfl rfl ?_)
                refine (stk_need_any g f c z be.2 _ 2 2 [n, d] _ (blk_alloc HL6.out _) rfl (C_box2 W6 _ n d _ rfl _ rfl HX.out HY.out) (by simp) (fun ad h => by injection h with h; subst h; exact (Nat.ne_of_lt (blk_lt HL6.out)).symm)).mono ?_
                rintro ex W7 ⟨rfl, hg7, hL7⟩
                obtain ⟨en, hen⟩ : ∃ x, x = needE be.2 [n, d] := ⟨_, rfl⟩
                rw [← hen] at hL7
                have HE := Aside0.mk hen
                have HG7 : Aside0 (W0.grownBy W7 (some g)) := ⟨grown_trans HG6.out (grown_below (below_alloc (Below.refl _ _) _) hg7)⟩
                have HL7 := Aside0.mk hL7
                clear hg7 hL7 hen d0 d1 d2 d3 d4 d5 d6 e0 e1 e2 e3 e4 e5 e6
                as_aux_lemma =>
                  go_wp2_with fail
                  refine (stk_half_any g f c z en t.1 _ HL7.out).mono ?_
                  rintro ex W8 ⟨rfl, hg8, hL8⟩
                  obtain ⟨hf, hhf⟩ : ∃ x, x = keptR en (halfR t.1).1 (halfR t.1).2 := ⟨_, rfl⟩
                  rw [← hhf] at hL8 ⊢
                  have HHF := Aside0.mk hhf
                  have HG8 : Aside0 (W0.grownBy W8 (some g)) := ⟨grown_trans HG7.out hg8⟩
                  have HL8 := Aside0.mk hL8
                  clear hg8 hL8 hhf
                  as_aux_lemma =>
                    go_wp2_with fail
                    refine (stk_sum_any g f c z hf.2 _ 2 2 [a.1, wrap64 (-hf.1)] _ (blk_alloc HL8.out _) rfl (C_lit W8 _ [a.1, wrap64 (-hf.1)] _ _ rfl rfl (by simp)) (by simp)).mono ?_
                    rintro ex W9 ⟨rfl, hg9, hL9⟩
                    obtain ⟨bo, hbo⟩ : ∃ x, x = keptR hf.2 (sumR [a.1, wrap64 (-hf.1)]).1 (sumR [a.1, wrap64 (-hf.1)]).2 := ⟨_, rfl⟩
                    rw [← hbo] at hL9 ⊢
                    have HBO := Aside0.mk hbo
                    have HG9 : Aside0 (W0.grownBy W9 (some g)) := ⟨grown_trans HG8.out (grown_below (below_alloc (Below.refl _ _) _) hg9)⟩
                    have HL9 := Aside0.mk hL9
                    clear hg9 hL9 hbo
                    as_aux_lemma =>
                      go_wp2_with fail
                      refine (stk_sum_any g f c z bo.2 _ 2 2 [bo.1, t.1] _ (blk_alloc HL9.out _) rfl (C_lit W9 _ [bo.1, t.1] _ _ rfl rfl (by simp)) (by simp)).mono ?_
                      rintro ex W10 ⟨rfl, hg10, hL10⟩
                      obtain ⟨tp, htp⟩ : ∃ x, x = keptR bo.2 (sumR [bo.1, t.1]).1 (sumR [bo.1, t.1]).2 := ⟨_, rfl⟩
                      rw [← htp] at hL10 ⊢
                      have HTO := Aside0.mk htp
                      have HG10 : Aside0 (W0.grownBy W10 (some g)) := ⟨grown_trans HG9.out (grown_below (below_alloc (Below.refl _ _) _) hg10)⟩
                      have HL10 := Aside0.mk hL10
                      clear hg10 hL10 htp
                      have x3 := blk_cell (blk_grown H6.out HG10.out hne6) 3
                      as_aux_lemma =>
                        go_wp2_with fail
                        refine (stk_sum_any g f c z tp.2 _ 3 3 [tp.1, ab.1, n.f3] _ (blk_alloc HL10.out _) rfl (C_lit W10 _ [tp.1, ab.1, n.f3] _ _ rfl rfl (by simp)) (by simp)).mono ?_
                        rintro ex W11 ⟨rfl, hg11, hL11⟩
                        obtain ⟨s1, hs1⟩ : ∃ x, x = keptR tp.2 (sumR [tp.1, ab.1, n.f3]).1 (sumR [tp.1, ab.1, n.f3]).2 := ⟨_, rfl⟩
                        rw [← hs1] at hL11 ⊢
                        have HS1 := Aside0.mk hs1
                        have HG11 : Aside0 (W0.grownBy W11 (some g)) := ⟨grown_trans HG10.out (grown_below (below_alloc (Below.refl _ _) _) hg11)⟩
                        have HL11 := Aside0.mk hL11
                        clear hg11 hL11 hs1
                        clear x3
                        have y2 := blk_cell (blk_grown H7.out HG11.out hne7) 2
                        as_aux_lemma =>
                          go_wp2_with fail
                          refine (stk_sum_any g f c z s1.2 _ 3 3 [d.f2, be.1, wrap64 (-bo.1)] _ (blk_alloc HL11.out _) rfl (C_lit W11 _ [d.f2, be.1, wrap64 (-bo.1)] _ _ rfl rfl (by simp)) (by simp)).mono ?_
                          rintro ex W12 ⟨rfl, hg12, hL12⟩
                          obtain ⟨s2, hs2⟩ : ∃ x, x = keptR s1.2 (sumR [d.f2, be.1, wrap64 (-bo.1)]).1 (sumR [d.f2, be.1, wrap64 (-bo.1)]).2 := ⟨_, rfl⟩
                          rw [← hs2] at hL12 ⊢
                          have HS2 := Aside0.mk hs2
                          have HG12 : Aside0 (W0.grownBy W12 (some g)) := ⟨grown_trans HG11.out (grown_below (below_alloc (Below.refl _ _) _) hg12)⟩
                          have HL12 := Aside0.mk hL12
                          clear hg12 hL12 hs2
                          clear y2
                          have x1 := blk_cell (blk_grown H6.out HG12.out hne6) 1
                          have y1 := blk_cell (blk_grown H7.out HG12.out hne7) 1
                          have HR : Aside0 (fracR f.h l c z n d = threeR s2.2 (max n.f1 d.f1) (max u.1 s1.1) (max v.1 s2.1) tp.1 (wrap64 (-bo.1)) n d) := ⟨by rw [HS2.out, HS1.out, HTO.out, HBO.out, HHF.out, HE.out, HBE.out, HAB.out, HV.out, HU.out, HT.out, HA.out]; rfl⟩
                          have HGS := HG12
                          have HLS := HL12
                          clear HS2 HS1 HTO HBO HHF HE HBE HAB HV HU HT HA HG1 HL1 HG2 HL2 HG3 HL3 HG4 HL4 HG5 HL5 HG6 HL6 HG7 HL7 HG8 HL8 HG9 HL9 HG10 HL10 HG11 HL11 HG12 HL12
                          as_aux_lemma =>
                            go_upto_region 12 with fail
                            obtain ⟨wd, hwd⟩ : ∃ wd, wd = max n.f1 d.f1 := ⟨_, rfl⟩
                            rw [← hwd] at HR ⊢
                            obtain ⟨up, hup⟩ : ∃ x, x = max u.1 s1.1 := ⟨_, rfl⟩
                            obtain ⟨dn, hdn⟩ : ∃ x, x = max v.1 s2.1 := ⟨_, rfl⟩
                            rw [← hup, ← hdn] at HR ⊢
                            clear x1 y1 hwd hup hdn
                            go_upto_region 13 with (first | (refine build_rule rfl (.tmp 82) (.tmp 83) (.tmp 85) rfl rfl rfl rfl ?_) | (refine store_box rfl (.tmp 22) (.tmp 86) rfl rfl rfl rfl (blk_new _ _) ?_; intro WR hwr hfr hgr; have HWR := Aside0.mk hwr; have HFR := Aside0.mk hfr; have HGR := Aside0.mk hgr; clear hwr hfr hgr))
                            have hls := blk_lt HLS.out
                            have hsz0 := HGS.out.size
                            have h80 := blk_lt H8.out
                            obtain ⟨br, hbr⟩ : ∃ x, x = W12.heap.size := ⟨_, rfl⟩
                            have HG0 : Aside0 (W0.grownBy WR (some g)) := ⟨grown_new (grown_alloc HGS.out _) HGR.out hsz0⟩
                            have hLR : stk_B WR g f c z s2.2 := (HFR.out g (Nat.ne_of_lt hls)).trans (stk_alloc HLS.out _)
                            have HRB := HWR.out
                            rw [← hbr] at HRB ⊢
                            have hner : some br ≠ some g := by rw [hbr]; intro h; injection h with h; omega
                            have hner8 : br ≠ b8 := by rw [hbr]; omega
                            clear HWR HFR HGR HGS HLS hls hsz0 h80 hbr
                            have HRB := Aside0.mk HRB
                            have HNER := Aside0.mk hner8
                            clear hner8
                            as_aux_lemma =>
                              have HQ : ∀ W : World, WR.grownBy W (some g) → ((fun W : World => W.heap[b6]? = some (.cells #[.int .i64 n.f0, .int .i64 n.f1, .int .i64 n.f2, .int .i64 n.f3, .int .i64 n.f4, .int .i64 n.f5, .slice An n.f6.length cn] 39 (0, 0)) ∧ W.heap[b7]? = some (.cells #[.int .i64 d.f0, .int .i64 d.f1, .int .i64 d.f2, .int .i64 d.f3, .int .i64 d.f4, .int .i64 d.f5, .slice Ad d.f6.length cd] 39 (0, 0)) ∧ W.heap[br]? = some (.cells #[.int .i64 2, .int .i64 wd, .int .i64 tp.1, .int .i64 (wrap64 (-bo.1)), .int .i64 0, .int .i64 0, .slice none 0 0] 39 (0, 0))) : World → Prop) W := fun W h => ⟨blk_grown H6.out (grown_trans HG0.out h) hne6, blk_grown H7.out (grown_trans HG0.out h) hne7, blk_grown HRB.out h hner⟩
                              refine wp_region_noPanic ?_
                              refine wp_region_held_drew (S := (fun W : World => W.heap[b6]? = some (.cells #[.int .i64 n.f0, .int .i64 n.f1, .int .i64 n.f2, .int .i64 n.f3, .int .i64 n.f4, .int .i64 n.f5, .slice An n.f6.length cn] 39 (0, 0)) ∧ W.heap[b7]? = some (.cells #[.int .i64 d.f0, .int .i64 d.f1, .int .i64 d.f2, .int .i64 d.f3, .int .i64 d.f4, .int .i64 d.f5, .slice Ad d.f6.length cd] 39 (0, 0)) ∧ W.heap[br]? = some (.cells #[.int .i64 2, .int .i64 wd, .int .i64 tp.1, .int .i64 (wrap64 (-bo.1)), .int .i64 0, .int .i64 0, .slice none 0 0] 39 (0, 0)))) (by kernel_rfl) ?_ (fun hH0 => ?_)
                              · exact HQ _ (grown_drew (grown_refl _ _))
                              refine wpAnyH_take (i := 0) (oi := { dst := some 87, op := Go.Op.move (Go.Operand.tmp 12), type := 64, pos := "stack.go:82", after := #[], guard := none }) (v := ?v0) rfl (by kernel_rfl) (by kernel_rfl) (by kernel_rfl) (fun _ _ _ h => h) (Or.inl ⟨by rfl, ?y0⟩) (by with_reducible assumption) ?_
                              case y0 =>
                                intro w' hSw
                                clear hSw
                                go_simp
                                try with_reducible rfl
                              (try simp only [Act.put, List.setIfInBounds_toArray, List.set_cons_zero, List.set_cons_succ])
                              refine wpAnyH_take (i := 1) (oi := { dst := some 88, op := Go.Op.move (Go.Operand.tmp 21), type := 3, pos := "stack.go:82", after := #[], guard := none }) (v := ?v1) rfl (by kernel_rfl) (by kernel_rfl) (by kernel_rfl) (fun _ _ _ h => h) (Or.inl ⟨by rfl, ?y1⟩) (by with_reducible assumption) ?_
                              case y1 =>
                                intro w' hSw
                                clear hSw
                                go_simp
                                try with_reducible rfl
                              (try simp only [Act.put, List.setIfInBounds_toArray, List.set_cons_zero, List.set_cons_succ])
                              refine wpAnyH_take (i := 2) (oi := { dst := some 89, op := Go.Op.move (Go.Operand.tmp 12), type := 64, pos := "stack.go:82", after := #[], guard := none }) (v := ?v2) rfl (by kernel_rfl) (by kernel_rfl) (by kernel_rfl) (fun _ _ _ h => h) (Or.inl ⟨by rfl, ?y2⟩) (by with_reducible assumption) ?_
                              case y2 =>
                                intro w' hSw
                                clear hSw
                                go_simp
                                try with_reducible rfl
                              (try simp only [Act.put, List.setIfInBounds_toArray, List.set_cons_zero, List.set_cons_succ])
                              refine wpAnyH_take (i := 3) (oi := { dst := some 90, op := Go.Op.move (Go.Operand.tmp 21), type := 3, pos := "stack.go:82", after := #[], guard := none }) (v := ?v3) rfl (by kernel_rfl) (by kernel_rfl) (by kernel_rfl) (fun _ _ _ h => h) (Or.inl ⟨by rfl, ?y3⟩) (by with_reducible assumption) ?_
                              case y3 =>
                                intro w' hSw
                                clear hSw
                                go_simp
                                try with_reducible rfl
                              (try simp only [Act.put, List.setIfInBounds_toArray, List.set_cons_zero, List.set_cons_succ])
                              refine wpAnyH_take (i := 4) (oi := { dst := some 91, op := Go.Op.move (Go.Operand.tmp 15), type := 3, pos := "stack.go:82", after := #[], guard := none }) (v := ?v4) rfl (by kernel_rfl) (by kernel_rfl) (by kernel_rfl) (fun _ _ _ h => h) (Or.inl ⟨by rfl, ?y4⟩) (by with_reducible assumption) ?_
                              case y4 =>
                                intro w' hSw
                                clear hSw
                                go_simp
                                try with_reducible rfl
                              (try simp only [Act.put, List.setIfInBounds_toArray, List.set_cons_zero, List.set_cons_succ])
                              refine wpAnyH_take (i := 5) (oi := { dst := some 92, op := Go.Op.load 39 (Go.Operand.tmp 8), type := 39, pos := "stack.go:82", after := #[], guard := none }) (v := boxV n An cn) rfl (by kernel_rfl) (by kernel_rfl) (by kernel_rfl) (fun _ _ _ h => h) (load_box_yields (.tmp 8) rfl rfl (by rfl) (fun w h => h.1)) (by with_reducible assumption) ?_
                              (try simp only [Act.put, List.setIfInBounds_toArray, List.set_cons_zero, List.set_cons_succ])
                              refine wpAnyH_take (i := 7) (oi := { dst := some 94, op := Go.Op.load 39 (Go.Operand.tmp 22), type := 39, pos := "stack.go:82", after := #[], guard := none }) (v := boxV (ruleB wd tp.1 (wrap64 (-bo.1))) none 0) rfl (by kernel_rfl) (by kernel_rfl) (by kernel_rfl) (fun _ _ _ h => h) (load_box_yields (.tmp 22) rfl rfl (by rfl) (fun w h => h.2.2)) (by with_reducible assumption) ?_
                              (try simp only [Act.put, List.setIfInBounds_toArray, List.set_cons_zero, List.set_cons_succ])
                              refine wpAnyH_take (i := 8) (oi := { dst := some 95, op := Go.Op.build 49 #[(2, Go.Operand.tmp 94)], type := 49, pos := "stack.go:82", after := #[{ on := 7, ground := Go.Ground.data }], guard := none }) (v := kidV ⟨0, 0, (ruleB wd tp.1 (wrap64 (-bo.1)))⟩ none 0) rfl (by kernel_rfl) (by kernel_rfl) (by kernel_rfl) (fun _ _ _ h => h) (build_kid2_yields (.tmp 94) rfl rfl (by rfl)) (by with_reducible assumption) ?_
                              (try simp only [Act.put, List.setIfInBounds_toArray, List.set_cons_zero, List.set_cons_succ])
                              refine wpAnyH_take (i := 9) (oi := { dst := some 96, op := Go.Op.move (Go.Operand.tmp 12), type := 64, pos := "stack.go:82", after := #[], guard := none }) (v := ?v9) rfl (by kernel_rfl) (by kernel_rfl) (by kernel_rfl) (fun _ _ _ h => h) (Or.inl ⟨by rfl, ?y9⟩) (by with_reducible assumption) ?_
                              case y9 =>
                                intro w' hSw
                                clear hSw
                                go_simp
                                try with_reducible rfl
                              (try simp only [Act.put, List.setIfInBounds_toArray, List.set_cons_zero, List.set_cons_succ])
                              refine wpAnyH_take (i := 10) (oi := { dst := some 97, op := Go.Op.move (Go.Operand.tmp 21), type := 3, pos := "stack.go:82", after := #[], guard := none }) (v := ?v10) rfl (by kernel_rfl) (by kernel_rfl) (by kernel_rfl) (fun _ _ _ h => h) (Or.inl ⟨by rfl, ?y10⟩) (by with_reducible assumption) ?_
                              case y10 =>
                                intro w' hSw
                                clear hSw
                                go_simp
                                try with_reducible rfl
                              (try simp only [Act.put, List.setIfInBounds_toArray, List.set_cons_zero, List.set_cons_succ])
                              refine wpAnyH_take (i := 11) (oi := { dst := some 98, op := Go.Op.move (Go.Operand.tmp 16), type := 3, pos := "stack.go:82", after := #[], guard := none }) (v := ?v11) rfl (by kernel_rfl) (by kernel_rfl) (by kernel_rfl) (fun _ _ _ h => h) (Or.inl ⟨by rfl, ?y11⟩) (by with_reducible assumption) ?_
                              case y11 =>
                                intro w' hSw
                                clear hSw
                                go_simp
                                try with_reducible rfl
                              (try simp only [Act.put, List.setIfInBounds_toArray, List.set_cons_zero, List.set_cons_succ])
                              refine wpAnyH_take (i := 12) (oi := { dst := some 99, op := Go.Op.unOp Go.UnOp.neg 3 (Go.Operand.tmp 98), type := 3, pos := "stack.go:82", after := #[{ on := 11, ground := Go.Ground.data }], guard := none }) (v := ?v12) rfl (by kernel_rfl) (by kernel_rfl) (by kernel_rfl) (fun _ _ _ h => h) (Or.inl ⟨by rfl, ?y12⟩) (by with_reducible assumption) ?_
                              case y12 =>
                                intro w' hSw
                                clear hSw
                                go_simp
                                try with_reducible rfl
                              (try simp only [Act.put, List.setIfInBounds_toArray, List.set_cons_zero, List.set_cons_succ])
                              refine wpAnyH_take (i := 13) (oi := { dst := some 100, op := Go.Op.load 39 (Go.Operand.tmp 9), type := 39, pos := "stack.go:82", after := #[], guard := none }) (v := boxV d Ad cd) rfl (by kernel_rfl) (by kernel_rfl) (by kernel_rfl) (fun _ _ _ h => h) (load_box_yields (.tmp 9) rfl rfl (by rfl) (fun w h => h.2.1)) (by with_reducible assumption) ?_
                              (try simp only [Act.put, List.setIfInBounds_toArray, List.set_cons_zero, List.set_cons_succ])
                              refine wpAnyH_one (i := 6) (o := { dst := some 93, op := Go.Op.call { callee := Go.Callee.value (Go.Operand.func 44), args := #[Go.Operand.tmp 89, Go.Operand.tmp 90, Go.Operand.tmp 91, Go.Operand.tmp 92], argTypes := #[64, 3, 3, 39] }, type := 49, pos := "stack.go:82", after := #[{ on := 2, ground := Go.Ground.data }, { on := 3, ground := Go.Ground.data }, { on := 4, ground := Go.Ground.data }, { on := 5, ground := Go.Ground.data }], guard := none }) rfl (by kernel_rfl) (by rfl) (fun K hK => ?_)
                              go_simp
                              go_at_call 44
                              refine (stk_kid_any g f c z s2.2 wd up n An cn _ (stk_drew hLR)).mono ?_
                              rintro ex WA ⟨rfl, hgA, hLA⟩
                              have hGA : WR.grownBy WA (some g) := grown_trans (grown_drew (grown_refl _ _)) hgA
                              clear hgA
                              go_wp2_with fail
                              refine hK.out _ _ (HQ _ hGA) (fun hH1 => ?_)
                              clear hK K hH0
                              (try simp only [Act.put, List.setIfInBounds_toArray, List.set_cons_zero, List.set_cons_succ])
                              refine wpAnyH_one (i := 14) (o := { dst := some 101, op := Go.Op.call { callee := Go.Callee.value (Go.Operand.func 44), args := #[Go.Operand.tmp 96, Go.Operand.tmp 97, Go.Operand.tmp 99, Go.Operand.tmp 100], argTypes := #[64, 3, 3, 39] }, type := 49, pos := "stack.go:82", after := #[{ on := 9, ground := Go.Ground.data }, { on := 10, ground := Go.Ground.data }, { on := 12, ground := Go.Ground.data }, { on := 13, ground := Go.Ground.data }, { on := 6, ground := Go.Ground.chain }], guard := none }) rfl (by kernel_rfl) (by rfl) (fun K hK => ?_)
                              go_simp
                              go_at_call 44
                              refine (stk_kid_any g f c z (midR s2.2 wd n.f1).2 wd (IntKind.i64.wrap (-dn)) d Ad cd _ hLA).mono ?_
                              rintro ex WB ⟨rfl, hgB, hLB⟩
                              have hGB : WR.grownBy WB (some g) := grown_trans hGA hgB
                              clear hgB hLA hGA
                              go_wp2_with fail
                              refine hK.out _ _ (HQ _ hGB) (fun hH2 => ?_)
                              clear hK K hH1
                              (try simp only [Act.put, List.setIfInBounds_toArray, List.set_cons_zero, List.set_cons_succ])
                              refine wpAnyH_one (i := 15) (o := { dst := some 102, op := Go.Op.buildSlice 37 3 #[(0, Go.Operand.tmp 93), (1, Go.Operand.tmp 95), (2, Go.Operand.tmp 101)], type := 37, pos := "stack.go:82", after := #[{ on := 6, ground := Go.Ground.data }, { on := 8, ground := Go.Ground.data }, { on := 14, ground := Go.Ground.data }], guard := none }) rfl (by kernel_rfl) (by rfl) (fun K hK => ?_)
                              refine lit_kid3_step (p := ⟨(midR s2.2 wd n.f1).1, up, n⟩) (q := ⟨0, 0, ruleB wd tp.1 (wrap64 (-bo.1))⟩) (r := ⟨(midR (midR s2.2 wd n.f1).2 wd d.f1).1, IntKind.i64.wrap (-dn), d⟩) (A' := none) (c' := 0) (.tmp 93) (.tmp 95) (.tmp 101) rfl rfl rfl rfl ?_
                              refine hK.out _ _ (HQ _ (grown_alloc hGB _)) (fun hH3 => ?_)
                              clear hK K hH2
                              (try simp only [Act.put, List.setIfInBounds_toArray, List.set_cons_zero, List.set_cons_succ])
                              as_aux_lemma =>
                                refine wpAnyH_one (i := 16) (o := { dst := some 103, op := Go.Op.call { callee := Go.Callee.value (Go.Operand.func 43), args := #[Go.Operand.tmp 87, Go.Operand.tmp 88, Go.Operand.tmp 102], argTypes := #[64, 3, 37] }, type := 42, pos := "stack.go:82", after := #[{ on := 0, ground := Go.Ground.data }, { on := 1, ground := Go.Ground.data }, { on := 15, ground := Go.Ground.data }, { on := 14, ground := Go.Ground.chain }], guard := none }) rfl (by kernel_rfl) (by rfl) (fun K hK => ?_)
                                go_simp
                                go_at_call 43
                                have hG0B := grown_trans HG0.out hGB
                                have hBB := mk_below HB0.out HGB.out hG0B
                                have hF := F_kid3 WB 49 ok ⟨(midR s2.2 wd n.f1).1, up, n⟩ ⟨0, 0, ruleB wd tp.1 (wrap64 (-bo.1))⟩ ⟨(midR (midR s2.2 wd n.f1).2 wd d.f1).1, IntKind.i64.wrap (-dn), d⟩ WB.heap.size rfl (kidL ⟨(midR s2.2 wd n.f1).1, up, n⟩ An cn ++ (kidL ⟨0, 0, ruleB wd tp.1 (wrap64 (-bo.1))⟩ none 0 ++ kidL ⟨(midR (midR s2.2 wd n.f1).2 wd d.f1).1, IntKind.i64.wrap (-dn), d⟩ Ad cd)).toArray rfl (HBN.out.below hBB) (BoxAt.nil _ _ _ rfl) (HBD.out.below hBB)
                                have hS := fun k hk => ok_lt (W := WB.alloc (.cells (kidL ⟨(midR s2.2 wd n.f1).1, up, n⟩ An cn ++ (kidL ⟨0, 0, ruleB wd tp.1 (wrap64 (-bo.1))⟩ none 0 ++ kidL ⟨(midR (midR s2.2 wd n.f1).2 wd d.f1).1, IntKind.i64.wrap (-dn), d⟩ Ad cd)).toArray 49)) (k := k) HOK.out hBB (by simp) hk
                                refine (stk_set_any (fun k => ok k ∨ k = WB.heap.size) g f c z (midR (midR s2.2 wd n.f1).2 wd d.f1).2 wd (some ⟨WB.heap.size, 0, none⟩) 3 3 [⟨(midR s2.2 wd n.f1).1, up, n⟩, ⟨0, 0, ruleB wd tp.1 (wrap64 (-bo.1))⟩, ⟨(midR (midR s2.2 wd n.f1).2 wd d.f1).1, IntKind.i64.wrap (-dn), d⟩] _ (stk_alloc hLB _) rfl hF hS (Nat.le_refl _) (by simp)).mono ?_
                                have HBB := Aside0.mk hBB
                                clear hF hS hBB
                                obtain ⟨r, hr⟩ : ∃ r, r = lsetR (midR (midR s2.2 wd n.f1).2 wd d.f1).2 wd [⟨(midR s2.2 wd n.f1).1, up, n⟩, ⟨0, 0, ruleB wd tp.1 (wrap64 (-bo.1))⟩, ⟨(midR (midR s2.2 wd n.f1).2 wd d.f1).1, IntKind.i64.wrap (-dn), d⟩] := ⟨_, rfl⟩
                                rw [← hr]
                                have HRW : Aside0 (threeR s2.2 wd up dn tp.1 (wrap64 (-bo.1)) n d = r) := ⟨by rw [hr]; rfl⟩
                                clear hr
                                obtain ⟨rb, re⟩ := r
                                rintro ex W6 ⟨A6, c6, rfl, hA6, hb6⟩
                                have hG6 : WR.grownBy W6 (some g) := grown_trans (grown_alloc hGB _) (grown_of_below hb6 _)
                                have HA6 := Aside0.mk hA6
                                have HB6 := Aside0.mk (HBB.out.trans ((below1 _ hb6).mono HBB.out.size))
                                have HSZ := Aside0.mk HBB.out.size
                                have HSB := Aside0.mk (blk_lt (blk_grown H8.out hG0B hne8))
                                have HG6 := Aside0.mk hG6
                                clear hA6 hb6 hG0B
                                go_wp2_with fail
                                refine hK.out _ _ (HQ _ hG6) (fun hH4 => ?_)
                                clear hK K hH3
                                (try simp only [Act.put, List.setIfInBounds_toArray, List.set_cons_zero, List.set_cons_succ])
                                clear hG6
                                refine wpAnyH_take (i := 17) (oi := { dst := some 104, op := Go.Op.extract (Go.Operand.tmp 103) 0, type := 39, pos := "stack.go:82", after := #[{ on := 16, ground := Go.Ground.data }], guard := none }) (v := ?v17) rfl (by kernel_rfl) (by kernel_rfl) (by kernel_rfl) (fun _ _ _ h => h) (Or.inl ⟨by rfl, ?y17⟩) (by with_reducible assumption) ?_
                                case y17 =>
                                  intro w' hSw
                                  clear hSw
                                  go_simp
                                  try with_reducible rfl
                                (try simp only [Act.put, List.setIfInBounds_toArray, List.set_cons_zero, List.set_cons_succ])
                                refine wpAnyH_take (i := 18) (oi := { dst := some 105, op := Go.Op.extract (Go.Operand.tmp 103) 1, type := 41, pos := "stack.go:82", after := #[{ on := 16, ground := Go.Ground.data }], guard := none }) (v := ?v18) rfl (by kernel_rfl) (by kernel_rfl) (by kernel_rfl) (fun _ _ _ h => h) (Or.inl ⟨by rfl, ?y18⟩) (by with_reducible assumption) ?_
                                case y18 =>
                                  intro w' hSw
                                  clear hSw
                                  go_simp
                                  try with_reducible rfl
                                (try simp only [Act.put, List.setIfInBounds_toArray, List.set_cons_zero, List.set_cons_succ])
                                refine wpAnyH_one (i := 19) (o := { dst := none, op := Go.Op.store 39 (Go.Operand.tmp 10) (Go.Operand.tmp 104), type := 0, pos := "stack.go:82", after := #[{ on := 17, ground := Go.Ground.data }, { on := 16, ground := Go.Ground.chain }, { on := 0, ground := Go.Ground.phase }, { on := 1, ground := Go.Ground.phase }, { on := 2, ground := Go.Ground.phase }, { on := 3, ground := Go.Ground.phase }, { on := 4, ground := Go.Ground.phase }, { on := 5, ground := Go.Ground.phase }, { on := 6, ground := Go.Ground.phase }, { on := 7, ground := Go.Ground.phase }, { on := 8, ground := Go.Ground.phase }, { on := 9, ground := Go.Ground.phase }, { on := 10, ground := Go.Ground.phase }, { on := 11, ground := Go.Ground.phase }, { on := 12, ground := Go.Ground.phase }, { on := 13, ground := Go.Ground.phase }, { on := 14, ground := Go.Ground.phase }, { on := 15, ground := Go.Ground.phase }, { on := 16, ground := Go.Ground.phase }, { on := 17, ground := Go.Ground.phase }, { on := 18, ground := Go.Ground.phase }], guard := none }) rfl (by kernel_rfl) (by rfl) (fun K hK => ?_)
                                refine store_box_step (x := rb) (A := A6) (c := c6) (.tmp 10) (.tmp 104) rfl rfl rfl rfl (blk_grown H8.out (grown_trans HG0.out HG6.out) hne8) ?_
                                intro W7 hw7 hf7 hg7
                                refine hK.out _ _ ⟨(hf7 _ HNE.out.1).trans (HQ _ HG6.out).1, (hf7 _ HNE.out.2).trans (HQ _ HG6.out).2.1, (hf7 _ HNER.out).trans (HQ _ HG6.out).2.2⟩ (fun hH5 => ?_)
                                clear hK K hH4
                                (try simp only [Act.put, List.setIfInBounds_toArray, List.set_cons_zero, List.set_cons_succ])
                                refine wpAnyH_take (i := 20) (oi := { dst := some 11, op := Go.Op.assign (Go.Operand.tmp 105), type := 41, pos := "stack.go:82", after := #[{ on := 18, ground := Go.Ground.data }, { on := 19, ground := Go.Ground.chain }, { on := 0, ground := Go.Ground.phase }, { on := 1, ground := Go.Ground.phase }, { on := 2, ground := Go.Ground.phase }, { on := 3, ground := Go.Ground.phase }, { on := 4, ground := Go.Ground.phase }, { on := 5, ground := Go.Ground.phase }, { on := 6, ground := Go.Ground.phase }, { on := 7, ground := Go.Ground.phase }, { on := 8, ground := Go.Ground.phase }, { on := 9, ground := Go.Ground.phase }, { on := 10, ground := Go.Ground.phase }, { on := 11, ground := Go.Ground.phase }, { on := 12, ground := Go.Ground.phase }, { on := 13, ground := Go.Ground.phase }, { on := 14, ground := Go.Ground.phase }, { on := 15, ground := Go.Ground.phase }, { on := 16, ground := Go.Ground.phase }, { on := 17, ground := Go.Ground.phase }, { on := 18, ground := Go.Ground.phase }, { on := 19, ground := Go.Ground.phase }], guard := none }) (v := ?v20) rfl (by kernel_rfl) (by kernel_rfl) (by kernel_rfl) (fun _ _ _ h => h) (Or.inl ⟨by rfl, ?y20⟩) (by with_reducible assumption) ?_
                                case y20 =>
                                  intro w' hSw
                                  clear hSw
                                  go_simp
                                  try with_reducible rfl
                                (try simp only [Act.put, List.setIfInBounds_toArray, List.set_cons_zero, List.set_cons_succ])
                                refine wpAnyH_done (by kernel_rfl) ?_ _
                                refine NoPanic.normal ?_
                                clear HQ
                                have HW7 := Aside0.mk hw7
                                have HF7 := Aside0.mk hf7
                                have HG7' := Aside0.mk hg7
                                clear hw7 hf7 hg7
                                go_wp2
                                refine bodyPost_ret (results_ct rfl _ _ b8 39 #[.int .i64 rb.f0, .int .i64 rb.f1, .int .i64 rb.f2, .int .i64 rb.f3, .int .i64 rb.f4, .int .i64 rb.f5, .slice A6 rb.f6.length c6] (0, 0) _ rfl HW7.out Try.underlying39 rfl (by kernel_rfl)) rfl ?_
                                have hb8 := HBS.out.2.2
                                have hsb := HSB.out
                                have hsz := HSZ.out
                                refine ⟨A6, c6, by rw [HR.out, HRW.out]; rfl, ?_, HB6.out.grown HG7'.out HB6.out.size (by rintro k ⟨⟩; omega)⟩
                                rw [HR.out, HRW.out]
                                refine BoxAt.mono (BoxAt.step HA6.out (fun k hk hlt => HF7.out k ?_)) (fun k hk => ?_)
                                · rcases hk with (hk | hk) | hk
                                  · have := HOK.out k hk; omega
                                  · omega
                                  · simp only [World.size_alloc] at hk; omega
                                · rcases hk with (hk | hk) | hk
                                  · exact .inl hk
                                  · exact .inr (by omega)
                                  · exact .inr (by simp only [World.size_alloc] at hk; omega)
end Go.Proofs.Ytfbiahlogclkbaa.H
