/- Package stack: Atop. No condition is added. -/
import Derived.Test.YtfbiahlogclkbaaLitD
set_option linter.unusedVariables false
set_option linter.unusedSimpArgs false
namespace Go.Proofs.Ytfbiahlogclkbaa.H
open Go.RowKit Go.Proofs.YtfbiahlogclkbaaW.PrintWords Go.Proofs.YtfbiahlogclkbaaW.PrintLast Go.Proofs.YtfbiahlogclkbaaW.PrintMore Go.Proofs.Ytfbiahlogclkbaa.P
attribute [local go_sem] max2_int min2_int

def atopThere (e up dn : Int) (n d : Bx) : Int × Int :=
  let s1 := keptR e (sumR [up, IntKind.i64.wrap (-n.f3)]).1 (sumR [up, IntKind.i64.wrap (-n.f3)]).2
  let s2 := keptR s1.2 (sumR [d.f2, IntKind.i64.wrap (-dn)]).1 (sumR [d.f2, IntKind.i64.wrap (-dn)]).2
  keptR s2.2 (sumR [s1.1, IntKind.i64.wrap (-s2.1)]).1 (sumR [s1.1, IntKind.i64.wrap (-s2.1)]).2
def atopMove (e mi up dn : Int) : Int × Int × Int :=
  if 0 < mi then
    let hf := keptR e (halfR mi).1 (halfR mi).2
    let u2 := keptR hf.2 (sumR [up, hf.1]).1 (sumR [up, hf.1]).2
    let d2 := keptR u2.2 (sumR [dn, wrap64 (mi - hf.1)]).1 (sumR [dn, wrap64 (mi - hf.1)]).2
    (u2.1, d2.1, d2.2)
  else (up, dn, e)
theorem atopMove_pos {e mi up dn : Int} (h : 0 < mi) : atopMove e mi up dn = ((keptR (keptR e (halfR mi).1 (halfR mi).2).2 (sumR [up, (keptR e (halfR mi).1 (halfR mi).2).1]).1 (sumR [up, (keptR e (halfR mi).1 (halfR mi).2).1]).2).1, (keptR (keptR (keptR e (halfR mi).1 (halfR mi).2).2 (sumR [up, (keptR e (halfR mi).1 (halfR mi).2).1]).1 (sumR [up, (keptR e (halfR mi).1 (halfR mi).2).1]).2).2 (sumR [dn, wrap64 (mi - (keptR e (halfR mi).1 (halfR mi).2).1)]).1 (sumR [dn, wrap64 (mi - (keptR e (halfR mi).1 (halfR mi).2).1)]).2).1, (keptR (keptR (keptR e (halfR mi).1 (halfR mi).2).2 (sumR [up, (keptR e (halfR mi).1 (halfR mi).2).1]).1 (sumR [up, (keptR e (halfR mi).1 (halfR mi).2).1]).2).2 (sumR [dn, wrap64 (mi - (keptR e (halfR mi).1 (halfR mi).2).1)]).1 (sumR [dn, wrap64 (mi - (keptR e (halfR mi).1 (halfR mi).2).1)]).2).2) := if_pos h
theorem atopMove_neg {e mi up dn : Int} (h : ¬ 0 < mi) : atopMove e mi up dn = (up, dn, e) := if_neg h
/-- Two boxes, each in the middle. -/
def twoR (e wd up dn : Int) (n d : Bx) : Bx × Int :=
  let k1 := midR e wd n.f1
  let k2 := midR k1.2 wd d.f1
  lsetR k2.2 wd [⟨k1.1, up, n⟩, ⟨k2.1, IntKind.i64.wrap (-dn), d⟩]
/-- P26.2. -/
def atopR (h : S23) (l : List Int) (c z : Int) (n d : Bx) : Bx × Int :=
  let u := keptR 0 (konstR h l (tallK 22 c) c z).1 (konstR h l (tallK 22 c) c z).2
  let v := keptR u.2 (konstR h l (tallK 24 c) c z).1 (konstR h l (tallK 24 c) c z).2
  let ga := keptR v.2 (konstR h l (tallK 26 c) c z).1 (konstR h l (tallK 26 c) c z).2
  let th := atopThere (needE ga.2 [n, d]) u.1 v.1 n d
  let mi := keptR th.2 (sumR [ga.1, wrap64 (-th.1)]).1 (sumR [ga.1, wrap64 (-th.1)]).2
  let mv := atopMove mi.2 mi.1 u.1 v.1
  twoR mv.2.2 (max n.f1 d.f1) mv.1 mv.2.1 n d
set_option maxHeartbeats 4000000 in
set_option maxRecDepth 100000 in
theorem Atop_any (ok : Nat → Prop) (f : FV) (l : List Int) (c z : Int) (n d : Bx) (An Ad : Option Addr) (cn cd : Nat) (w : World) (hf : f.Konst w l) (hn : BoxAt w ok n An cn) (hd : BoxAt w ok d Ad cd) (hok : ∀ k, ok k → k < w.heap.size) :
    Calls Try.prog 16 #[f.v, .int .i64 c, .int .i64 z, boxV n An cn, boxV d Ad cd] w (BoxPost (atopR f.h l c z n d) ok w) := by
  have HF := Aside0.mk hf
  have HBN := Aside0.mk hn
  have HBD := Aside0.mk hd
  have HOK := Aside0.mk hok
  clear hf hn hd hok
  go_enter Try.func16, Try.ntmps16
  go_wp2_with fail
  obtain ⟨W0, hW0⟩ : ∃ W0 : World, W0 = (((((w.alloc (.cells f.cells 36)).alloc (.cells #[.int .i64 n.f0, .int .i64 n.f1, .int .i64 n.f2, .int .i64 n.f3, .int .i64 n.f4, .int .i64 n.f5, .slice An n.f6.length cn] 39)).alloc (.cells #[.int .i64 d.f0, .int .i64 d.f1, .int .i64 d.f2, .int .i64 d.f3, .int .i64 d.f4, .int .i64 d.f5, .slice Ad d.f6.length cd] 39)).alloc (.cells #[.int .i64 0, .int .i64 0, .int .i64 0, .int .i64 0, .int .i64 0, .int .i64 0, .slice none 0 0] 39)).alloc (.cells #[.int .i64 f.h.f0, .int .i64 f.h.f1, .int .i64 f.h.f2, .int .i64 f.h.f3, .int .i64 f.h.f4, .bool f.h.f5, .slice f.s6.A f.s6.n f.s6.c, .slice f.s7.A f.s7.n f.s7.c, .slice f.s8.A f.s8.n f.s8.c, .slice f.s9.A f.s9.n f.s9.c, .slice f.s10.A f.s10.n f.s10.c, .slice f.s11.A f.s11.n f.s11.c, .slice f.s12.A f.s12.n f.s12.c, .slice f.s13.A f.s13.n f.s13.c, .int .i64 f.i, .slice f.s15.A f.s15.n f.s15.c, .slice f.s16.A f.s16.n f.s16.c, .int .i64 c, .int .i64 z, .int .i64 0] 66)) := ⟨_, rfl⟩
  obtain ⟨g, hg⟩ : ∃ g, g = w.heap.size + 1 + 1 + 1 + 1 := ⟨_, rfl⟩
  have hB0 : Below w.heap.size w W0 := by rw [hW0]; exact below_alloc (below_alloc (below_alloc (below_alloc (below_alloc (Below.refl _ _) _) _) _) _) _
  have hL0 : stk_B W0 g f c z 0 := by
    rw [hW0, hg]
    have h := blk_new ((((w.alloc (.cells f.cells 36)).alloc (.cells #[.int .i64 n.f0, .int .i64 n.f1, .int .i64 n.f2, .int .i64 n.f3, .int .i64 n.f4, .int .i64 n.f5, .slice An n.f6.length cn] 39)).alloc (.cells #[.int .i64 d.f0, .int .i64 d.f1, .int .i64 d.f2, .int .i64 d.f3, .int .i64 d.f4, .int .i64 d.f5, .slice Ad d.f6.length cd] 39)).alloc (.cells #[.int .i64 0, .int .i64 0, .int .i64 0, .int .i64 0, .int .i64 0, .int .i64 0, .slice none 0 0] 39)) (.cells #[.int .i64 f.h.f0, .int .i64 f.h.f1, .int .i64 f.h.f2, .int .i64 f.h.f3, .int .i64 f.h.f4, .bool f.h.f5, .slice f.s6.A f.s6.n f.s6.c, .slice f.s7.A f.s7.n f.s7.c, .slice f.s8.A f.s8.n f.s8.c, .slice f.s9.A f.s9.n f.s9.c, .slice f.s10.A f.s10.n f.s10.c, .slice f.s11.A f.s11.n f.s11.c, .slice f.s12.A f.s12.n f.s12.c, .slice f.s13.A f.s13.n f.s13.c, .int .i64 f.i, .slice f.s15.A f.s15.n f.s15.c, .slice f.s16.A f.s16.n f.s16.c, .int .i64 c, .int .i64 z, .int .i64 0] 66)
    simp only [World.size_alloc] at h
    exact h
  have h6 : W0.heap[w.heap.size + 1]? = some (.cells #[.int .i64 n.f0, .int .i64 n.f1, .int .i64 n.f2, .int .i64 n.f3, .int .i64 n.f4, .int .i64 n.f5, .slice An n.f6.length cn] 39 (0, 0)) := by
    rw [hW0]
    have h := blk_new (w.alloc (.cells f.cells 36)) (.cells #[.int .i64 n.f0, .int .i64 n.f1, .int .i64 n.f2, .int .i64 n.f3, .int .i64 n.f4, .int .i64 n.f5, .slice An n.f6.length cn] 39)
    rw [World.size_alloc] at h
    exact blk_alloc (blk_alloc (blk_alloc h _) _) _
  have h7 : W0.heap[w.heap.size + 1 + 1]? = some (.cells #[.int .i64 d.f0, .int .i64 d.f1, .int .i64 d.f2, .int .i64 d.f3, .int .i64 d.f4, .int .i64 d.f5, .slice Ad d.f6.length cd] 39 (0, 0)) := by
    rw [hW0]
    have h := blk_new ((w.alloc (.cells f.cells 36)).alloc (.cells #[.int .i64 n.f0, .int .i64 n.f1, .int .i64 n.f2, .int .i64 n.f3, .int .i64 n.f4, .int .i64 n.f5, .slice An n.f6.length cn] 39)) (.cells #[.int .i64 d.f0, .int .i64 d.f1, .int .i64 d.f2, .int .i64 d.f3, .int .i64 d.f4, .int .i64 d.f5, .slice Ad d.f6.length cd] 39)
    simp only [World.size_alloc] at h
    exact blk_alloc (blk_alloc h _) _
  have h8 : W0.heap[w.heap.size + 1 + 1 + 1]? = some (.cells #[.int .i64 0, .int .i64 0, .int .i64 0, .int .i64 0, .int .i64 0, .int .i64 0, .slice none 0 0] 39 (0, 0)) := by
    rw [hW0]
    have h := blk_new (((w.alloc (.cells f.cells 36)).alloc (.cells #[.int .i64 n.f0, .int .i64 n.f1, .int .i64 n.f2, .int .i64 n.f3, .int .i64 n.f4, .int .i64 n.f5, .slice An n.f6.length cn] 39)).alloc (.cells #[.int .i64 d.f0, .int .i64 d.f1, .int .i64 d.f2, .int .i64 d.f3, .int .i64 d.f4, .int .i64 d.f5, .slice Ad d.f6.length cd] 39)) (.cells #[.int .i64 0, .int .i64 0, .int .i64 0, .int .i64 0, .int .i64 0, .int .i64 0, .slice none 0 0] 39)
    simp only [World.size_alloc] at h
    exact blk_alloc h _
  rw [← hW0, ← hg]
  generalize (Value.agg #[.int .i64 f.h.f0, .int .i64 f.h.f1, .int .i64 f.h.f2, .int .i64 f.h.f3, .int .i64 f.h.f4, .bool f.h.f5, .slice f.s6.A f.s6.n f.s6.c, .slice f.s7.A f.s7.n f.s7.c, .slice f.s8.A f.s8.n f.s8.c, .slice f.s9.A f.s9.n f.s9.c, .slice f.s10.A f.s10.n f.s10.c, .slice f.s11.A f.s11.n f.s11.c, .slice f.s12.A f.s12.n f.s12.c, .slice f.s13.A f.s13.n f.s13.c, .int .i64 f.i, .slice f.s15.A f.s15.n f.s15.c, .slice f.s16.A f.s16.n f.s16.c, .int .i64 c, .int .i64 z, .int .i64 0]) = v16
  generalize (Value.agg #[.int .i64 f.h.f0, .int .i64 f.h.f1, .int .i64 f.h.f2, .int .i64 f.h.f3, .int .i64 f.h.f4, .bool f.h.f5, .slice f.s6.A f.s6.n f.s6.c, .slice f.s7.A f.s7.n f.s7.c, .slice f.s8.A f.s8.n f.s8.c, .slice f.s9.A f.s9.n f.s9.c, .slice f.s10.A f.s10.n f.s10.c, .slice f.s11.A f.s11.n f.s11.c, .slice f.s12.A f.s12.n f.s12.c, .slice f.s13.A f.s13.n f.s13.c, .int .i64 f.i, .slice f.s15.A f.s15.n f.s15.c, .slice f.s16.A f.s16.n f.s16.c]) = v13
  obtain ⟨b8, hb8⟩ : ∃ b8, b8 = w.heap.size + 1 + 1 + 1 := ⟨_, rfl⟩
  rw [← hb8] at h8 ⊢
  obtain ⟨b7, hb7⟩ : ∃ b7, b7 = w.heap.size + 1 + 1 := ⟨_, rfl⟩
  rw [← hb7] at h7 ⊢
  obtain ⟨b6, hb6⟩ : ∃ b6, b6 = w.heap.size + 1 := ⟨_, rfl⟩
  rw [← hb6] at h6 ⊢
  have H6 := Aside0.mk h6
  have H7 := Aside0.mk h7
  have H8 := Aside0.mk h8
  have HG := Aside0.mk hg
  have HB0 := Aside0.mk hB0
  have HL0 := Aside0.mk hL0
  have HBS := Aside0.mk (And.intro hb6 (And.intro hb7 hb8))
  have hne6 : some b6 ≠ some g := by rw [hb6, hg]; simp
  have hne7 : some b7 ≠ some g := by rw [hb7, hg]; simp
  have hne8 : some b8 ≠ some g := by rw [hb8, hg]; simp
  have HNE := Aside0.mk (show b6 ≠ b8 ∧ b7 ≠ b8 from ⟨by rw [hb6, hb8]; simp, by rw [hb7, hb8]; simp⟩)
  have HGB : Aside0 (w.heap.size ≤ g) := ⟨by rw [hg]; omega⟩
  clear hW0 hg hL0 h6 h7 h8 hB0 hb6 hb7 hb8
  refine (stk_either_any g f l c z 0 22 _ HL0.out (HF.out.below HB0.out) (by omega) (by omega)).mono ?_
  rintro ex W1 ⟨rfl, hg1, hL1⟩
  obtain ⟨u, hu⟩ : ∃ u, u = keptR 0 (konstR f.h l (tallK 22 c) c z).1 (konstR f.h l (tallK 22 c) c z).2 := ⟨_, rfl⟩
  rw [← hu] at hL1 ⊢
  have HU := Aside0.mk hu
  have HG1 := Aside0.mk hg1
  have HL1 := Aside0.mk hL1
  clear hg1 hL1 hu
  as_aux_lemma =>
    go_wp2_with fail
    refine (stk_either_any g f l c z u.2 24 _ HL1.out (HF.out.below (mk_below HB0.out HGB.out HG1.out)) (by omega) (by omega)).mono ?_
    rintro ex W2 ⟨rfl, hg2, hL2⟩
    obtain ⟨v, hv⟩ : ∃ v, v = keptR u.2 (konstR f.h l (tallK 24 c) c z).1 (konstR f.h l (tallK 24 c) c z).2 := ⟨_, rfl⟩
    rw [← hv] at hL2 ⊢
    have HV := Aside0.mk hv
    have HG2 := Aside0.mk (grown_trans HG1.out hg2)
    have HL2 := Aside0.mk hL2
    clear hg2 hL2 hv
    as_aux_lemma =>
      go_wp2_with fail
      refine (stk_either_any g f l c z v.2 26 _ HL2.out (HF.out.below (mk_below HB0.out HGB.out HG2.out)) (by omega) (by omega)).mono ?_
      rintro ex W3 ⟨rfl, hg3, hL3⟩
      obtain ⟨ga, hga⟩ : ∃ ga, ga = keptR v.2 (konstR f.h l (tallK 26 c) c z).1 (konstR f.h l (tallK 26 c) c z).2 := ⟨_, rfl⟩
      rw [← hga] at hL3 ⊢
      have HA := Aside0.mk hga
      have hG3 := grown_trans HG2.out hg3
      have k6 := blk_grown H6.out hG3 hne6
      have k7 := blk_grown H7.out hG3 hne7
      have HG3 := Aside0.mk hG3
      have HL3 := Aside0.mk hL3
      have HX3 := Aside0.mk (HBN.out.below (mk_below HB0.out HGB.out hG3))
      have HY3 := Aside0.mk (HBD.out.below (mk_below HB0.out HGB.out hG3))
      obtain ⟨⟨d0, d1, d2, d3, d4, d5, d6⟩, _⟩ := blk7 k6
      obtain ⟨⟨e0, e1, e2, e3, e4, e5, e6⟩, _⟩ := blk7 k7
      clear hg3 hL3 hga hG3 k6 k7
      as_aux_lemma =>
        go_wp2_with (refine lit_box2 rfl (.tmp 32) (.tmp 33) rfl rfl rfl ?_)
        refine (stk_need_any g f c z ga.2 _ 2 2 [n, d] _ (blk_alloc HL3.out _) rfl (C_box2 W3 _ n d _ rfl _ rfl HX3.out HY3.out) (by simp) (fun ad h => by injection h with h; subst h; exact (Nat.ne_of_lt (blk_lt HL3.out)).symm)).mono ?_
        rintro ex W4 ⟨rfl, hg4, hL4⟩
        obtain ⟨en, hen⟩ : ∃ e1, e1 = needE ga.2 [n, d] := ⟨_, rfl⟩
        rw [← hen] at hL4
        have HE1 := Aside0.mk hen
        have HG4 : Aside0 (W0.grownBy W4 (some g)) := ⟨grown_trans HG3.out (grown_below (below_alloc (Below.refl _ _) _) hg4)⟩
        have HL4 := Aside0.mk hL4
        clear hg4 hL4 hen d0 d1 d2 d3 d4 d5 d6 e0 e1 e2 e3 e4 e5 e6
        as_aux_lemma =>
          go_upto_region 4 with fail
          go_cut [16] (fun v16 W => ∃ th : Int × Int, v16 = .int .i64 th.1 ∧ Aside0 (th = atopThere en u.1 v.1 n d) ∧ Aside0 (W0.grownBy W (some g)) ∧ Aside0 (stk_B W g f c z th.2))
          case first =>
            have hG4 := HG4.out
            have hL4 := HL4.out
            have hlt4 := blk_lt hL4
            have HQ : ∀ W : World, W0.grownBy W (some g) → ((fun W : World => W.cell? ⟨b6, 3, none⟩ = some (.int .i64 n.f3) ∧ W.cell? ⟨b7, 2, none⟩ = some (.int .i64 d.f2)) : World → Prop) W := fun W h => ⟨blk_cell (blk_grown H6.out h hne6) 3, blk_cell (blk_grown H7.out h hne7) 2⟩
            go_region_held3 (fun W : World => W.cell? ⟨b6, 3, none⟩ = some (.int .i64 n.f3) ∧ W.cell? ⟨b7, 2, none⟩ = some (.int .i64 d.f2))
              (first | (with_reducible refine HQ _ ?_; repeat (first | with_reducible assumption | with_reducible apply grown_alloc | with_reducible apply grown_drew)))
              (first
                | (go_at_call 41; have _ := hLB; refine (stk_sum_any g f c z (keptR (keptR en (sumR [u.1, IntKind.i64.wrap (-n.f3)]).1 (sumR [u.1, IntKind.i64.wrap (-n.f3)]).2).2 (sumR [d.f2, IntKind.i64.wrap (-v.1)]).1 (sumR [d.f2, IntKind.i64.wrap (-v.1)]).2).2 _ 2 2 [(keptR en (sumR [u.1, IntKind.i64.wrap (-n.f3)]).1 (sumR [u.1, IntKind.i64.wrap (-n.f3)]).2).1, IntKind.i64.wrap (-(keptR (keptR en (sumR [u.1, IntKind.i64.wrap (-n.f3)]).1 (sumR [u.1, IntKind.i64.wrap (-n.f3)]).2).2 (sumR [d.f2, IntKind.i64.wrap (-v.1)]).1 (sumR [d.f2, IntKind.i64.wrap (-v.1)]).2).1)] _ (by repeat (first | with_reducible assumption | with_reducible apply stk_drew | with_reducible apply stk_alloc)) rfl (C_at (cs := #[.int .i64 ((keptR en (sumR [u.1, IntKind.i64.wrap (-n.f3)]).1 (sumR [u.1, IntKind.i64.wrap (-n.f3)]).2).1), .int .i64 (IntKind.i64.wrap (-(keptR (keptR en (sumR [u.1, IntKind.i64.wrap (-n.f3)]).1 (sumR [u.1, IntKind.i64.wrap (-n.f3)]).2).2 (sumR [d.f2, IntKind.i64.wrap (-v.1)]).1 (sumR [d.f2, IntKind.i64.wrap (-v.1)]).2).1))]) (by repeat (first | with_reducible exact blk_new' (by simp) | with_reducible apply blk_drew | with_reducible refine hcar _ _ ?_ (by simp; omega) | with_reducible apply blk_alloc)) rfl (by simp)) (by simp)).mono ?_; rintro ex WC ⟨rfl, hgC, hLC⟩; have hGC : W0.grownBy WC (some g) := grown_trans (by repeat (first | with_reducible assumption | with_reducible apply grown_drew | with_reducible apply grown_alloc)) hgC)
                | (go_at_call 41; have _ := hLA; refine (stk_sum_any g f c z (keptR en (sumR [u.1, IntKind.i64.wrap (-n.f3)]).1 (sumR [u.1, IntKind.i64.wrap (-n.f3)]).2).2 _ 2 2 [d.f2, IntKind.i64.wrap (-v.1)] _ (by repeat (first | with_reducible assumption | with_reducible apply stk_drew | with_reducible apply stk_alloc)) rfl (C_at (cs := #[.int .i64 (d.f2), .int .i64 (IntKind.i64.wrap (-v.1))]) (by repeat (first | with_reducible exact blk_new' (by simp) | with_reducible apply blk_drew | with_reducible refine hcar _ _ ?_ (by simp; omega) | with_reducible apply blk_alloc)) rfl (by simp)) (by simp)).mono ?_; rintro ex WB ⟨rfl, hgB, hLB⟩; have hGB : W0.grownBy WB (some g) := grown_trans (by repeat (first | with_reducible assumption | with_reducible apply grown_drew | with_reducible apply grown_alloc)) hgB)
                | (go_at_call 41; have _ := hL4; refine (stk_sum_any g f c z en _ 2 2 [u.1, IntKind.i64.wrap (-n.f3)] _ (by repeat (first | with_reducible assumption | with_reducible apply stk_drew | with_reducible apply stk_alloc)) rfl (C_at (cs := #[.int .i64 (u.1), .int .i64 (IntKind.i64.wrap (-n.f3))]) (by repeat (first | with_reducible exact blk_new' (by simp) | with_reducible apply blk_drew | with_reducible refine hcar _ _ ?_ (by simp; omega) | with_reducible apply blk_alloc)) rfl (by simp)) (by simp)).mono ?_; rintro ex WA ⟨rfl, hgA, hLA⟩; have hGA : W0.grownBy WA (some g) := grown_trans (by repeat (first | with_reducible assumption | with_reducible apply grown_drew | with_reducible apply grown_alloc)) hgA; have hcar : ∀ (b : Nat) (o : Obj), _ → some b ≠ some g → WA.heap[b]? = some o := fun b o h hne => blk_grown h hgA hne))
            all_goals
              go_wp2
              go_meet
              case rel => exact ⟨_, rfl, ⟨rfl⟩, ⟨hGC⟩, ⟨hLC⟩⟩
          case rest =>
            obtain ⟨th, rfl, HTH, HG5, HL5⟩ := hcut
            as_aux_lemma =>
              go_wp2_with fail
              refine (stk_sum_any g f c z th.2 _ 2 2 [ga.1, wrap64 (-th.1)] _ (blk_alloc HL5.out _) rfl (C_lit wc _ [ga.1, wrap64 (-th.1)] _ _ rfl rfl (by simp)) (by simp)).mono ?_
              rintro ex W6 ⟨rfl, hg6, hL6⟩
              obtain ⟨mi, hmi⟩ : ∃ s, s = keptR th.2 (sumR [ga.1, wrap64 (-th.1)]).1 (sumR [ga.1, wrap64 (-th.1)]).2 := ⟨_, rfl⟩
              rw [← hmi] at hL6 ⊢
              have HMI := Aside0.mk hmi
              have HG6 : Aside0 (W0.grownBy W6 (some g)) := ⟨grown_trans HG5.out (grown_below (below_alloc (Below.refl _ _) _) hg6)⟩
              have HL6 := Aside0.mk hL6
              clear hg6 hL6 hmi
              as_aux_lemma =>
                go_upto_if 61 with fail
                go_cut [13, 14] (fun v13 v14 W => ∃ mv : Int × Int × Int, v13 = .int .i64 mv.1 ∧ v14 = .int .i64 mv.2.1 ∧ Aside0 (mv = atopMove mi.2 mi.1 u.1 v.1) ∧ Aside0 (W0.grownBy W (some g)) ∧ Aside0 (stk_B W g f c z mv.2.2))
                case first =>
                  by_cases hm : 0 < mi.1
                  · have HM := Aside0.mk (atopMove_pos (e := mi.2) (up := u.1) (dn := v.1) hm)
                    go_wp2_with fail
                    refine (stk_half_any g f c z mi.2 mi.1 _ HL6.out).mono ?_
                    rintro ex W7 ⟨rfl, hg7, hL7⟩
                    go_wp2_with fail
                    refine (stk_sum_any g f c z _ _ 2 2 [u.1, (keptR mi.2 (halfR mi.1).1 (halfR mi.1).2).1] _ (blk_alloc hL7 _) rfl (C_lit W7 _ [u.1, (keptR mi.2 (halfR mi.1).1 (halfR mi.1).2).1] _ _ rfl rfl (by simp)) (by simp)).mono ?_
                    rintro ex W8 ⟨rfl, hg8, hL8⟩
                    go_wp2_with fail
                    refine (stk_sum_any g f c z _ _ 2 2 [v.1, wrap64 (mi.1 - (keptR mi.2 (halfR mi.1).1 (halfR mi.1).2).1)] _ (blk_alloc hL8 _) rfl (C_lit W8 _ [v.1, wrap64 (mi.1 - (keptR mi.2 (halfR mi.1).1 (halfR mi.1).2).1)] _ _ rfl rfl (by simp)) (by simp)).mono ?_
                    rintro ex W9 ⟨rfl, hg9, hL9⟩
                    have hG9 : W0.grownBy W9 (some g) := grown_trans HG6.out (grown_trans hg7 (grown_trans (grown_below (below_alloc (Below.refl _ _) _) hg8) (grown_below (below_alloc (Below.refl _ _) _) hg9)))
                    go_wp2
                    go_meet
                    case rel => exact ⟨atopMove mi.2 mi.1 u.1 v.1, by rw [HM.out], by rw [HM.out], ⟨rfl⟩, ⟨hG9⟩, ⟨by rw [HM.out]; exact hL9⟩⟩
                  · have HM := Aside0.mk (atopMove_neg (e := mi.2) (up := u.1) (dn := v.1) hm)
                    go_wp2
                    go_meet
                    case rel => exact ⟨atopMove mi.2 mi.1 u.1 v.1, by rw [HM.out], by rw [HM.out], ⟨rfl⟩, HG6, ⟨by rw [HM.out]; exact HL6.out⟩⟩
                case rest =>
                  obtain ⟨mv, rfl, rfl, HMV, HG7, HL7⟩ := hcut
                  have hG7 := HG7.out
                  have hL7 := HL7.out
                  have HR : Aside0 (atopR f.h l c z n d = twoR mv.2.2 (max n.f1 d.f1) mv.1 mv.2.1 n d) := ⟨by rw [HMV.out, HMI.out, HTH.out, HE1.out, HA.out, HV.out, HU.out]; rfl⟩
                  have x1 := blk_cell (blk_grown H6.out hG7 hne6) 1
                  have y1 := blk_cell (blk_grown H7.out hG7 hne7) 1
                  clear HMV HMI HTH HE1 HA HV HU HG6 HL6 HG5 HL5 HG4 HL4 HG3 HL3 HG2 HL2 HG1 HL1
                  as_aux_lemma =>
                    go_wp2_with fail
                    obtain ⟨wd, hwd⟩ : ∃ wd, wd = max n.f1 d.f1 := ⟨_, rfl⟩
                    rw [← hwd] at HR ⊢
                    clear x1 y1 hwd
                    have HQ : ∀ W : World, W0.grownBy W (some g) → ((fun W : World => W.heap[b6]? = some (.cells #[.int .i64 n.f0, .int .i64 n.f1, .int .i64 n.f2, .int .i64 n.f3, .int .i64 n.f4, .int .i64 n.f5, .slice An n.f6.length cn] 39 (0, 0)) ∧ W.heap[b7]? = some (.cells #[.int .i64 d.f0, .int .i64 d.f1, .int .i64 d.f2, .int .i64 d.f3, .int .i64 d.f4, .int .i64 d.f5, .slice Ad d.f6.length cd] 39 (0, 0))) : World → Prop) W := fun W h => ⟨blk_grown H6.out h hne6, blk_grown H7.out h hne7⟩
                    refine wp_region_noPanic ?_
                    refine wp_region_held_drew (S := (fun W : World => W.heap[b6]? = some (.cells #[.int .i64 n.f0, .int .i64 n.f1, .int .i64 n.f2, .int .i64 n.f3, .int .i64 n.f4, .int .i64 n.f5, .slice An n.f6.length cn] 39 (0, 0)) ∧ W.heap[b7]? = some (.cells #[.int .i64 d.f0, .int .i64 d.f1, .int .i64 d.f2, .int .i64 d.f3, .int .i64 d.f4, .int .i64 d.f5, .slice Ad d.f6.length cd] 39 (0, 0)))) (by kernel_rfl) ?_ (fun hH0 => ?_)
                    · exact HQ _ (grown_drew hG7)
                    refine wpAnyH_take (i := 0) (oi := { dst := some 82, op := Go.Op.move (Go.Operand.tmp 12), type := 64, pos := "stack.go:96", after := #[], guard := none }) (v := ?v0) rfl (by kernel_rfl) (by kernel_rfl) (by kernel_rfl) (fun _ _ _ h => h) (Or.inl ⟨by rfl, ?y0⟩) (by with_reducible assumption) ?_
                    case y0 =>
                      intro w' hSw
                      clear hSw
                      go_simp
                      try with_reducible rfl
                    (try simp only [Act.put, List.setIfInBounds_toArray, List.set_cons_zero, List.set_cons_succ])
                    refine wpAnyH_take (i := 1) (oi := { dst := some 83, op := Go.Op.move (Go.Operand.tmp 19), type := 3, pos := "stack.go:96", after := #[], guard := none }) (v := ?v1) rfl (by kernel_rfl) (by kernel_rfl) (by kernel_rfl) (fun _ _ _ h => h) (Or.inl ⟨by rfl, ?y1⟩) (by with_reducible assumption) ?_
                    case y1 =>
                      intro w' hSw
                      clear hSw
                      go_simp
                      try with_reducible rfl
                    (try simp only [Act.put, List.setIfInBounds_toArray, List.set_cons_zero, List.set_cons_succ])
                    refine wpAnyH_take (i := 2) (oi := { dst := some 84, op := Go.Op.move (Go.Operand.tmp 12), type := 64, pos := "stack.go:96", after := #[], guard := none }) (v := ?v2) rfl (by kernel_rfl) (by kernel_rfl) (by kernel_rfl) (fun _ _ _ h => h) (Or.inl ⟨by rfl, ?y2⟩) (by with_reducible assumption) ?_
                    case y2 =>
                      intro w' hSw
                      clear hSw
                      go_simp
                      try with_reducible rfl
                    (try simp only [Act.put, List.setIfInBounds_toArray, List.set_cons_zero, List.set_cons_succ])
                    refine wpAnyH_take (i := 3) (oi := { dst := some 85, op := Go.Op.move (Go.Operand.tmp 19), type := 3, pos := "stack.go:96", after := #[], guard := none }) (v := ?v3) rfl (by kernel_rfl) (by kernel_rfl) (by kernel_rfl) (fun _ _ _ h => h) (Or.inl ⟨by rfl, ?y3⟩) (by with_reducible assumption) ?_
                    case y3 =>
                      intro w' hSw
                      clear hSw
                      go_simp
                      try with_reducible rfl
                    (try simp only [Act.put, List.setIfInBounds_toArray, List.set_cons_zero, List.set_cons_succ])
                    refine wpAnyH_take (i := 4) (oi := { dst := some 86, op := Go.Op.move (Go.Operand.tmp 13), type := 3, pos := "stack.go:96", after := #[], guard := none }) (v := ?v4) rfl (by kernel_rfl) (by kernel_rfl) (by kernel_rfl) (fun _ _ _ h => h) (Or.inl ⟨by rfl, ?y4⟩) (by with_reducible assumption) ?_
                    case y4 =>
                      intro w' hSw
                      clear hSw
                      go_simp
                      try with_reducible rfl
                    (try simp only [Act.put, List.setIfInBounds_toArray, List.set_cons_zero, List.set_cons_succ])
                    refine wpAnyH_take (i := 5) (oi := { dst := some 87, op := Go.Op.load 39 (Go.Operand.tmp 8), type := 39, pos := "stack.go:96", after := #[], guard := none }) (v := boxV n An cn) rfl (by kernel_rfl) (by kernel_rfl) (by kernel_rfl) (fun _ _ _ h => h) (load_box_yields (.tmp 8) rfl rfl (by rfl) (fun w h => h.1)) (by with_reducible assumption) ?_
                    (try simp only [Act.put, List.setIfInBounds_toArray, List.set_cons_zero, List.set_cons_succ])
                    refine wpAnyH_take (i := 7) (oi := { dst := some 89, op := Go.Op.move (Go.Operand.tmp 12), type := 64, pos := "stack.go:96", after := #[], guard := none }) (v := ?v7) rfl (by kernel_rfl) (by kernel_rfl) (by kernel_rfl) (fun _ _ _ h => h) (Or.inl ⟨by rfl, ?y7⟩) (by with_reducible assumption) ?_
                    case y7 =>
                      intro w' hSw
                      clear hSw
                      go_simp
                      try with_reducible rfl
                    (try simp only [Act.put, List.setIfInBounds_toArray, List.set_cons_zero, List.set_cons_succ])
                    refine wpAnyH_take (i := 8) (oi := { dst := some 90, op := Go.Op.move (Go.Operand.tmp 19), type := 3, pos := "stack.go:96", after := #[], guard := none }) (v := ?v8) rfl (by kernel_rfl) (by kernel_rfl) (by kernel_rfl) (fun _ _ _ h => h) (Or.inl ⟨by rfl, ?y8⟩) (by with_reducible assumption) ?_
                    case y8 =>
                      intro w' hSw
                      clear hSw
                      go_simp
                      try with_reducible rfl
                    (try simp only [Act.put, List.setIfInBounds_toArray, List.set_cons_zero, List.set_cons_succ])
                    refine wpAnyH_take (i := 9) (oi := { dst := some 91, op := Go.Op.move (Go.Operand.tmp 14), type := 3, pos := "stack.go:96", after := #[], guard := none }) (v := ?v9) rfl (by kernel_rfl) (by kernel_rfl) (by kernel_rfl) (fun _ _ _ h => h) (Or.inl ⟨by rfl, ?y9⟩) (by with_reducible assumption) ?_
                    case y9 =>
                      intro w' hSw
                      clear hSw
                      go_simp
                      try with_reducible rfl
                    (try simp only [Act.put, List.setIfInBounds_toArray, List.set_cons_zero, List.set_cons_succ])
                    refine wpAnyH_take (i := 10) (oi := { dst := some 92, op := Go.Op.unOp Go.UnOp.neg 3 (Go.Operand.tmp 91), type := 3, pos := "stack.go:96", after := #[{ on := 9, ground := Go.Ground.data }], guard := none }) (v := ?v10) rfl (by kernel_rfl) (by kernel_rfl) (by kernel_rfl) (fun _ _ _ h => h) (Or.inl ⟨by rfl, ?y10⟩) (by with_reducible assumption) ?_
                    case y10 =>
                      intro w' hSw
                      clear hSw
                      go_simp
                      try with_reducible rfl
                    (try simp only [Act.put, List.setIfInBounds_toArray, List.set_cons_zero, List.set_cons_succ])
                    refine wpAnyH_take (i := 11) (oi := { dst := some 93, op := Go.Op.load 39 (Go.Operand.tmp 9), type := 39, pos := "stack.go:96", after := #[], guard := none }) (v := boxV d Ad cd) rfl (by kernel_rfl) (by kernel_rfl) (by kernel_rfl) (fun _ _ _ h => h) (load_box_yields (.tmp 9) rfl rfl (by rfl) (fun w h => h.2)) (by with_reducible assumption) ?_
                    (try simp only [Act.put, List.setIfInBounds_toArray, List.set_cons_zero, List.set_cons_succ])
                    refine wpAnyH_one (i := 6) (o := { dst := some 88, op := Go.Op.call { callee := Go.Callee.value (Go.Operand.func 44), args := #[Go.Operand.tmp 84, Go.Operand.tmp 85, Go.Operand.tmp 86, Go.Operand.tmp 87], argTypes := #[64, 3, 3, 39] }, type := 49, pos := "stack.go:96", after := #[{ on := 2, ground := Go.Ground.data }, { on := 3, ground := Go.Ground.data }, { on := 4, ground := Go.Ground.data }, { on := 5, ground := Go.Ground.data }], guard := none }) rfl (by kernel_rfl) (by rfl) (fun K hK => ?_)
                    go_simp
                    go_at_call 44
                    refine (stk_kid_any g f c z mv.2.2 wd mv.1 n An cn _ (stk_drew hL7)).mono ?_
                    rintro ex WA ⟨rfl, hgA, hLA⟩
                    have hGA : W0.grownBy WA (some g) := grown_trans (grown_drew hG7) hgA
                    clear hgA
                    go_wp2_with fail
                    refine hK.out _ _ (HQ _ hGA) (fun hH1 => ?_)
                    clear hK K hH0
                    (try simp only [Act.put, List.setIfInBounds_toArray, List.set_cons_zero, List.set_cons_succ])
                    refine wpAnyH_one (i := 12) (o := { dst := some 94, op := Go.Op.call { callee := Go.Callee.value (Go.Operand.func 44), args := #[Go.Operand.tmp 89, Go.Operand.tmp 90, Go.Operand.tmp 92, Go.Operand.tmp 93], argTypes := #[64, 3, 3, 39] }, type := 49, pos := "stack.go:96", after := #[{ on := 7, ground := Go.Ground.data }, { on := 8, ground := Go.Ground.data }, { on := 10, ground := Go.Ground.data }, { on := 11, ground := Go.Ground.data }, { on := 6, ground := Go.Ground.chain }], guard := none }) rfl (by kernel_rfl) (by rfl) (fun K hK => ?_)
                    go_simp
                    go_at_call 44
                    refine (stk_kid_any g f c z (midR mv.2.2 wd n.f1).2 wd (IntKind.i64.wrap (-mv.2.1)) d Ad cd _ hLA).mono ?_
                    rintro ex WB ⟨rfl, hgB, hLB⟩
                    have hGB : W0.grownBy WB (some g) := grown_trans hGA hgB
                    clear hgB hLA hGA
                    go_wp2_with fail
                    refine hK.out _ _ (HQ _ hGB) (fun hH2 => ?_)
                    clear hK K hH1
                    (try simp only [Act.put, List.setIfInBounds_toArray, List.set_cons_zero, List.set_cons_succ])
                    refine wpAnyH_one (i := 13) (o := { dst := some 95, op := Go.Op.buildSlice 37 2 #[(0, Go.Operand.tmp 88), (1, Go.Operand.tmp 94)], type := 37, pos := "stack.go:96", after := #[{ on := 6, ground := Go.Ground.data }, { on := 12, ground := Go.Ground.data }], guard := none }) rfl (by kernel_rfl) (by rfl) (fun K hK => ?_)
                    refine lit_kid2_step (p := ⟨(midR mv.2.2 wd n.f1).1, mv.1, n⟩) (q := ⟨(midR (midR mv.2.2 wd n.f1).2 wd d.f1).1, IntKind.i64.wrap (-mv.2.1), d⟩) (.tmp 88) (.tmp 94) rfl rfl rfl ?_
                    refine hK.out _ _ (HQ _ (grown_alloc hGB _)) (fun hH3 => ?_)
                    clear hK K hH2
                    (try simp only [Act.put, List.setIfInBounds_toArray, List.set_cons_zero, List.set_cons_succ])
                    as_aux_lemma =>
                      refine wpAnyH_one (i := 14) (o := { dst := some 96, op := Go.Op.call { callee := Go.Callee.value (Go.Operand.func 43), args := #[Go.Operand.tmp 82, Go.Operand.tmp 83, Go.Operand.tmp 95], argTypes := #[64, 3, 37] }, type := 42, pos := "stack.go:96", after := #[{ on := 0, ground := Go.Ground.data }, { on := 1, ground := Go.Ground.data }, { on := 13, ground := Go.Ground.data }, { on := 12, ground := Go.Ground.chain }], guard := none }) rfl (by kernel_rfl) (by rfl) (fun K hK => ?_)
                      go_simp
                      go_at_call 43
                      have hBB := mk_below HB0.out HGB.out hGB
                      have hF := F_kid2 WB 49 ok ⟨(midR mv.2.2 wd n.f1).1, mv.1, n⟩ ⟨(midR (midR mv.2.2 wd n.f1).2 wd d.f1).1, IntKind.i64.wrap (-mv.2.1), d⟩ WB.heap.size rfl (kidL ⟨(midR mv.2.2 wd n.f1).1, mv.1, n⟩ An cn ++ kidL ⟨(midR (midR mv.2.2 wd n.f1).2 wd d.f1).1, IntKind.i64.wrap (-mv.2.1), d⟩ Ad cd).toArray rfl (HBN.out.below hBB) (HBD.out.below hBB)
                      have hS := fun k hk => ok_lt (W := WB.alloc (.cells (kidL ⟨(midR mv.2.2 wd n.f1).1, mv.1, n⟩ An cn ++ kidL ⟨(midR (midR mv.2.2 wd n.f1).2 wd d.f1).1, IntKind.i64.wrap (-mv.2.1), d⟩ Ad cd).toArray 49)) (k := k) HOK.out hBB (by simp) hk
                      refine (stk_set_any (fun k => ok k ∨ k = WB.heap.size) g f c z (midR (midR mv.2.2 wd n.f1).2 wd d.f1).2 wd (some ⟨WB.heap.size, 0, none⟩) 2 2 [⟨(midR mv.2.2 wd n.f1).1, mv.1, n⟩, ⟨(midR (midR mv.2.2 wd n.f1).2 wd d.f1).1, IntKind.i64.wrap (-mv.2.1), d⟩] _ (stk_alloc hLB _) rfl hF hS (Nat.le_refl _) (by simp)).mono ?_
                      have HBB := Aside0.mk hBB
                      clear hF hS hBB
                      obtain ⟨r, hr⟩ : ∃ r, r = lsetR (midR (midR mv.2.2 wd n.f1).2 wd d.f1).2 wd [⟨(midR mv.2.2 wd n.f1).1, mv.1, n⟩, ⟨(midR (midR mv.2.2 wd n.f1).2 wd d.f1).1, IntKind.i64.wrap (-mv.2.1), d⟩] := ⟨_, rfl⟩
                      rw [← hr]
                      have HRW : Aside0 (twoR mv.2.2 wd mv.1 mv.2.1 n d = r) := ⟨by rw [hr]; rfl⟩
                      clear hr
                      obtain ⟨rb, re⟩ := r
                      rintro ex W6 ⟨A6, c6, rfl, hA6, hb6⟩
                      have hG6 : W0.grownBy W6 (some g) := grown_trans (grown_alloc hGB _) (grown_of_below hb6 _)
                      have HA6 := Aside0.mk hA6
                      have HB6 := Aside0.mk (HBB.out.trans ((below1 _ hb6).mono HBB.out.size))
                      have HSZ := Aside0.mk HBB.out.size
                      have HSB := Aside0.mk (blk_lt (blk_grown H8.out hGB hne8))
                      have HG6 := Aside0.mk hG6
                      clear hA6 hb6
                      go_wp2_with fail
                      refine hK.out _ _ (HQ _ hG6) (fun hH4 => ?_)
                      clear hK K hH3
                      (try simp only [Act.put, List.setIfInBounds_toArray, List.set_cons_zero, List.set_cons_succ])
                      clear hG6
                      refine wpAnyH_take (i := 15) (oi := { dst := some 97, op := Go.Op.extract (Go.Operand.tmp 96) 0, type := 39, pos := "stack.go:96", after := #[{ on := 14, ground := Go.Ground.data }], guard := none }) (v := ?v15) rfl (by kernel_rfl) (by kernel_rfl) (by kernel_rfl) (fun _ _ _ h => h) (Or.inl ⟨by rfl, ?y15⟩) (by with_reducible assumption) ?_
                      case y15 =>
                        intro w' hSw
                        clear hSw
                        go_simp
                        try with_reducible rfl
                      (try simp only [Act.put, List.setIfInBounds_toArray, List.set_cons_zero, List.set_cons_succ])
                      refine wpAnyH_take (i := 16) (oi := { dst := some 98, op := Go.Op.extract (Go.Operand.tmp 96) 1, type := 41, pos := "stack.go:96", after := #[{ on := 14, ground := Go.Ground.data }], guard := none }) (v := ?v16) rfl (by kernel_rfl) (by kernel_rfl) (by kernel_rfl) (fun _ _ _ h => h) (Or.inl ⟨by rfl, ?y16⟩) (by with_reducible assumption) ?_
                      case y16 =>
                        intro w' hSw
                        clear hSw
                        go_simp
                        try with_reducible rfl
                      (try simp only [Act.put, List.setIfInBounds_toArray, List.set_cons_zero, List.set_cons_succ])
                      refine wpAnyH_one (i := 17) (o := { dst := none, op := Go.Op.store 39 (Go.Operand.tmp 10) (Go.Operand.tmp 97), type := 0, pos := "stack.go:96", after := #[{ on := 15, ground := Go.Ground.data }, { on := 14, ground := Go.Ground.chain }, { on := 0, ground := Go.Ground.phase }, { on := 1, ground := Go.Ground.phase }, { on := 2, ground := Go.Ground.phase }, { on := 3, ground := Go.Ground.phase }, { on := 4, ground := Go.Ground.phase }, { on := 5, ground := Go.Ground.phase }, { on := 6, ground := Go.Ground.phase }, { on := 7, ground := Go.Ground.phase }, { on := 8, ground := Go.Ground.phase }, { on := 9, ground := Go.Ground.phase }, { on := 10, ground := Go.Ground.phase }, { on := 11, ground := Go.Ground.phase }, { on := 12, ground := Go.Ground.phase }, { on := 13, ground := Go.Ground.phase }, { on := 14, ground := Go.Ground.phase }, { on := 15, ground := Go.Ground.phase }, { on := 16, ground := Go.Ground.phase }], guard := none }) rfl (by kernel_rfl) (by rfl) (fun K hK => ?_)
                      refine store_box_step (x := rb) (A := A6) (c := c6) (.tmp 10) (.tmp 97) rfl rfl rfl rfl (blk_grown H8.out HG6.out hne8) ?_
                      intro W7 hw7 hf7 hg7
                      refine hK.out _ _ ⟨(hf7 _ HNE.out.1).trans (HQ _ HG6.out).1, (hf7 _ HNE.out.2).trans (HQ _ HG6.out).2⟩ (fun hH5 => ?_)
                      clear hK K hH4
                      (try simp only [Act.put, List.setIfInBounds_toArray, List.set_cons_zero, List.set_cons_succ])
                      refine wpAnyH_take (i := 18) (oi := { dst := some 11, op := Go.Op.assign (Go.Operand.tmp 98), type := 41, pos := "stack.go:96", after := #[{ on := 16, ground := Go.Ground.data }, { on := 17, ground := Go.Ground.chain }, { on := 0, ground := Go.Ground.phase }, { on := 1, ground := Go.Ground.phase }, { on := 2, ground := Go.Ground.phase }, { on := 3, ground := Go.Ground.phase }, { on := 4, ground := Go.Ground.phase }, { on := 5, ground := Go.Ground.phase }, { on := 6, ground := Go.Ground.phase }, { on := 7, ground := Go.Ground.phase }, { on := 8, ground := Go.Ground.phase }, { on := 9, ground := Go.Ground.phase }, { on := 10, ground := Go.Ground.phase }, { on := 11, ground := Go.Ground.phase }, { on := 12, ground := Go.Ground.phase }, { on := 13, ground := Go.Ground.phase }, { on := 14, ground := Go.Ground.phase }, { on := 15, ground := Go.Ground.phase }, { on := 16, ground := Go.Ground.phase }, { on := 17, ground := Go.Ground.phase }], guard := none }) (v := ?v18) rfl (by kernel_rfl) (by kernel_rfl) (by kernel_rfl) (fun _ _ _ h => h) (Or.inl ⟨by rfl, ?y18⟩) (by with_reducible assumption) ?_
                      case y18 =>
                        intro w' hSw
                        clear hSw
                        go_simp
                        try with_reducible rfl
                      (try simp only [Act.put, List.setIfInBounds_toArray, List.set_cons_zero, List.set_cons_succ])
                      refine wpAnyH_done (by kernel_rfl) ?_ _
                      refine NoPanic.normal ?_
                      clear HQ
                      have HW7 := Aside0.mk hw7
                      have HF7 := Aside0.mk hf7
                      have HG7' := Aside0.mk hg7
                      clear hw7 hf7 hg7
                      go_wp2
                      refine bodyPost_ret (results_ct rfl _ _ b8 39 #[.int .i64 rb.f0, .int .i64 rb.f1, .int .i64 rb.f2, .int .i64 rb.f3, .int .i64 rb.f4, .int .i64 rb.f5, .slice A6 rb.f6.length c6] (0, 0) _ rfl HW7.out Try.underlying39 rfl (by kernel_rfl)) rfl ?_
                      have hb8 := HBS.out.2.2
                      have hsb := HSB.out
                      have hsz := HSZ.out
                      refine ⟨A6, c6, by rw [HR.out, HRW.out]; rfl, ?_, HB6.out.grown HG7'.out HB6.out.size (by rintro k ⟨⟩; omega)⟩
                      rw [HR.out, HRW.out]
                      refine BoxAt.mono (BoxAt.step HA6.out (fun k hk hlt => HF7.out k ?_)) (fun k hk => ?_)
                      · rcases hk with (hk | hk) | hk
                        · have := HOK.out k hk; omega
                        · omega
                        · simp only [World.size_alloc] at hk; omega
                      · rcases hk with (hk | hk) | hk
                        · exact .inl hk
                        · exact .inr (by omega)
                        · exact .inr (by simp only [World.size_alloc] at hk; omega)
end Go.Proofs.Ytfbiahlogclkbaa.H
