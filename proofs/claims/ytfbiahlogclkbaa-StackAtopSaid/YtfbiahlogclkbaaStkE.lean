/- Package stack: Center. No condition is added. -/
import Derived.Test.YtfbiahlogclkbaaLitC
set_option linter.unusedVariables false
set_option linter.unusedSimpArgs false
namespace Go.Proofs.Ytfbiahlogclkbaa.H
open Go.RowKit Go.Proofs.YtfbiahlogclkbaaW.PrintWords Go.Proofs.YtfbiahlogclkbaaW.PrintLast Go.Proofs.YtfbiahlogclkbaaW.PrintMore Go.Proofs.Ytfbiahlogclkbaa.P

/-- P26.3. -/
def centerR (h : S23) (l : List Int) (c z : Int) (b : Bx) : Bx × Int :=
  let a := keptR 0 (konstR h l 5 c z).1 (konstR h l 5 c z).2
  let s := keptR (needE a.2 [b]) (sumR [b.f2, wrap64 (-b.f3)]).1 (sumR [b.f2, wrap64 (-b.f3)]).2
  let m := keptR s.2 (halfR s.1).1 (halfR s.1).2
  let y := keptR m.2 (sumR [a.1, wrap64 (-m.1)]).1 (sumR [a.1, wrap64 (-m.1)]).2
  lsetR y.2 b.f1 [⟨0, y.1, b⟩]
set_option maxHeartbeats 4000000 in
set_option maxRecDepth 100000 in
theorem Center_any (ok : Nat → Prop) (f : FV) (l : List Int) (c z : Int) (b : Bx) (A : Option Addr) (cb : Nat) (w : World) (hf : f.Konst w l) (hb : BoxAt w ok b A cb) (hok : ∀ k, ok k → k < w.heap.size) :
    Calls Try.prog 18 #[f.v, .int .i64 c, .int .i64 z, boxV b A cb] w (BoxPost (centerR f.h l c z b) ok w) := by
  have HF := Aside0.mk hf
  have HBX := Aside0.mk hb
  have HOK := Aside0.mk hok
  clear hf hb hok
  go_enter Try.func18, Try.ntmps18
  go_wp2_with fail
  obtain ⟨W0, hW0⟩ : ∃ W0 : World, W0 = (((w.alloc (.cells f.cells 36)).alloc (.cells #[.int .i64 b.f0, .int .i64 b.f1, .int .i64 b.f2, .int .i64 b.f3, .int .i64 b.f4, .int .i64 b.f5, .slice A b.f6.length cb] 39)).alloc (.cells #[.int .i64 0, .int .i64 0, .int .i64 0, .int .i64 0, .int .i64 0, .int .i64 0, .slice none 0 0] 39)).alloc (.cells #[.int .i64 f.h.f0, .int .i64 f.h.f1, .int .i64 f.h.f2, .int .i64 f.h.f3, .int .i64 f.h.f4, .bool f.h.f5, .slice f.s6.A f.s6.n f.s6.c, .slice f.s7.A f.s7.n f.s7.c, .slice f.s8.A f.s8.n f.s8.c, .slice f.s9.A f.s9.n f.s9.c, .slice f.s10.A f.s10.n f.s10.c, .slice f.s11.A f.s11.n f.s11.c, .slice f.s12.A f.s12.n f.s12.c, .slice f.s13.A f.s13.n f.s13.c, .int .i64 f.i, .slice f.s15.A f.s15.n f.s15.c, .slice f.s16.A f.s16.n f.s16.c, .int .i64 c, .int .i64 z, .int .i64 0] 66) := ⟨_, rfl⟩
  obtain ⟨g, hg⟩ : ∃ g, g = w.heap.size + 1 + 1 + 1 := ⟨_, rfl⟩
  have hB0 : Below w.heap.size w W0 := by rw [hW0]; exact below_alloc (below_alloc (below_alloc (below_alloc (Below.refl _ _) _) _) _) _
  have hL0 : stk_B W0 g f c z 0 := by
    rw [hW0, hg]
    have h := blk_new (((w.alloc (.cells f.cells 36)).alloc (.cells #[.int .i64 b.f0, .int .i64 b.f1, .int .i64 b.f2, .int .i64 b.f3, .int .i64 b.f4, .int .i64 b.f5, .slice A b.f6.length cb] 39)).alloc (.cells #[.int .i64 0, .int .i64 0, .int .i64 0, .int .i64 0, .int .i64 0, .int .i64 0, .slice none 0 0] 39)) (.cells #[.int .i64 f.h.f0, .int .i64 f.h.f1, .int .i64 f.h.f2, .int .i64 f.h.f3, .int .i64 f.h.f4, .bool f.h.f5, .slice f.s6.A f.s6.n f.s6.c, .slice f.s7.A f.s7.n f.s7.c, .slice f.s8.A f.s8.n f.s8.c, .slice f.s9.A f.s9.n f.s9.c, .slice f.s10.A f.s10.n f.s10.c, .slice f.s11.A f.s11.n f.s11.c, .slice f.s12.A f.s12.n f.s12.c, .slice f.s13.A f.s13.n f.s13.c, .int .i64 f.i, .slice f.s15.A f.s15.n f.s15.c, .slice f.s16.A f.s16.n f.s16.c, .int .i64 c, .int .i64 z, .int .i64 0] 66)
    simp only [World.size_alloc] at h
    exact h
  have h7 : W0.heap[w.heap.size + 1]? = some (.cells #[.int .i64 b.f0, .int .i64 b.f1, .int .i64 b.f2, .int .i64 b.f3, .int .i64 b.f4, .int .i64 b.f5, .slice A b.f6.length cb] 39 (0, 0)) := by
    rw [hW0]
    have h := blk_new (w.alloc (.cells f.cells 36)) (.cells #[.int .i64 b.f0, .int .i64 b.f1, .int .i64 b.f2, .int .i64 b.f3, .int .i64 b.f4, .int .i64 b.f5, .slice A b.f6.length cb] 39)
    rw [World.size_alloc] at h
    exact blk_alloc (blk_alloc h _) _
  have h8 : W0.heap[w.heap.size + 1 + 1]? = some (.cells #[.int .i64 0, .int .i64 0, .int .i64 0, .int .i64 0, .int .i64 0, .int .i64 0, .slice none 0 0] 39 (0, 0)) := by
    rw [hW0]
    have h := blk_new ((w.alloc (.cells f.cells 36)).alloc (.cells #[.int .i64 b.f0, .int .i64 b.f1, .int .i64 b.f2, .int .i64 b.f3, .int .i64 b.f4, .int .i64 b.f5, .slice A b.f6.length cb] 39)) (.cells #[.int .i64 0, .int .i64 0, .int .i64 0, .int .i64 0, .int .i64 0, .int .i64 0, .slice none 0 0] 39)
    simp only [World.size_alloc] at h
    exact blk_alloc h _
  rw [← hW0, ← hg]
  generalize (Value.agg #[.int .i64 f.h.f0, .int .i64 f.h.f1, .int .i64 f.h.f2, .int .i64 f.h.f3, .int .i64 f.h.f4, .bool f.h.f5, .slice f.s6.A f.s6.n f.s6.c, .slice f.s7.A f.s7.n f.s7.c, .slice f.s8.A f.s8.n f.s8.c, .slice f.s9.A f.s9.n f.s9.c, .slice f.s10.A f.s10.n f.s10.c, .slice f.s11.A f.s11.n f.s11.c, .slice f.s12.A f.s12.n f.s12.c, .slice f.s13.A f.s13.n f.s13.c, .int .i64 f.i, .slice f.s15.A f.s15.n f.s15.c, .slice f.s16.A f.s16.n f.s16.c, .int .i64 c, .int .i64 z, .int .i64 0]) = v16
  generalize (Value.agg #[.int .i64 f.h.f0, .int .i64 f.h.f1, .int .i64 f.h.f2, .int .i64 f.h.f3, .int .i64 f.h.f4, .bool f.h.f5, .slice f.s6.A f.s6.n f.s6.c, .slice f.s7.A f.s7.n f.s7.c, .slice f.s8.A f.s8.n f.s8.c, .slice f.s9.A f.s9.n f.s9.c, .slice f.s10.A f.s10.n f.s10.c, .slice f.s11.A f.s11.n f.s11.c, .slice f.s12.A f.s12.n f.s12.c, .slice f.s13.A f.s13.n f.s13.c, .int .i64 f.i, .slice f.s15.A f.s15.n f.s15.c, .slice f.s16.A f.s16.n f.s16.c]) = v13
  have H7 := Aside0.mk h7
  have H8 := Aside0.mk h8
  have HG := Aside0.mk hg
  have HB0 := Aside0.mk hB0
  refine (stk_konst_any g f l c z 0 5 _ hL0 (HF.out.below hB0)).mono ?_
  clear hW0 hg hL0 h7 h8 hB0
  rintro en W1 ⟨rfl, hg1, hL1⟩
  obtain ⟨a, ha⟩ : ∃ a, a = keptR 0 (konstR f.h l 5 c z).1 (konstR f.h l 5 c z).2 := ⟨_, rfl⟩
  rw [← ha] at hL1 ⊢
  have HA := Aside0.mk ha
  clear ha
  have hG1 : W0.grownBy W1 (some g) := hg1
  have hne7 : some (w.heap.size + 1) ≠ some g := by rw [HG.out]; simp
  have hne8 : some (w.heap.size + 1 + 1) ≠ some g := by rw [HG.out]; simp
  have HGB : Aside0 (w.heap.size ≤ g) := ⟨by rw [HG.out]; omega⟩
  have b7 := blk_grown H7.out hG1 hne7
  have HG1 := Aside0.mk hG1
  have HL1 := Aside0.mk hL1
  have HX1 := Aside0.mk (HBX.out.below (mk_below HB0.out HGB.out hG1))
  obtain ⟨⟨d0, d1, d2, d3, d4, d5, d6⟩, _⟩ := blk7 b7
  clear hg1 hL1 hG1 b7
  as_aux_lemma =>
    go_wp2_with (refine lit_box1 rfl (.tmp 21) rfl rfl ?_)
    refine (stk_need_any g f c z a.2 _ 1 1 [b] _ (blk_alloc HL1.out _) rfl (C_box1 W1 _ b _ rfl _ rfl HX1.out) (by simp) (fun ad h => by injection h with h; subst h; exact (Nat.ne_of_lt (blk_lt HL1.out)).symm)).mono ?_
    rintro en W2 ⟨rfl, hg2, hL2⟩
    obtain ⟨e1, he1⟩ : ∃ e1, e1 = needE a.2 [b] := ⟨_, rfl⟩
    rw [← he1] at hL2
    have HE1 := Aside0.mk he1
    have hG2 : W0.grownBy W2 (some g) := grown_trans HG1.out (grown_below (below_alloc (Below.refl _ _) _) hg2)
    have b7 := blk_grown H7.out hG2 hne7
    have HG2 := Aside0.mk hG2
    have HL2 := Aside0.mk hL2
    obtain ⟨⟨d0, d1, d2, d3, d4, d5, d6⟩, _⟩ := blk7 b7
    clear hg2 hL2 hG2 b7 he1
    as_aux_lemma =>
      go_wp2_with fail
      refine (stk_sum_any g f c z e1 _ 2 2 [b.f2, wrap64 (-b.f3)] _ (blk_alloc HL2.out _) rfl (C_lit W2 _ [b.f2, wrap64 (-b.f3)] _ _ rfl rfl (by simp)) (by simp)).mono ?_
      rintro en W3 ⟨rfl, hg3, hL3⟩
      obtain ⟨s, hs⟩ : ∃ s, s = keptR e1 (sumR [b.f2, wrap64 (-b.f3)]).1 (sumR [b.f2, wrap64 (-b.f3)]).2 := ⟨_, rfl⟩
      rw [← hs] at hL3 ⊢
      have HS := Aside0.mk hs
      have HG3 : Aside0 (W0.grownBy W3 (some g)) := ⟨grown_trans HG2.out (grown_below (below_alloc (Below.refl _ _) _) hg3)⟩
      have HL3 := Aside0.mk hL3
      clear hg3 hL3 hs d0 d1 d2 d3 d4 d5 d6
      as_aux_lemma =>
        go_wp2_with fail
        refine (stk_half_any g f c z s.2 s.1 _ HL3.out).mono ?_
        rintro en W4 ⟨rfl, hg4, hL4⟩
        obtain ⟨m, hm⟩ : ∃ m, m = keptR s.2 (halfR s.1).1 (halfR s.1).2 := ⟨_, rfl⟩
        rw [← hm] at hL4 ⊢
        have HM := Aside0.mk hm
        have HG4 : Aside0 (W0.grownBy W4 (some g)) := ⟨grown_trans HG3.out hg4⟩
        have HL4 := Aside0.mk hL4
        clear hg4 hL4 hm
        as_aux_lemma =>
          go_wp2_with fail
          refine (stk_sum_any g f c z m.2 _ 2 2 [a.1, wrap64 (-m.1)] _ (blk_alloc HL4.out _) rfl (C_lit W4 _ [a.1, wrap64 (-m.1)] _ _ rfl rfl (by simp)) (by simp)).mono ?_
          rintro en W5 ⟨rfl, hg5, hL5⟩
          obtain ⟨y, hy⟩ : ∃ y, y = keptR m.2 (sumR [a.1, wrap64 (-m.1)]).1 (sumR [a.1, wrap64 (-m.1)]).2 := ⟨_, rfl⟩
          rw [← hy] at hL5 ⊢
          have HY := Aside0.mk hy
          have hG5 : W0.grownBy W5 (some g) := grown_trans HG4.out (grown_below (below_alloc (Below.refl _ _) _) hg5)
          have HL5 := Aside0.mk hL5
          have HG5 := Aside0.mk hG5
          have b7 := blk_grown H7.out hG5 hne7
          have HB5 := Aside0.mk (mk_below HB0.out HGB.out hG5)
          have HR : Aside0 (centerR f.h l c z b = lsetR y.2 b.f1 [⟨0, y.1, b⟩]) := ⟨by rw [HY.out, HM.out, HS.out, HE1.out, HA.out]; rfl⟩
          obtain ⟨⟨d0, d1, d2, d3, d4, d5, d6⟩, _⟩ := blk7 b7
          clear hg5 hL5 hG5 b7 hy
          as_aux_lemma =>
            go_wp2_with first | (refine build_kid12 (p := b) rfl (.tmp 42) (.tmp 43) rfl rfl rfl ?_) | (refine lit_kid (p := ⟨0, y.1, b⟩) rfl (.tmp 44) rfl rfl ?_)
            have hF := F_kid1 W5 49 ok ⟨0, y.1, b⟩ W5.heap.size rfl (kidL ⟨0, y.1, b⟩ A cb).toArray rfl (HBX.out.below HB5.out)
            have hok5 : ∀ k, (ok k ∨ k = W5.heap.size) → k < (W5.alloc (.cells (kidL ⟨0, y.1, b⟩ A cb).toArray 49)).heap.size := by
              intro k hk
              have hs5 := HB5.out.size
              rw [World.size_alloc]
              rcases hk with hk | hk
              · have := HOK.out k hk; omega
              · omega
            refine (stk_set_any (fun k => ok k ∨ k = W5.heap.size) g f c z y.2 b.f1 (some ⟨W5.heap.size, 0, none⟩) 1 1 [⟨0, y.1, b⟩] (W5.alloc (.cells (kidL ⟨0, y.1, b⟩ A cb).toArray 49)) (blk_alloc HL5.out _) rfl hF hok5 (Nat.le_refl _) (by simp)).mono ?_
            clear hF hok5
            rintro en W6 ⟨A6, c6, rfl, hA6, hb6⟩
            have h86 := blk_below (blk_alloc (blk_grown H8.out HG5.out hne8) (.cells (kidL ⟨0, y.1, b⟩ A cb).toArray 49)) hb6
            have HLT8 := Aside0.mk (blk_lt (blk_grown H8.out HG5.out hne8))
            skip
            have H86 := Aside0.mk h86
            have HB6 := Aside0.mk (HB5.out.trans ((below1 _ hb6).mono HB5.out.size))
            obtain ⟨r, hr⟩ : ∃ r, r = lsetR y.2 b.f1 [⟨0, y.1, b⟩] := ⟨_, rfl⟩
            have HR2 : Aside0 (centerR f.h l c z b = r) := ⟨by rw [HR.out, hr]⟩
            rw [← hr] at hA6 ⊢
            have HA6 := Aside0.mk hA6
            clear hr hA6 hb6 h86 d0 d1 d2 d3 d4 d5 d6
            obtain ⟨rb, re⟩ := r
            as_aux_lemma =>
              go_wp2_with (refine store_box rfl (.tmp 8) (.tmp 47) rfl rfl rfl rfl H86.out ?_; intro W7 hw7 hf7 hg7; have HW7 := Aside0.mk hw7; have HF7 := Aside0.mk hf7; have HG7 := Aside0.mk hg7; clear hw7 hf7 hg7)
              refine bodyPost_ret (results_ct rfl _ _ (w.heap.size + 1 + 1) 39 #[.int .i64 rb.f0, .int .i64 rb.f1, .int .i64 rb.f2, .int .i64 rb.f3, .int .i64 rb.f4, .int .i64 rb.f5, .slice A6 rb.f6.length c6] (0, 0) _ rfl HW7.out Try.underlying39 rfl (by kernel_rfl)) rfl ?_
              refine ⟨A6, c6, by rw [HR2.out]; rfl, ?_, HB6.out.grown HG7.out HB6.out.size (by rintro k ⟨⟩; omega)⟩
              rw [HR2.out]
              have hs5 := HB5.out.size
              have hl8 := HLT8.out
              refine BoxAt.mono (BoxAt.step HA6.out (fun k hk hlt => HF7.out k ?_)) (fun k hk => ?_)
              · rcases hk with (hk | hk) | hk
                · have := HOK.out k hk; omega
                · omega
                · simp only [World.size_alloc] at hk; omega
              · rcases hk with (hk | hk) | hk
                · exact .inl hk
                · exact .inr (by omega)
                · exact .inr (by simp only [World.size_alloc] at hk; omega)
end Go.Proofs.Ytfbiahlogclkbaa.H
