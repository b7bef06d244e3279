/- The walk of StackAtop. No condition is added. -/
import Derived.Test.YtfbiahlogclkbaaRowB
import Derived.Test.YtfbiahlogclkbaaLawC
set_option linter.unusedVariables false
set_option linter.unusedSimpArgs false
namespace Go.Proofs.Ytfbiahlogclkbaa.H
open Go.RowKit Go.Proofs.YtfbiahlogclkbaaW.PrintWords Go.Proofs.YtfbiahlogclkbaaW.PrintLast Go.Proofs.YtfbiahlogclkbaaW.PrintMore Go.Proofs.Ytfbiahlogclkbaa.P

set_option maxHeartbeats 4000000 in
set_option maxRecDepth 100000 in
theorem atopLaw_any (f : FV) (c z : Int) (n : Bx) (An : Option Addr) (cn : Nat) (d : Bx) (Ad : Option Addr) (cd : Nat) (w : World) (hf : FontAt w f) (hn : BoxC w n An cn) (hd : BoxC w d Ad cd) :
    Calls Try.prog 5 #[f.v, .int .i64 c, .int .i64 z, boxV n An cn, boxV d Ad cd] w fun e w' => e = .returned (.bool true) ∧ Below w.heap.size w w' := by
  obtain ⟨l, hl⟩ := hf.konst
  obtain ⟨r, hr⟩ := few26_any f n d An Ad cn cd w hf hn hd
  have HL := Aside0.mk hl
  have HR := Aside0.mk hr
  have HN := Aside0.mk hn
  have HD := Aside0.mk hd
  clear hl hr hf hn hd
  go_enter Try.func5, Try.ntmps5
  go_upto_region 1 with fail
  obtain ⟨W0, hW0⟩ : ∃ W0 : World, W0 = ((w.alloc (.cells f.cells 36)).alloc (.cells (boxL n An cn).toArray 39)).alloc (.cells (boxL d Ad cd).toArray 39) := ⟨_, rfl⟩
  have HB0 : Aside0 (Below w.heap.size w W0) := ⟨by rw [hW0]; exact below_alloc (below_alloc (below_alloc (Below.refl _ _) _) _) _⟩
  have KF : Aside0 (W0.heap[w.heap.size]? = some (.cells f.cells 36 (0, 0))) := ⟨by rw [hW0]; exact blk_alloc (blk_alloc (blk_new _ _) _) _⟩
  have KN : Aside0 (W0.heap[w.heap.size + 1]? = some (.cells (boxL n An cn).toArray 39 (0, 0))) := ⟨by rw [hW0]; exact blk_alloc (blk_new' (World.size_alloc _ _)) _⟩
  have KD : Aside0 (W0.heap[w.heap.size + 1 + 1]? = some (.cells (boxL d Ad cd).toArray 39 (0, 0))) := ⟨by rw [hW0]; exact blk_new' (by rw [World.size_alloc, World.size_alloc])⟩
  rw [← hW0]
  obtain ⟨bd, hbd⟩ : ∃ x, x = w.heap.size + 1 + 1 := ⟨_, rfl⟩
  rw [← hbd] at KD ⊢
  obtain ⟨bn, hbn⟩ : ∃ x, x = w.heap.size + 1 := ⟨_, rfl⟩
  rw [← hbn] at KN ⊢
  clear hW0 hbd hbn
  as_aux_lemma =>
    go_wp2_with (first | ((with_reducible refine g_load (.tmp 5) rfl ?_); refine load_blk rfl (.tmp 5) rfl rfl Try.underlying36 rfl (by kernel_rfl) KF.out ?_; (try simp only [Act.put, List.setIfInBounds_toArray, List.set_cons_zero, List.set_cons_succ])) | ((with_reducible refine g_load (.tmp 8) rfl ?_); refine load_blk rfl (.tmp 8) rfl rfl Try.underlying39 rfl (by kernel_rfl) KN.out ?_; (try simp only [Act.put, List.setIfInBounds_toArray, List.set_cons_zero, List.set_cons_succ])) | ((with_reducible refine g_load (.tmp 9) rfl ?_); refine load_blk rfl (.tmp 9) rfl rfl Try.underlying39 rfl (by kernel_rfl) KD.out ?_; (try simp only [Act.put, List.setIfInBounds_toArray, List.set_cons_zero, List.set_cons_succ])))
    refine (HR.out W0 HB0.out).mono ?_
    rintro ex W1 ⟨rfl, hb1⟩
    have HB1 := Aside0.mk (bthen HB0.out hb1)
    have KF1 := Aside0.mk (blk_below KF.out hb1)
    have KN1 := Aside0.mk (blk_below KN.out hb1)
    have KD1 := Aside0.mk (blk_below KD.out hb1)
    clear hb1 KF KN KD HB0
    cases r with
    | false =>
      go_wp2
      go_ret
      exact ⟨rfl, HB1.out⟩
    | true =>
      as_aux_lemma =>
        go_wp2_with (first | ((with_reducible refine g_load (.tmp 5) rfl ?_); refine load_blk rfl (.tmp 5) rfl rfl Try.underlying36 rfl (by kernel_rfl) KF1.out ?_; (try simp only [Act.put, List.setIfInBounds_toArray, List.set_cons_zero, List.set_cons_succ])) | ((with_reducible refine g_load (.tmp 8) rfl ?_); refine load_blk rfl (.tmp 8) rfl rfl Try.underlying39 rfl (by kernel_rfl) KN1.out ?_; (try simp only [Act.put, List.setIfInBounds_toArray, List.set_cons_zero, List.set_cons_succ])) | ((with_reducible refine g_load (.tmp 9) rfl ?_); refine load_blk rfl (.tmp 9) rfl rfl Try.underlying39 rfl (by kernel_rfl) KD1.out ?_; (try simp only [Act.put, List.setIfInBounds_toArray, List.set_cons_zero, List.set_cons_succ])))
        refine (Atop_any (fun k => k < w.heap.size) f l c z n d An Ad cn cd W1 (HL.out.below HB1.out) (HN.out.at.below HB1.out) (HD.out.at.below HB1.out) (fun k hk => Nat.lt_of_lt_of_le hk HB1.out.size)).mono ?_
        obtain ⟨r, hr⟩ : ∃ r, r = atopR f.h l c z n d := ⟨_, rfl⟩
        rw [← hr]
        have HC := Aside0.mk hr
        clear hr
        obtain ⟨rb, re⟩ := r
        rintro ex W2 ⟨A2, c2, rfl, hA, hb⟩
        have HA2 := Aside0.mk hA.C
        have HB2 := Aside0.mk hb
        clear hA hb
        go_upto_region 4 with (first | ((with_reducible refine g_store (.tmp 11) rfl ?_); refine store_blk rfl (.tmp 11) (.tmp 35) rfl rfl rfl (by kernel_rfl) (by kernel_rfl) rfl (blk_new _ _) rfl ?_; intro W3 hw hf hg; have hwW3 := Aside0.mk hw; have hbW3 := Aside0.mk (store_below hg); clear hw hf hg; (try simp only [Act.put, List.setIfInBounds_toArray, List.set_cons_zero, List.set_cons_succ])))
        have KR : Aside0 (W3.heap[W2.heap.size]? = some (.cells (boxL rb A2 c2).toArray 39 (0, 0))) := ⟨hwW3.out⟩
        obtain ⟨br, hbr⟩ : ∃ x, x = W2.heap.size := ⟨_, rfl⟩
        rw [← hbr] at KR ⊢
        have hx := bthen HB2.out hbW3.out
        have KF3 := Aside0.mk (blk_below KF1.out hx)
        have KN3 := Aside0.mk (blk_below KN1.out hx)
        have KD3 := Aside0.mk (blk_below KD1.out hx)
        have HA3 := Aside0.mk (HA2.out.below hbW3.out)
        have HB3 := Aside0.mk (bthen HB1.out hx)
        clear hwW3 hbW3 hx hbr KF1 KN1 KD1 HA2 HB1 HB2 HN HD HR
        as_aux_lemma =>
          by_cases he : re = 0
          · subst he
            as_aux_lemma =>
              go_upto_if 47 with fail
              go_cut [13] (fun v13 wc => ∃ tl : Int, v13 = .int .i64 tl ∧ Aside0 (wrap64 (22 + tl) = tallK 22 c ∧ wrap64 (24 + tl) = tallK 24 c ∧ wrap64 (26 + tl) = tallK 26 c) ∧ Aside0 (wc = W3))
              case first =>
                by_cases hc : c < 2
                · have ht : wrap64 (22 + 1) = tallK 22 c ∧ wrap64 (24 + 1) = tallK 24 c ∧ wrap64 (26 + 1) = tallK 26 c := by simp only [tallK, if_pos hc]; unfold wrap64; omega
                  have HT := Aside0.mk ht
                  clear ht
                  go_wp2
                  go_meet
                  case rel => exact ⟨1, rfl, HT, ⟨rfl⟩⟩
                · have ht : wrap64 (22 + 0) = tallK 22 c ∧ wrap64 (24 + 0) = tallK 24 c ∧ wrap64 (26 + 0) = tallK 26 c := by simp only [tallK, if_neg hc]; unfold wrap64; omega
                  have HT := Aside0.mk ht
                  clear ht
                  go_wp2
                  go_meet
                  case rel => exact ⟨0, rfl, HT, ⟨rfl⟩⟩
              case rest =>
                obtain ⟨tl, rfl, HT, hw⟩ := hcut
                have hw := hw.out.symm
                subst hw
                as_aux_lemma =>
                  go_wp2_with (first | ((with_reducible refine g_load (.tmp 5) rfl ?_); refine load_blk rfl (.tmp 5) rfl rfl Try.underlying36 rfl (by kernel_rfl) KF3.out ?_; (try simp only [Act.put, List.setIfInBounds_toArray, List.set_cons_zero, List.set_cons_succ])))
                  refine (Konst_any f l (wrap64 (22 + tl)) c z W3 (HL.out.below HB3.out)).mono ?_
                  rw [HT.out.1]
                  obtain ⟨u, hu⟩ : ∃ k, k = konstR f.h l (tallK 22 c) c z := ⟨_, rfl⟩
                  rw [← hu]
                  have Hu := Aside0.mk hu
                  clear hu
                  obtain ⟨u1, u2⟩ := u
                  rintro ex W4 ⟨rfl, hb⟩
                  have HBW4 := Aside0.mk (bthen HB3.out hb)
                  have KFW4 := Aside0.mk (blk_below KF3.out hb)
                  have HXW4 := Aside0.mk (bthen (Below.refl _ _) hb)
                  clear hb
                  as_aux_lemma =>
                    go_wp2_with (first | ((with_reducible refine g_load (.tmp 5) rfl ?_); refine load_blk rfl (.tmp 5) rfl rfl Try.underlying36 rfl (by kernel_rfl) KFW4.out ?_; (try simp only [Act.put, List.setIfInBounds_toArray, List.set_cons_zero, List.set_cons_succ])))
                    refine (Konst_any f l (wrap64 (24 + tl)) c z W4 (HL.out.below HBW4.out)).mono ?_
                    rw [HT.out.2.1]
                    obtain ⟨v, hv⟩ : ∃ k, k = konstR f.h l (tallK 24 c) c z := ⟨_, rfl⟩
                    rw [← hv]
                    have Hv := Aside0.mk hv
                    clear hv
                    obtain ⟨v1, v2⟩ := v
                    rintro ex W5 ⟨rfl, hb⟩
                    have HBW5 := Aside0.mk (bthen HBW4.out hb)
                    have KFW5 := Aside0.mk (blk_below KFW4.out hb)
                    have HXW5 := Aside0.mk (bthen HXW4.out hb)
                    clear hb
                    as_aux_lemma =>
                      go_wp2_with (first | ((with_reducible refine g_load (.tmp 5) rfl ?_); refine load_blk rfl (.tmp 5) rfl rfl Try.underlying36 rfl (by kernel_rfl) KFW5.out ?_; (try simp only [Act.put, List.setIfInBounds_toArray, List.set_cons_zero, List.set_cons_succ])))
                      refine (Konst_any f l (wrap64 (26 + tl)) c z W5 (HL.out.below HBW5.out)).mono ?_
                      rw [HT.out.2.2]
                      obtain ⟨g, hg⟩ : ∃ k, k = konstR f.h l (tallK 26 c) c z := ⟨_, rfl⟩
                      rw [← hg]
                      have Hg := Aside0.mk hg
                      clear hg
                      obtain ⟨g1, g2⟩ := g
                      rintro ex W6 ⟨rfl, hb⟩
                      have HBW6 := Aside0.mk (bthen HBW5.out hb)
                      have KFW6 := Aside0.mk (blk_below KFW5.out hb)
                      have HXW6 := Aside0.mk (bthen HXW5.out hb)
                      clear hb
                      as_aux_lemma =>
                        go_upto_region 12 with fail
                        obtain ⟨x1, x, x2, y2, WW, HH, DD, hrb, h22, h24, h26, l1, l2, l3, l4⟩ := atop_law (h := f.h) (l := l) (c := c) (z := z) (n := n) (d := d) (by rw [← HC.out])
                        rw [← HC.out] at hrb
                        rw [← Hu.out] at h22 l2 l4
                        rw [← Hv.out] at h24 l3 l4
                        rw [← Hg.out] at h26 l1 l4
                        simp only at hrb h22 h24 h26 l1 l2 l3 l4
                        subst hrb h22 h24 h26
                        have HA6 := HA3.out.below HXW6.out
                        obtain ⟨ad, A9, c9, hA, _, p1, _⟩ := kidC_cells HA6.r 0 (by simp)
                        obtain ⟨ad', A9', c9', hA', _, p2, _⟩ := kidC_cells HA6.r 1 (by simp)
                        have hAA : some ad = some ad' := hA.symm.trans hA'
                        injection hAA with hAA
                        subst hAA
                        subst hA
                        have hc : 2 ≤ c2 := by simpa using HA6.c
                        have q1 : W6.cell? ⟨ad.block, ad.off + 1, none⟩ = some (.int .i64 x) := by simpa [Addr.add_zero', Addr.add, rd_T49] using p1
                        have q2 : W6.cell? ⟨ad.block, ad.off + 9 + 1, none⟩ = some (.int .i64 y2) := by simpa [Addr.add_zero', Addr.add, rd_T49, Nat.add_assoc] using p2
                        have r6 : W6.cell? ⟨br, 6, none⟩ = some (.slice (some ad) 2 c2) := (blk_cell (blk_below KR.out HXW6.out) 6).trans rfl
                        have n3 : W6.cell? ⟨bn, 3, none⟩ = some (.int .i64 n.f3) := (blk_cell (blk_below KN3.out HXW6.out) 3).trans rfl
                        have d2 : W6.cell? ⟨bd, 2, none⟩ = some (.int .i64 d.f2) := (blk_cell (blk_below KD3.out HXW6.out) 2).trans rfl
                        rw [Int.zero_sub] at l1 l3 l4
                        have L1 := Aside0.mk l1
                        have L2 := Aside0.mk l2
                        have L3 := Aside0.mk l3
                        have L4 := Aside0.mk l4
                        clear p1 p2 hA' l1 l2 l3 l4 HA6 HC Hu Hv Hg HT HL HA3 KR KN3 KD3 KF3 KFW4 KFW5 KFW6 HBW4 HBW5 HXW4 HXW5 HXW6 HB3
                        go_upto_region 17 with fail
                        obtain ⟨y, hy⟩ : ∃ y, y = wrap64 (-y2) := ⟨_, rfl⟩
                        rw [← hy] at L1 L3 L4 ⊢
                        obtain ⟨bt, hbt⟩ : ∃ b, b = wrap64 (wrap64 (wrap64 (x - n.f3) - d.f2) + y) := ⟨_, rfl⟩
                        rw [← hbt] at L1 L4 ⊢
                        clear hy hbt q1 q2 r6 n3 d2 hc
                        have m1 : ¬ bt < g1 := Int.not_lt.2 L1.out
                        have m2 : ¬ x < u1 := Int.not_lt.2 L2.out
                        have m3 : ¬ y < v1 := Int.not_lt.2 L3.out
                        go_upto_region 19 with fail
                        clear m1 m2 m3
                        by_cases hq : x = u1 ∧ y = v1
                        · obtain ⟨h1, h2⟩ := hq
                          subst h1 h2
                          go_wp2_with fail
                          refine (piled_any _).mono ?_
                          rintro ex W7 ⟨rfl, hb7⟩
                          have HB7 := Aside0.mk (bthen HBW6.out hb7)
                          clear hb7
                          go_wp2
                          go_ret
                          exact ⟨rfl, HB7.out⟩
                        · have l5 := L4.out.resolve_left hq
                          obtain ⟨e1, e2, e3⟩ := l5
                          have E2 := Aside0.mk e2
                          have E3 := Aside0.mk e3
                          subst e1
                          clear e2 e3 L1 L2 L3 L4
                          by_cases h1 : x = u1
                          · have h2 : ¬ y = v1 := fun h => hq ⟨h1, h⟩
                            have b1 : (x == u1) = true := by rw [beq_iff_eq]; exact h1
                            have b2 : (y == v1) = false := by rw [beq_eq_false_iff_ne]; exact h2
                            clear hq h1 h2
                            go_upto_region 21 with fail
                            go_wp2_with fail
                            refine (piled_any _).mono ?_
                            rintro ex W7 ⟨rfl, hb7⟩
                            have HB7 := Aside0.mk (bthen HBW6.out hb7)
                            clear hb7
                            have e2 := E2.out
                            have e3 := E3.out
                            go_wp2
                            go_ret
                            exact ⟨rfl, HB7.out⟩
                          · have b1 : (x == u1) = false := by rw [beq_eq_false_iff_ne]; exact h1
                            clear hq h1
                            go_upto_region 21 with fail
                            go_wp2_with fail
                            refine (piled_any _).mono ?_
                            rintro ex W7 ⟨rfl, hb7⟩
                            have HB7 := Aside0.mk (bthen HBW6.out hb7)
                            clear hb7
                            have e2 := E2.out
                            have e3 := E3.out
                            go_wp2
                            go_ret
                            exact ⟨rfl, HB7.out⟩
          · have be : (re != 0) = true := by rw [bne_iff_ne]; exact he
            have h6 : rb = z39 := by have := atop_err (h := f.h) (l := l) (c := c) (z := z) (n := n) (d := d) (by rw [← HC.out]; exact he); rw [← HC.out] at this; exact this
            have KR5 : Aside0 (W3.heap[br]? = some (.cells #[.int .i64 0, .int .i64 0, .int .i64 0, .int .i64 0, .int .i64 0, .int .i64 0, .slice A2 0 c2] 39 (0, 0))) := ⟨by have := KR.out; rw [h6] at this; exact this⟩
            clear h6 he HC HL HA3 KR KN3 KD3 KF3
            go_wp2_with fail
            refine (piled_any W3).mono ?_
            rintro ex W5 ⟨rfl, hb5⟩
            have r6 : W5.cell? ⟨br, 6, none⟩ = some (.slice A2 0 c2) := (blk_cell (blk_below KR5.out hb5) 6).trans rfl
            have HB5 := Aside0.mk (bthen HB3.out hb5)
            clear hb5
            go_wp2
            go_ret
            exact ⟨rfl, HB5.out⟩
end Go.Proofs.Ytfbiahlogclkbaa.H
