/- The walk of StackCenter. No condition is added. -/
import Derived.Test.YtfbiahlogclkbaaPilA
import Derived.Test.YtfbiahlogclkbaaFewA
import Derived.Test.YtfbiahlogclkbaaLawA
import Derived.Test.YtfbiahlogclkbaaLitC
set_option linter.unusedVariables false
set_option linter.unusedSimpArgs false
namespace Go.Proofs.Ytfbiahlogclkbaa.H
open Go.RowKit Go.Proofs.YtfbiahlogclkbaaW.PrintWords Go.Proofs.YtfbiahlogclkbaaW.PrintLast Go.Proofs.YtfbiahlogclkbaaW.PrintMore Go.Proofs.Ytfbiahlogclkbaa.P

/-- What can be read is in blocks of its world. -/
theorem BoxC.at {w : World} {x : Bx} {A : Option Addr} {c : Nat} (h : BoxC w x A c) : BoxAt w (fun k => k < w.heap.size) x A c :=
  ⟨fun W' hW => heapKid.C (fun k hk => hW k hk hk) h.r, h.c⟩
set_option maxHeartbeats 4000000 in
set_option maxRecDepth 100000 in
theorem centerLaw_any (f : FV) (c z : Int) (b : Bx) (A : Option Addr) (cb : Nat) (w : World) (hf : FontAt w f) (hb : BoxC w b A cb) :
    Calls Try.prog 6 #[f.v, .int .i64 c, .int .i64 z, boxV b A cb] w fun e w' => e = .returned (.bool true) ∧ Below w.heap.size w w' := by
  obtain ⟨l, hl⟩ := hf.konst
  obtain ⟨r, hr⟩ := few26_any f b b A A cb cb w hf hb hb
  have HL := Aside0.mk hl
  have HR := Aside0.mk hr
  have HX := Aside0.mk hb
  clear hl hr hf hb
  go_enter Try.func6, Try.ntmps6
  go_upto_region 1 with fail
  obtain ⟨W0, hW0⟩ : ∃ W0 : World, W0 = (w.alloc (.cells f.cells 36)).alloc (.cells (boxL b A cb).toArray 39) := ⟨_, rfl⟩
  have HB0 : Aside0 (Below w.heap.size w W0) := ⟨by rw [hW0]; exact below_alloc (below_alloc (Below.refl _ _) _) _⟩
  have KF : Aside0 (W0.heap[w.heap.size]? = some (.cells f.cells 36 (0, 0))) := ⟨by rw [hW0]; exact blk_alloc (blk_new _ _) _⟩
  have KB : Aside0 (W0.heap[w.heap.size + 1]? = some (.cells (boxL b A cb).toArray 39 (0, 0))) := ⟨by rw [hW0]; exact blk_new' (World.size_alloc _ _)⟩
  rw [← hW0]
  obtain ⟨bf, hbf⟩ : ∃ x, x = w.heap.size := ⟨_, rfl⟩
  obtain ⟨bb, hbb⟩ : ∃ x, x = w.heap.size + 1 := ⟨_, rfl⟩
  rw [← hbb] at KB ⊢
  rw [← hbf] at KF ⊢
  clear hW0 hbb
  have HBF := Aside0.mk hbf
  clear hbf
  as_aux_lemma =>
    go_wp2_with (first | ((with_reducible refine g_load (.tmp 4) rfl ?_); refine load_blk rfl (.tmp 4) rfl rfl Try.underlying36 rfl (by kernel_rfl) KF.out ?_; (try simp only [Act.put, List.setIfInBounds_toArray, List.set_cons_zero, List.set_cons_succ])) | ((with_reducible refine g_load (.tmp 7) rfl ?_); refine load_blk rfl (.tmp 7) rfl rfl Try.underlying39 rfl (by kernel_rfl) KB.out ?_; (try simp only [Act.put, List.setIfInBounds_toArray, List.set_cons_zero, List.set_cons_succ])))
    refine (HR.out W0 HB0.out).mono ?_
    rintro ex W1 ⟨rfl, hb1⟩
    have HB1 := Aside0.mk (bthen HB0.out hb1)
    have KF1 := Aside0.mk (blk_below KF.out hb1)
    have KB1 := Aside0.mk (blk_below KB.out hb1)
    clear hb1 KF KB HB0
    cases r with
    | false =>
      go_wp2
      go_ret
      exact ⟨rfl, HB1.out⟩
    | true =>
      as_aux_lemma =>
        go_wp2_with (first | ((with_reducible refine g_load (.tmp 4) rfl ?_); refine load_blk rfl (.tmp 4) rfl rfl Try.underlying36 rfl (by kernel_rfl) KF1.out ?_; (try simp only [Act.put, List.setIfInBounds_toArray, List.set_cons_zero, List.set_cons_succ])) | ((with_reducible refine g_load (.tmp 7) rfl ?_); refine load_blk rfl (.tmp 7) rfl rfl Try.underlying39 rfl (by kernel_rfl) KB1.out ?_; (try simp only [Act.put, List.setIfInBounds_toArray, List.set_cons_zero, List.set_cons_succ])))
        refine (Center_any (fun k => k < w.heap.size) f l c z b A cb W1 (HL.out.below HB1.out) (HX.out.at.below HB1.out) (fun k hk => Nat.lt_of_lt_of_le hk HB1.out.size)).mono ?_
        obtain ⟨r, hr⟩ : ∃ r, r = centerR f.h l c z b := ⟨_, rfl⟩
        rw [← hr]
        have HC := Aside0.mk hr
        clear hr
        obtain ⟨rb, re⟩ := r
        rintro ex W2 ⟨A2, c2, rfl, hA2, hb2⟩
        have HA2 := Aside0.mk hA2.C
        have HB2 := Aside0.mk hb2
        clear hA2 hb2
        go_upto_region 4 with (first | ((with_reducible refine g_store (.tmp 9) rfl ?_); refine store_blk rfl (.tmp 9) (.tmp 27) rfl rfl rfl (by kernel_rfl) (by kernel_rfl) rfl (blk_new _ _) rfl ?_; intro W3 hw hf hg; have hwW3 := Aside0.mk hw; have hbW3 := Aside0.mk (store_below hg); clear hw hf hg; (try simp only [Act.put, List.setIfInBounds_toArray, List.set_cons_zero, List.set_cons_succ])))
        have KR : Aside0 (W3.heap[W2.heap.size]? = some (.cells (boxL rb A2 c2).toArray 39 (0, 0))) := ⟨hwW3.out⟩
        obtain ⟨br, hbr⟩ : ∃ x, x = W2.heap.size := ⟨_, rfl⟩
        rw [← hbr] at KR ⊢
        have hx := bthen HB2.out hbW3.out
        have KF3 := Aside0.mk (blk_below KF1.out hx)
        have KB3 := Aside0.mk (blk_below KB1.out hx)
        have HA3 := Aside0.mk (HA2.out.below hbW3.out)
        have HB3 := Aside0.mk (bthen HB1.out hx)
        clear hwW3 hbW3 hx hbr KF1 KB1 HA2 HB1 HB2
        as_aux_lemma =>
          go_wp2_with (first | ((with_reducible refine g_load (.tmp 4) rfl ?_); refine load_blk rfl (.tmp 4) rfl rfl Try.underlying36 rfl (by kernel_rfl) KF3.out ?_; (try simp only [Act.put, List.setIfInBounds_toArray, List.set_cons_zero, List.set_cons_succ])))
          refine (Konst_any f l 5 c z W3 (HL.out.below HB3.out)).mono ?_
          obtain ⟨k, hk⟩ : ∃ k, k = konstR f.h l 5 c z := ⟨_, rfl⟩
          rw [← hk]
          have HK := Aside0.mk hk
          clear hk
          obtain ⟨ka, ke⟩ := k
          rintro ex W4 ⟨rfl, hb4⟩
          have KR4 := Aside0.mk (blk_below KR.out hb4)
          have KB4 := Aside0.mk (blk_below KB3.out hb4)
          have HA4 := Aside0.mk (HA3.out.below hb4)
          have HB4 := Aside0.mk (bthen HB3.out hb4)
          clear hb4 KR KB3 HA3 HB3 KF3
          go_upto_region 5 with fail
          as_aux_lemma =>
            by_cases he : re = 0
            · subst he
              have hl := center_law (h := f.h) (l := l) (c := c) (z := z) (b := b) (by rw [← HC.out])
              rw [← HC.out, ← HK.out] at hl
              obtain ⟨hk0, y, H, D, hrb, hy, hab⟩ := hl
              simp only at hk0 hrb hab
              subst hk0 hrb
              obtain ⟨ad, A9, c9, hA, p0, p1, _⟩ := kidC_cells HA4.out.r 0 (by simp)
              subst hA
              have hc : 1 ≤ c2 := by simpa using HA4.out.c
              have q0 : W4.cell? ad = some (.int .i64 0) := by simpa [Addr.add_zero', rd_T49] using p0
              have q1 : W4.cell? ⟨ad.block, ad.off + 1, none⟩ = some (.int .i64 y) := by simpa [Addr.add_zero', rd_T49] using p1
              have r1 : W4.cell? ⟨br, 1, none⟩ = some (.int .i64 b.f1) := (blk_cell KR4.out 1).trans rfl
              have r6 : W4.cell? ⟨br, 6, none⟩ = some (.slice (some ad) 1 c2) := (blk_cell KR4.out 6).trans rfl
              obtain ⟨⟨d0, d1, d2, d3, d4, d5, d6⟩, _⟩ := blk7 KB4.out
              have HY := Aside0.mk hy
              have HAB := Aside0.mk hab
              clear p0 p1 hy hab KR4 KB4 HA4 HC HK HL HR HX d0 d4 d5 d6
              as_aux_lemma =>
                go_upto_region 12 with fail
                obtain ⟨p, hp⟩ : ∃ p, p = wrap64 (wrap64 (y + b.f2) - ka) := ⟨_, rfl⟩
                obtain ⟨q, hq⟩ : ∃ q, q = wrap64 (ka - wrap64 (y - b.f3)) := ⟨_, rfl⟩
                rw [← hp, ← hq] at HAB ⊢
                clear q0 q1 r1 r6 d1 d2 d3 hp hq hc
                go_wp2_with fail
                refine (piled_any W4).mono ?_
                rintro ex W5 ⟨rfl, hb5⟩
                have HB5 := Aside0.mk (bthen HB4.out hb5)
                clear hb5
                go_wp2_with fail
                refine (Is_any _ 1 [y] _ (C_lit W5 _ [y] _ _ rfl rfl (by simp)) (by simp)).mono ?_
                rintro ex W6 ⟨rfl, hb6⟩
                have HB6 := Aside0.mk (bthen HB5.out (below1 _ hb6))
                have hyl : allLen [y] = true := by simp [allLen, HY.out]
                rw [hyl]
                clear hb6 hyl
                by_cases h1 : p = q
                · subst h1
                  go_wp2
                  go_ret
                  exact ⟨rfl, HB6.out⟩
                · have hb1 : (p == q) = false := by rw [beq_eq_false_iff_ne]; exact h1
                  have hb2 : (p == wrap64 (q + 1)) = true := by rw [beq_iff_eq]; exact HAB.out.resolve_left h1
                  clear h1
                  go_wp2
                  go_ret
                  exact ⟨rfl, HB6.out⟩
            · have be : (re != 0) = true := by rw [bne_iff_ne]; exact he
              have h6 : rb.f6 = [] := by have := center_err (h := f.h) (l := l) (c := c) (z := z) (b := b) (by rw [← HC.out]; exact he); rw [← HC.out] at this; exact this
              have KR5 : Aside0 (W4.heap[br]? = some (.cells #[.int .i64 rb.f0, .int .i64 rb.f1, .int .i64 rb.f2, .int .i64 rb.f3, .int .i64 rb.f4, .int .i64 rb.f5, .slice A2 0 c2] 39 (0, 0))) := ⟨by have := KR4.out; simp only [boxL, h6] at this; exact this⟩
              clear h6 he HC HK HL HR HX HA4 KR4 KB4
              go_wp2_with fail
              refine (piled_any W4).mono ?_
              rintro ex W5 ⟨rfl, hb5⟩
              have r6 : W5.cell? ⟨br, 6, none⟩ = some (.slice A2 0 c2) := (blk_cell (blk_below KR5.out hb5) 6).trans rfl
              have HB5 := Aside0.mk (bthen HB4.out hb5)
              clear hb5
              go_wp2
              go_ret
              exact ⟨rfl, HB5.out⟩
end Go.Proofs.Ytfbiahlogclkbaa.H
