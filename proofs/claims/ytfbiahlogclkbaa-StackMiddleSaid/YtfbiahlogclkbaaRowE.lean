/- The walk of StackMiddle. No condition is added. -/
import Derived.Test.YtfbiahlogclkbaaRowB
import Derived.Test.YtfbiahlogclkbaaLawB
set_option linter.unusedVariables false
set_option linter.unusedSimpArgs false
namespace Go.Proofs.Ytfbiahlogclkbaa.H
open Go.RowKit Go.Proofs.YtfbiahlogclkbaaW.PrintWords Go.Proofs.YtfbiahlogclkbaaW.PrintLast Go.Proofs.YtfbiahlogclkbaaW.PrintMore Go.Proofs.Ytfbiahlogclkbaa.P

set_option maxHeartbeats 4000000 in
set_option maxRecDepth 100000 in
theorem middleLaw_any (f : FV) (c z : Int) (n : Bx) (An : Option Addr) (cn : Nat) (d : Bx) (Ad : Option Addr) (cd : Nat) (w : World) (hf : FontAt w f) (hn : BoxC w n An cn) (hd : BoxC w d Ad cd) :
    Calls Try.prog 4 #[f.v, .int .i64 c, .int .i64 z, boxV n An cn, boxV d Ad cd] w fun e w' => e = .returned (.bool true) ∧ Below w.heap.size w w' := by
  obtain ⟨l, hl⟩ := hf.konst
  obtain ⟨r, hr⟩ := few26_any f n d An Ad cn cd w hf hn hd
  have HL := Aside0.mk hl
  have HR := Aside0.mk hr
  have HN := Aside0.mk hn
  have HD := Aside0.mk hd
  clear hl hr hf hn hd
  go_enter Try.func4, Try.ntmps4
  go_upto_region 1 with fail
  obtain ⟨W0, hW0⟩ : ∃ W0 : World, W0 = ((w.alloc (.cells f.cells 36)).alloc (.cells (boxL n An cn).toArray 39)).alloc (.cells (boxL d Ad cd).toArray 39) := ⟨_, rfl⟩
  have HB0 : Aside0 (Below w.heap.size w W0) := ⟨by rw [hW0]; exact below_alloc (below_alloc (below_alloc (Below.refl _ _) _) _) _⟩
  have KF : Aside0 (W0.heap[w.heap.size]? = some (.cells f.cells 36 (0, 0))) := ⟨by rw [hW0]; exact blk_alloc (blk_alloc (blk_new _ _) _) _⟩
  have KN : Aside0 (W0.heap[w.heap.size + 1]? = some (.cells (boxL n An cn).toArray 39 (0, 0))) := ⟨by rw [hW0]; exact blk_alloc (blk_new' (World.size_alloc _ _)) _⟩
  have KD : Aside0 (W0.heap[w.heap.size + 1 + 1]? = some (.cells (boxL d Ad cd).toArray 39 (0, 0))) := ⟨by rw [hW0]; exact blk_new' (by rw [World.size_alloc, World.size_alloc])⟩
  rw [← hW0]
  obtain ⟨bd, hbd⟩ : ∃ x, x = w.heap.size + 1 + 1 := ⟨_, rfl⟩
  rw [← hbd] at KD ⊢
  obtain ⟨bn, hbn⟩ : ∃ x, x = w.heap.size + 1 := ⟨_, rfl⟩
  rw [← hbn] at KN ⊢
  clear hW0 hbd hbn
  as_aux_lemma =>
    go_wp2_with (first | ((with_reducible refine g_load (.tmp 5) rfl ?_); refine load_blk rfl (.tmp 5) rfl rfl Try.underlying36 rfl (by kernel_rfl) KF.out ?_; (try simp only [Act.put, List.setIfInBounds_toArray, List.set_cons_zero, List.set_cons_succ])) | ((with_reducible refine g_load (.tmp 8) rfl ?_); refine load_blk rfl (.tmp 8) rfl rfl Try.underlying39 rfl (by kernel_rfl) KN.out ?_; (try simp only [Act.put, List.setIfInBounds_toArray, List.set_cons_zero, List.set_cons_succ])) | ((with_reducible refine g_load (.tmp 9) rfl ?_); refine load_blk rfl (.tmp 9) rfl rfl Try.underlying39 rfl (by kernel_rfl) KD.out ?_; (try simp only [Act.put, List.setIfInBounds_toArray, List.set_cons_zero, List.set_cons_succ])))
    refine (HR.out W0 HB0.out).mono ?_
    rintro ex W1 ⟨rfl, hb1⟩
    have HB1 := Aside0.mk (bthen HB0.out hb1)
    have KF1 := Aside0.mk (blk_below KF.out hb1)
    have KN1 := Aside0.mk (blk_below KN.out hb1)
    have KD1 := Aside0.mk (blk_below KD.out hb1)
    clear hb1 KF KN KD HB0
    cases r with
    | false =>
      go_wp2
      go_ret
      exact ⟨rfl, HB1.out⟩
    | true =>
      as_aux_lemma =>
        go_wp2_with (first | ((with_reducible refine g_load (.tmp 5) rfl ?_); refine load_blk rfl (.tmp 5) rfl rfl Try.underlying36 rfl (by kernel_rfl) KF1.out ?_; (try simp only [Act.put, List.setIfInBounds_toArray, List.set_cons_zero, List.set_cons_succ])) | ((with_reducible refine g_load (.tmp 8) rfl ?_); refine load_blk rfl (.tmp 8) rfl rfl Try.underlying39 rfl (by kernel_rfl) KN1.out ?_; (try simp only [Act.put, List.setIfInBounds_toArray, List.set_cons_zero, List.set_cons_succ])) | ((with_reducible refine g_load (.tmp 9) rfl ?_); refine load_blk rfl (.tmp 9) rfl rfl Try.underlying39 rfl (by kernel_rfl) KD1.out ?_; (try simp only [Act.put, List.setIfInBounds_toArray, List.set_cons_zero, List.set_cons_succ])))
        refine (Frac_any (fun k => k < w.heap.size) f l c z n d An Ad cn cd W1 (HL.out.below HB1.out) (HN.out.at.below HB1.out) (HD.out.at.below HB1.out) (fun k hk => Nat.lt_of_lt_of_le hk HB1.out.size)).mono ?_
        obtain ⟨r, hr⟩ : ∃ r, r = fracR f.h l c z n d := ⟨_, rfl⟩
        rw [← hr]
        have HC := Aside0.mk hr
        clear hr
        obtain ⟨rb, re⟩ := r
        rintro ex W2 ⟨A2, c2, rfl, hA, hb⟩
        have HA2 := Aside0.mk hA.C
        have HB2' := Aside0.mk hb
        clear hA hb
        go_upto_region 4 with (first | ((with_reducible refine g_store (.tmp 11) rfl ?_); refine store_blk rfl (.tmp 11) (.tmp 31) rfl rfl rfl (by kernel_rfl) (by kernel_rfl) rfl (blk_new _ _) rfl ?_; intro W3 hw hf hg; have hwW3 := Aside0.mk hw; have hbW3 := Aside0.mk (store_below hg); clear hw hf hg; (try simp only [Act.put, List.setIfInBounds_toArray, List.set_cons_zero, List.set_cons_succ])))
        have KR : Aside0 (W3.heap[W2.heap.size]? = some (.cells (boxL rb A2 c2).toArray 39 (0, 0))) := ⟨hwW3.out⟩
        obtain ⟨br, hbr⟩ : ∃ x, x = W2.heap.size := ⟨_, rfl⟩
        rw [← hbr] at KR ⊢
        have hx := bthen HB2'.out hbW3.out
        have KF3 := Aside0.mk (blk_below KF1.out hx)
        have KN3 := Aside0.mk (blk_below KN1.out hx)
        have KD3 := Aside0.mk (blk_below KD1.out hx)
        have HA3 := Aside0.mk (HA2.out.below hbW3.out)
        have HB3 := Aside0.mk (bthen HB1.out hx)
        clear hwW3 hbW3 hx hbr KF1 KN1 KD1 HA2 HB1 HB2'
        as_aux_lemma =>
          go_wp2_with (first | ((with_reducible refine g_load (.tmp 5) rfl ?_); refine load_blk rfl (.tmp 5) rfl rfl Try.underlying36 rfl (by kernel_rfl) KF3.out ?_; (try simp only [Act.put, List.setIfInBounds_toArray, List.set_cons_zero, List.set_cons_succ])) | ((with_reducible refine g_load (.tmp 8) rfl ?_); refine load_blk rfl (.tmp 8) rfl rfl Try.underlying39 rfl (by kernel_rfl) KN3.out ?_; (try simp only [Act.put, List.setIfInBounds_toArray, List.set_cons_zero, List.set_cons_succ])) | ((with_reducible refine g_load (.tmp 9) rfl ?_); refine load_blk rfl (.tmp 9) rfl rfl Try.underlying39 rfl (by kernel_rfl) KD3.out ?_; (try simp only [Act.put, List.setIfInBounds_toArray, List.set_cons_zero, List.set_cons_succ])))
          refine (Atop_any (fun k => k < w.heap.size) f l c z n d An Ad cn cd W3 (HL.out.below HB3.out) (HN.out.at.below HB3.out) (HD.out.at.below HB3.out) (fun k hk => Nat.lt_of_lt_of_le hk HB3.out.size)).mono ?_
          obtain ⟨r, hr⟩ : ∃ r, r = atopR f.h l c z n d := ⟨_, rfl⟩
          rw [← hr]
          have HE := Aside0.mk hr
          clear hr
          obtain ⟨sb, se⟩ := r
          rintro ex W4 ⟨A4, c4, rfl, hA, hb⟩
          have HA4 := Aside0.mk hA.C
          have HB4' := Aside0.mk hb
          clear hA hb
          go_upto_if 43 with (first | ((with_reducible refine g_store (.tmp 13) rfl ?_); refine store_blk rfl (.tmp 13) (.tmp 40) rfl rfl rfl (by kernel_rfl) (by kernel_rfl) rfl (blk_new _ _) rfl ?_; intro W5 hw hf hg; have hwW5 := Aside0.mk hw; have hbW5 := Aside0.mk (store_below hg); clear hw hf hg; (try simp only [Act.put, List.setIfInBounds_toArray, List.set_cons_zero, List.set_cons_succ])))
          have KS : Aside0 (W5.heap[W4.heap.size]? = some (.cells (boxL sb A4 c4).toArray 39 (0, 0))) := ⟨hwW5.out⟩
          obtain ⟨bs, hbs⟩ : ∃ x, x = W4.heap.size := ⟨_, rfl⟩
          rw [← hbs] at KS ⊢
          have hx := bthen HB4'.out hbW5.out
          have KR5 := Aside0.mk (blk_below KR.out hx)
          have KN5 := Aside0.mk (blk_below KN3.out hx)
          have KD5 := Aside0.mk (blk_below KD3.out hx)
          have HA5 := Aside0.mk (HA3.out.below hx)
          have HS5 := Aside0.mk (HA4.out.below hbW5.out)
          have HB5 := Aside0.mk (bthen HB3.out hx)
          have n1 : W5.cell? ⟨bn, 1, none⟩ = some (.int .i64 n.f1) := (blk_cell KN5.out 1).trans rfl
          have d1 : W5.cell? ⟨bd, 1, none⟩ = some (.int .i64 d.f1) := (blk_cell KD5.out 1).trans rfl
          obtain ⟨wd, hwd⟩ : ∃ x, x = max n.f1 d.f1 := ⟨_, rfl⟩
          have HWD := Aside0.mk hwd
          clear hwd
          clear hwW5 hbW5 hx hbs KR KF3 KN3 KD3 HA3 HA4 HB3 HB4' HL HR HN HD KN5 KD5
          as_aux_lemma =>
            go_cut [15] (fun v wc => Aside0 (wc = W5))
            case first =>
              by_cases he : re = 0
              · subst he
                obtain ⟨x, up, k2, k3, H, D, hrb, hin, hle⟩ := frac_mid (h := f.h) (l := l) (c := c) (z := z) (n := n) (d := d) (by rw [← HC.out])
                rw [← HC.out] at hrb
                rw [← HWD.out] at hrb hin hle
                simp only at hrb
                subst hrb
                obtain ⟨ad, A9, c9, hA, p0, _⟩ := kidC_cells HA5.out.r 0 (by simp)
                subst hA
                have hc : 3 ≤ c2 := by simpa using HA5.out.c
                have q0 : W5.cell? ad = some (.int .i64 x) := by simpa [Addr.add_zero', Addr.add, rd_T49] using p0
                have r1 : W5.cell? ⟨br, 1, none⟩ = some (.int .i64 wd) := (blk_cell KR5.out 1).trans rfl
                have r6 : W5.cell? ⟨br, 6, none⟩ = some (.slice (some ad) 3 c2) := (blk_cell KR5.out 6).trans rfl
                have HIN := Aside0.mk hin.1
                have h1 : ¬ wd < n.f1 := Int.not_lt.2 hin.2
                have h2 : ¬ wd < d.f1 := Int.not_lt.2 hle
                clear p0 hin hle HC HE HA5 HS5 KR5 KS HWD HB5
                go_upto_region 10 with fail
                obtain ⟨p, hp⟩ : ∃ p, p = wrap64 (wrap64 (wd - n.f1) - x) := ⟨_, rfl⟩
                rw [← hp] at HIN ⊢
                clear hp
                by_cases h3 : p = x
                · subst h3
                  go_wp2
                  go_meet
                  case rel => exact ⟨rfl⟩
                · have b3 : (p != x) = true := by rw [bne_iff_ne]; exact h3
                  have b4 : (p != wrap64 (x + 1)) = false := by rw [HIN.out.resolve_left h3]; simp
                  clear h3
                  go_wp2
                  go_meet
                  case rel => exact ⟨rfl⟩
              · have be : (re == 0) = false := by rw [beq_eq_false_iff_ne]; exact he
                clear he
                go_wp2
                go_meet
                case rel => exact ⟨rfl⟩
            case rest =>
              have hw := hcut.out.symm
              subst hw
              as_aux_lemma =>
                go_upto_if 84 with fail
                go_cut [17] (fun v wc => Aside0 (wc = W5))
                case first =>
                  by_cases he : se = 0
                  · subst he
                    obtain ⟨x, dn, k1, H, D, hrb, hin, hle⟩ := atop_mid (h := f.h) (l := l) (c := c) (z := z) (n := n) (d := d) (by rw [← HE.out])
                    rw [← HE.out] at hrb
                    rw [← HWD.out] at hrb hin hle
                    simp only at hrb
                    subst hrb
                    obtain ⟨ad, A9, c9, hA, p0, _⟩ := kidC_cells HS5.out.r 1 (by simp)
                    subst hA
                    have hc : 2 ≤ c4 := by simpa using HS5.out.c
                    have q0 : W5.cell? ⟨ad.block, ad.off + 9, none⟩ = some (.int .i64 x) := by simpa [Addr.add_zero', Addr.add, rd_T49] using p0
                    have r1 : W5.cell? ⟨bs, 1, none⟩ = some (.int .i64 wd) := (blk_cell KS.out 1).trans rfl
                    have r6 : W5.cell? ⟨bs, 6, none⟩ = some (.slice (some ad) 2 c4) := (blk_cell KS.out 6).trans rfl
                    have HIN := Aside0.mk hin.1
                    have h1 : ¬ wd < d.f1 := Int.not_lt.2 hin.2
                    have h2 : ¬ wd < n.f1 := Int.not_lt.2 hle
                    clear p0 hin hle HC HE HA5 HS5 KR5 KS HWD HB5
                    go_upto_region 17 with fail
                    obtain ⟨p, hp⟩ : ∃ p, p = wrap64 (wrap64 (wd - d.f1) - x) := ⟨_, rfl⟩
                    rw [← hp] at HIN ⊢
                    clear hp
                    by_cases h3 : p = x
                    · subst h3
                      go_wp2
                      go_meet
                      case rel => exact ⟨rfl⟩
                    · have b3 : (p != x) = true := by rw [bne_iff_ne]; exact h3
                      have b4 : (p != wrap64 (x + 1)) = false := by rw [HIN.out.resolve_left h3]; simp
                      clear h3
                      go_wp2
                      go_meet
                      case rel => exact ⟨rfl⟩
                  · have be : (se == 0) = false := by rw [beq_eq_false_iff_ne]; exact he
                    clear he
                    go_wp2
                    go_meet
                    case rel => exact ⟨rfl⟩
                case rest =>
                  have hw := hcut.out.symm
                  subst hw
                  go_wp2_with fail
                  refine (piled_any _).mono ?_
                  rintro ex W6 ⟨rfl, hb6⟩
                  have HB6 := bthen HB5.out hb6
                  clear hb6
                  go_wp2
                  go_ret
                  exact ⟨rfl, HB6⟩
end Go.Proofs.Ytfbiahlogclkbaa.H
