/- vinculumlaw26's piled: it is so. No condition is added. -/
import Derived.Test.YtfbiahlogclkbaaSamA
import Derived.Test.YtfbiahlogclkbaaBlkA
import Derived.Test.YtfbiahlogclkbaaPilV
set_option linter.unusedVariables false
set_option linter.unusedSimpArgs false
namespace Go.Proofs.Ytfbiahlogclkbaa.H
open Go.RowKit Go.Proofs.YtfbiahlogclkbaaW.PrintWords Go.Proofs.YtfbiahlogclkbaaW.PrintLast Go.Proofs.YtfbiahlogclkbaaW.PrintMore Go.Proofs.Ytfbiahlogclkbaa.P

def pilF (b : Nat) : FV := ⟨pilH, 0, ⟨none, 0, 0⟩, ⟨none, 0, 0⟩, ⟨none, 0, 0⟩, ⟨some ⟨b, 0, none⟩, 56, 56⟩, ⟨none, 0, 0⟩, ⟨none, 0, 0⟩, ⟨none, 0, 0⟩, ⟨none, 0, 0⟩, ⟨none, 0, 0⟩, ⟨none, 0, 0⟩⟩
theorem pilFrac_any (b : Nat) (w : World) (hf : (pilF b).Konst w pilL) : Calls Try.prog 14 #[(pilF b).v, .int .i64 0, .int .i64 1000, boxV pilN none 0, boxV pilD none 0] w fun e w' => ∃ A c, e = .returned (.tuple #[boxV pilW A c, .int .i64 0]) ∧ BoxC w' pilW A c ∧ Below w.heap.size w w' := by
  have h := Frac_any (fun k => k < w.heap.size) (pilF b) pilL 0 1000 pilN pilD none none 0 0 w hf (BoxAt.nil _ _ _ rfl) (BoxAt.nil _ _ _ rfl) (fun k h => h)
  rw [show fracR (pilF b).h pilL 0 1000 pilN pilD = (pilW, 0) from pil_frac] at h
  refine h.mono ?_
  rintro e w' ⟨A, c, rfl, hA, hb⟩
  exact ⟨A, c, rfl, hA.C, hb⟩
theorem pilCenter_any (b : Nat) (w : World) (hf : (pilF b).Konst w pilL) : Calls Try.prog 18 #[(pilF b).v, .int .i64 2, .int .i64 1000, boxV pilN none 0] w fun e w' => ∃ A c, e = .returned (.tuple #[boxV pilC A c, .int .i64 0]) ∧ BoxC w' pilC A c ∧ Below w.heap.size w w' := by
  have h := Center_any (fun k => k < w.heap.size) (pilF b) pilL 2 1000 pilN none 0 w hf (BoxAt.nil _ _ _ rfl) (fun k h => h)
  rw [show centerR (pilF b).h pilL 2 1000 pilN = (pilC, 0) from pil_center] at h
  refine h.mono ?_
  rintro e w' ⟨A, c, rfl, hA, hb⟩
  exact ⟨A, c, rfl, hA.C, hb⟩
theorem pilAtop_any (b : Nat) (w : World) (hf : (pilF b).Konst w pilL) : Calls Try.prog 16 #[(pilF b).v, .int .i64 8, .int .i64 1000, boxV pilN none 0, boxV pilD none 0] w fun e w' => ∃ x A c, e = .returned (.tuple #[boxV x A c, .int .i64 1]) ∧ Below w.heap.size w w' := by
  refine (Atop_any (fun k => k < w.heap.size) (pilF b) pilL 8 1000 pilN pilD none none 0 0 w hf (BoxAt.nil _ _ _ rfl) (BoxAt.nil _ _ _ rfl) (fun k h => h)).mono ?_
  rintro e w' ⟨A, c, rfl, hA, hb⟩
  refine ⟨(atopR (pilF b).h pilL 8 1000 pilN pilD).1, A, c, ?_, hb⟩
  rw [show (atopR (pilF b).h pilL 8 1000 pilN pilD).2 = 1 from pil_atop]
set_option maxHeartbeats 4000000 in
set_option maxRecDepth 100000 in
theorem piled_any (w : World) : Calls Try.prog 20 #[] w fun e w' => e = .returned (.bool true) ∧ Below w.heap.size w w' := by
  have hmk : ∀ W : World, (Instr.makeSlice 27 (.int .i64 56) (.int .i64 56)).run Try.prog W = .ok (.slice (some ⟨W.heap.size, 0, none⟩) 56 56) (W.alloc (.cells (madeCells #[.int .i64 0] 56) 3)) := print_make 27 3 .i64 8 Try.underlying27 (by kernel_rfl) (by decide) 56 (by decide)
  go_enter Try.func20, Try.ntmps20
  go_upto_region 2 with fail
  clear hmk
  obtain ⟨W1, hW1⟩ : ∃ W1, W1 = w.alloc (.cells (madeCells #[.int .i64 0] 56) 3) := ⟨_, rfl⟩
  rw [← hW1]
  have hM : W1.heap[w.heap.size]? = some (.cells (nums .i64 (List.replicate 56 0)).toArray 3 (0, 0)) := by rw [hW1]; exact (blk_new _ _).trans (by kernel_rfl)
  have hB1 : Below w.heap.size w W1 := by rw [hW1]; exact below_alloc (Below.refl _ _) _
  have c5 : W1.cell? ⟨w.heap.size, 5, none⟩ = some (.int .i64 0) := (blk_cell hM 5).trans (by kernel_rfl)
  have f5 : W1.frozen? ⟨w.heap.size, 5, none⟩ = false := blk_frozen hM 5
  have c38 : W1.cell? ⟨w.heap.size, 38, none⟩ = some (.int .i64 0) := (blk_cell hM 38).trans (by kernel_rfl)
  have f38 : W1.frozen? ⟨w.heap.size, 38, none⟩ = false := blk_frozen hM 38
  have c33 : W1.cell? ⟨w.heap.size, 33, none⟩ = some (.int .i64 0) := (blk_cell hM 33).trans (by kernel_rfl)
  have f33 : W1.frozen? ⟨w.heap.size, 33, none⟩ = false := blk_frozen hM 33
  have c37 : W1.cell? ⟨w.heap.size, 37, none⟩ = some (.int .i64 0) := (blk_cell hM 37).trans (by kernel_rfl)
  have f37 : W1.frozen? ⟨w.heap.size, 37, none⟩ = false := blk_frozen hM 37
  have c40 : W1.cell? ⟨w.heap.size, 40, none⟩ = some (.int .i64 0) := (blk_cell hM 40).trans (by kernel_rfl)
  have f40 : W1.frozen? ⟨w.heap.size, 40, none⟩ = false := blk_frozen hM 40
  have HM := Aside0.mk hM
  have HB1 := Aside0.mk hB1
  clear hM hB1 hW1
  go_upto_region 7 with fail
  obtain ⟨W2, hW2⟩ : ∃ W2, W2 = (((((W1.setCell ⟨w.heap.size, 5, none⟩ (.int .i64 250)).setCell ⟨w.heap.size, 38, none⟩ (.int .i64 40)).setCell ⟨w.heap.size, 33, none⟩ (.int .i64 300)).setCell ⟨w.heap.size, 37, none⟩ (.int .i64 100)).setCell ⟨w.heap.size, 40, none⟩ (.int .i64 100)) := ⟨_, rfl⟩
  rw [← hW2]
  have HL : Aside0 (W2.heap[w.heap.size]? = some (.cells (nums .i64 pilL).toArray 3 (0, 0))) := ⟨by rw [hW2]; exact (blk_set (blk_set (blk_set (blk_set (blk_set HM.out 5 (.int .i64 250)) 38 (.int .i64 40)) 33 (.int .i64 300)) 37 (.int .i64 100)) 40 (.int .i64 100)).trans (by kernel_rfl)⟩
  have HB2 : Aside0 (Below w.heap.size w W2) := ⟨by rw [hW2]; exact (below_own (below_own (below_own (below_own (below_own HB1.out w.heap.size 5 (Nat.le_refl _) (.int .i64 250)) w.heap.size 38 (Nat.le_refl _) (.int .i64 40)) w.heap.size 33 (Nat.le_refl _) (.int .i64 300)) w.heap.size 37 (Nat.le_refl _) (.int .i64 100)) w.heap.size 40 (Nat.le_refl _) (.int .i64 100))⟩
  clear hW2 HM HB1 c5 f5 c38 f38 c33 f33 c37 f37 c40 f40
  go_upto_region 8 with (first | ((with_reducible refine g_store (.tmp 2) rfl ?_); refine store_blk rfl (.tmp 2) (.tmp 26) rfl rfl rfl (by kernel_rfl) (by kernel_rfl) rfl (blk_new _ _) rfl ?_; intro W3 hw hf hg; have hwW3 := Aside0.mk hw; have hbW3 := Aside0.mk (store_below hg); clear hw hf hg; (try simp only [Act.put, List.setIfInBounds_toArray, List.set_cons_zero, List.set_cons_succ])))
  have KF : Aside0 (W3.heap[W2.heap.size]? = some (.cells (pilF w.heap.size).cells 36 (0, 0))) := ⟨hwW3.out⟩
  clear hwW3
  go_upto_region 9 with (first | ((with_reducible refine g_build (T := 39) rfl ?_); refine build_rule rfl (.const (.int .i64 100)) (.const (.int .i64 50)) (.const (.int .i64 20)) rfl rfl rfl rfl ?_; (try simp only [Act.put, List.setIfInBounds_toArray, List.set_cons_zero, List.set_cons_succ])) | ((with_reducible refine g_store (.tmp 3) rfl ?_); refine store_blk rfl (.tmp 3) (.tmp 27) rfl rfl rfl (by kernel_rfl) (by kernel_rfl) rfl (blk_new _ _) rfl ?_; intro W4 hw hf hg; have hwW4 := Aside0.mk hw; have hbW4 := Aside0.mk (store_below hg); clear hw hf hg; (try simp only [Act.put, List.setIfInBounds_toArray, List.set_cons_zero, List.set_cons_succ])))
  have KN : Aside0 (W4.heap[W3.heap.size]? = some (.cells (boxL pilN none 0).toArray 39 (0, 0))) := ⟨hwW4.out⟩
  clear hwW4
  go_upto_region 10 with (first | ((with_reducible refine g_store (.tmp 4) rfl ?_); refine store_blk rfl (.tmp 4) (.tmp 28) rfl rfl rfl (by kernel_rfl) (by kernel_rfl) rfl (blk_new _ _) rfl ?_; intro W5 hw hf hg; have hwW5 := Aside0.mk hw; have hbW5 := Aside0.mk (store_below hg); clear hw hf hg; (try simp only [Act.put, List.setIfInBounds_toArray, List.set_cons_zero, List.set_cons_succ])))
  have KD : Aside0 (W5.heap[W4.heap.size]? = some (.cells (boxL pilD none 0).toArray 39 (0, 0))) := ⟨hwW5.out⟩
  clear hwW5
  have KN5 := Aside0.mk (blk_below KN.out hbW5.out)
  have KF5 := Aside0.mk (blk_below (blk_below KF.out hbW4.out) hbW5.out)
  have KK5 : Aside0 ((pilF w.heap.size).Konst W5 pilL) := ⟨⟨rfl, C_at (blk_below (blk_below (blk_below HL.out hbW3.out) hbW4.out) hbW5.out) rfl (by decide), Nat.le_refl _⟩⟩
  have HB5 := Aside0.mk (bthen (bthen (bthen HB2.out hbW3.out) hbW4.out) hbW5.out)
  obtain ⟨b2, hb2⟩ : ∃ b, b = W2.heap.size := ⟨_, rfl⟩
  obtain ⟨b3, hb3⟩ : ∃ b, b = W3.heap.size := ⟨_, rfl⟩
  obtain ⟨b4, hb4⟩ : ∃ b, b = W4.heap.size := ⟨_, rfl⟩
  rw [← hb2] at KF5 ⊢
  rw [← hb3] at KN5 ⊢
  rw [← hb4] at KD ⊢
  clear KN KF HL HB2 hbW3 hbW4 hbW5 hb2 hb3 hb4
  as_aux_lemma =>
    go_wp2_with (first | ((with_reducible refine g_load (.tmp 2) rfl ?_); refine load_blk rfl (.tmp 2) rfl rfl Try.underlying36 rfl (by kernel_rfl) KF5.out ?_; (try simp only [Act.put, List.setIfInBounds_toArray, List.set_cons_zero, List.set_cons_succ])) | ((with_reducible refine g_load (.tmp 3) rfl ?_); refine load_blk rfl (.tmp 3) rfl rfl Try.underlying39 rfl (by kernel_rfl) KN5.out ?_; (try simp only [Act.put, List.setIfInBounds_toArray, List.set_cons_zero, List.set_cons_succ])) | ((with_reducible refine g_load (.tmp 4) rfl ?_); refine load_blk rfl (.tmp 4) rfl rfl Try.underlying39 rfl (by kernel_rfl) KD.out ?_; (try simp only [Act.put, List.setIfInBounds_toArray, List.set_cons_zero, List.set_cons_succ])))
    refine (pilFrac_any w.heap.size W5 KK5.out).mono ?_
    rintro ex W6 ⟨A6, c6, rfl, hA6, hb6⟩
    have hbW6 := Aside0.mk hb6
    have hCW6 := Aside0.mk hA6
    clear hb6 hA6
    go_upto_region 11 with (first | ((with_reducible refine g_store (.tmp 5) rfl ?_); refine store_blk rfl (.tmp 5) (.tmp 34) rfl rfl rfl (by kernel_rfl) (by kernel_rfl) rfl (blk_new _ _) rfl ?_; intro W7 hw hf hg; have hwW7 := Aside0.mk hw; have hbW7 := Aside0.mk (store_below hg); clear hw hf hg; (try simp only [Act.put, List.setIfInBounds_toArray, List.set_cons_zero, List.set_cons_succ])))
    have K5 : Aside0 (W7.heap[W6.heap.size]? = some (.cells (boxL pilW A6 c6).toArray 39 (0, 0))) := ⟨hwW7.out⟩
    clear hwW7
    have hb57 := bthen hbW6.out hbW7.out
    have KF7 := Aside0.mk (blk_below KF5.out hb57)
    have KN7 := Aside0.mk (blk_below KN5.out hb57)
    have KD7 := Aside0.mk (blk_below KD.out hb57)
    have KK7 := Aside0.mk (KK5.out.below hb57)
    have KC7 := Aside0.mk (hCW6.out.below hbW7.out)
    have HB7 := Aside0.mk (bthen HB5.out hb57)
    obtain ⟨b5, hb5⟩ : ∃ b, b = W6.heap.size := ⟨_, rfl⟩
    rw [← hb5] at K5 ⊢
    clear hb5 hb57 hbW6 hbW7 hCW6 KF5 KN5 KD KK5 HB5
    as_aux_lemma =>
      obtain ⟨n, hn⟩ : ∃ b, b = pilN := ⟨_, rfl⟩
      obtain ⟨d, hd⟩ : ∃ b, b = pilD := ⟨_, rfl⟩
      obtain ⟨x, hx⟩ : ∃ b, b = pilW := ⟨_, rfl⟩
      rw [← hn] at KN7
      rw [← hd] at KD7
      rw [← hx] at KC7 K5
      generalize hv1 : Value.agg (boxL pilN none 0).toArray = v1
      generalize hv2 : Value.agg (boxL pilD none 0).toArray = v2
      generalize hv3 : boxV pilW A6 c6 = v3
      have HN := Aside0.mk hn
      have HD := Aside0.mk hd
      have HX := Aside0.mk hx
      clear hn hd hx hv1 hv2 hv3
      go_upto_region 12 with (first | ((with_reducible refine g_load (.tmp 2) rfl ?_); refine load_blk rfl (.tmp 2) rfl rfl Try.underlying36 rfl (by kernel_rfl) KF7.out ?_; (try simp only [Act.put, List.setIfInBounds_toArray, List.set_cons_zero, List.set_cons_succ])) | ((with_reducible refine g_load (.tmp 3) rfl ?_); refine load_blk rfl (.tmp 3) rfl rfl Try.underlying39 rfl (by kernel_rfl) KN7.out ?_; (try simp only [Act.put, List.setIfInBounds_toArray, List.set_cons_zero, List.set_cons_succ])) | ((with_reducible refine g_load (.tmp 4) rfl ?_); refine load_blk rfl (.tmp 4) rfl rfl Try.underlying39 rfl (by kernel_rfl) KD7.out ?_; (try simp only [Act.put, List.setIfInBounds_toArray, List.set_cons_zero, List.set_cons_succ])) | ((with_reducible refine g_build (fs := #[(0, .const (.int .i64 100)), (1, .const (.int .i64 390)), (2, .tmp 36)]) rfl ?_); refine build_kid012v (p := n) (A := none) (c := 0) rfl (.const (.int .i64 100)) (.const (.int .i64 390)) (.tmp 36) rfl rfl rfl rfl ?_; intro q1 hq1; have HQ1 := Aside0.mk hq1; clear hq1; (try simp only [Act.put, List.setIfInBounds_toArray, List.set_cons_zero, List.set_cons_succ])) | ((with_reducible refine g_build (fs := #[(0, .const (.int .i64 2)), (1, .const (.int .i64 301)), (2, .const (.int .i64 270)), (3, .const (.int .i64 (-230)))]) rfl ?_); refine build_rule (i := 301) (j := 270) (k := -230) rfl (.const (.int .i64 301)) (.const (.int .i64 270)) (.const (.int .i64 (-230))) rfl rfl rfl rfl ?_; obtain ⟨rl, hrl⟩ : ∃ x, x = ruleB 301 270 (-230) := ⟨_, rfl⟩; rw [← hrl]; have HRL := Aside0.mk hrl; clear hrl; (try simp only [Act.put, List.setIfInBounds_toArray, List.set_cons_zero, List.set_cons_succ])) | ((with_reducible refine g_build (fs := #[(2, .tmp 38)]) rfl ?_); refine build_kid2v (p := rl) (A := none) (c := 0) rfl (.tmp 38) rfl (by kernel_rfl) ?_; intro q2 hq2; have HQ2 := Aside0.mk hq2; clear hq2; (try simp only [Act.put, List.setIfInBounds_toArray, List.set_cons_zero, List.set_cons_succ])) | ((with_reducible refine g_build (fs := #[(2, .tmp 40)]) rfl ?_); refine build_kid2v (p := d) (A := none) (c := 0) rfl (.tmp 40) rfl (by kernel_rfl) ?_; intro q3 hq3; have HQ3 := Aside0.mk hq3; clear hq3; (try simp only [Act.put, List.setIfInBounds_toArray, List.set_cons_zero, List.set_cons_succ])) | ((with_reducible refine g_build (fs := #[(0, .const (.int .i64 3)), (1, .const (.int .i64 301)), (2, .const (.int .i64 440)), (6, .tmp 42)]) rfl ?_); refine build_list rfl (.const (.int .i64 3)) (.const (.int .i64 301)) (.const (.int .i64 440)) (.tmp 42) rfl rfl rfl rfl rfl ?_; (try simp only [Act.put, List.setIfInBounds_toArray, List.set_cons_zero, List.set_cons_succ])) | ((with_reducible refine g_lit rfl ?_); refine lit_kid3 (p := ⟨100, 390, n⟩) (q := ⟨0, 0, rl⟩) (r := ⟨0, 0, d⟩) (A := none) (A' := none) (A'' := none) (c := 0) (c' := 0) (c'' := 0) rfl (.tmp 37) (.tmp 39) (.tmp 41) rfl HQ1.out HQ2.out HQ3.out ?_; (try simp only [Act.put, List.setIfInBounds_toArray, List.set_cons_zero, List.set_cons_succ])) | ((with_reducible refine g_store (.tmp 7) rfl ?_); refine store_blk rfl (.tmp 7) (.tmp 43) rfl rfl rfl (by kernel_rfl) (by kernel_rfl) rfl (blk_new2 (by simp)) rfl ?_; intro W8 hw hf hg; have hwW8 := Aside0.mk hw; have hbW8 : Aside0 (Below W7.heap.size W7 W8) := ⟨bthen (below_alloc (Below.refl _ _) _) (store_below' hg (by simp))⟩; have hbK8 := Aside0.mk (store_below' hg (by simp)); clear hw hf hg; (try simp only [Act.put, List.setIfInBounds_toArray, List.set_cons_zero, List.set_cons_succ])))
      obtain ⟨y, hy⟩ : ∃ y : Bx, y = ⟨3, 301, 440, 0, 0, 0, [⟨100, 390, n⟩, ⟨0, 0, rl⟩, ⟨0, 0, d⟩]⟩ := ⟨_, rfl⟩
      have HEQ : Aside0 (x = y) := ⟨by rw [HX.out, hy, HN.out, HRL.out, HD.out]; rfl⟩
      have KC8 : Aside0 (BoxC W8 y (some ⟨W7.heap.size, 0, none⟩) 3) := ⟨by rw [hy]; exact ⟨Kd.C_below (Kd.F_now (F_kid3 W7 49 (fun _ => False) ⟨100, 390, n⟩ ⟨0, 0, rl⟩ ⟨0, 0, d⟩ W7.heap.size rfl _ rfl (BoxAt.nil _ _ _ (by rw [HN.out]; rfl)) (BoxAt.nil _ _ _ (by rw [HRL.out]; rfl)) (BoxAt.nil _ _ _ (by rw [HD.out]; rfl)))) hbK8.out, Nat.le_refl _⟩⟩
      have KW : Aside0 (W8.heap[W7.heap.size + 1]? = some (.cells (boxL y (some ⟨W7.heap.size, 0, none⟩) 3).toArray 39 (0, 0))) := ⟨by rw [hy]; exact hwW8.out⟩
      obtain ⟨bw, hbw⟩ : ∃ b, b = W7.heap.size + 1 := ⟨_, rfl⟩
      rw [← hbw] at KW ⊢
      have KF8 := Aside0.mk (blk_below KF7.out hbW8.out)
      have KN8 := Aside0.mk (blk_below KN7.out hbW8.out)
      have KD8 := Aside0.mk (blk_below KD7.out hbW8.out)
      have KK8 := Aside0.mk (KK7.out.below hbW8.out)
      have KX8 := Aside0.mk (KC7.out.below hbW8.out)
      have K58 := Aside0.mk (blk_below K5.out hbW8.out)
      have HB8 := Aside0.mk (bthen HB7.out hbW8.out)
      rw [HN.out] at KN8
      rw [HD.out] at KD8
      clear hwW8 hbK8 hbW8 KF7 KN7 KD7 KK7 KC7 K5 HB7 HN HD HX HRL HQ1 HQ2 HQ3 hy hbw
      as_aux_lemma =>
        go_wp2_with (first | ((with_reducible refine g_load (.tmp 2) rfl ?_); refine load_blk rfl (.tmp 2) rfl rfl Try.underlying36 rfl (by kernel_rfl) KF8.out ?_; (try simp only [Act.put, List.setIfInBounds_toArray, List.set_cons_zero, List.set_cons_succ])) | ((with_reducible refine g_load (.tmp 3) rfl ?_); refine load_blk rfl (.tmp 3) rfl rfl Try.underlying39 rfl (by kernel_rfl) KN8.out ?_; (try simp only [Act.put, List.setIfInBounds_toArray, List.set_cons_zero, List.set_cons_succ])))
        refine (pilCenter_any w.heap.size W8 KK8.out).mono ?_
        rintro ex W9 ⟨A8, c8, rfl, hA8, hb9⟩
        have HA8 := Aside0.mk hA8
        have hb9 := Aside0.mk hb9
        clear hA8
        go_upto_region 13 with (first | ((with_reducible refine g_store (.tmp 8) rfl ?_); refine store_blk rfl (.tmp 8) (.tmp 48) rfl rfl rfl (by kernel_rfl) (by kernel_rfl) rfl (blk_new _ _) rfl ?_; intro W10 hw hf hg; have hwW10 := Aside0.mk hw; have hbW10 := Aside0.mk (store_below hg); clear hw hf hg; (try simp only [Act.put, List.setIfInBounds_toArray, List.set_cons_zero, List.set_cons_succ])))
        have K8 : Aside0 (W10.heap[W9.heap.size]? = some (.cells (boxL pilC A8 c8).toArray 39 (0, 0))) := ⟨hwW10.out⟩
        have hx := bthen hb9.out hbW10.out
        obtain ⟨b8, hb8⟩ : ∃ b, b = W9.heap.size := ⟨_, rfl⟩
        rw [← hb8] at K8 ⊢
        have KF10 := Aside0.mk (blk_below KF8.out hx)
        have KN10 := Aside0.mk (blk_below KN8.out hx)
        have KD10 := Aside0.mk (blk_below KD8.out hx)
        have KK10 := Aside0.mk (KK8.out.below hx)
        have KX10 := Aside0.mk (KX8.out.below hx)
        have K510 := Aside0.mk (blk_below K58.out hx)
        have KW10 := Aside0.mk (blk_below KW.out hx)
        have KY10 := Aside0.mk (KC8.out.below hx)
        have KC10 := Aside0.mk (HA8.out.below hbW10.out)
        have HB10 := Aside0.mk (bthen HB8.out hx)
        clear hwW10 hbW10 hb9 hx hb8 KF8 KN8 KD8 KK8 KX8 K58 KW KC8 HA8 HB8
        as_aux_lemma =>
          go_wp2_with (first | ((with_reducible refine g_load (.tmp 2) rfl ?_); refine load_blk rfl (.tmp 2) rfl rfl Try.underlying36 rfl (by kernel_rfl) KF10.out ?_; (try simp only [Act.put, List.setIfInBounds_toArray, List.set_cons_zero, List.set_cons_succ])) | ((with_reducible refine g_load (.tmp 3) rfl ?_); refine load_blk rfl (.tmp 3) rfl rfl Try.underlying39 rfl (by kernel_rfl) KN10.out ?_; (try simp only [Act.put, List.setIfInBounds_toArray, List.set_cons_zero, List.set_cons_succ])) | ((with_reducible refine g_load (.tmp 4) rfl ?_); refine load_blk rfl (.tmp 4) rfl rfl Try.underlying39 rfl (by kernel_rfl) KD10.out ?_; (try simp only [Act.put, List.setIfInBounds_toArray, List.set_cons_zero, List.set_cons_succ])))
          refine (pilAtop_any w.heap.size W10 KK10.out).mono ?_
          rintro ex W11 ⟨xx, A10, c10, rfl, hb11⟩
          have hb11 := Aside0.mk hb11
          go_upto_region 14 with (first | ((with_reducible refine g_store (.tmp 10) rfl ?_); refine store_blk rfl (.tmp 10) (.tmp 55) rfl rfl rfl (by kernel_rfl) (by kernel_rfl) rfl (blk_new _ _) rfl ?_; intro W12 hw hf hg; have hwW12 := Aside0.mk hw; have hbW12 := Aside0.mk (store_below hg); clear hw hf hg; (try simp only [Act.put, List.setIfInBounds_toArray, List.set_cons_zero, List.set_cons_succ])))
          have hx := bthen hb11.out hbW12.out
          have KX := Aside0.mk (KX10.out.below hx)
          have K5 := Aside0.mk (blk_below K510.out hx)
          have KW := Aside0.mk (blk_below KW10.out hx)
          have KY := Aside0.mk (KY10.out.below hx)
          have KC := Aside0.mk (KC10.out.below hx)
          have K8' := Aside0.mk (blk_below K8.out hx)
          have HB := Aside0.mk (bthen HB10.out hx)
          clear hwW12 hbW12 hb11 hx KF10 KN10 KD10 KK10 KX10 K510 KW10 KY10 KC10 K8 HB10
          as_aux_lemma =>
            obtain ⟨⟨k0, k1, k2, k3, k4, k5, k6⟩, _⟩ := blk7 K5.out
            obtain ⟨⟨m0, m1, m2, m3, m4, m5, m6⟩, _⟩ := blk7 KW.out
            go_wp2_with fail
            refine (Same_any x y _ _ _ _ W12 KX.out KY.out).mono ?_
            rintro ex W13 ⟨rfl, hb13⟩
            rw [sameB_of HEQ.out]
            have HB13 := Aside0.mk (bthen HB.out hb13)
            obtain ⟨ad, A9, c9, hA, p0, p1, _⟩ := kidC_cells (KC.out.below hb13).r 0 (by decide)
            subst hA
            have e6 : W13.cell? ⟨b8, 6, none⟩ = some (.slice (some ad) 1 c8) := (blk_cell (blk_below K8'.out hb13) 6).trans rfl
            have e1 : W13.cell? ⟨ad.block, ad.off + 1, none⟩ = some (.int .i64 235) := by simpa [Addr.add_zero', rd_T49, pilC] using p1
            have hc : 1 ≤ c8 := KC.out.c
            clear p0 p1 hb13 KX K5 KW KY KC K8' HB HEQ k0 k1 k2 k3 k4 k5 k6 m0 m1 m2 m3 m4 m5 m6
            go_wp2
            go_ret
            exact ⟨rfl, HB13.out⟩
end Go.Proofs.Ytfbiahlogclkbaa.H
