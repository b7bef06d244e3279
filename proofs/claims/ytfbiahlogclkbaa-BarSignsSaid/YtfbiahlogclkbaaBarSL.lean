/- The proof's texts BarSL: what the statement leads to. No condition is added. -/
import Derived.Test.YtfbiahlogclkbaaBarR
import Derived.Test.YtfbiahlogclkbaaBarSR
import Derived.Test.YtfbiahlogclkbaaFewB
set_option linter.unusedVariables false
set_option linter.unusedSimpArgs false
namespace Go.Proofs.Ytfbiahlogclkbaa.H
open Go.RowKit Go.Proofs.YtfbiahlogclkbaaW.PrintWords Go.Proofs.YtfbiahlogclkbaaW.PrintLast Go.Proofs.YtfbiahlogclkbaaW.PrintMore Go.Proofs.Ytfbiahlogclkbaa.P Ev
theorem FontF.below {w w' : World} {f : FV} {l : List Int} (h : FontF w (low w) f l) (hb : Below w.heap.size w w') : FontF w' (low w) f l :=
  h.step (fun k hk hlt => ⟨hb.block k hlt, hk⟩)
theorem BoxAt.low_below {w w' : World} {b : Bx} {A : Option Addr} {c : Nat} (h : BoxAt w (low w) b A c) (hb : Below w.heap.size w w') : BoxAt w' (low w) b A c := h.step (fun k _ hk => hb.block k hk)
theorem sgTab (f : FV) (l : List Int) (c z : Int) (b s : Bx) (r : Bool) (rr : Bx × Int) (nr : Int × Int) (w : World) (Ab As : Option Addr) (cb cs : Nat) (hl : FontF w (low w) f l) (hb : BoxC w b Ab cb) (hs : BoxC w s As cs)
    (hr : ∀ w1, Below w.heap.size w w1 → Calls Try.prog 24 #[f.v, boxV b Ab cb, boxV s As cs, boxV s As cs] w1 fun e w' => e = .returned (.bool r) ∧ Below w1.heap.size w1 w') (hrc : RadCalls f l c z b s rr nr) :
    TabOk w (low w) [.slice f.s9.A f.s9.n f.s9.c, .slice Ab b.f6.length cb, .slice As s.f6.length cs] barTy (sgSp f l c z b s r rr nr) [] := by
  have hfx : ∀ (hs : List Value), hs[0]? = some (.slice f.s9.A f.s9.n f.s9.c) → (Slot.one (fontP f 0 l)).V (envOf hs) 0 hs.length (fun _ _ => True) := fun hs h => font_x hl.n hl.c h
  refine ⟨(barTab w (low w) []).ts, fun p hp => ?_, fun p hp => by cases hp⟩
  simp only [sgSp, List.mem_cons, List.not_mem_nil, or_false] at hp
  rcases hp with rfl | rfl | rfl | rfl | rfl
  · refine ⟨enter_of Try.func24 rfl (by kernel_rfl), spAt_ok (fun x hx => ?_) (bool_at r).1 (bool_at r).2 hr⟩
    simp only [List.mem_cons, List.not_mem_nil, or_false] at hx
    rcases hx with rfl | rfl | rfl | rfl
    · exact hfx _ rfl
    · exact box_x hb.c rfl
    · exact box_x hs.c rfl
    · exact box_x hs.c rfl
  · refine ⟨enter_of Try.func26 rfl (by kernel_rfl), spAtB_ok (fun x hx => ?_) (fun w1 h1 => (hrc w1 (low w) Ab As cb cs (hl.below h1) (hb.low.low_below h1) (hs.low.low_below h1) (fun k hk => Nat.lt_of_lt_of_le hk h1.size)).1)⟩
    simp only [List.mem_cons, List.not_mem_nil, or_false] at hx
    rcases hx with rfl | rfl | rfl | rfl | rfl | rfl
    · exact hfx _ rfl
    · exact int_x _
    · exact int_x _
    · exact box_x hb.c rfl
    · exact box_x hs.c rfl
    · exact nil_x
  · refine ⟨enter_of Try.func29 rfl (by kernel_rfl), spAt_ok (fun x hx => ?_) (pair_at nr).1 (pair_at nr).2 (fun w1 h1 => (hrc w1 (low w) Ab As cb cs (hl.below h1) (hb.low.low_below h1) (hs.low.low_below h1) (fun k hk => Nat.lt_of_lt_of_le hk h1.size)).2)⟩
    simp only [List.mem_cons, List.not_mem_nil, or_false] at hx
    rcases hx with rfl | rfl | rfl | rfl
    · exact hfx _ rfl
    · exact int_x _
    · exact int_x _
    · exact box_x hb.c rfl
  · exact ⟨enter_of Try.func22 rfl (by kernel_rfl), spKonst_ok⟩
  · refine ⟨enter_of Try.func28 rfl (by kernel_rfl), spAt_ok (fun x hx => by simp at hx) (bool_at true).1 (bool_at true).2 (fun w1 _ => barred_any w1)⟩
theorem sgV {f : FV} {l : List Int} {c z : Int} {b s : Bx} {w : World} {Ab As : Option Addr} {cb cs : Nat} (hl : FontF w (low w) f l) (hb : BoxC w b Ab cb) (hs : BoxC w s As cs) : ∀ x, x ∈ [Slot.one (fontP f 0 l), .one (intP c), .one (intP z), .one (boxP b 1), .one (boxP s 2)] →
    x.V (envOf [.slice f.s9.A f.s9.n f.s9.c, .slice Ab b.f6.length cb, .slice As s.f6.length cs]) ([] : List Blk).length 3 (RF (fz (ctx w (low w) [.slice f.s9.A f.s9.n f.s9.c, .slice Ab b.f6.length cb, .slice As s.f6.length cs]) (envOf [.slice f.s9.A f.s9.n f.s9.c, .slice Ab b.f6.length cb, .slice As s.f6.length cs]) []) w) := fun x hx => by
  simp only [List.mem_cons, List.not_mem_nil, or_false] at hx
  rcases hx with rfl | rfl | rfl | rfl | rfl
  · exact fontP_V hl (by decide) rfl
  · exact intP_V _
  · exact intP_V _
  · exact boxP_V hb.low (by decide) rfl
  · exact boxP_V hs.low (by decide) rfl
theorem tdiv_two {x : Int} (h : 0 < x) : x.tdiv 2 = x / 2 := Int.tdiv_eq_ediv_of_nonneg (by omega)
section
variable {f : FV} {fl : List Int} {c z : Int} {b s : Bx} {rr : Bx × Int} {nr : Int × Int} {e W H D u y t S n g : Int} {k : Int}
theorem signs_tell (h : RadOk k f fl c z b s rr nr W H D u y t S n g) : IntKind.i64.wrap (y + t) = IntKind.i64.wrap (u + s.f2) ∧ W = IntKind.i64.wrap (s.f1 + b.f1) ∧ IntKind.i64.wrap (y - b.f2) = y - b.f2 ∧ IntKind.i64.wrap (IntKind.i64.wrap (s.f2 + s.f3) - n) = s.f2 + s.f3 - n := by
  obtain ⟨_, _, _, _, h1, h2, h3, h4, h5, h6, h7, h8, h9, h10, h11, h12, h13, h14, h15, h16⟩ := h
  unfold Len at *
  refine ⟨by rw [h15], ?_, wrap_small (by omega) (by omega), ?_⟩
  · rw [wrap_small (by omega) (by omega)]; exact h13
  · rw [wrap_small (x := s.f2 + s.f3) (by omega) (by omega)]; exact wrap_small (by omega) (by omega)
theorem signs_le (h : RadOk k f fl c z b s rr nr W H D u y t S n g) (hm : s.f2 + s.f3 - n ≤ 0) : y - b.f2 = g := by
  have := h.hf
  omega
theorem signs_gt (h : RadOk k f fl c z b s rr nr W H D u y t S n g) (hm : ¬ s.f2 + s.f3 - n ≤ 0) : IntKind.i64.wrap (y - b.f2 - g) = IntKind.i64.wrap ((s.f2 + s.f3 - n).tdiv 2) ∧ IntKind.i64.wrap (y - b.f2 - g) = (s.f2 + s.f3 - n).tdiv 2 ∧ g ≤ y - b.f2 := by
  have hf := h.hf
  have h1 := h.hy
  have h2 := h.hb
  have h3 := h.hg
  unfold Len at *
  rw [tdiv_two (by omega), wrap_small (x := y - b.f2 - g) (by omega) (by omega)]
  refine ⟨?_, by omega, by omega⟩
  rw [wrap_small (by omega) (by omega)]
  omega
end
theorem signs_any (f : FV) (c z : Int) (b : Bx) (Ab : Option Addr) (cb : Nat) (s : Bx) (As : Option Addr) (cs : Nat) (w : World) (hf : FontAt w f) (hb : BoxC w b Ab cb) (hs : BoxC w s As cs) :
    Calls Try.prog 8 #[f.v, .int .i64 c, .int .i64 z, boxV b Ab cb, boxV s As cs] w fun e w' => e = .returned (.bool true) ∧ Below w.heap.size w w' := by
  obtain ⟨fl, hl⟩ := hf.konst
  obtain ⟨r, hr⟩ := few27_any f b s s Ab As As cb cs cs w hf hb hs hs
  have hl := Konst_low hl
  have hV := sgV (c := c) (z := z) hl hb hs
  obtain ⟨rr, nr, hrc, hcase⟩ : ∃ rr nr, RadCalls f fl c z b s rr nr ∧ ((rr.2 ≠ 0 ∧ rr.1 = ⟨0, 0, 0, 0, 0, 0, []⟩) ∨ (c < 2 ∧ ∃ W H D u y t S n g, RadOk 50 f fl c z b s rr nr W H D u y t S n g) ∨ (¬ c < 2 ∧ ∃ W H D u y t S n g, RadOk 49 f fl c z b s rr nr W H D u y t S n g)) := by
    by_cases hc : c < 2
    · obtain ⟨rr, nr, h1, h2⟩ := radj_t f fl c z b s hc
      exact ⟨rr, nr, h1, h2.elim .inl (fun h => .inr (.inl ⟨hc, h⟩))⟩
    · obtain ⟨rr, nr, h1, h2⟩ := radj_f f fl c z b s hc
      exact ⟨rr, nr, h1, h2.elim .inl (fun h => .inr (.inr ⟨hc, h⟩))⟩
  have hT := fun r' h => sgTab f fl c z b s r' rr nr w Ab As cb cs hl hb hs h hrc
  cases r with
  | false =>
    obtain ⟨⟨x0, x1, x2, x3, x4, x5, x6⟩, e⟩ := rr
    obtain ⟨n, ne⟩ := nr
    refine ev_bool (orc := []) (r := true) (cs := []) (hT false hr) Try.func8 ⟨by kernel_rfl⟩ told_nil (fun k hk => hk) (Nat.le_refl _) hV rfl
  | true =>
    have hT := hT true hr
    obtain ⟨n0, ne0⟩ := nr
    rcases hcase with ⟨he, h0⟩ | ⟨hc, W, H, D, u, y, t, S, n, g, hk⟩ | ⟨hc, W, H, D, u, y, t, S, n, g, hk⟩
    · obtain ⟨r1, e⟩ := rr
      simp only at he h0
      subst h0
      have h := ev_bool hT Try.func8 (signs_err_run f fl c z b s e 0 0 0 0 0 0 0 0 0 n0 ne0) (told_cons (by simpa using he) told_nil) (fun k hk => hk) (Nat.le_refl _) hV rfl
      exact h
    all_goals
      obtain ⟨p1, p2, p3, p4⟩ := signs_tell hk
      have hr1 := hk.r_
      have hn1 := hk.nr_
      have hk1 := hk.k_
      have hg1 := hk.g_
      rw [Prod.mk.injEq] at hn1
      obtain ⟨rfl, rfl⟩ := hn1
      subst hr1
      by_cases hm : s.f2 + s.f3 - n0 ≤ 0
    · have h5 := signs_le hk hm
      have h := ev_bool hT Try.func8 (signs_oktt_run f fl c z b s 0 W H D u s.f1 y t s.f1 S n0 0) (by
        simp only [signs_oktt, p3, p4, hk1]
        refine told_cons (by simp [hc]) (told_cons (by simp) (told_cons (by simp [p1]) (told_cons (by simp) (told_cons (by simp [← p2]) (told_cons (by simp) (told_cons (by simp [hm]) told_nil))))))) (fun k hk => hk) (Nat.le_refl _) hV rfl
      have hv : (signs_oktt f fl c z b s 0 W H D u s.f1 y t s.f1 S n0 0).1 = true := by
        show (IntKind.i64.wrap (y - b.f2) == (konstR f.h fl 50 c z).1) = true
        rw [p3, hg1, h5]
        simp
      rw [hv] at h
      exact h
    · obtain ⟨h5, h6, h7⟩ := signs_gt hk hm
      have h := ev_bool hT Try.func8 (signs_oktf_run f fl c z b s 0 W H D u s.f1 y t s.f1 S n0 0) (by
        simp only [signs_oktf, p3, p4, hk1, hg1]
        refine told_cons (by simp [hc]) (told_cons (by simp) (told_cons (by simp [p1]) (told_cons (by simp) (told_cons (by simp [← p2]) (told_cons (by simp) (told_cons (by simp [hm]) (told_cons (by simp [h5]) told_nil)))))))) (fun k hk => hk) (Nat.le_refl _) hV rfl
      have hv : (signs_oktf f fl c z b s 0 W H D u s.f1 y t s.f1 S n0 0).1 = true := by
        show decide (IntKind.i64.wrap (y - b.f2) ≥ (konstR f.h fl 50 c z).1) = true
        rw [p3, hg1]
        simpa using h7
      rw [hv] at h
      exact h
    · have h5 := signs_le hk hm
      have h := ev_bool hT Try.func8 (signs_okft_run f fl c z b s 0 W H D u s.f1 y t s.f1 S n0 0) (by
        simp only [signs_okft, p3, p4, hk1]
        refine told_cons (by simp [hc]) (told_cons (by simp) (told_cons (by simp [p1]) (told_cons (by simp) (told_cons (by simp [← p2]) (told_cons (by simp) (told_cons (by simp [hm]) told_nil))))))) (fun k hk => hk) (Nat.le_refl _) hV rfl
      have hv : (signs_okft f fl c z b s 0 W H D u s.f1 y t s.f1 S n0 0).1 = true := by
        show (IntKind.i64.wrap (y - b.f2) == (konstR f.h fl 49 c z).1) = true
        rw [p3, hg1, h5]
        simp
      rw [hv] at h
      exact h
    · obtain ⟨h5, h6, h7⟩ := signs_gt hk hm
      have h := ev_bool hT Try.func8 (signs_okff_run f fl c z b s 0 W H D u s.f1 y t s.f1 S n0 0) (by
        simp only [signs_okff, p3, p4, hk1, hg1]
        refine told_cons (by simp [hc]) (told_cons (by simp) (told_cons (by simp [p1]) (told_cons (by simp) (told_cons (by simp [← p2]) (told_cons (by simp) (told_cons (by simp [hm]) (told_cons (by simp [h5]) told_nil)))))))) (fun k hk => hk) (Nat.le_refl _) hV rfl
      have hv : (signs_okff f fl c z b s 0 W H D u s.f1 y t s.f1 S n0 0).1 = true := by
        show decide (IntKind.i64.wrap (y - b.f2) ≥ (konstR f.h fl 49 c z).1) = true
        rw [p3, hg1]
        simpa using h7
      rw [hv] at h
      exact h
end Go.Proofs.Ytfbiahlogclkbaa.H
