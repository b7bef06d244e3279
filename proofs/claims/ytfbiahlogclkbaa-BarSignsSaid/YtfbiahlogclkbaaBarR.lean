/- The proof's texts BarR: what the statement leads to. No condition is added. -/
import Derived.Test.YtfbiahlogclkbaaBarP
set_option linter.unusedVariables false
set_option linter.unusedSimpArgs false
namespace Go.Proofs.Ytfbiahlogclkbaa.H
open Go.RowKit Go.Proofs.YtfbiahlogclkbaaW.PrintWords Go.Proofs.YtfbiahlogclkbaaW.PrintLast Go.Proofs.YtfbiahlogclkbaaW.PrintMore Go.Proofs.Ytfbiahlogclkbaa.P Ev

theorem tl {x y : Bool} {l : List (Bool × Bool)} (h : x = y) (hl : Ev.Told l) : Ev.Told ((x, y) :: l) := told_cons h hl
/-- Radical, without a degree, comes to rr, Need to nr. -/
def RadCalls (f : FV) (fl : List Int) (c z : Int) (b s : Bx) (rr : Bx × Int) (nr : Int × Int) : Prop :=
  ∀ (w : World) (ok : Nat → Prop) (Ab As : Option Addr) (cb cs : Nat), FontF w ok f fl → BoxAt w ok b Ab cb → BoxAt w ok s As cs → (∀ k, ok k → k < w.heap.size) →
    Calls Try.prog 26 #[f.v, .int .i64 c, .int .i64 z, boxV b Ab cb, boxV s As cs, .slice none 0 0] w (BoxPost rr ok w) ∧ Calls Try.prog 29 #[f.v, .int .i64 c, .int .i64 z, boxV b Ab cb] w (PairPost nr w)
theorem radc_t (f : FV) (fl : List Int) (c : Int) (z : Int) (b : Bx) (s : Bx) : ∃ B2 : Bool, (rad_ta f fl c z b s).2 = [(decide (c < 2), true), ((rad_ta f fl c z b s).1.2 != 0, true)] ∧ (rad_tbtt f fl c z b s).2 = [(decide (c < 2), true), ((rad_ta f fl c z b s).1.2 != 0, false), (B2, true), ((rad_tbtt f fl c z b s).1.2 != 0, true)] ∧ (rad_tbtf f fl c z b s).2 = [(decide (c < 2), true), ((rad_ta f fl c z b s).1.2 != 0, false), (B2, true), ((rad_tbtt f fl c z b s).1.2 != 0, false)] ∧ (rad_tbft f fl c z b s).2 = [(decide (c < 2), true), ((rad_ta f fl c z b s).1.2 != 0, false), (B2, false), ((rad_tbft f fl c z b s).1.2 != 0, true)] ∧ (rad_tbff f fl c z b s).2 = [(decide (c < 2), true), ((rad_ta f fl c z b s).1.2 != 0, false), (B2, false), ((rad_tbft f fl c z b s).1.2 != 0, false)] :=
  ⟨((rad_tbtt f fl c z b s).2.getD 2 (true, true)).1, by kernel_rfl, by kernel_rfl, by kernel_rfl, by kernel_rfl, by kernel_rfl⟩
theorem radj_t (f : FV) (fl : List Int) (c : Int) (z : Int) (b : Bx) (s : Bx) (hc : c < 2) : ∃ rr nr, RadCalls f fl c z b s rr nr ∧ ((rr.2 ≠ 0 ∧ rr.1 = ⟨0, 0, 0, 0, 0, 0, []⟩) ∨ ∃ W H D u y t S n g, RadOk 50 f fl c z b s rr nr W H D u y t S n g) := by
  obtain ⟨B2, ha, hbtt, hbtf, hbft, hbff⟩ := radc_t f fl c z b s
  have hd : decide (c < 2) = true := by simp [hc]
  have hn : Ev.Told (need_t f fl c z b).2 := by
    have h : (need_t f fl c z b).2 = [(decide (c < 2), true)] := by kernel_rfl
    rw [h]; exact tl hd told_nil
  cases h1 : ((rad_ta f fl c z b s).1.2 != 0) with
  | true =>
    have ht : Ev.Told (rad_ta f fl c z b s).2 := by rw [ha]; exact tl hd (tl h1 told_nil)
    refine ⟨(rad_ta f fl c z b s).1, (need_t f fl c z b).1, fun w ok Ab As cb cs h1 h2 h3 h4 => ⟨rad_ta_any f fl c z b s h1 h2 h3 h4 ht, need_t_any f fl c z b h1 h2 h4 hn⟩, .inl ⟨by simpa using h1, by kernel_rfl⟩⟩
  | false =>
    cases h2 : B2 with
    | true =>
      cases h3 : ((rad_tbtt f fl c z b s).1.2 != 0) with
      | true =>
        have ht : Ev.Told (rad_tbtt f fl c z b s).2 := by rw [hbtt]; exact tl hd (tl h1 (tl h2 (tl h3 told_nil)))
        refine ⟨(rad_tbtt f fl c z b s).1, (need_t f fl c z b).1, fun w ok Ab As cb cs h1 h2 h3 h4 => ⟨rad_tbtt_any f fl c z b s h1 h2 h3 h4 ht, need_t_any f fl c z b h1 h2 h4 hn⟩, .inl ⟨by simpa using h3, by kernel_rfl⟩⟩
      | false =>
        have ht : Ev.Told (rad_tbtf f fl c z b s).2 := by rw [hbtf]; exact tl hd (tl h1 (tl h2 (tl h3 told_nil)))
        refine ⟨(rad_tbtf f fl c z b s).1, (need_t f fl c z b).1, fun w ok Ab As cb cs h1 h2 h3 h4 => ⟨rad_tbtf_any f fl c z b s h1 h2 h3 h4 ht, need_t_any f fl c z b h1 h2 h4 hn⟩, ?_⟩
        by_cases h0 : (rad_tbtf f fl c z b s).1.2 = 0
        · exact .inr (rad_tbtf_law f fl c z b s ht h0)
        · refine .inl ⟨h0, ?_⟩
          obtain ⟨v1, h1', v2, h2', v3, h3', v4, h4', v5, h5', v6, h6', v7, h7', v8, h8', v9, h9', v10, h10', v11, h11', v12, h12', v13, h13', v14, h14', v15, h15', v16, h16', v17, h17', v18, h18', v19, h19', v20, h20', v21, h21', v22, h22', v23, h23', v24, h24', v25, h25', v26, h26', v27, h27', v28, h28', v29, h29', v30, h30', v31, h31', hX⟩ := rad_tbtf_vars f fl c z b s
          rw [hX] at h0 ⊢
          simp only at h0 ⊢
          rw [h31'] at h0 ⊢
          exact setR_err h0
    | false =>
      cases h3 : ((rad_tbft f fl c z b s).1.2 != 0) with
      | true =>
        have ht : Ev.Told (rad_tbft f fl c z b s).2 := by rw [hbft]; exact tl hd (tl h1 (tl h2 (tl h3 told_nil)))
        refine ⟨(rad_tbft f fl c z b s).1, (need_t f fl c z b).1, fun w ok Ab As cb cs h1 h2 h3 h4 => ⟨rad_tbft_any f fl c z b s h1 h2 h3 h4 ht, need_t_any f fl c z b h1 h2 h4 hn⟩, .inl ⟨by simpa using h3, by kernel_rfl⟩⟩
      | false =>
        have ht : Ev.Told (rad_tbff f fl c z b s).2 := by rw [hbff]; exact tl hd (tl h1 (tl h2 (tl h3 told_nil)))
        refine ⟨(rad_tbff f fl c z b s).1, (need_t f fl c z b).1, fun w ok Ab As cb cs h1 h2 h3 h4 => ⟨rad_tbff_any f fl c z b s h1 h2 h3 h4 ht, need_t_any f fl c z b h1 h2 h4 hn⟩, ?_⟩
        by_cases h0 : (rad_tbff f fl c z b s).1.2 = 0
        · exact .inr (rad_tbff_law f fl c z b s ht h0)
        · refine .inl ⟨h0, ?_⟩
          obtain ⟨v1, h1', v2, h2', v3, h3', v4, h4', v5, h5', v6, h6', v7, h7', v8, h8', v9, h9', v10, h10', v11, h11', v12, h12', v13, h13', v14, h14', v15, h15', v16, h16', v17, h17', v18, h18', v19, h19', v20, h20', v21, h21', v22, h22', v23, h23', v24, h24', v25, h25', hX⟩ := rad_tbff_vars f fl c z b s
          rw [hX] at h0 ⊢
          simp only at h0 ⊢
          rw [h25'] at h0 ⊢
          exact setR_err h0
theorem radc_f (f : FV) (fl : List Int) (c : Int) (z : Int) (b : Bx) (s : Bx) : ∃ B2 : Bool, (rad_fa f fl c z b s).2 = [(decide (c < 2), false), ((rad_fa f fl c z b s).1.2 != 0, true)] ∧ (rad_fbtt f fl c z b s).2 = [(decide (c < 2), false), ((rad_fa f fl c z b s).1.2 != 0, false), (B2, true), ((rad_fbtt f fl c z b s).1.2 != 0, true)] ∧ (rad_fbtf f fl c z b s).2 = [(decide (c < 2), false), ((rad_fa f fl c z b s).1.2 != 0, false), (B2, true), ((rad_fbtt f fl c z b s).1.2 != 0, false)] ∧ (rad_fbft f fl c z b s).2 = [(decide (c < 2), false), ((rad_fa f fl c z b s).1.2 != 0, false), (B2, false), ((rad_fbft f fl c z b s).1.2 != 0, true)] ∧ (rad_fbff f fl c z b s).2 = [(decide (c < 2), false), ((rad_fa f fl c z b s).1.2 != 0, false), (B2, false), ((rad_fbft f fl c z b s).1.2 != 0, false)] :=
  ⟨((rad_fbtt f fl c z b s).2.getD 2 (true, true)).1, by kernel_rfl, by kernel_rfl, by kernel_rfl, by kernel_rfl, by kernel_rfl⟩
theorem radj_f (f : FV) (fl : List Int) (c : Int) (z : Int) (b : Bx) (s : Bx) (hc : ¬ c < 2) : ∃ rr nr, RadCalls f fl c z b s rr nr ∧ ((rr.2 ≠ 0 ∧ rr.1 = ⟨0, 0, 0, 0, 0, 0, []⟩) ∨ ∃ W H D u y t S n g, RadOk 49 f fl c z b s rr nr W H D u y t S n g) := by
  obtain ⟨B2, ha, hbtt, hbtf, hbft, hbff⟩ := radc_f f fl c z b s
  have hd : decide (c < 2) = false := by simp [hc]
  have hn : Ev.Told (need_f f fl c z b).2 := by
    have h : (need_f f fl c z b).2 = [(decide (c < 2), false)] := by kernel_rfl
    rw [h]; exact tl hd told_nil
  cases h1 : ((rad_fa f fl c z b s).1.2 != 0) with
  | true =>
    have ht : Ev.Told (rad_fa f fl c z b s).2 := by rw [ha]; exact tl hd (tl h1 told_nil)
    refine ⟨(rad_fa f fl c z b s).1, (need_f f fl c z b).1, fun w ok Ab As cb cs h1 h2 h3 h4 => ⟨rad_fa_any f fl c z b s h1 h2 h3 h4 ht, need_f_any f fl c z b h1 h2 h4 hn⟩, .inl ⟨by simpa using h1, by kernel_rfl⟩⟩
  | false =>
    cases h2 : B2 with
    | true =>
      cases h3 : ((rad_fbtt f fl c z b s).1.2 != 0) with
      | true =>
        have ht : Ev.Told (rad_fbtt f fl c z b s).2 := by rw [hbtt]; exact tl hd (tl h1 (tl h2 (tl h3 told_nil)))
        refine ⟨(rad_fbtt f fl c z b s).1, (need_f f fl c z b).1, fun w ok Ab As cb cs h1 h2 h3 h4 => ⟨rad_fbtt_any f fl c z b s h1 h2 h3 h4 ht, need_f_any f fl c z b h1 h2 h4 hn⟩, .inl ⟨by simpa using h3, by kernel_rfl⟩⟩
      | false =>
        have ht : Ev.Told (rad_fbtf f fl c z b s).2 := by rw [hbtf]; exact tl hd (tl h1 (tl h2 (tl h3 told_nil)))
        refine ⟨(rad_fbtf f fl c z b s).1, (need_f f fl c z b).1, fun w ok Ab As cb cs h1 h2 h3 h4 => ⟨rad_fbtf_any f fl c z b s h1 h2 h3 h4 ht, need_f_any f fl c z b h1 h2 h4 hn⟩, ?_⟩
        by_cases h0 : (rad_fbtf f fl c z b s).1.2 = 0
        · exact .inr (rad_fbtf_law f fl c z b s ht h0)
        · refine .inl ⟨h0, ?_⟩
          obtain ⟨v1, h1', v2, h2', v3, h3', v4, h4', v5, h5', v6, h6', v7, h7', v8, h8', v9, h9', v10, h10', v11, h11', v12, h12', v13, h13', v14, h14', v15, h15', v16, h16', v17, h17', v18, h18', v19, h19', v20, h20', v21, h21', v22, h22', v23, h23', v24, h24', v25, h25', v26, h26', v27, h27', v28, h28', v29, h29', v30, h30', v31, h31', hX⟩ := rad_fbtf_vars f fl c z b s
          rw [hX] at h0 ⊢
          simp only at h0 ⊢
          rw [h31'] at h0 ⊢
          exact setR_err h0
    | false =>
      cases h3 : ((rad_fbft f fl c z b s).1.2 != 0) with
      | true =>
        have ht : Ev.Told (rad_fbft f fl c z b s).2 := by rw [hbft]; exact tl hd (tl h1 (tl h2 (tl h3 told_nil)))
        refine ⟨(rad_fbft f fl c z b s).1, (need_f f fl c z b).1, fun w ok Ab As cb cs h1 h2 h3 h4 => ⟨rad_fbft_any f fl c z b s h1 h2 h3 h4 ht, need_f_any f fl c z b h1 h2 h4 hn⟩, .inl ⟨by simpa using h3, by kernel_rfl⟩⟩
      | false =>
        have ht : Ev.Told (rad_fbff f fl c z b s).2 := by rw [hbff]; exact tl hd (tl h1 (tl h2 (tl h3 told_nil)))
        refine ⟨(rad_fbff f fl c z b s).1, (need_f f fl c z b).1, fun w ok Ab As cb cs h1 h2 h3 h4 => ⟨rad_fbff_any f fl c z b s h1 h2 h3 h4 ht, need_f_any f fl c z b h1 h2 h4 hn⟩, ?_⟩
        by_cases h0 : (rad_fbff f fl c z b s).1.2 = 0
        · exact .inr (rad_fbff_law f fl c z b s ht h0)
        · refine .inl ⟨h0, ?_⟩
          obtain ⟨v1, h1', v2, h2', v3, h3', v4, h4', v5, h5', v6, h6', v7, h7', v8, h8', v9, h9', v10, h10', v11, h11', v12, h12', v13, h13', v14, h14', v15, h15', v16, h16', v17, h17', v18, h18', v19, h19', v20, h20', v21, h21', v22, h22', v23, h23', v24, h24', v25, h25', hX⟩ := rad_fbff_vars f fl c z b s
          rw [hX] at h0 ⊢
          simp only at h0 ⊢
          rw [h25'] at h0 ⊢
          exact setR_err h0
end Go.Proofs.Ytfbiahlogclkbaa.H
