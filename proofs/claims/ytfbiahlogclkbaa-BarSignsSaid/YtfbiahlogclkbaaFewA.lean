/- The proof's texts TotA FewA: what the statement leads to. No condition is added. -/
import Derived.Test.YtfbiahlogclkbaaSamA
import Derived.Test.YtfbiahlogclkbaaPx
import Derived.Deep.Slices
set_option linter.unusedVariables false
set_option linter.unusedSimpArgs false
namespace Go.Proofs.Ytfbiahlogclkbaa.H
open Go.RowKit Go.Proofs.YtfbiahlogclkbaaW.PrintWords Go.Proofs.YtfbiahlogclkbaaW.PrintLast Go.Proofs.YtfbiahlogclkbaaW.PrintMore Go.Proofs.Ytfbiahlogclkbaa.P

theorem wrap_pred (i n : Nat) (h : i < n) (h0 : 0 < i) (hn : n ≤ 9223372036854775807) : wrap64 ((i : Int) - 1) = ((i - 1 : Nat) : Int) := by
  have := wrap_one (i - 1) n (by omega) hn
  rw [show wrap64 ((i : Int) - 1) = (i : Int) - 1 by unfold wrap64; omega]
  omega
theorem one_tot (a b c d : Int) : ∃ r, vinculumref08_one.f a b c d = some r := by
  unfold vinculumref08_one.f
  repeat' split
  all_goals exact ⟨_, rfl⟩
theorem is_tot (l : List S123) (hl : l.length ≤ 9223372036854775807) : ∀ d i k : Nat, i ≤ l.length → l.length - i = d → 2 * d + 2 ≤ k → ∃ r, vinculumref08_Is.l0 k l (i : Int) = some r := by
  intro d
  induction d with
  | zero =>
    intro i k hi hd hk
    obtain ⟨k, rfl⟩ : ∃ k', k = k' + 2 := ⟨k - 2, by omega⟩
    simp only [vinculumref08_Is.l0, vinculumref08_Is.j1]
    rw [if_neg (by omega)]
    exact ⟨_, rfl⟩
  | succ d ih =>
    intro i k hi hd hk
    obtain ⟨k, rfl⟩ : ∃ k', k = k' + 2 := ⟨k - 2, by omega⟩
    have hw := wrap_one i l.length (by omega) hl
    have hr := ih (i + 1) k (by omega) (by omega) (by omega)
    rw [← hw] at hr
    obtain ⟨t, ht⟩ := one_tot (rd_T123 l i).f0 (rd_T123 l i).f1 (rd_T123 l i).f2 (rd_T123 l i).f3
    simp only [vinculumref08_Is.l0, vinculumref08_Is.j1, ht, Option.bind]
    rw [if_pos (by omega)]
    by_cases h0 : 0 < i
    · have hp := wrap_pred i l.length (by omega) h0 hl
      rw [hp]
      repeat' split
      all_goals first | exact ⟨_, rfl⟩ | exact hr | omega
    · repeat' split
      all_goals first | exact ⟨_, rfl⟩ | exact hr | omega
theorem ends_tot (l : List S123) (hl : l.length ≤ 9223372036854775807) : ∀ d i k : Nat, ∀ x y : Int, i ≤ l.length → l.length - i = d → 3 * d + 3 ≤ k → ∃ r, vinculumref08_ends.l0 k l x y (i : Int) = some r := by
  intro d
  induction d with
  | zero =>
    intro i k x y hi hd hk
    obtain ⟨k, rfl⟩ : ∃ k', k = k' + 3 := ⟨k - 3, by omega⟩
    simp only [vinculumref08_ends.l0]
    rw [if_neg (by omega)]
    exact ⟨_, rfl⟩
  | succ d ih =>
    intro i k x y hi hd hk
    obtain ⟨k, rfl⟩ : ∃ k', k = k' + 3 := ⟨k - 3, by omega⟩
    have hw := wrap_one i l.length (by omega) hl
    have hr := fun x y => ih (i + 1) k x y (by omega) (by omega) (by omega)
    rw [← hw] at hr
    have h0 : (0 : Int) ≤ (i : Int) := by omega
    have h1 : (i : Int) < (l.length : Int) := by omega
    simp only [vinculumref08_ends.l0, vinculumref08_ends.j1, vinculumref08_ends.j2, if_pos h0, if_pos h1, ↓reduceIte]
    repeat' split
    all_goals first | exact ⟨_, rfl⟩ | exact hr _ _
theorem short09_tot (l : List S123) (hl : l.length ≤ 9223372036854775807) : ∀ d i k : Nat, ∀ x : Int, i ≤ l.length → l.length - i = d → 2 * d + 2 ≤ k → ∃ r, vinculumref09_Short.l0 k l x (i : Int) = some r := by
  intro d
  induction d with
  | zero =>
    intro i k x hi hd hk
    obtain ⟨k, rfl⟩ : ∃ k', k = k' + 2 := ⟨k - 2, by omega⟩
    simp only [vinculumref09_Short.l0, vinculumref09_Short.j1]
    rw [if_neg (by omega)]
    repeat' split
    all_goals first | exact ⟨_, rfl⟩ | simp_all
  | succ d ih =>
    intro i k x hi hd hk
    obtain ⟨k, rfl⟩ : ∃ k', k = k' + 2 := ⟨k - 2, by omega⟩
    have hw := wrap_one i l.length (by omega) hl
    have hr := fun x => ih (i + 1) k x (by omega) (by omega) (by omega)
    rw [← hw] at hr
    simp only [vinculumref09_Short.l0, vinculumref09_Short.j1]
    rw [if_pos (by omega)]
    repeat' split
    all_goals first | exact ⟨_, rfl⟩ | exact hr _ | omega
theorem short10_tot (l : List S123) (hl : l.length ≤ 9223372036854775807) : ∀ d i k : Nat, ∀ x : Int, i ≤ l.length → l.length - i = d → 3 * d + 3 ≤ k → ∃ r, vinculumref10_Short.l0 k l x (i : Int) = some r := by
  intro d
  induction d with
  | zero =>
    intro i k x hi hd hk
    obtain ⟨k, rfl⟩ : ∃ k', k = k' + 3 := ⟨k - 3, by omega⟩
    simp only [vinculumref10_Short.l0, vinculumref10_Short.j1]
    rw [if_neg (by omega)]
    repeat' split
    all_goals first | exact ⟨_, rfl⟩ | simp_all
  | succ d ih =>
    intro i k x hi hd hk
    obtain ⟨k, rfl⟩ : ∃ k', k = k' + 3 := ⟨k - 3, by omega⟩
    have hw := wrap_one i l.length (by omega) hl
    have hr := fun x => ih (i + 1) k x (by omega) (by omega) (by omega)
    rw [← hw] at hr
    simp only [vinculumref10_Short.l0, vinculumref10_Short.j1, vinculumref10_Short.j2]
    rw [if_pos (by omega)]
    repeat' split
    all_goals first | exact ⟨_, rfl⟩ | exact hr _ | omega
theorem short08_tot (l : List S123) (hl : l.length ≤ 9223372036854775807) (k : Nat) (hk : 3 * l.length + 3 ≤ k) : ∃ r, vinculumref08_Short.f k l = some r := by
  obtain ⟨a, ha⟩ := is_tot l hl l.length 0 k (by omega) (by omega) (by omega)
  obtain ⟨b, hb⟩ := ends_tot l hl l.length 0 k (-1) (-1) (by omega) (by omega) (by omega)
  rw [Int.ofNat_zero] at ha hb
  simp only [vinculumref08_Short.f, vinculumref08_Is.f, vinculumref08_ends.f, ha, hb, Option.bind]
  repeat' split
  all_goals exact ⟨_, rfl⟩
theorem short11_tot (l : List S123) (hl : l.length ≤ 9223372036854775807) (k : Nat) (hk : 3 * l.length + 3 ≤ k) : ∃ r, vinculumref11_Short.f k l = some r := by
  obtain ⟨a, ha⟩ := short08_tot l hl k hk
  obtain ⟨c, hc⟩ := short09_tot l hl l.length 0 k 0 (by omega) (by omega) (by omega)
  obtain ⟨d, hd⟩ := short10_tot l hl l.length 0 k 0 (by omega) (by omega) (by omega)
  rw [Int.ofNat_zero] at hc hd
  simp only [vinculumref11_Short.f, vinculumref09_Short.f, vinculumref10_Short.f, ha, hc, hd, Option.bind]
  repeat' split
  all_goals exact ⟨_, rfl⟩
theorem few16_tot (l : List S138) (hl : l.length ≤ 9223372036854775807) : ∀ d i k : Nat, i ≤ l.length → l.length - i = d → 2 * d + 2 ≤ k → ∃ r, vinculumref16_few.l0 k l (i : Int) = some r := by
  intro d
  induction d with
  | zero =>
    intro i k hi hd hk
    obtain ⟨k, rfl⟩ : ∃ k', k = k' + 2 := ⟨k - 2, by omega⟩
    simp only [vinculumref16_few.l0, vinculumref16_few.j1]
    rw [if_neg (by omega)]
    exact ⟨_, rfl⟩
  | succ d ih =>
    intro i k hi hd hk
    obtain ⟨k, rfl⟩ : ∃ k', k = k' + 2 := ⟨k - 2, by omega⟩
    have hw := wrap_one i l.length (by omega) hl
    have hr := ih (i + 1) k (by omega) (by omega) (by omega)
    rw [← hw] at hr
    simp only [vinculumref16_few.l0, vinculumref16_few.j1]
    rw [if_pos (by omega)]
    repeat' split
    all_goals first | exact ⟨_, rfl⟩ | exact hr | omega
theorem few15_in (l : List S126) (i : Nat) (hi : i < l.length) (k0 : Nat) (hr : ∀ k, k0 ≤ k → ∃ r, vinculumref15_Few.l0 k l (wrap64 ((i : Int) + 1)) = some r) (h8 : (rd_T126 l i).f1.length ≤ 8) : ∀ d j k : Nat, j ≤ (rd_T126 l i).f1.length → (rd_T126 l i).f1.length - j = d → k0 + d + 1 ≤ k → ∃ r, vinculumref15_Few.l1 k l (i : Int) (j : Int) = some r := by
  intro d
  induction d with
  | zero =>
    intro j k hj hd hk
    obtain ⟨k, rfl⟩ : ∃ k', k = k' + 1 := ⟨k - 1, by omega⟩
    simp only [vinculumref15_Few.l1]
    rw [if_pos (by omega), if_pos (by omega), if_neg (by omega)]
    exact hr k (by omega)
  | succ d ih =>
    intro j k hj hd hk
    obtain ⟨k, rfl⟩ : ∃ k', k = k' + 1 := ⟨k - 1, by omega⟩
    have hw := wrap_one j (rd_T126 l i).f1.length (by omega) (by omega)
    have hq := ih (j + 1) k (by omega) (by omega) (by omega)
    rw [← hw] at hq
    simp only [vinculumref15_Few.l1]
    rw [if_pos (by omega), if_pos (by omega), if_pos (by omega), if_pos (by omega)]
    repeat' split
    all_goals first | exact ⟨_, rfl⟩ | exact hq
theorem few15_tot (l : List S126) (hl : l.length ≤ 9223372036854775807) : ∀ d i k : Nat, i ≤ l.length → l.length - i = d → 12 * d + 2 ≤ k → ∃ r, vinculumref15_Few.l0 k l (i : Int) = some r := by
  intro d
  induction d with
  | zero =>
    intro i k hi hd hk
    obtain ⟨k, rfl⟩ : ∃ k', k = k' + 2 := ⟨k - 2, by omega⟩
    simp only [vinculumref15_Few.l0, vinculumref15_Few.j1]
    rw [if_neg (by omega)]
    exact ⟨_, rfl⟩
  | succ d ih =>
    intro i k hi hd hk
    obtain ⟨k, rfl⟩ : ∃ k', k = k' + 2 := ⟨k - 2, by omega⟩
    have hw := wrap_one i l.length (by omega) hl
    have hr : ∀ k', 12 * d + 2 ≤ k' → ∃ r, vinculumref15_Few.l0 k' l (wrap64 ((i : Int) + 1)) = some r := fun k' h => by rw [hw]; exact ih (i + 1) k' (by omega) (by omega) h
    have h0 : (0 : Int) ≤ (i : Int) := by omega
    have h1 : (i : Int) < (l.length : Int) := by omega
    simp only [vinculumref15_Few.l0, vinculumref15_Few.j1, if_pos h0, if_pos h1, ↓reduceIte]
    by_cases h8 : (rd_T126 l i).f1.length ≤ 8
    · have hq := few15_in l i (by omega) (12 * d + 2) hr h8 (rd_T126 l i).f1.length 0 k (by omega) (by omega) (by omega)
      rw [Int.ofNat_zero] at hq
      repeat' split
      all_goals first | exact ⟨_, rfl⟩ | exact hq
    · repeat' split
      all_goals first | exact ⟨_, rfl⟩ | omega
theorem few17_tot (l0 l3 : List Int) (l1 l2 : List _) (l4 : List S126) (a : Int) (l6 l7 : List S138) (h4 : l4.length ≤ 9223372036854775807) (h6 : l6.length ≤ 9223372036854775807) (h7 : l7.length ≤ 9223372036854775807) (k : Nat) (hk : 12 * l4.length + 2 * l6.length + 2 * l7.length + 2 ≤ k) : ∃ r, vinculumref17_Few.f k l0 l1 l2 l3 l4 a l6 l7 = some r := by
  obtain ⟨x, hx⟩ := few15_tot l4 h4 l4.length 0 k (by omega) (by omega) (by omega)
  obtain ⟨y, hy⟩ := few16_tot l6 h6 l6.length 0 k (by omega) (by omega) (by omega)
  obtain ⟨z, hz⟩ := few16_tot l7 h7 l7.length 0 k (by omega) (by omega) (by omega)
  rw [Int.ofNat_zero] at hx hy hz
  have h16 : ∃ q, vinculumref16_Few.f k a l6 l7 = some q := by
    simp only [vinculumref16_Few.f, vinculumref16_few.f, hy, hz, Option.bind]
    repeat' split
    all_goals exact ⟨_, rfl⟩
  obtain ⟨q, hq⟩ := h16
  simp only [vinculumref17_Few.f, vinculumref15_Few.f, hx, hq, Option.bind]
  repeat' split
  all_goals exact ⟨_, rfl⟩
theorem count_in (l : List Kx) (hl : l.length ≤ 9223372036854775807) (x0 x1' x2 x3 x4 x5' : Int) (M : Nat) (hM : ∀ i : Nat, i < l.length → ∀ k, M ≤ k → ∀ most : Int, ∃ r, vinculumref23_Count.f k (rd_T49 l i).f2.f0 (rd_T49 l i).f2.f1 (rd_T49 l i).f2.f2 (rd_T49 l i).f2.f3 (rd_T49 l i).f2.f4 (rd_T49 l i).f2.f5 (rd_T49 l i).f2.f6 most = some r) :
    ∀ d i k : Nat, ∀ most n : Int, i ≤ l.length → l.length - i = d → M + d + 1 ≤ k → ∃ r, vinculumref23_Count.l0 k most n (i : Int) x0 x1' x2 x3 x4 x5' l = some r := by
  intro d
  induction d with
  | zero =>
    intro i k most n hi hd hk
    obtain ⟨k, rfl⟩ : ∃ k', k = k' + 1 := ⟨k - 1, by omega⟩
    simp only [vinculumref23_Count.l0]
    rw [if_neg (by omega)]
    exact ⟨_, rfl⟩
  | succ d ih =>
    intro i k most n hi hd hk
    obtain ⟨k, rfl⟩ : ∃ k', k = k' + 1 := ⟨k - 1, by omega⟩
    have hw := wrap_one i l.length (by omega) hl
    have h0 : (0 : Int) ≤ (i : Int) := by omega
    have h1 : (i : Int) < (l.length : Int) := by omega
    obtain ⟨q, hq⟩ := hM i (by omega) k (by omega) (wrap64 (most - n))
    have hr := fun n => ih (i + 1) k most n (by omega) (by omega) (by omega)
    rw [← hw] at hr
    simp only [vinculumref23_Count.l0, if_pos h0, if_pos h1, hq, Option.bind]
    split
    · exact hr _
    · exact ⟨_, rfl⟩
/-- All in a box are rows that a machine could bear. -/
inductive Fits : Bx → Prop where
  | mk (b : Bx) (h : b.f6.length ≤ 9223372036854775807) (hk : ∀ k, k ∈ b.f6 → Fits k.f2) : Fits b
theorem count_tot (b : Bx) (hb : Fits b) : ∃ M, ∀ k, M ≤ k → ∀ most : Int, ∃ r, vinculumref23_Count.f k b.f0 b.f1 b.f2 b.f3 b.f4 b.f5 b.f6 most = some r := by
  induction hb with
  | mk b h hk ih =>
    obtain ⟨M, hM⟩ := Go.Deep.fuel_lt (n := b.f6.length) (q := fun i m => ∀ k, m ≤ k → ∀ most : Int, ∃ r, vinculumref23_Count.f k (rd_T49 b.f6 i).f2.f0 (rd_T49 b.f6 i).f2.f1 (rd_T49 b.f6 i).f2.f2 (rd_T49 b.f6 i).f2.f3 (rd_T49 b.f6 i).f2.f4 (rd_T49 b.f6 i).f2.f5 (rd_T49 b.f6 i).f2.f6 most = some r)
      (fun i a c hac h k hk most => h k (Nat.le_trans hac hk) most) (fun i hi => ih (rd_T49 b.f6 i) (by simp [rd_T49, hi]))
    refine ⟨M + b.f6.length + 2, fun k hk most => ?_⟩
    obtain ⟨k, rfl⟩ : ∃ k', k = k' + 1 := ⟨k - 1, by omega⟩
    simp only [vinculumref23_Count.f]
    have := count_in b.f6 h b.f0 b.f1 b.f2 b.f3 b.f4 b.f5 M hM b.f6.length 0 k most 1 (by omega) (by omega) (by omega)
    rwa [Int.ofNat_zero] at this
theorem fits_of (N : Nat) : ∀ (b : Bx) (w : World) (A : Option Addr) (c : Nat), SizeOf.sizeOf b < N → BoxC w b A c → Fits b := by
  induction N with
  | zero => intro b w A c h; omega
  | succ N ih =>
    intro b w A c hN hb
    refine Fits.mk b hb.r.2.1 (fun k hk => ?_)
    obtain ⟨i, hi, rfl⟩ := List.getElem_of_mem hk
    obtain ⟨ad, A8, c8, _, _, _, _, _, _, _, _, _, _, hc8, hC8⟩ := kidC_cells hb.r i hi
    have he : rd_T49 b.f6 i = b.f6[i] := by simp [rd_T49, hi]
    rw [he] at hc8 hC8
    exact ih _ w A8 c8 (by have := kid_lt b _ (List.getElem_mem hi); omega) ⟨hC8, hc8⟩
/-- vinculumref23.Few answers. -/
theorem few23_any (b : Bx) (A : Option Addr) (c : Nat) (w : World) (hb : BoxC w b A c) : ∃ r : Bool, ∀ w1, Below w.heap.size w w1 → Calls Try.prog 37 #[boxV b A c] w1 fun e w' => e = .returned (.bool r) ∧ Below w1.heap.size w1 w' := by
  obtain ⟨M, hM⟩ := count_tot b (fits_of _ b w A c (Nat.lt_succ_self _) hb)
  obtain ⟨r, hr⟩ := hM M (Nat.le_refl _) 600
  exact ⟨_, fun w1 h1 => vinculumref23_Few.calls M b.f0 b.f1 b.f2 b.f3 b.f4 b.f5 A c b.f6 (decide (r ≤ 600)) w1 (hb.below h1).r hb.c (by simp only [vinculumref23_Few.f, hr, Option.bind])⟩
/-- A font's row can be read. -/
structure RowAt {α : Type} (d : Kd α) (w : World) (s : Row) (l : List α) : Prop where
  n : s.n = l.length
  r : d.C w s.A l.length l
  c : l.length ≤ s.c
/-- A font's rows can be read. -/
structure FontAt (w : World) (f : FV) : Prop where
  s6 : ∃ l, RowAt k165 w f.s6 l
  s7 : ∃ l, RowAt k167 w f.s7 l
  s8 : ∃ l, RowAt k123 w f.s8 l
  s9 : ∃ l, RowAt (Kd.int .i64) w f.s9 l
  s10 : ∃ l, RowAt k169 w f.s10 l
  s11 : ∃ l, RowAt k169 w f.s11 l
  s12 : ∃ l, RowAt (Kd.int .i64) w f.s12 l
  s13 : ∃ l, RowAt k126 w f.s13 l
  s15 : ∃ l, RowAt k138 w f.s15 l
  s16 : ∃ l, RowAt k138 w f.s16 l
theorem FontAt.konst {w : World} {f : FV} (h : FontAt w f) : ∃ l, f.Konst w l := by
  obtain ⟨l, hl⟩ := h.s9
  exact ⟨l, hl.n, hl.r, hl.c⟩
theorem few18_any (f : FV) (w : World) (hf : FontAt w f) : ∃ r : Bool, ∀ w1, Below w.heap.size w w1 → Calls Try.prog 36 #[f.v] w1 fun e w' => e = .returned (.bool r) ∧ Below w1.heap.size w1 w' := by
  obtain ⟨⟨l6, h6⟩, ⟨l7, h7⟩, ⟨l8, h8⟩, ⟨l9, h9⟩, ⟨l10, h10⟩, ⟨l11, h11⟩, ⟨l12, h12⟩, ⟨l13, h13⟩, ⟨l15, h15⟩, ⟨l16, h16⟩⟩ := hf
  obtain ⟨k, hk⟩ : ∃ k, k = 3 * l8.length + 3 + (12 * l13.length + 2 * l15.length + 2 * l16.length + 2) := ⟨_, rfl⟩
  obtain ⟨x, hx⟩ := short11_tot l8 h8.r.2.1 k (by omega)
  obtain ⟨y, hy⟩ := few17_tot l9 l12 l10 l11 l13 f.i l15 l16 h13.r.2.1 h15.r.2.1 h16.r.2.1 k (by omega)
  have ht : ∃ r, vinculumref18_Few.f k f.h.f0 f.h.f1 f.h.f2 f.h.f3 f.h.f4 f.h.f5 l6 l7 l8 l9 l10 l11 l12 l13 f.i l15 l16 = some r := by
    simp only [vinculumref18_Few.f, hx, hy, Option.bind]
    repeat' split
    all_goals exact ⟨_, rfl⟩
  obtain ⟨r, hr⟩ := ht
  refine ⟨r, fun w1 hb => ?_⟩
  simp only [FV.v, FV.cells, h6.n, h7.n, h8.n, h9.n, h10.n, h11.n, h12.n, h13.n, h15.n, h16.n]
  exact vinculumref18_Few.calls k f.h.f0 f.h.f1 f.h.f2 f.h.f3 f.h.f4 f.h.f5 f.s6.A f.s6.c l6 f.s7.A f.s7.c l7 f.s8.A f.s8.c l8 f.s9.A f.s9.c l9 f.s10.A f.s10.c l10 f.s11.A f.s11.c l11 f.s12.A f.s12.c l12 f.s13.A f.s13.c l13 f.i f.s15.A f.s15.c l15 f.s16.A f.s16.c l16 r w1
    (Kd.C_below h6.r hb) h6.c (Kd.C_below h7.r hb) h7.c (Kd.C_below h8.r hb) h8.c (Kd.C_below h9.r hb) h9.c (Kd.C_below h10.r hb) h10.c (Kd.C_below h11.r hb) h11.c (Kd.C_below h12.r hb) h12.c (Kd.C_below h13.r hb) h13.c (Kd.C_below h15.r hb) h15.c (Kd.C_below h16.r hb) h16.c hr
end Go.Proofs.Ytfbiahlogclkbaa.H

set_option linter.unusedVariables false
set_option linter.unusedSimpArgs false
namespace Go.Proofs.Ytfbiahlogclkbaa.H
open Go.RowKit Go.Proofs.YtfbiahlogclkbaaW.PrintWords Go.Proofs.YtfbiahlogclkbaaW.PrintLast Go.Proofs.YtfbiahlogclkbaaW.PrintMore Go.Proofs.Ytfbiahlogclkbaa.P

end Go.Proofs.Ytfbiahlogclkbaa.H
