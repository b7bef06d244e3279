/- The proof's texts StyB: what the statement leads to. No condition is added. -/
import Derived.Test.YtfbiahlogclkbaaStyA
import Derived.Deep.RegionHeld3
set_option linter.unusedVariables false
set_option linter.unusedSimpArgs false
namespace Go.Proofs.Ytfbiahlogclkbaa.H
open Go.RowKit Go.Proofs.YtfbiahlogclkbaaW.PrintWords Go.Proofs.YtfbiahlogclkbaaW.PrintLast Go.Proofs.YtfbiahlogclkbaaW.PrintMore Go.Proofs.Ytfbiahlogclkbaa.P

/-- A row of a font. -/
structure Row where
  A : Option Addr
  n : Nat
  c : Nat
/-- A font, as its cells tell it. -/
structure FV where
  h : S23
  i : Int
  s6 : Row
  s7 : Row
  s8 : Row
  s9 : Row
  s10 : Row
  s11 : Row
  s12 : Row
  s13 : Row
  s15 : Row
  s16 : Row
abbrev FV.cells (f : FV) : Array Value := #[.int .i64 f.h.f0, .int .i64 f.h.f1, .int .i64 f.h.f2, .int .i64 f.h.f3, .int .i64 f.h.f4, .bool f.h.f5, .slice f.s6.A f.s6.n f.s6.c, .slice f.s7.A f.s7.n f.s7.c, .slice f.s8.A f.s8.n f.s8.c, .slice f.s9.A f.s9.n f.s9.c, .slice f.s10.A f.s10.n f.s10.c, .slice f.s11.A f.s11.n f.s11.c, .slice f.s12.A f.s12.n f.s12.c, .slice f.s13.A f.s13.n f.s13.c, .int .i64 f.i, .slice f.s15.A f.s15.n f.s15.c, .slice f.s16.A f.s16.n f.s16.c]
abbrev FV.v (f : FV) : Value := .agg f.cells
/-- Its constants can be read. -/
structure FV.Konst (f : FV) (w : World) (l : List Int) : Prop where
  n : f.s9.n = l.length
  r : Kd.C (Kd.int .i64) w f.s9.A l.length l
  c : l.length ≤ f.s9.c
theorem FV.Konst.below {f : FV} {w w' : World} {l : List Int} (h : f.Konst w l) (hb : Below w.heap.size w w') : f.Konst w' l := ⟨h.n, Kd.C_below h.r hb, h.c⟩
/-- P22.3. -/
def konstR (h : S23) (l : List Int) (k c z : Int) : Int × Int :=
  if 0 ≤ k ∧ k < 56 then if (sizeR l c z).2 = 0 then unitsR h (rd l k) (sizeR l c z).1 else (0, (sizeR l c z).2) else (0, 1)
theorem sizeR_len {l : List Int} {c z : Int} (h : (sizeR l c z).2 = 0) : l.length = 56 := by
  unfold sizeR at h
  split at h
  · rename_i hh
    have := hh.2.2.2
    unfold konstOk at this
    simp at this
    exact this.1
  · cases h

set_option maxHeartbeats 4000000 in
set_option maxRecDepth 100000 in
theorem Konst_any (f : FV) (l : List Int) (k c z : Int) (w : World) (hf : f.Konst w l) :
    Calls Try.prog 22 #[f.v, .int .i64 k, .int .i64 c, .int .i64 z] w (PairPost (konstR f.h l k c z) w) := by
  have HF := Aside0.mk hf
  by_cases h0 : k < 0
  · have HS : Aside0 (konstR f.h l k c z = (0, 1)) := ⟨by unfold konstR; rw [if_neg (by omega)]⟩
    clear hf
    go_enter Try.func22, Try.ntmps22
    go_wp2
    go_ret2
    exact ⟨by rw [HS.out]; rfl, below_alloc (Below.refl _ _) _⟩
  by_cases h1 : k < 56
  rotate_left
  · have HS : Aside0 (konstR f.h l k c z = (0, 1)) := ⟨by unfold konstR; rw [if_neg (by omega)]⟩
    have h56 : 56 ≤ k := by omega
    clear hf h1
    go_enter Try.func22, Try.ntmps22
    go_wp2
    go_ret2
    exact ⟨by rw [HS.out]; rfl, below_alloc (Below.refl _ _) _⟩
  obtain ⟨r, hr⟩ : ∃ r, r = sizeR l c z := ⟨_, rfl⟩
  obtain ⟨n, e⟩ := r
  have hr' := hr.symm
  have HR := Aside0.mk hr'
  have b56 : decide (56 ≤ k) = false := decide_eq_false (by omega)
  have e0 := blk_new w (.cells f.cells 36)
  have c9 : (w.alloc (.cells f.cells 36)).cell? ⟨w.heap.size, 9, none⟩ = some (.slice f.s9.A l.length f.s9.c) := by rw [← hf.n]; exact (blk_cell e0 9).trans rfl
  by_cases he : e = 0
  · have HS : Aside0 (konstR f.h l k c z = unitsR f.h (rd l k) n) := ⟨by unfold konstR; rw [if_pos (by omega), hr']; exact if_pos he⟩
    have hlen := sizeR_len (l := l) (c := c) (z := z) (by rw [hr']; exact he)
    have hkl : k < (l.length : Int) := by omega
    have hk0 : 0 ≤ k := by omega
    obtain ⟨ad, hA, hcell⟩ := Kd_int_at hf.r k.toNat (by omega)
    have hcell' : w.cell? (ad.add k.toNat) = some (.int .i64 (rd l k)) := by rw [hcell, Int.toNat_of_nonneg hk0]
    have HCELL := Aside0.mk hcell'
    have HLT := Aside0.mk (World.block_lt_of_cell? _ _ hcell')
    have HE0 := Aside0.mk e0
    have HC := Aside0.mk hf.c
    clear hcell hcell' hr hr' e0 hf h1 hlen
    rw [hA] at c9
    go_enter Try.func22, Try.ntmps22
    go_wp2_with fail
    refine (Size_any (some ad) f.s9.c l c z _ (Kd.C_below (hA ▸ HF.out.r) (below_alloc (Below.refl _ _) _)) HC.out).mono ?_
    rintro e w2 ⟨rfl, hb⟩
    rw [HR.out]
    have e1 := blk_below HE0.out hb
    have hB := below1 _ hb
    have hlt : w.heap.size < w2.heap.size := blk_lt e1
    have d0 : w2.cell? ⟨w.heap.size, 0, none⟩ = some (.int .i64 f.h.f0) := (blk_cell e1 0).trans rfl
    have d1 : w2.cell? ⟨w.heap.size, 1, none⟩ = some (.int .i64 f.h.f1) := (blk_cell e1 1).trans rfl
    have d2 : w2.cell? ⟨w.heap.size, 2, none⟩ = some (.int .i64 f.h.f2) := (blk_cell e1 2).trans rfl
    have d3 : w2.cell? ⟨w.heap.size, 3, none⟩ = some (.int .i64 f.h.f3) := (blk_cell e1 3).trans rfl
    have d4 : w2.cell? ⟨w.heap.size, 4, none⟩ = some (.int .i64 f.h.f4) := (blk_cell e1 4).trans rfl
    have d5 : w2.cell? ⟨w.heap.size, 5, none⟩ = some (.bool f.h.f5) := (blk_cell e1 5).trans rfl
    have d9 : w2.cell? ⟨w.heap.size, 9, none⟩ = some (.slice (some ad) l.length f.s9.c) := by rw [← hA, ← HF.out.n]; exact (blk_cell e1 9).trans rfl
    have dk : w2.cell? (ad.add k.toNat) = some (.int .i64 (rd l k)) := (hB.cell HLT.out).trans HCELL.out
    have HB := Aside0.mk hB
    clear hb e1 hB
    subst he
    go_wp2_with fail
    have HQ : ∀ W, Below w2.heap.size w2 W → ((fun W : World => W.cell? ⟨w.heap.size, 0, none⟩ = some (.int .i64 f.h.f0) ∧ W.cell? ⟨w.heap.size, 1, none⟩ = some (.int .i64 f.h.f1) ∧ W.cell? ⟨w.heap.size, 2, none⟩ = some (.int .i64 f.h.f2) ∧ W.cell? ⟨w.heap.size, 3, none⟩ = some (.int .i64 f.h.f3) ∧ W.cell? ⟨w.heap.size, 4, none⟩ = some (.int .i64 f.h.f4) ∧ W.cell? ⟨w.heap.size, 5, none⟩ = some (.bool f.h.f5) ∧ W.cell? ⟨w.heap.size, 9, none⟩ = some (.slice (some ad) l.length f.s9.c) ∧ W.cell? (ad.add k.toNat) = some (.int .i64 (rd l k))) : World → Prop) W := fun W hW => ⟨(hW.cell hlt).trans d0, (hW.cell hlt).trans d1, (hW.cell hlt).trans d2, (hW.cell hlt).trans d3, (hW.cell hlt).trans d4, (hW.cell hlt).trans d5, (hW.cell hlt).trans d9, (hW.cell (World.block_lt_of_cell? _ _ dk)).trans dk⟩
    clear d0 d1 d2 d3 d4 d5 d9 dk
    go_region_held3 (fun W : World => W.cell? ⟨w.heap.size, 0, none⟩ = some (.int .i64 f.h.f0) ∧ W.cell? ⟨w.heap.size, 1, none⟩ = some (.int .i64 f.h.f1) ∧ W.cell? ⟨w.heap.size, 2, none⟩ = some (.int .i64 f.h.f2) ∧ W.cell? ⟨w.heap.size, 3, none⟩ = some (.int .i64 f.h.f3) ∧ W.cell? ⟨w.heap.size, 4, none⟩ = some (.int .i64 f.h.f4) ∧ W.cell? ⟨w.heap.size, 5, none⟩ = some (.bool f.h.f5) ∧ W.cell? ⟨w.heap.size, 9, none⟩ = some (.slice (some ad) l.length f.s9.c) ∧ W.cell? (ad.add k.toNat) = some (.int .i64 (rd l k)))
      (first | exact HQ _ (Below.refl _ _).drew | (exact HQ _ (by assumption)))
      ((go_at_call 54; refine (Units_any f.h (rd l k) n _).mono ?_; rintro e w3 ⟨rfl, hb3⟩; have hB3 : Below w2.heap.size w2 w3 := (Below.refl _ w2).drew.trans hb3))
    clear HQ
    go_wp2
    go_ret2
    exact ⟨by rw [HS.out]; rfl, below_next HB.out hB3⟩
  · have HS : Aside0 (konstR f.h l k c z = (0, e)) := ⟨by unfold konstR; rw [if_pos (by omega), hr']; exact if_neg he⟩
    have bne : (e != 0) = true := by rw [bne_iff_ne]; exact he
    clear hr hr' e0 h1 he
    go_enter Try.func22, Try.ntmps22
    go_wp2_with fail
    refine (Size_any f.s9.A f.s9.c l c z _ (Kd.C_below HF.out.r (below_alloc (Below.refl _ _) _)) HF.out.c).mono ?_
    rintro en w2 ⟨rfl, hb⟩
    rw [HR.out]
    have HB := Aside0.mk (below1 _ hb)
    clear hb
    go_wp2
    go_ret2
    exact ⟨by rw [HS.out]; rfl, HB.out⟩
end Go.Proofs.Ytfbiahlogclkbaa.H
