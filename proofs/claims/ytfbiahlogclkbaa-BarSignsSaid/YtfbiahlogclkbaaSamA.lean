/- The proof's texts SamA: what the statement leads to. No condition is added. -/
import Derived.Test.YtfbiahlogclkbaaSetA
import Derived.BigQuiet
set_option linter.unusedVariables false
set_option linter.unusedSimpArgs false
namespace Go.Proofs.Ytfbiahlogclkbaa.H
open Go.RowKit Go.Proofs.YtfbiahlogclkbaaW.PrintWords Go.Proofs.YtfbiahlogclkbaaW.PrintLast Go.Proofs.YtfbiahlogclkbaaW.PrintMore Go.Proofs.Ytfbiahlogclkbaa.P

theorem kid_lt (b : Bx) (k : Kx) (h : k ∈ b.f6) : SizeOf.sizeOf k.f2 < SizeOf.sizeOf b := by
  have h1 := List.sizeOf_lt_of_mem h
  cases b
  cases k
  simp at *
  omega
/-- What is in a box can be read. -/
structure BoxC (w : World) (x : Bx) (A : Option Addr) (c : Nat) : Prop where
  r : Kd.C k49 w A x.f6.length x.f6
  c : x.f6.length ≤ c
theorem BoxC.below {w w' : World} {x : Bx} {A : Option Addr} {c : Nat} (h : BoxC w x A c) (hb : Below w.heap.size w w') : BoxC w' x A c := ⟨Kd.C_below h.r hb, h.c⟩
theorem BoxAt.C {w : World} {ok : Nat → Prop} {x : Bx} {A : Option Addr} {c : Nat} (h : BoxAt w ok x A c) : BoxC w x A c := ⟨Kd.F_now h.r, h.c⟩
noncomputable def sameB (a b : Bx) : Bool := @decide (a = b) (Classical.propDecidable _)
theorem sameB_of {a b : Bx} (h : a = b) : sameB a b = true := by unfold sameB; exact @decide_eq_true _ (Classical.propDecidable _) h
theorem sameB_ne {a b : Bx} (h : a ≠ b) : sameB a b = false := by unfold sameB; exact @decide_eq_false _ (Classical.propDecidable _) h
/-- The six numbers, and how many are in it. -/
def headEq (a b : Bx) : Prop := a.f0 = b.f0 ∧ a.f1 = b.f1 ∧ a.f2 = b.f2 ∧ a.f3 = b.f3 ∧ a.f4 = b.f4 ∧ a.f5 = b.f5 ∧ a.f6.length = b.f6.length
theorem box_eq {a b : Bx} (h : headEq a b) (hk : ∀ k, k < a.f6.length → rd_T49 a.f6 k = rd_T49 b.f6 k) : a = b := by
  obtain ⟨h0, h1, h2, h3, h4, h5, h6⟩ := h
  have h7 : a.f6 = b.f6 := by
    refine List.ext_getElem h6 (fun i hi hj => ?_)
    have := hk i hi
    simpa [rd_T49, hi, hj] using this
  cases a
  cases b
  simp_all
theorem kidC_cells {w : World} {A : Option Addr} {l : List Kx} (h : Kd.C k49 w A l.length l) (k : Nat) (hi : k < l.length) : ∃ ad A8 c8, A = some ad ∧ w.cell? (ad.add (k * 9)) = some (.int .i64 (rd_T49 l k).f0) ∧ w.cell? ⟨(ad.add (k * 9)).block, (ad.add (k * 9)).off + 1, none⟩ = some (.int .i64 (rd_T49 l k).f1) ∧ w.cell? ⟨(ad.add (k * 9)).block, (ad.add (k * 9)).off + 2, none⟩ = some (.int .i64 (rd_T49 l k).f2.f0) ∧ w.cell? ⟨(ad.add (k * 9)).block, (ad.add (k * 9)).off + 3, none⟩ = some (.int .i64 (rd_T49 l k).f2.f1) ∧ w.cell? ⟨(ad.add (k * 9)).block, (ad.add (k * 9)).off + 4, none⟩ = some (.int .i64 (rd_T49 l k).f2.f2) ∧ w.cell? ⟨(ad.add (k * 9)).block, (ad.add (k * 9)).off + 5, none⟩ = some (.int .i64 (rd_T49 l k).f2.f3) ∧ w.cell? ⟨(ad.add (k * 9)).block, (ad.add (k * 9)).off + 6, none⟩ = some (.int .i64 (rd_T49 l k).f2.f4) ∧ w.cell? ⟨(ad.add (k * 9)).block, (ad.add (k * 9)).off + 7, none⟩ = some (.int .i64 (rd_T49 l k).f2.f5) ∧ w.cell? ⟨(ad.add (k * 9)).block, (ad.add (k * 9)).off + 8, none⟩ = some (.slice A8 (rd_T49 l k).f2.f6.length c8) ∧ (rd_T49 l k).f2.f6.length ≤ c8 ∧ (k49).C w A8 (rd_T49 l k).f2.f6.length (rd_T49 l k).f2.f6 := by
  have := at_T49 h (k : Int) (by omega) (by omega)
  simpa only [Int.toNat_natCast] using this
theorem bthen {w w1 w2 : World} (h : Below w.heap.size w w1) (k : Below w1.heap.size w1 w2) : Below w.heap.size w w2 := below_then h h.size k
theorem kid_eq {p q : Kx} (h0 : p.f0 = q.f0) (h1 : p.f1 = q.f1) (h2 : p.f2 = q.f2) : p = q := by
  cases p
  cases q
  simp_all
def SamePost (a b : Bx) (w : World) (e : Ending) (w' : World) : Prop := e = .returned (.bool (sameB a b)) ∧ Below w.heap.size w w'
set_option maxHeartbeats 4000000 in
set_option maxRecDepth 100000 in
theorem Same_upto (N : Nat) : ∀ (a b : Bx) (A B : Option Addr) (ca cb : Nat) (w : World), SizeOf.sizeOf a < N → BoxC w a A ca → BoxC w b B cb →
    Calls Try.prog 21 #[boxV a A ca, boxV b B cb] w (SamePost a b w) := by
  induction N with
  | zero => intro a b A B ca cb w h; omega
  | succ N ih =>
    intro a b A B ca cb w hN ha hb
    have HA := Aside0.mk ha
    have HB := Aside0.mk hb
    have HN := Aside0.mk hN
    have HI := Aside0.mk ih
    clear ha hb hN ih
    go_enter Try.func21, Try.ntmps21
    go_upto_region 1 with fail
    obtain ⟨W0, hW0⟩ : ∃ W0 : World, W0 = (w.alloc (.cells (boxL a A ca).toArray 39)).alloc (.cells (boxL b B cb).toArray 39) := ⟨_, rfl⟩
    have HB0 : Aside0 (Below w.heap.size w W0) := ⟨by rw [hW0]; exact below_alloc (below_alloc (Below.refl _ _) _) _⟩
    have h2 : W0.heap[w.heap.size]? = some (.cells #[.int .i64 a.f0, .int .i64 a.f1, .int .i64 a.f2, .int .i64 a.f3, .int .i64 a.f4, .int .i64 a.f5, .slice A a.f6.length ca] 39 (0, 0)) := by rw [hW0]; exact blk_alloc (blk_new _ _) _
    have h3 : W0.heap[w.heap.size + 1]? = some (.cells #[.int .i64 b.f0, .int .i64 b.f1, .int .i64 b.f2, .int .i64 b.f3, .int .i64 b.f4, .int .i64 b.f5, .slice B b.f6.length cb] 39 (0, 0)) := by
      rw [hW0]
      have h := blk_new (w.alloc (.cells (boxL a A ca).toArray 39)) (.cells (boxL b B cb).toArray 39)
      rw [World.size_alloc] at h
      exact h
    rw [← hW0]
    clear hW0
    have H2 := Aside0.mk h2
    have H3 := Aside0.mk h3
    obtain ⟨⟨d0, d1, d2, d3, d4, d5, d6⟩, _⟩ := blk7 h2
    obtain ⟨⟨e0, e1, e2, e3, e4, e5, e6⟩, _⟩ := blk7 h3
    clear h2 h3
    go_cut [54] (fun v54 wc => ∃ q : Bool, v54 = .bool q ∧ Aside0 (q = false ↔ headEq a b) ∧ Aside0 (wc = W0))
    case first =>
      go_wp2
      all_goals
        go_meet
        case rel => exact ⟨_, rfl, ⟨by simp [headEq, *] <;> omega⟩, ⟨rfl⟩⟩
    case rest =>
      obtain ⟨q, rfl, HQ, HW⟩ := hcut
      have hw := HW.out.symm
      subst hw
      clear HW
      cases q with
      | true =>
        have HS := Aside0.mk (sameB_ne (a := a) (b := b) (fun h => by subst h; exact absurd (HQ.out.2 ⟨rfl, rfl, rfl, rfl, rfl, rfl, rfl⟩) (by simp)))
        go_wp2
        go_ret
        exact ⟨by rw [HS.out]; rfl, HB0.out⟩
      | false =>
        have HE := Aside0.mk (HQ.out.1 rfl)
        clear HQ
        have e6' : W0.cell? ⟨w.heap.size + 1, 6, none⟩ = some (.slice B a.f6.length cb) := by rw [HE.out.2.2.2.2.2.2]; exact e6
        clear d0 d1 d2 d3 d4 d5 e0 e1 e2 e3 e4 e5 e6
        go_wp2_with fail
        go_loopw [5] (fun q W => ∃ k : Nat, k ≤ a.f6.length ∧ q = .int .i64 k ∧ Aside0 (∀ i : Nat, i < k → rd_T49 a.f6 i = rd_T49 b.f6 i) ∧ Aside0 (Below W0.heap.size W0 W)) (fun q _ => a.f6.length - (intOf q).toNat)
        case atStart => exact ⟨0, by omega, rfl, ⟨fun i hi => by omega⟩, ⟨Below.refl _ _⟩⟩
        case round =>
          obtain ⟨k, hk, rfl, HP, HW⟩ := hrel
          replace d6 := pw_cell_below HW.out d6
          replace e6' := pw_cell_below HW.out e6'
          have hm : a.f6.length ≤ 9223372036854775807 := HA.out.r.2.1
          by_cases hlt : k < a.f6.length
          · have hlt' : k < b.f6.length := by have := HE.out.2.2.2.2.2.2; omega
            have HWw := Aside0.mk (bthen HB0.out HW.out)
            obtain ⟨ad, A8, c8, hA, p0, p1, p2, p3, p4, p5, p6, p7, p8, hc8, hC8⟩ := kidC_cells (HA.out.below HWw.out).r k hlt
            obtain ⟨bd, B8, c8', hB, q0, q1, q2, q3, q4, q5, q6, q7, q8, hc8', hC8'⟩ := kidC_cells (HB.out.below HWw.out).r k hlt'
            subst hA hB
            have e6 := e6'
            clear e6'
            obtain ⟨p, hp⟩ : ∃ p, p = rd_T49 a.f6 k := ⟨_, rfl⟩
            obtain ⟨p', hp'⟩ : ∃ p, p = rd_T49 b.f6 k := ⟨_, rfl⟩
            rw [← hp] at p0 p1 p2 p3 p4 p5 p6 p7 p8 hc8 hC8
            rw [← hp'] at q0 q1 q2 q3 q4 q5 q6 q7 q8 hc8' hC8'
            have HP1 := Aside0.mk hp
            have HP2 := Aside0.mk hp'
            clear hp hp'
            have hsz : SizeOf.sizeOf p.f2 < N := by
              have h1 := kid_lt a p (by rw [HP1.out]; simp [rd_T49, hlt])
              have := HN.out
              omega
            have hne : p ≠ p' → sameB a b = false := fun h => sameB_ne (fun he => h (by rw [HP1.out, HP2.out, he]))
            by_cases hx : p.f0 = p'.f0
            · by_cases hy : p.f1 = p'.f1
              · rw [← hx] at q0
                rw [← hy] at q1
                have HQ : ∀ W', Below wr.heap.size wr W' → ((fun W : World => W.cell? ⟨w.heap.size, 6, none⟩ = some (.slice (some ad) a.f6.length ca) ∧ W.cell? ⟨w.heap.size + 1, 6, none⟩ = some (.slice (some bd) a.f6.length cb) ∧ W.cell? (ad.add (k * 9)) = some (.int .i64 p.f0) ∧ W.cell? ⟨(ad.add (k * 9)).block, (ad.add (k * 9)).off + 1, none⟩ = some (.int .i64 p.f1) ∧ W.cell? ⟨(ad.add (k * 9)).block, (ad.add (k * 9)).off + 2, none⟩ = some (.int .i64 p.f2.f0) ∧ W.cell? ⟨(ad.add (k * 9)).block, (ad.add (k * 9)).off + 3, none⟩ = some (.int .i64 p.f2.f1) ∧ W.cell? ⟨(ad.add (k * 9)).block, (ad.add (k * 9)).off + 4, none⟩ = some (.int .i64 p.f2.f2) ∧ W.cell? ⟨(ad.add (k * 9)).block, (ad.add (k * 9)).off + 5, none⟩ = some (.int .i64 p.f2.f3) ∧ W.cell? ⟨(ad.add (k * 9)).block, (ad.add (k * 9)).off + 6, none⟩ = some (.int .i64 p.f2.f4) ∧ W.cell? ⟨(ad.add (k * 9)).block, (ad.add (k * 9)).off + 7, none⟩ = some (.int .i64 p.f2.f5) ∧ W.cell? ⟨(ad.add (k * 9)).block, (ad.add (k * 9)).off + 8, none⟩ = some (.slice A8 p.f2.f6.length c8) ∧ W.cell? (bd.add (k * 9)) = some (.int .i64 p.f0) ∧ W.cell? ⟨(bd.add (k * 9)).block, (bd.add (k * 9)).off + 1, none⟩ = some (.int .i64 p.f1) ∧ W.cell? ⟨(bd.add (k * 9)).block, (bd.add (k * 9)).off + 2, none⟩ = some (.int .i64 p'.f2.f0) ∧ W.cell? ⟨(bd.add (k * 9)).block, (bd.add (k * 9)).off + 3, none⟩ = some (.int .i64 p'.f2.f1) ∧ W.cell? ⟨(bd.add (k * 9)).block, (bd.add (k * 9)).off + 4, none⟩ = some (.int .i64 p'.f2.f2) ∧ W.cell? ⟨(bd.add (k * 9)).block, (bd.add (k * 9)).off + 5, none⟩ = some (.int .i64 p'.f2.f3) ∧ W.cell? ⟨(bd.add (k * 9)).block, (bd.add (k * 9)).off + 6, none⟩ = some (.int .i64 p'.f2.f4) ∧ W.cell? ⟨(bd.add (k * 9)).block, (bd.add (k * 9)).off + 7, none⟩ = some (.int .i64 p'.f2.f5) ∧ W.cell? ⟨(bd.add (k * 9)).block, (bd.add (k * 9)).off + 8, none⟩ = some (.slice B8 p'.f2.f6.length c8')) : World → Prop) W' := fun W' h => ⟨pw_cell_below h d6, pw_cell_below h e6, pw_cell_below h p0, pw_cell_below h p1, pw_cell_below h p2, pw_cell_below h p3, pw_cell_below h p4, pw_cell_below h p5, pw_cell_below h p6, pw_cell_below h p7, pw_cell_below h p8, pw_cell_below h q0, pw_cell_below h q1, pw_cell_below h q2, pw_cell_below h q3, pw_cell_below h q4, pw_cell_below h q5, pw_cell_below h q6, pw_cell_below h q7, pw_cell_below h q8⟩
                have HNE := Aside0.mk hne
                have hx0 := Aside0.mk hx
                have hy0 := Aside0.mk hy
                clear hne hx hy
                go_wp2_with fail
                go_region_held3 (fun W : World => W.cell? ⟨w.heap.size, 6, none⟩ = some (.slice (some ad) a.f6.length ca) ∧ W.cell? ⟨w.heap.size + 1, 6, none⟩ = some (.slice (some bd) a.f6.length cb) ∧ W.cell? (ad.add (k * 9)) = some (.int .i64 p.f0) ∧ W.cell? ⟨(ad.add (k * 9)).block, (ad.add (k * 9)).off + 1, none⟩ = some (.int .i64 p.f1) ∧ W.cell? ⟨(ad.add (k * 9)).block, (ad.add (k * 9)).off + 2, none⟩ = some (.int .i64 p.f2.f0) ∧ W.cell? ⟨(ad.add (k * 9)).block, (ad.add (k * 9)).off + 3, none⟩ = some (.int .i64 p.f2.f1) ∧ W.cell? ⟨(ad.add (k * 9)).block, (ad.add (k * 9)).off + 4, none⟩ = some (.int .i64 p.f2.f2) ∧ W.cell? ⟨(ad.add (k * 9)).block, (ad.add (k * 9)).off + 5, none⟩ = some (.int .i64 p.f2.f3) ∧ W.cell? ⟨(ad.add (k * 9)).block, (ad.add (k * 9)).off + 6, none⟩ = some (.int .i64 p.f2.f4) ∧ W.cell? ⟨(ad.add (k * 9)).block, (ad.add (k * 9)).off + 7, none⟩ = some (.int .i64 p.f2.f5) ∧ W.cell? ⟨(ad.add (k * 9)).block, (ad.add (k * 9)).off + 8, none⟩ = some (.slice A8 p.f2.f6.length c8) ∧ W.cell? (bd.add (k * 9)) = some (.int .i64 p.f0) ∧ W.cell? ⟨(bd.add (k * 9)).block, (bd.add (k * 9)).off + 1, none⟩ = some (.int .i64 p.f1) ∧ W.cell? ⟨(bd.add (k * 9)).block, (bd.add (k * 9)).off + 2, none⟩ = some (.int .i64 p'.f2.f0) ∧ W.cell? ⟨(bd.add (k * 9)).block, (bd.add (k * 9)).off + 3, none⟩ = some (.int .i64 p'.f2.f1) ∧ W.cell? ⟨(bd.add (k * 9)).block, (bd.add (k * 9)).off + 4, none⟩ = some (.int .i64 p'.f2.f2) ∧ W.cell? ⟨(bd.add (k * 9)).block, (bd.add (k * 9)).off + 5, none⟩ = some (.int .i64 p'.f2.f3) ∧ W.cell? ⟨(bd.add (k * 9)).block, (bd.add (k * 9)).off + 6, none⟩ = some (.int .i64 p'.f2.f4) ∧ W.cell? ⟨(bd.add (k * 9)).block, (bd.add (k * 9)).off + 7, none⟩ = some (.int .i64 p'.f2.f5) ∧ W.cell? ⟨(bd.add (k * 9)).block, (bd.add (k * 9)).off + 8, none⟩ = some (.slice B8 p'.f2.f6.length c8'))
                  (first | (with_reducible exact HQ _ (Below.refl _ _).drew) | (with_reducible exact HQ _ (Below.refl _ _)) | (with_reducible exact HQ _ hb2) | (with_reducible exact HQ _ hb2.drew))
                  (first | (go_at_call 21; refine (HI.out p.f2 p'.f2 _ _ _ _ _ hsz (BoxC.below ⟨hC8, hc8⟩ (Below.refl _ _).drew) (BoxC.below ⟨hC8', hc8'⟩ (Below.refl _ _).drew)).mono ?_; rintro en w2 ⟨rfl, hb2'⟩; have hb2 : Below wr.heap.size wr w2 := (Below.refl _ wr).drew.trans hb2'))
                have HB2 := Aside0.mk hb2
                clear HQ hb2 hb2' p0 p1 p2 p3 p4 p5 p6 p7 p8 q0 q1 q2 q3 q4 q5 q6 q7 q8 d6 e6
                go_wp2
                · rename_i hq
                  have hf : sameB p.f2 p'.f2 = false := by simpa using hq
                  have HS := Aside0.mk (HNE.out (fun h => by rw [h, sameB_of rfl] at hf; cases hf))
                  clear HNE hq hf
                  go_ret
                  exact ⟨by rw [HS.out]; rfl, bthen (bthen HB0.out HW.out) HB2.out⟩
                · rename_i hq
                  have hf : sameB p.f2 p'.f2 = true := by simpa using hq
                  have HEq : Aside0 (p = p') := ⟨kid_eq hx0.out hy0.out (Classical.byContradiction (fun h => by rw [sameB_ne h] at hf; cases hf))⟩
                  clear HNE hq hf
                  go_roundw
                  case rel =>
                    refine ⟨k + 1, by omega, by go_num, ⟨fun i hi => ?_⟩, ⟨bthen HW.out HB2.out⟩⟩
                    rcases Nat.lt_succ_iff_lt_or_eq.1 hi with h | h
                    · exact HP.out i h
                    · subst h
                      rw [← HP1.out, ← HP2.out, HEq.out]
                  case measure => simp [intOf]; omega
              · have HS := Aside0.mk (hne (fun h => hy (by rw [h])))
                rw [← hx] at q0
                have bx : (p.f1 != p'.f1) = true := by rw [bne_iff_ne]; exact hy
                clear hne hx hy p2 p3 p4 p5 p6 p7 p8 q2 q3 q4 q5 q6 q7 q8 hc8 hc8' hsz hm
                go_wp2_with fail
                go_quiet (fail)
                go_wp2
                go_ret
                exact ⟨by rw [HS.out]; rfl, pw_below_drewN (bthen HB0.out HW.out) _⟩
            · have HS := Aside0.mk (hne (fun h => hx (by rw [h])))
              have bx : (p.f0 != p'.f0) = true := by rw [bne_iff_ne]; exact hx
              clear hne hx p1 p2 p3 p4 p5 p6 p7 p8 q1 q2 q3 q4 q5 q6 q7 q8 hc8 hc8' hsz hm
              go_wp2_with fail
              go_quiet (fail)
              go_wp2
              go_ret
              exact ⟨by rw [HS.out]; rfl, pw_below_drewN (bthen HB0.out HW.out) _⟩
          · have hkl : k = a.f6.length := by omega
            subst hkl
            have HS := Aside0.mk (sameB_of (box_eq HE.out HP.out))
            go_wp2
            go_ret
            exact ⟨by rw [HS.out]; rfl, bthen HB0.out HW.out⟩
/-- vinculumref23.Same: is it the same value? -/
theorem Same_any (a b : Bx) (A B : Option Addr) (ca cb : Nat) (w : World) (ha : BoxC w a A ca) (hb : BoxC w b B cb) :
    Calls Try.prog 21 #[boxV a A ca, boxV b B cb] w (SamePost a b w) := Same_upto _ a b A B ca cb w (Nat.lt_succ_self _) ha hb
end Go.Proofs.Ytfbiahlogclkbaa.H
