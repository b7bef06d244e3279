/- Package stack: the builder's greater methods. Package stack: boxes in boxes. Package stack: a box of others. No condition is added. -/
import Derived.Test.YtfbiahlogclkbaaStkA
import Derived.Test.YtfbiahlogclkbaaSetA
set_option linter.unusedVariables false
set_option linter.unusedSimpArgs false
namespace Go.Proofs.Ytfbiahlogclkbaa.H
open Go.RowKit Go.Proofs.YtfbiahlogclkbaaW.PrintWords Go.Proofs.YtfbiahlogclkbaaW.PrintLast Go.Proofs.YtfbiahlogclkbaaW.PrintMore Go.Proofs.Ytfbiahlogclkbaa.P

def tallK (k c : Int) : Int := if c < 2 then k + 1 else k
set_option maxRecDepth 100000 in
theorem stk_either_any (g : Nat) (f : FV) (l : List Int) (c z e : Int) (k : Int) (w : World) (hB : stk_B w g f c z e) (hf : f.Konst w l) (hk0 : 0 ≤ k) (hk1 : k ≤ 100) :
    Calls Try.prog 39 #[.pointer (some ⟨g, 0, none⟩), .int .i64 k] w (stk_Post g f c z (keptR e (konstR f.h l (tallK k c) c z).1 (konstR f.h l (tallK k c) c z).2) w) := by
  have HB := Aside0.mk hB
  have c17 : w.cell? ⟨g, 17, none⟩ = some (.int .i64 c) := (blk_cell hB 17).trans rfl
  clear hB
  by_cases hc : c < 2
  · have HS : Aside0 (tallK k c = k + 1) := ⟨by simp [tallK, hc]⟩
    go_enter Try.func39, Try.ntmps39
    go_wp2_with fail
    refine (stk_konst_any g f l c z e _ _ HB.out hf).mono ?_
    rintro en w3 ⟨rfl, hg3, hB3⟩
    rw [← HS.out]
    rw [← HS.out] at hB3
    clear c17
    go_wp2
    go_ret
    exact ⟨rfl, hg3, hB3⟩
  · have HS : Aside0 (tallK k c = k) := ⟨by simp [tallK, hc]⟩
    go_enter Try.func39, Try.ntmps39
    go_wp2_with fail
    refine (stk_konst_any g f l c z e _ _ HB.out hf).mono ?_
    rintro en w3 ⟨rfl, hg3, hB3⟩
    rw [← HS.out] at hB3
    clear c17
    go_wp2
    go_ret
    exact ⟨by rw [HS.out]; rfl, hg3, hB3⟩

/-- What a method that hands back nothing leaves. -/
def stk_Post0 (g : Nat) (f : FV) (c z e : Int) (w : World) (en : Ending) (w' : World) : Prop := en = .returned (.tuple #[]) ∧ w.grownBy w' (some g) ∧ stk_B w' g f c z e
set_option maxHeartbeats 4000000 in
set_option maxRecDepth 100000 in
theorem stk_need_any (g : Nat) (f : FV) (c z e : Int) (A : Option Addr) (cap n : Nat) (l : List Bx) (w : World) (hB : stk_B w g f c z e) (hn : n = l.length) (hr : Kd.C k39 w A l.length l) (hc : n ≤ cap) (hne : ∀ ad, A = some ad → ad.block ≠ g) :
    Calls Try.prog 40 #[.pointer (some ⟨g, 0, none⟩), .slice A n cap] w (stk_Post0 g f c z (needE e l) w) := by
  subst hn
  have HB := Aside0.mk hB
  have HR := Aside0.mk hr
  have HNE := Aside0.mk hne
  have hm := hr.2.1
  clear hB hr hne
  go_enter Try.func40, Try.ntmps40
  go_wp2_with fail
  go_loopw [8] (fun q W => ∃ k : Nat, k ≤ l.length ∧ q = .int .i64 k ∧ ∃ e', Aside0 (e' = needE e (l.take k)) ∧ Aside0 (w.grownBy W (some g)) ∧ Aside0 (stk_B W g f c z e')) (fun q _ => l.length - (intOf q).toNat)
  case atStart => exact ⟨0, by omega, rfl, e, ⟨rfl⟩, ⟨grown_refl _ _⟩, ⟨HB.out⟩⟩
  case round =>
    obtain ⟨k, hk, rfl, e', HE, HG, HBr⟩ := hrel
    by_cases hlt : k < l.length
    · obtain ⟨ad, A6, c6, hA, d0, d1, d2, d3, d4, d5, d6, hc6, hC6⟩ := box_cells HR.out k hlt
      subst hA
      have hadg : (ad.add (k * 7)).block ≠ g := by rw [add_block]; exact HNE.out ad rfl
      have hgg : ∀ {a : Addr} {v : Value}, w.cell? a = some v → a.block ≠ g → wr.cell? a = some v := fun h1 h2 => cell_grown HG.out h1 (by simpa using h2)
      replace d0 := hgg d0 hadg
      replace d1 := hgg d1 hadg
      replace d2 := hgg d2 hadg
      replace d3 := hgg d3 hadg
      replace d4 := hgg d4 hadg
      replace d5 := hgg d5 hadg
      replace d6 := hgg d6 hadg
      have HTK := Aside0.mk (needE_take e l k hlt)
      obtain ⟨p, hp⟩ : ∃ p, p = rd_T39 l k := ⟨_, rfl⟩
      rw [← hp] at d0 d1 d2 d3 d4 d5 d6 HTK
      clear hgg hC6 hp hc6
      cases hlb : lensB p with
      | true =>
        have HAF : Aside0 (allLen [p.f1, p.f2, p.f3] = true) := ⟨hlb⟩
        have HE2 : Aside0 (e' = needE e (l.take (k + 1))) := ⟨by rw [HTK.out, if_pos hlb, HE.out]⟩
        clear hlb
        go_wp2_with (go_at_call 23; refine (Is_any _ 3 [p.f1, p.f2, p.f3] _ (C_lit _ _ [p.f1, p.f2, p.f3] _ _ (by simp) rfl (by simp)) (by simp)).mono ?_; rintro en w3 ⟨rfl, hb3⟩; rw [HAF.out]; have HB3 := Aside0.mk (below2 _ _ hb3); clear hb3)
        go_roundw
        case rel => exact ⟨k + 1, by omega, by go_num, e', HE2, ⟨grown_trans HG.out (grown_of_below HB3.out _)⟩, ⟨blk_below HBr.out HB3.out⟩⟩
        case measure => simp [intOf]; omega
      | false =>
        have HAF : Aside0 (allLen [p.f1, p.f2, p.f3] = false) := ⟨hlb⟩
        have HE2 : Aside0 ((keptR e' 0 1).2 = needE e (l.take (k + 1))) := ⟨by rw [HTK.out, if_neg (by rw [hlb]; simp), HE.out]⟩
        clear hlb
        go_wp2_with fail
        refine (Is_any _ 3 [p.f1, p.f2, p.f3] _ (C_lit _ _ [p.f1, p.f2, p.f3] _ _ (by simp) rfl (by simp)) (by simp)).mono ?_
        rintro en w3 ⟨rfl, hb3⟩
        rw [HAF.out]
        have HB3 := Aside0.mk (below2 _ _ hb3)
        clear hb3
        go_wp2_with fail
        refine (stk_keep_any g f c z e' _ _ _ (blk_below HBr.out HB3.out)).mono ?_
        rintro en w4 ⟨rfl, hg4, hB4⟩
        have HG4 := Aside0.mk hg4
        have HB4 := Aside0.mk hB4
        clear hg4 hB4
        go_wp2
        go_roundw
        case rel => exact ⟨k + 1, by omega, by go_num, _, HE2, ⟨grown_trans HG.out (grown_below HB3.out HG4.out)⟩, ⟨HB4.out⟩⟩
        case measure => simp [intOf]; omega
    · have hkl : k = l.length := by omega
      subst hkl
      rw [List.take_length] at HE
      go_wp2
      refine bodyPost_ret (results_none rfl _ _ _) rfl ?_
      exact ⟨rfl, HG.out, by rw [← HE.out]; exact HBr.out⟩
end Go.Proofs.Ytfbiahlogclkbaa.H

set_option linter.unusedVariables false
set_option linter.unusedSimpArgs false
namespace Go.Proofs.Ytfbiahlogclkbaa.H
open Go.RowKit Go.Proofs.YtfbiahlogclkbaaW.PrintWords Go.Proofs.YtfbiahlogclkbaaW.PrintLast Go.Proofs.YtfbiahlogclkbaaW.PrintMore Go.Proofs.Ytfbiahlogclkbaa.P

/-- A block of a kid's cells: they can be read and written. -/
theorem blk9 {W : World} {b : Nat} {a0 a1 a2 a3 a4 a5 a6 a7 a8 : Value} {T : TypeId} (h : W.heap[b]? = some (.cells #[a0, a1, a2, a3, a4, a5, a6, a7, a8] T (0, 0))) :
    (W.cell? ⟨b, 0, none⟩ = some a0 ∧ W.cell? ⟨b, 1, none⟩ = some a1 ∧ W.cell? ⟨b, 2, none⟩ = some a2 ∧ W.cell? ⟨b, 3, none⟩ = some a3 ∧ W.cell? ⟨b, 4, none⟩ = some a4 ∧ W.cell? ⟨b, 5, none⟩ = some a5 ∧ W.cell? ⟨b, 6, none⟩ = some a6 ∧ W.cell? ⟨b, 7, none⟩ = some a7 ∧ W.cell? ⟨b, 8, none⟩ = some a8) ∧
    W.frozen? ⟨b, 0, none⟩ = false ∧ W.frozen? ⟨b, 1, none⟩ = false ∧ W.frozen? ⟨b, 2, none⟩ = false ∧ W.frozen? ⟨b, 3, none⟩ = false ∧ W.frozen? ⟨b, 4, none⟩ = false ∧ W.frozen? ⟨b, 5, none⟩ = false ∧ W.frozen? ⟨b, 6, none⟩ = false ∧ W.frozen? ⟨b, 7, none⟩ = false ∧ W.frozen? ⟨b, 8, none⟩ = false :=
  ⟨⟨blk_cell h 0, blk_cell h 1, blk_cell h 2, blk_cell h 3, blk_cell h 4, blk_cell h 5, blk_cell h 6, blk_cell h 7, blk_cell h 8⟩, blk_frozen h 0, blk_frozen h 1, blk_frozen h 2, blk_frozen h 3, blk_frozen h 4, blk_frozen h 5, blk_frozen h 6, blk_frozen h 7, blk_frozen h 8⟩
theorem set9 {W : World} {b : Nat} {a0 a1 a2 a3 a4 a5 a6 a7 a8 : Value} {T : TypeId} (u0 u1 u2 u3 u4 u5 u6 u7 u8 : Value) (h : W.heap[b]? = some (.cells #[a0, a1, a2, a3, a4, a5, a6, a7, a8] T (0, 0))) :
    (((((((((W.setCell ⟨b, 0, none⟩ u0).setCell ⟨b, 1, none⟩ u1).setCell ⟨b, 2, none⟩ u2).setCell ⟨b, 3, none⟩ u3).setCell ⟨b, 4, none⟩ u4).setCell ⟨b, 5, none⟩ u5).setCell ⟨b, 6, none⟩ u6).setCell ⟨b, 7, none⟩ u7).setCell ⟨b, 8, none⟩ u8).heap[b]? = some (.cells #[u0, u1, u2, u3, u4, u5, u6, u7, u8] T (0, 0)) := by
  have h0 := blk_put (cs' := #[u0, a1, a2, a3, a4, a5, a6, a7, a8]) h 0 u0 rfl
  have h1 := blk_put (cs' := #[u0, u1, a2, a3, a4, a5, a6, a7, a8]) h0 1 u1 rfl
  have h2 := blk_put (cs' := #[u0, u1, u2, a3, a4, a5, a6, a7, a8]) h1 2 u2 rfl
  have h3 := blk_put (cs' := #[u0, u1, u2, u3, a4, a5, a6, a7, a8]) h2 3 u3 rfl
  have h4 := blk_put (cs' := #[u0, u1, u2, u3, u4, a5, a6, a7, a8]) h3 4 u4 rfl
  have h5 := blk_put (cs' := #[u0, u1, u2, u3, u4, u5, a6, a7, a8]) h4 5 u5 rfl
  have h6 := blk_put (cs' := #[u0, u1, u2, u3, u4, u5, u6, a7, a8]) h5 6 u6 rfl
  have h7 := blk_put (cs' := #[u0, u1, u2, u3, u4, u5, u6, u7, a8]) h6 7 u7 rfl
  have h8 := blk_put (cs' := #[u0, u1, u2, u3, u4, u5, u6, u7, u8]) h7 8 u8 rfl
  exact h8
theorem far9 {W : World} {b b' : Nat} {o : Array Value} {T : TypeId} (u0 u1 u2 u3 u4 u5 u6 u7 u8 : Value) (h : W.heap[b']? = some (.cells o T (0, 0))) (hne : b' ≠ b) : (((((((((W.setCell ⟨b, 0, none⟩ u0).setCell ⟨b, 1, none⟩ u1).setCell ⟨b, 2, none⟩ u2).setCell ⟨b, 3, none⟩ u3).setCell ⟨b, 4, none⟩ u4).setCell ⟨b, 5, none⟩ u5).setCell ⟨b, 6, none⟩ u6).setCell ⟨b, 7, none⟩ u7).setCell ⟨b, 8, none⟩ u8).heap[b']? = some (.cells o T (0, 0)) := by
  have h0 := blk_far h (p := ⟨b, 0, none⟩) hne u0
  have h1 := blk_far h0 (p := ⟨b, 1, none⟩) hne u1
  have h2 := blk_far h1 (p := ⟨b, 2, none⟩) hne u2
  have h3 := blk_far h2 (p := ⟨b, 3, none⟩) hne u3
  have h4 := blk_far h3 (p := ⟨b, 4, none⟩) hne u4
  have h5 := blk_far h4 (p := ⟨b, 5, none⟩) hne u5
  have h6 := blk_far h5 (p := ⟨b, 6, none⟩) hne u6
  have h7 := blk_far h6 (p := ⟨b, 7, none⟩) hne u7
  have h8 := blk_far h7 (p := ⟨b, 8, none⟩) hne u8
  exact h8
theorem grown_own {W0 W : World} {row : Option Nat} (h : W0.grownBy W row) (p : Addr) (hb : W0.heap.size ≤ p.block) (u : Value) : W0.grownBy (W.setCell p u) row :=
  ⟨h.os, h.tape, h.output, by simpa [World.setCell] using h.size, fun k hk hne => (Below.heap_setCell W p u k (by omega)).trans (h.block k hk hne)⟩
theorem grown9 {W0 W : World} {b : Nat} (u0 u1 u2 u3 u4 u5 u6 u7 u8 : Value) {row : Option Nat} (h : W0.grownBy W row) (hb : W0.heap.size ≤ b) : W0.grownBy (((((((((W.setCell ⟨b, 0, none⟩ u0).setCell ⟨b, 1, none⟩ u1).setCell ⟨b, 2, none⟩ u2).setCell ⟨b, 3, none⟩ u3).setCell ⟨b, 4, none⟩ u4).setCell ⟨b, 5, none⟩ u5).setCell ⟨b, 6, none⟩ u6).setCell ⟨b, 7, none⟩ u7).setCell ⟨b, 8, none⟩ u8) row := by
  have h0 := grown_own h ⟨b, 0, none⟩ hb u0
  have h1 := grown_own h0 ⟨b, 1, none⟩ hb u1
  have h2 := grown_own h1 ⟨b, 2, none⟩ hb u2
  have h3 := grown_own h2 ⟨b, 3, none⟩ hb u3
  have h4 := grown_own h3 ⟨b, 4, none⟩ hb u4
  have h5 := grown_own h4 ⟨b, 5, none⟩ hb u5
  have h6 := grown_own h5 ⟨b, 6, none⟩ hb u6
  have h7 := grown_own h6 ⟨b, 7, none⟩ hb u7
  have h8 := grown_own h7 ⟨b, 8, none⟩ hb u8
  exact h8
/-- In the middle: where, and how the ledger stands. -/
def midR (e x wd : Int) : Int × Int :=
  let s := keptR e (sumR [x, IntKind.i64.wrap (-wd)]).1 (sumR [x, IntKind.i64.wrap (-wd)]).2
  keptR s.2 (halfR s.1).1 (halfR s.1).2
def stk_KidPost (g : Nat) (f : FV) (c z : Int) (x y : Int) (b : Bx) (A : Option Addr) (cc : Nat) (e : Int) (w : World) (en : Ending) (w' : World) : Prop :=
  en = .returned (kidV ⟨(midR e x b.f1).1, y, b⟩ A cc) ∧ w.grownBy w' (some g) ∧ stk_B w' g f c z (midR e x b.f1).2
set_option maxHeartbeats 4000000 in
set_option maxRecDepth 100000 in
theorem stk_kid_any (g : Nat) (f : FV) (c z e : Int) (x y : Int) (b : Bx) (A : Option Addr) (cc : Nat) (w : World) (hB : stk_B w g f c z e) :
    Calls Try.prog 44 #[.pointer (some ⟨g, 0, none⟩), .int .i64 x, .int .i64 y, boxV b A cc] w (stk_KidPost g f c z x y b A cc e w) := by
  have HB := Aside0.mk hB
  have hg := blk_lt hB
  clear hB
  go_enter Try.func44, Try.ntmps44
  go_wp2_with fail
  obtain ⟨W0, hW0⟩ : ∃ W0 : World, W0 = (w.alloc (.cells #[.int .i64 b.f0, .int .i64 b.f1, .int .i64 b.f2, .int .i64 b.f3, .int .i64 b.f4, .int .i64 b.f5, .slice A b.f6.length cc] 39)).alloc (.cells #[.int .i64 0, .int .i64 0, .int .i64 0, .int .i64 0, .int .i64 0, .int .i64 0, .int .i64 0, .int .i64 0, .slice none 0 0] 49) := ⟨_, rfl⟩
  have h7 : W0.heap[w.heap.size]? = some (.cells #[.int .i64 b.f0, .int .i64 b.f1, .int .i64 b.f2, .int .i64 b.f3, .int .i64 b.f4, .int .i64 b.f5, .slice A b.f6.length cc] 39 (0, 0)) := by rw [hW0]; exact blk_alloc (blk_new _ _) _
  have h8 : W0.heap[w.heap.size + 1]? = some (.cells #[.int .i64 0, .int .i64 0, .int .i64 0, .int .i64 0, .int .i64 0, .int .i64 0, .int .i64 0, .int .i64 0, .slice none 0 0] 49 (0, 0)) := by
    rw [hW0]
    have := blk_new (w.alloc (.cells #[.int .i64 b.f0, .int .i64 b.f1, .int .i64 b.f2, .int .i64 b.f3, .int .i64 b.f4, .int .i64 b.f5, .slice A b.f6.length cc] 39)) (.cells #[.int .i64 0, .int .i64 0, .int .i64 0, .int .i64 0, .int .i64 0, .int .i64 0, .int .i64 0, .int .i64 0, .slice none 0 0] 49)
    rwa [World.size_alloc] at this
  have HB0 : Aside0 (stk_B W0 g f c z e) := ⟨by rw [hW0]; exact blk_alloc (blk_alloc HB.out _) _⟩
  have HG0 : Aside0 (w.grownBy W0 (some g)) := ⟨by rw [hW0]; exact grown_of_below (below_alloc (below_alloc (Below.refl _ _) _) _) _⟩
  rw [← hW0]
  have HQ : ∀ W : World, W.heap[w.heap.size]? = some (.cells #[.int .i64 b.f0, .int .i64 b.f1, .int .i64 b.f2, .int .i64 b.f3, .int .i64 b.f4, .int .i64 b.f5, .slice A b.f6.length cc] 39 (0, 0)) → ((fun W : World => W.cell? ⟨w.heap.size, 0, none⟩ = some (.int .i64 b.f0) ∧ W.cell? ⟨w.heap.size, 1, none⟩ = some (.int .i64 b.f1) ∧ W.cell? ⟨w.heap.size, 2, none⟩ = some (.int .i64 b.f2) ∧ W.cell? ⟨w.heap.size, 3, none⟩ = some (.int .i64 b.f3) ∧ W.cell? ⟨w.heap.size, 4, none⟩ = some (.int .i64 b.f4) ∧ W.cell? ⟨w.heap.size, 5, none⟩ = some (.int .i64 b.f5) ∧ W.cell? ⟨w.heap.size, 6, none⟩ = some (.slice A b.f6.length cc)) : World → Prop) W := fun W h => ⟨blk_cell h 0, blk_cell h 1, blk_cell h 2, blk_cell h 3, blk_cell h 4, blk_cell h 5, blk_cell h 6⟩
  have hgne : some w.heap.size ≠ some g := by simp; omega
  have hgne8 : some (w.heap.size + 1) ≠ some g := by simp; omega
  clear hW0
  go_region_held3 (fun W : World => W.cell? ⟨w.heap.size, 0, none⟩ = some (.int .i64 b.f0) ∧ W.cell? ⟨w.heap.size, 1, none⟩ = some (.int .i64 b.f1) ∧ W.cell? ⟨w.heap.size, 2, none⟩ = some (.int .i64 b.f2) ∧ W.cell? ⟨w.heap.size, 3, none⟩ = some (.int .i64 b.f3) ∧ W.cell? ⟨w.heap.size, 4, none⟩ = some (.int .i64 b.f4) ∧ W.cell? ⟨w.heap.size, 5, none⟩ = some (.int .i64 b.f5) ∧ W.cell? ⟨w.heap.size, 6, none⟩ = some (.slice A b.f6.length cc))
    (first | (with_reducible exact HQ _ h7) | (with_reducible exact HQ _ (blk_drew h7)) | (with_reducible exact HQ _ (blk_drew (blk_alloc h7 _))) | (with_reducible exact HQ _ (blk_alloc h7 _)) | (with_reducible exact HQ _ h72) | (with_reducible exact HQ _ h73) | (with_reducible exact HQ _ (far9 _ _ _ _ _ _ _ _ _ h73 (by omega))))
    (first
      | (go_at_call 41; refine (stk_sum_any g f c z e _ _ _ [x, IntKind.i64.wrap (-b.f1)] _ (blk_drew (blk_alloc HB0.out _)) rfl (Kd.C_below (C_lit W0 _ [x, IntKind.i64.wrap (-b.f1)] _ _ rfl rfl (by simp)) (Below.refl _ _).drew) (by simp)).mono ?_; rintro en w2 ⟨rfl, hg2, hB2⟩; have h72 := blk_grown (blk_drew (blk_alloc h7 _)) hg2 hgne; have h82 := blk_grown (blk_drew (blk_alloc h8 _)) hg2 hgne8)
      | (go_at_call 42; refine (stk_half_any g f c z _ _ _ hB2).mono ?_; rintro en w3 ⟨rfl, hg3, hB3⟩; have h73 := blk_grown h72 hg3 hgne; have h83 := blk_grown h82 hg3 hgne8; obtain ⟨⟨e0, e1, e2, e3, e4, e5, e6, e7, e8⟩, f0, f1, f2, f3, f4, f5, f6, f7, f8⟩ := blk9 h83))
  have HW3 : Aside0 (w.grownBy w3 (some g)) := ⟨grown_trans HG0.out (grown_below ((below_alloc (Below.refl _ _) _).drew) (grown_trans hg2 hg3))⟩
  have H83 := Aside0.mk h83
  have HB3 := Aside0.mk hB3
  clear HQ h7 h8 h72 h73 h82 h83 hg2 hg3 hB2 hB3 e0 e1 e2 e3 e4 e5 e6 e7 e8 f0 f1 f2 f3 f4 f5 f6 f7 f8
  go_wp2
  refine bodyPost_ret (results_cell_row rfl _ _ (w.heap.size + 1) 49 #[.int .i64 (midR e x b.f1).1, .int .i64 y, .int .i64 b.f0, .int .i64 b.f1, .int .i64 b.f2, .int .i64 b.f3, .int .i64 b.f4, .int .i64 b.f5, .slice A b.f6.length cc] (0, 0) _ rfl (set9 _ _ _ _ _ _ _ _ _ H83.out) Try.underlying49 rfl (by kernel_rfl)) rfl ?_
  exact ⟨rfl, grown9 _ _ _ _ _ _ _ _ _ HW3.out (by omega), far9 _ _ _ _ _ _ _ _ _ HB3.out (by omega)⟩
end Go.Proofs.Ytfbiahlogclkbaa.H

set_option linter.unusedVariables false
set_option linter.unusedSimpArgs false
namespace Go.Proofs.Ytfbiahlogclkbaa.H
open Go.RowKit Go.Proofs.YtfbiahlogclkbaaW.PrintWords Go.Proofs.YtfbiahlogclkbaaW.PrintLast Go.Proofs.YtfbiahlogclkbaaW.PrintMore Go.Proofs.Ytfbiahlogclkbaa.P

def lsetR (e x : Int) (l : List Kx) : Bx × Int := if e = 0 then setR x l else (z39, e)
set_option maxHeartbeats 4000000 in
set_option maxRecDepth 100000 in
theorem stk_set_any (ok : Nat → Prop) (g : Nat) (f : FV) (c z e : Int) (x : Int) (A : Option Addr) (cap n : Nat) (l : List Kx) (w : World) (hB : stk_B w g f c z e) (hn : n = l.length) (hr : Kd.F k49 w ok A l.length l) (hok : ∀ k, ok k → k < w.heap.size) (hc : n ≤ cap) (hmany : l.length ≤ 100000) :
    Calls Try.prog 43 #[.pointer (some ⟨g, 0, none⟩), .int .i64 x, .slice A n cap] w (BoxPost (lsetR e x l) ok w) := by
  subst hn
  have HB := Aside0.mk hB
  have HR := Aside0.mk hr
  have HOK := Aside0.mk hok
  have hg := blk_lt hB
  have hgne : g ≠ w.heap.size := by omega
  by_cases he : e = 0
  · subst he
    have HS : Aside0 (lsetR 0 x l = setR x l) := ⟨rfl⟩
    have c19 : w.cell? ⟨g, 19, none⟩ = some (.int .i64 0) := (blk_cell hB 19).trans rfl
    clear hB hr hok
    go_enter Try.func43, Try.ntmps43
    go_wp2_with fail
    refine (Set_any ok A cap _ x l _ rfl (Kd.F_below HR.out (below_alloc (Below.refl _ _) _)) (fun k hk => by have := HOK.out k hk; simp; omega) hc hmany).mono ?_
    rintro en w2 ⟨A2, c2, rfl, hA2, hb2⟩
    have h6 := blk_below (blk_new w (.cells #[.int .i64 0, .int .i64 0, .int .i64 0, .int .i64 0, .int .i64 0, .int .i64 0, .slice none 0 0] 39)) hb2
    obtain ⟨⟨e0, e1, e2, e3, e4, e5, e6⟩, f0, f1, f2, f3, f4, f5, f6⟩ := blk7 h6
    have H6 := Aside0.mk h6
    have HW2 := Aside0.mk (below1 _ hb2)
    have HA2 := Aside0.mk hA2
    obtain ⟨r, hr⟩ : ∃ r, r = setR x l := ⟨_, rfl⟩
    rw [← hr] at HA2 HS ⊢
    clear hr hb2 h6 hA2 c19
    obtain ⟨rb, re⟩ := r
    go_wp2
    refine bodyPost_ret (results_ct rfl _ _ w.heap.size 39 #[.int .i64 rb.f0, .int .i64 rb.f1, .int .i64 rb.f2, .int .i64 rb.f3, .int .i64 rb.f4, .int .i64 rb.f5, .slice A2 rb.f6.length c2] (0, 0) _ rfl (set7 _ _ _ _ _ _ _ H6.out HW2.out (Nat.le_refl _)).1 Try.underlying39 rfl (by kernel_rfl)) rfl ?_
    refine ⟨A2, c2, by rw [HS.out]; rfl, ?_, (set7 _ _ _ _ _ _ _ H6.out HW2.out (Nat.le_refl _)).2⟩
    rw [HS.out]
    refine BoxAt.mono (ok := fun k => ok k ∨ w.heap.size + 1 ≤ k) (BoxAt.step (BoxAt.mono HA2.out (fun k hk => hk.imp id (fun h => by simpa using h))) (fun k hk hlt => ?_)) (fun k hk => hk.imp id (fun h => by omega))
    have hne : k ≠ w.heap.size := by
      rcases hk with hk | hk
      · have := HOK.out k hk; omega
      · omega
    rw [Below.heap_setCell _ _ _ k hne, Below.heap_setCell _ _ _ k hne, Below.heap_setCell _ _ _ k hne, Below.heap_setCell _ _ _ k hne, Below.heap_setCell _ _ _ k hne, Below.heap_setCell _ _ _ k hne, Below.heap_setCell _ _ _ k hne]
  · have HS : Aside0 (lsetR e x l = (z39, e)) := ⟨by unfold lsetR; rw [if_neg he]⟩
    have be : (e != 0) = true := by rw [bne_iff_ne]; exact he
    have c19 : w.cell? ⟨g, 19, none⟩ = some (.int .i64 e) := (blk_cell hB 19).trans rfl
    clear hB he hr hok
    go_enter Try.func43, Try.ntmps43
    go_wp2_with fail
    have h6 := blk_new w (.cells #[.int .i64 0, .int .i64 0, .int .i64 0, .int .i64 0, .int .i64 0, .int .i64 0, .slice none 0 0] 39)
    have H6 := Aside0.mk h6
    obtain ⟨W0, hW0⟩ : ∃ W0 : World, W0 = w.alloc (.cells #[.int .i64 0, .int .i64 0, .int .i64 0, .int .i64 0, .int .i64 0, .int .i64 0, .slice none 0 0] 39) := ⟨_, rfl⟩
    have HW0 : Aside0 (Below w.heap.size w W0) := ⟨by rw [hW0]; exact below_alloc (Below.refl _ _) _⟩
    have d19 : W0.cell? ⟨g, 19, none⟩ = some (.int .i64 e) := by rw [hW0]; exact (blk_cell (blk_alloc HB.out _) 19).trans rfl
    rw [← hW0] at h6 H6 ⊢
    obtain ⟨⟨e0, e1, e2, e3, e4, e5, e6⟩, f0, f1, f2, f3, f4, f5, f6⟩ := blk7 h6
    clear h6 hW0 c19
    go_region
    clear e0 e1 e2 e3 e4 e5 e6 f0 f1 f2 f3 f4 f5 f6 d19
    go_wp2
    refine bodyPost_ret (results_ct rfl _ _ w.heap.size 39 #[.int .i64 0, .int .i64 0, .int .i64 0, .int .i64 0, .int .i64 0, .int .i64 0, .slice none 0 0] (0, 0) _ rfl (blk_drew (set7 _ _ _ _ _ _ _ H6.out HW0.out (Nat.le_refl _)).1) Try.underlying39 rfl (by kernel_rfl)) rfl ?_
    exact ⟨none, 0, by rw [HS.out]; rfl, by rw [HS.out]; exact BoxAt.nil _ _ _ rfl, (set7 _ _ _ _ _ _ _ H6.out HW0.out (Nat.le_refl _)).2.drew⟩
end Go.Proofs.Ytfbiahlogclkbaa.H
