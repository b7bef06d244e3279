/- Ledgers: the first error stays. Boxes as values, and rows of them. The ledger of package stack: what its small methods come to. (Printed by mkled.py.) No condition is added. -/
import Derived.Test.YtfbiahlogclkbaaStyB
set_option linter.unusedVariables false
set_option linter.unusedSimpArgs false
namespace Go.Proofs.Ytfbiahlogclkbaa.H
open Go.RowKit Go.Proofs.YtfbiahlogclkbaaW.PrintWords Go.Proofs.YtfbiahlogclkbaaW.PrintLast Go.Proofs.YtfbiahlogclkbaaW.PrintMore Go.Proofs.Ytfbiahlogclkbaa.P

/-- A number kept under a ledger that stands at e: the number, and how the ledger stands. -/
def keptR (e n e1 : Int) : Int × Int := (if (if e = 0 then e1 else e) = 0 then n else 0, if e = 0 then e1 else e)
theorem grown_set (w : World) (g i : Nat) (v : Value) : w.grownBy (w.setCell ⟨g, i, none⟩ v) (some g) :=
  ⟨rfl, rfl, rfl, by simp [World.setCell], fun k _ hk => Below.heap_setCell w _ v k (fun h => hk (by simpa using h))⟩
theorem grown_refl (w : World) (row : Option Nat) : w.grownBy w row := ⟨rfl, rfl, rfl, Nat.le_refl _, fun _ _ _ => rfl⟩
theorem grown_below {w w1 w2 : World} {row : Option Nat} (hb : Below w.heap.size w w1) (h : w1.grownBy w2 row) : w.grownBy w2 row :=
  ⟨h.os.trans hb.os, h.tape.trans hb.tape, h.output.trans hb.output, Nat.le_trans hb.size h.size, fun k hk hne => (h.block k (Nat.lt_of_lt_of_le hk hb.size) hne).trans (hb.block k hk)⟩
theorem grown_trans {a b c : World} {row : Option Nat} (h : a.grownBy b row) (k : b.grownBy c row) : a.grownBy c row :=
  ⟨k.os.trans h.os, k.tape.trans h.tape, k.output.trans h.output, Nat.le_trans h.size k.size, fun i hi hne => (k.block i (Nat.lt_of_lt_of_le hi h.size) hne).trans (h.block i hi hne)⟩
end Go.Proofs.Ytfbiahlogclkbaa.H

set_option linter.unusedVariables false
set_option linter.unusedSimpArgs false
namespace Go.Proofs.Ytfbiahlogclkbaa.H
open Go.RowKit Go.Proofs.YtfbiahlogclkbaaW.PrintWords Go.Proofs.YtfbiahlogclkbaaW.PrintLast Go.Proofs.YtfbiahlogclkbaaW.PrintMore Go.Proofs.Ytfbiahlogclkbaa.P

abbrev Bx := S39
abbrev Kx := S49
abbrev boxL (x : Bx) (A : Option Addr) (c : Nat) : List Value := [.int .i64 x.f0, .int .i64 x.f1, .int .i64 x.f2, .int .i64 x.f3, .int .i64 x.f4, .int .i64 x.f5, .slice A x.f6.length c]
abbrev boxV (x : Bx) (A : Option Addr) (c : Nat) : Value := .agg #[.int .i64 x.f0, .int .i64 x.f1, .int .i64 x.f2, .int .i64 x.f3, .int .i64 x.f4, .int .i64 x.f5, .slice A x.f6.length c]
abbrev kidL (k : Kx) (A : Option Addr) (c : Nat) : List Value := [.int .i64 k.f0, .int .i64 k.f1, .int .i64 k.f2.f0, .int .i64 k.f2.f1, .int .i64 k.f2.f2, .int .i64 k.f2.f3, .int .i64 k.f2.f4, .int .i64 k.f2.f5, .slice A k.f2.f6.length c]
abbrev kidV (k : Kx) (A : Option Addr) (c : Nat) : Value := .agg #[.int .i64 k.f0, .int .i64 k.f1, .int .i64 k.f2.f0, .int .i64 k.f2.f1, .int .i64 k.f2.f2, .int .i64 k.f2.f3, .int .i64 k.f2.f4, .int .i64 k.f2.f5, .slice A k.f2.f6.length c]
/-- What is in a box can be read; it lies in blocks of ok. -/
structure BoxAt (w : World) (ok : Nat → Prop) (x : Bx) (A : Option Addr) (c : Nat) : Prop where
  r : Kd.F k49 w ok A x.f6.length x.f6
  c : x.f6.length ≤ c
theorem BoxAt.below {w w' : World} {ok : Nat → Prop} {x : Bx} {A : Option Addr} {c : Nat} (h : BoxAt w ok x A c) (hb : Below w.heap.size w w') : BoxAt w' ok x A c := ⟨Kd.F_below h.r hb, h.c⟩
theorem BoxAt.mono {w : World} {ok ok' : Nat → Prop} {x : Bx} {A : Option Addr} {c : Nat} (h : BoxAt w ok x A c) (hok : ∀ k, ok k → ok' k) : BoxAt w ok' x A c := ⟨Kd.F_mono h.r hok, h.c⟩
theorem BoxAt.step {w w' : World} {ok : Nat → Prop} {x : Bx} {A : Option Addr} {c : Nat} (h : BoxAt w ok x A c) (hm : ∀ k, ok k → k < w.heap.size → w'.heap[k]? = w.heap[k]?) : BoxAt w' ok x A c := ⟨Kd.F_step h.r hm, h.c⟩
theorem BoxAt.bound {w : World} {ok : Nat → Prop} {x : Bx} {A : Option Addr} {c : Nat} (h : BoxAt w ok x A c) : BoxAt w (fun k => ok k ∧ k < w.heap.size) x A c := ⟨Kd.F_bound h.r, h.c⟩
theorem BoxAt.nil (w : World) (ok : Nat → Prop) (x : Bx) (h : x.f6 = []) : BoxAt w ok x none 0 := by
  refine ⟨?_, by simp [h]⟩
  rw [h]
  exact Kd.F_nil _ _ _
theorem BoxAt.K {w : World} {ok : Nat → Prop} {x : Bx} {A : Option Addr} {c : Nat} (h : BoxAt w ok x A c) : (k39).K w x (boxL x A c) := k39_mk w x h.c (Kd.F_now h.r)
theorem BoxAt.KK {w : World} {ok : Nat → Prop} {k : Kx} {A : Option Addr} {c : Nat} (h : BoxAt w ok k.f2 A c) : (k49).K w k (kidL k A c) := k49_mk w k h.c (Kd.F_now h.r)

theorem reps_nil {α : Type} (R : α → List Value → Prop) (sz : Nat) : Reps R sz [] [] := ⟨by simp, fun j p h => by simp at h⟩
theorem reps_cons {α : Type} {R : α → List Value → Prop} {sz : Nat} {x : α} {xs : List α} {cs rest : List Value} (hx : R x cs) (hl : cs.length = sz) (h : Reps R sz xs rest) : Reps R sz (x :: xs) (cs ++ rest) := by
  refine ⟨by rw [List.length_append, hl, h.1, List.length_cons, Nat.succ_mul, Nat.add_comm], fun j p hj => ?_⟩
  cases j with
  | zero =>
    simp only [List.getElem?_cons_zero, Option.some.injEq] at hj
    subst hj
    simpa [← hl] using hx
  | succ j =>
    simp only [List.getElem?_cons_succ] at hj
    have h2 := h.2 j p hj
    have h3 : (cs ++ rest).drop ((j + 1) * sz) = rest.drop (j * sz) := by
      rw [Nat.succ_mul, Nat.add_comm, ← hl, List.drop_append]
      simp
    rw [h3]
    exact h2
/-- A literal's rows of boxes, and of boxes in boxes. -/
theorem C_box1 (W : World) (T : TypeId) (x : Bx) {A : Option Addr} {c : Nat} (b : Nat) (hb : W.heap.size = b) (cs : Array Value) (hcs : cs = (boxL x A c).toArray) {ok : Nat → Prop} (hx : BoxAt W ok x A c) : Kd.C k39 (W.alloc (.cells cs T)) (some ⟨b, 0, none⟩) 1 [x] := by
  subst hb hcs
  exact C_block (blk_new W _) (reps_cons (hx.below (below_alloc (Below.refl _ _) _)).K rfl (reps_nil _ _)) (by simp)
theorem C_box2 (W : World) (T : TypeId) (x y : Bx) {A A' : Option Addr} {c c' : Nat} (b : Nat) (hb : W.heap.size = b) (cs : Array Value) (hcs : cs = (boxL x A c ++ boxL y A' c').toArray) {ok ok' : Nat → Prop} (hx : BoxAt W ok x A c) (hy : BoxAt W ok' y A' c') : Kd.C k39 (W.alloc (.cells cs T)) (some ⟨b, 0, none⟩) 2 [x, y] := by
  subst hb hcs
  exact C_block (blk_new W _) (reps_cons (hx.below (below_alloc (Below.refl _ _) _)).K rfl (reps_cons (cs := boxL y A' c') (rest := []) (hy.below (below_alloc (Below.refl _ _) _)).K rfl (reps_nil _ _))) (by simp)
theorem F_kid1 (W : World) (T : TypeId) (ok : Nat → Prop) (x : Kx) {A : Option Addr} {c : Nat} (b : Nat) (hb : W.heap.size = b) (cs : Array Value) (hcs : cs = (kidL x A c).toArray) (hx : BoxAt W ok x.f2 A c) : Kd.F k49 (W.alloc (.cells cs T)) (fun k => ok k ∨ k = b) (some ⟨b, 0, none⟩) 1 [x] := by
  subst hb hcs
  intro W' hW
  have hk : ∀ {q : Bx} {Aq : Option Addr} {cq : Nat}, BoxAt W ok q Aq cq → BoxAt W' ok q Aq cq := fun hq =>
    (hq.below (below_alloc (Below.refl _ _) (.cells (kidL x A c).toArray T))).step (fun k ho hlt => hW k (.inl ho) hlt)
  have h0 : W'.heap[W.heap.size]? = some (.cells (kidL x A c).toArray T (0, 0)) := (hW _ (.inr rfl) (by simp)).trans (blk_new W _)
  exact C_block h0 (reps_cons (cs := kidL x A c) (rest := []) (hk hx).KK rfl (reps_nil _ _)) (by simp)
theorem F_kid2 (W : World) (T : TypeId) (ok : Nat → Prop) (x y : Kx) {A A' : Option Addr} {c c' : Nat} (b : Nat) (hb : W.heap.size = b) (cs : Array Value) (hcs : cs = (kidL x A c ++ (kidL y A' c')).toArray) (hx : BoxAt W ok x.f2 A c) (hy : BoxAt W ok y.f2 A' c') : Kd.F k49 (W.alloc (.cells cs T)) (fun k => ok k ∨ k = b) (some ⟨b, 0, none⟩) 2 [x, y] := by
  subst hb hcs
  intro W' hW
  have hk : ∀ {q : Bx} {Aq : Option Addr} {cq : Nat}, BoxAt W ok q Aq cq → BoxAt W' ok q Aq cq := fun hq =>
    (hq.below (below_alloc (Below.refl _ _) (.cells (kidL x A c ++ (kidL y A' c')).toArray T))).step (fun k ho hlt => hW k (.inl ho) hlt)
  have h0 : W'.heap[W.heap.size]? = some (.cells (kidL x A c ++ (kidL y A' c')).toArray T (0, 0)) := (hW _ (.inr rfl) (by simp)).trans (blk_new W _)
  exact C_block h0 (reps_cons (cs := kidL x A c) (hk hx).KK rfl (reps_cons (cs := kidL y A' c') (rest := []) (hk hy).KK rfl (reps_nil _ _))) (by simp)
theorem F_kid3 (W : World) (T : TypeId) (ok : Nat → Prop) (x y z : Kx) {A A' A'' : Option Addr} {c c' c'' : Nat} (b : Nat) (hb : W.heap.size = b) (cs : Array Value) (hcs : cs = (kidL x A c ++ (kidL y A' c' ++ (kidL z A'' c''))).toArray) (hx : BoxAt W ok x.f2 A c) (hy : BoxAt W ok y.f2 A' c') (hz : BoxAt W ok z.f2 A'' c'') : Kd.F k49 (W.alloc (.cells cs T)) (fun k => ok k ∨ k = b) (some ⟨b, 0, none⟩) 3 [x, y, z] := by
  subst hb hcs
  intro W' hW
  have hk : ∀ {q : Bx} {Aq : Option Addr} {cq : Nat}, BoxAt W ok q Aq cq → BoxAt W' ok q Aq cq := fun hq =>
    (hq.below (below_alloc (Below.refl _ _) (.cells (kidL x A c ++ (kidL y A' c' ++ (kidL z A'' c''))).toArray T))).step (fun k ho hlt => hW k (.inl ho) hlt)
  have h0 : W'.heap[W.heap.size]? = some (.cells (kidL x A c ++ (kidL y A' c' ++ (kidL z A'' c''))).toArray T (0, 0)) := (hW _ (.inr rfl) (by simp)).trans (blk_new W _)
  exact C_block h0 (reps_cons (cs := kidL x A c) (hk hx).KK rfl (reps_cons (cs := kidL y A' c') (hk hy).KK rfl (reps_cons (cs := kidL z A'' c'') (rest := []) (hk hz).KK rfl (reps_nil _ _)))) (by simp)

/-- Are a box's numbers lengths? -/
def lensB (x : Bx) : Bool := allLen [x.f1, x.f2, x.f3]
def needE (e : Int) (l : List Bx) : Int := l.foldl (fun e x => if lensB x = true then e else (keptR e 0 1).2) e
theorem needE_take (e : Int) (l : List Bx) (i : Nat) (h : i < l.length) : needE e (l.take (i + 1)) = if lensB (rd_T39 l i) = true then needE e (l.take i) else (keptR (needE e (l.take i)) 0 1).2 := by
  unfold needE
  rw [List.take_add_one, List.foldl_append, List.getElem?_eq_getElem h]
  simp [rd_T39, h]
/-- Some cells of a row of boxes. -/
theorem box_cells {w : World} {A : Option Addr} {l : List Bx} (h : Kd.C k39 w A l.length l) (i : Nat) (hi : i < l.length) : ∃ ad A6 c6, A = some ad ∧ w.cell? (ad.add (i * 7)) = some (.int .i64 (rd_T39 l i).f0) ∧ w.cell? ⟨(ad.add (i * 7)).block, (ad.add (i * 7)).off + 1, none⟩ = some (.int .i64 (rd_T39 l i).f1) ∧ w.cell? ⟨(ad.add (i * 7)).block, (ad.add (i * 7)).off + 2, none⟩ = some (.int .i64 (rd_T39 l i).f2) ∧ w.cell? ⟨(ad.add (i * 7)).block, (ad.add (i * 7)).off + 3, none⟩ = some (.int .i64 (rd_T39 l i).f3) ∧ w.cell? ⟨(ad.add (i * 7)).block, (ad.add (i * 7)).off + 4, none⟩ = some (.int .i64 (rd_T39 l i).f4) ∧ w.cell? ⟨(ad.add (i * 7)).block, (ad.add (i * 7)).off + 5, none⟩ = some (.int .i64 (rd_T39 l i).f5) ∧ w.cell? ⟨(ad.add (i * 7)).block, (ad.add (i * 7)).off + 6, none⟩ = some (.slice A6 (rd_T39 l i).f6.length c6) ∧ (rd_T39 l i).f6.length ≤ c6 ∧ (k49).C w A6 (rd_T39 l i).f6.length (rd_T39 l i).f6 := by
  have := at_T39 h (i : Int) (by omega) (by omega)
  simpa only [Int.toNat_natCast] using this
end Go.Proofs.Ytfbiahlogclkbaa.H

set_option linter.unusedVariables false
set_option linter.unusedSimpArgs false
namespace Go.Proofs.Ytfbiahlogclkbaa.H
open Go.RowKit Go.Proofs.YtfbiahlogclkbaaW.PrintWords Go.Proofs.YtfbiahlogclkbaaW.PrintLast Go.Proofs.YtfbiahlogclkbaaW.PrintMore Go.Proofs.Ytfbiahlogclkbaa.P

abbrev stk_cells (f : FV) (c z e : Int) : Array Value := #[.int .i64 f.h.f0, .int .i64 f.h.f1, .int .i64 f.h.f2, .int .i64 f.h.f3, .int .i64 f.h.f4, .bool f.h.f5, .slice f.s6.A f.s6.n f.s6.c, .slice f.s7.A f.s7.n f.s7.c, .slice f.s8.A f.s8.n f.s8.c, .slice f.s9.A f.s9.n f.s9.c, .slice f.s10.A f.s10.n f.s10.c, .slice f.s11.A f.s11.n f.s11.c, .slice f.s12.A f.s12.n f.s12.c, .slice f.s13.A f.s13.n f.s13.c, .int .i64 f.i, .slice f.s15.A f.s15.n f.s15.c, .slice f.s16.A f.s16.n f.s16.c, .int .i64 c, .int .i64 z, .int .i64 e]
def stk_B (W : World) (g : Nat) (f : FV) (c z e : Int) : Prop := W.heap[g]? = some (.cells (stk_cells f c z e) 66 (0, 0))
/-- What a method that hands back a number leaves. -/
def stk_Post (g : Nat) (f : FV) (c z : Int) (r : Int × Int) (w : World) (en : Ending) (w' : World) : Prop := en = .returned (.int .i64 r.1) ∧ w.grownBy w' (some g) ∧ stk_B w' g f c z r.2
theorem stk_Post_of {g : Nat} {f : FV} {c z : Int} {r : Int × Int} {w w' : World} {en : Ending} (h1 : en = .returned (.int .i64 r.1)) (h2 : w.grownBy w' (some g)) (h3 : stk_B w' g f c z r.2) : stk_Post g f c z r w en w' := ⟨h1, h2, h3⟩
theorem stk_below {W W' : World} {g : Nat} {f : FV} {c z e : Int} (h : stk_B W g f c z e) (hb : Below W.heap.size W W') : stk_B W' g f c z e := blk_below h hb
set_option maxRecDepth 100000 in
theorem stk_keep_any (g : Nat) (f : FV) (c z e : Int) (n e1 : Int) (w : World) (hB : stk_B w g f c z e) :
    Calls Try.prog 73 #[.pointer (some ⟨g, 0, none⟩), .int .i64 n, .int .i64 e1] w (stk_Post g f c z (keptR e n e1) w) := by
  have HB := Aside0.mk hB
  have c19 : w.cell? ⟨g, 19, none⟩ = some (.int .i64 e) := (blk_cell hB 19).trans rfl
  have f19 : w.frozen? ⟨g, 19, none⟩ = false := blk_frozen hB 19
  clear hB
  by_cases h0 : e = 0
  · subst h0
    by_cases h1 : e1 = 0
    · subst h1
      go_enter Try.func73, Try.ntmps73
      go_wp2
      go_ret
      exact ⟨rfl, grown_set w g 19 _, blk_put HB.out 19 _ rfl⟩
    · have b1 : (e1 != 0) = true := by rw [bne_iff_ne]; exact h1
      have HS : Aside0 (keptR 0 n e1 = (0, e1)) := ⟨by simp [keptR, h1]⟩
      clear h1
      go_enter Try.func73, Try.ntmps73
      go_wp2
      go_ret
      exact ⟨by rw [HS.out]; rfl, grown_set w g 19 _, by rw [HS.out]; exact blk_put HB.out 19 _ rfl⟩
  · have b0 : (e == 0) = false := by rw [beq_eq_false_iff_ne]; exact h0
    have b1 : (e != 0) = true := by rw [bne_iff_ne]; exact h0
    have HS : Aside0 (keptR e n e1 = (0, e)) := ⟨by simp [keptR, h0]⟩
    clear h0
    go_enter Try.func73, Try.ntmps73
    go_wp2
    go_ret
    exact ⟨by rw [HS.out]; rfl, ⟨rfl, rfl, rfl, Nat.le_refl _, fun _ _ _ => rfl⟩, by rw [HS.out]; exact HB.out⟩
set_option maxHeartbeats 4000000 in
set_option maxRecDepth 100000 in
theorem stk_konst_any (g : Nat) (f : FV) (l : List Int) (c z e : Int) (k : Int) (w : World) (hB : stk_B w g f c z e) (hf : f.Konst w l) :
    Calls Try.prog 38 #[.pointer (some ⟨g, 0, none⟩), .int .i64 k] w (stk_Post g f c z (keptR e (konstR f.h l k c z).1 (konstR f.h l k c z).2) w) := by
  have HB := Aside0.mk hB
  have HF := Aside0.mk hf
  have HQ : ∀ W, Below w.heap.size w W → ((fun W : World => W.cell? ⟨g, 0, none⟩ = some (.int .i64 f.h.f0) ∧ W.cell? ⟨g, 1, none⟩ = some (.int .i64 f.h.f1) ∧ W.cell? ⟨g, 2, none⟩ = some (.int .i64 f.h.f2) ∧ W.cell? ⟨g, 3, none⟩ = some (.int .i64 f.h.f3) ∧ W.cell? ⟨g, 4, none⟩ = some (.int .i64 f.h.f4) ∧ W.cell? ⟨g, 5, none⟩ = some (.bool f.h.f5) ∧ W.cell? ⟨g, 6, none⟩ = some (.slice f.s6.A f.s6.n f.s6.c) ∧ W.cell? ⟨g, 7, none⟩ = some (.slice f.s7.A f.s7.n f.s7.c) ∧ W.cell? ⟨g, 8, none⟩ = some (.slice f.s8.A f.s8.n f.s8.c) ∧ W.cell? ⟨g, 9, none⟩ = some (.slice f.s9.A f.s9.n f.s9.c) ∧ W.cell? ⟨g, 10, none⟩ = some (.slice f.s10.A f.s10.n f.s10.c) ∧ W.cell? ⟨g, 11, none⟩ = some (.slice f.s11.A f.s11.n f.s11.c) ∧ W.cell? ⟨g, 12, none⟩ = some (.slice f.s12.A f.s12.n f.s12.c) ∧ W.cell? ⟨g, 13, none⟩ = some (.slice f.s13.A f.s13.n f.s13.c) ∧ W.cell? ⟨g, 14, none⟩ = some (.int .i64 f.i) ∧ W.cell? ⟨g, 15, none⟩ = some (.slice f.s15.A f.s15.n f.s15.c) ∧ W.cell? ⟨g, 16, none⟩ = some (.slice f.s16.A f.s16.n f.s16.c) ∧ W.cell? ⟨g, 17, none⟩ = some (.int .i64 c) ∧ W.cell? ⟨g, 18, none⟩ = some (.int .i64 z)) : World → Prop) W := fun W hW => by
    have h := blk_below hB hW
    exact ⟨(blk_cell h 0).trans rfl, (blk_cell h 1).trans rfl, (blk_cell h 2).trans rfl, (blk_cell h 3).trans rfl, (blk_cell h 4).trans rfl, (blk_cell h 5).trans rfl, (blk_cell h 6).trans rfl, (blk_cell h 7).trans rfl, (blk_cell h 8).trans rfl, (blk_cell h 9).trans rfl, (blk_cell h 10).trans rfl, (blk_cell h 11).trans rfl, (blk_cell h 12).trans rfl, (blk_cell h 13).trans rfl, (blk_cell h 14).trans rfl, (blk_cell h 15).trans rfl, (blk_cell h 16).trans rfl, (blk_cell h 17).trans rfl, (blk_cell h 18).trans rfl⟩
  clear hB hf
  go_enter Try.func38, Try.ntmps38
  go_wp2_with fail
  go_region_held3 (fun W : World => W.cell? ⟨g, 0, none⟩ = some (.int .i64 f.h.f0) ∧ W.cell? ⟨g, 1, none⟩ = some (.int .i64 f.h.f1) ∧ W.cell? ⟨g, 2, none⟩ = some (.int .i64 f.h.f2) ∧ W.cell? ⟨g, 3, none⟩ = some (.int .i64 f.h.f3) ∧ W.cell? ⟨g, 4, none⟩ = some (.int .i64 f.h.f4) ∧ W.cell? ⟨g, 5, none⟩ = some (.bool f.h.f5) ∧ W.cell? ⟨g, 6, none⟩ = some (.slice f.s6.A f.s6.n f.s6.c) ∧ W.cell? ⟨g, 7, none⟩ = some (.slice f.s7.A f.s7.n f.s7.c) ∧ W.cell? ⟨g, 8, none⟩ = some (.slice f.s8.A f.s8.n f.s8.c) ∧ W.cell? ⟨g, 9, none⟩ = some (.slice f.s9.A f.s9.n f.s9.c) ∧ W.cell? ⟨g, 10, none⟩ = some (.slice f.s10.A f.s10.n f.s10.c) ∧ W.cell? ⟨g, 11, none⟩ = some (.slice f.s11.A f.s11.n f.s11.c) ∧ W.cell? ⟨g, 12, none⟩ = some (.slice f.s12.A f.s12.n f.s12.c) ∧ W.cell? ⟨g, 13, none⟩ = some (.slice f.s13.A f.s13.n f.s13.c) ∧ W.cell? ⟨g, 14, none⟩ = some (.int .i64 f.i) ∧ W.cell? ⟨g, 15, none⟩ = some (.slice f.s15.A f.s15.n f.s15.c) ∧ W.cell? ⟨g, 16, none⟩ = some (.slice f.s16.A f.s16.n f.s16.c) ∧ W.cell? ⟨g, 17, none⟩ = some (.int .i64 c) ∧ W.cell? ⟨g, 18, none⟩ = some (.int .i64 z))
    (first | exact HQ _ (Below.refl _ _).drew | (exact HQ _ (by assumption)) | trivial)
    (first
      | (go_at_call 22; refine (Konst_any f l k c z _ (HF.out.below (Below.refl _ w).drew)).mono ?_; rintro en w2 ⟨rfl, hb2⟩; have hB2 : Below w.heap.size w w2 := (Below.refl _ w).drew.trans hb2)
      | (go_at_call 73; refine (stk_keep_any g f c z e _ _ _ (blk_below HB.out hB2)).mono ?_; rintro en w3 ⟨rfl, hg3, hB3⟩; have HQ3 : ((fun W : World => W.cell? ⟨g, 0, none⟩ = some (.int .i64 f.h.f0) ∧ W.cell? ⟨g, 1, none⟩ = some (.int .i64 f.h.f1) ∧ W.cell? ⟨g, 2, none⟩ = some (.int .i64 f.h.f2) ∧ W.cell? ⟨g, 3, none⟩ = some (.int .i64 f.h.f3) ∧ W.cell? ⟨g, 4, none⟩ = some (.int .i64 f.h.f4) ∧ W.cell? ⟨g, 5, none⟩ = some (.bool f.h.f5) ∧ W.cell? ⟨g, 6, none⟩ = some (.slice f.s6.A f.s6.n f.s6.c) ∧ W.cell? ⟨g, 7, none⟩ = some (.slice f.s7.A f.s7.n f.s7.c) ∧ W.cell? ⟨g, 8, none⟩ = some (.slice f.s8.A f.s8.n f.s8.c) ∧ W.cell? ⟨g, 9, none⟩ = some (.slice f.s9.A f.s9.n f.s9.c) ∧ W.cell? ⟨g, 10, none⟩ = some (.slice f.s10.A f.s10.n f.s10.c) ∧ W.cell? ⟨g, 11, none⟩ = some (.slice f.s11.A f.s11.n f.s11.c) ∧ W.cell? ⟨g, 12, none⟩ = some (.slice f.s12.A f.s12.n f.s12.c) ∧ W.cell? ⟨g, 13, none⟩ = some (.slice f.s13.A f.s13.n f.s13.c) ∧ W.cell? ⟨g, 14, none⟩ = some (.int .i64 f.i) ∧ W.cell? ⟨g, 15, none⟩ = some (.slice f.s15.A f.s15.n f.s15.c) ∧ W.cell? ⟨g, 16, none⟩ = some (.slice f.s16.A f.s16.n f.s16.c) ∧ W.cell? ⟨g, 17, none⟩ = some (.int .i64 c) ∧ W.cell? ⟨g, 18, none⟩ = some (.int .i64 z)) : World → Prop) w3 := ⟨(blk_cell hB3 0).trans rfl, (blk_cell hB3 1).trans rfl, (blk_cell hB3 2).trans rfl, (blk_cell hB3 3).trans rfl, (blk_cell hB3 4).trans rfl, (blk_cell hB3 5).trans rfl, (blk_cell hB3 6).trans rfl, (blk_cell hB3 7).trans rfl, (blk_cell hB3 8).trans rfl, (blk_cell hB3 9).trans rfl, (blk_cell hB3 10).trans rfl, (blk_cell hB3 11).trans rfl, (blk_cell hB3 12).trans rfl, (blk_cell hB3 13).trans rfl, (blk_cell hB3 14).trans rfl, (blk_cell hB3 15).trans rfl, (blk_cell hB3 16).trans rfl, (blk_cell hB3 17).trans rfl, (blk_cell hB3 18).trans rfl⟩))
  clear HQ3 HQ
  go_wp2
  go_ret
  exact ⟨rfl, grown_below hB2 hg3, hB3⟩
set_option maxRecDepth 100000 in
theorem stk_sum_any (g : Nat) (f : FV) (c z e : Int) (A : Option Addr) (cap n : Nat) (l : List Int) (w : World) (hB : stk_B w g f c z e) (hn : n = l.length) (hr : (Kd.int .i64).C w A l.length l) (hc : n ≤ cap) :
    Calls Try.prog 41 #[.pointer (some ⟨g, 0, none⟩), .slice A n cap] w (stk_Post g f c z (keptR e (sumR l).1 (sumR l).2) w) := by
  have HB := Aside0.mk hB
  subst hn
  clear hB
  go_enter Try.func41, Try.ntmps41
  go_wp2_with (go_at_call 74; refine (Sum_any _ _ l _ hr hc).mono ?_; rintro en w2 ⟨rfl, hb2⟩)
  refine (stk_keep_any g f c z e _ _ _ (blk_below HB.out hb2)).mono ?_
  rintro en w3 ⟨rfl, hg3, hB3⟩
  go_wp2
  go_ret
  exact ⟨rfl, grown_below hb2 hg3, hB3⟩
set_option maxRecDepth 100000 in
theorem stk_half_any (g : Nat) (f : FV) (c z e : Int) (n : Int) (w : World) (hB : stk_B w g f c z e) :
    Calls Try.prog 42 #[.pointer (some ⟨g, 0, none⟩), .int .i64 n] w (stk_Post g f c z (keptR e (halfR n).1 (halfR n).2) w) := by
  have HB := Aside0.mk hB
  clear hB
  go_enter Try.func42, Try.ntmps42
  go_wp2_with (go_at_call 60; refine (Half_any n _).mono ?_; rintro en w2 ⟨rfl, hb2⟩)
  refine (stk_keep_any g f c z e _ _ _ (blk_below HB.out hb2)).mono ?_
  rintro en w3 ⟨rfl, hg3, hB3⟩
  go_wp2
  go_ret
  exact ⟨rfl, grown_below hb2 hg3, hB3⟩
end Go.Proofs.Ytfbiahlogclkbaa.H
