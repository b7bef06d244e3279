/- The proof's texts LedA BoxA StkA: what the statement leads to. No condition is added. -/
import Derived.Test.YtfbiahlogclkbaaStyB
set_option linter.unusedVariables false
set_option linter.unusedSimpArgs false
namespace Go.Proofs.Ytfbiahlogclkbaa.H
open Go.RowKit Go.Proofs.YtfbiahlogclkbaaW.PrintWords Go.Proofs.YtfbiahlogclkbaaW.PrintLast Go.Proofs.YtfbiahlogclkbaaW.PrintMore Go.Proofs.Ytfbiahlogclkbaa.P

/-- A number kept under a ledger that stands at e: the number, and how the ledger stands. -/
def keptR (e n e1 : Int) : Int × Int := (if (if e = 0 then e1 else e) = 0 then n else 0, if e = 0 then e1 else e)
theorem grown_set (w : World) (g i : Nat) (v : Value) : w.grownBy (w.setCell ⟨g, i, none⟩ v) (some g) :=
  ⟨rfl, rfl, rfl, by simp [World.setCell], fun k _ hk => Below.heap_setCell w _ v k (fun h => hk (by simpa using h))⟩
theorem grown_refl (w : World) (row : Option Nat) : w.grownBy w row := ⟨rfl, rfl, rfl, Nat.le_refl _, fun _ _ _ => rfl⟩
theorem grown_below {w w1 w2 : World} {row : Option Nat} (hb : Below w.heap.size w w1) (h : w1.grownBy w2 row) : w.grownBy w2 row :=
  ⟨h.os.trans hb.os, h.tape.trans hb.tape, h.output.trans hb.output, Nat.le_trans hb.size h.size, fun k hk hne => (h.block k (Nat.lt_of_lt_of_le hk hb.size) hne).trans (hb.block k hk)⟩
theorem grown_trans {a b c : World} {row : Option Nat} (h : a.grownBy b row) (k : b.grownBy c row) : a.grownBy c row :=
  ⟨k.os.trans h.os, k.tape.trans h.tape, k.output.trans h.output, Nat.le_trans h.size k.size, fun i hi hne => (k.block i (Nat.lt_of_lt_of_le hi h.size) hne).trans (h.block i hi hne)⟩
end Go.Proofs.Ytfbiahlogclkbaa.H

set_option linter.unusedVariables false
set_option linter.unusedSimpArgs false
namespace Go.Proofs.Ytfbiahlogclkbaa.H
open Go.RowKit Go.Proofs.YtfbiahlogclkbaaW.PrintWords Go.Proofs.YtfbiahlogclkbaaW.PrintLast Go.Proofs.YtfbiahlogclkbaaW.PrintMore Go.Proofs.Ytfbiahlogclkbaa.P

abbrev Bx := S39
abbrev Kx := S49
abbrev boxL (x : Bx) (A : Option Addr) (c : Nat) : List Value := [.int .i64 x.f0, .int .i64 x.f1, .int .i64 x.f2, .int .i64 x.f3, .int .i64 x.f4, .int .i64 x.f5, .slice A x.f6.length c]
abbrev boxV (x : Bx) (A : Option Addr) (c : Nat) : Value := .agg #[.int .i64 x.f0, .int .i64 x.f1, .int .i64 x.f2, .int .i64 x.f3, .int .i64 x.f4, .int .i64 x.f5, .slice A x.f6.length c]
abbrev kidL (k : Kx) (A : Option Addr) (c : Nat) : List Value := [.int .i64 k.f0, .int .i64 k.f1, .int .i64 k.f2.f0, .int .i64 k.f2.f1, .int .i64 k.f2.f2, .int .i64 k.f2.f3, .int .i64 k.f2.f4, .int .i64 k.f2.f5, .slice A k.f2.f6.length c]
abbrev kidV (k : Kx) (A : Option Addr) (c : Nat) : Value := .agg #[.int .i64 k.f0, .int .i64 k.f1, .int .i64 k.f2.f0, .int .i64 k.f2.f1, .int .i64 k.f2.f2, .int .i64 k.f2.f3, .int .i64 k.f2.f4, .int .i64 k.f2.f5, .slice A k.f2.f6.length c]
/-- What is in a box can be read; it lies in blocks of ok. -/
structure BoxAt (w : World) (ok : Nat → Prop) (x : Bx) (A : Option Addr) (c : Nat) : Prop where
  r : Kd.F k49 w ok A x.f6.length x.f6
  c : x.f6.length ≤ c
theorem BoxAt.below {w w' : World} {ok : Nat → Prop} {x : Bx} {A : Option Addr} {c : Nat} (h : BoxAt w ok x A c) (hb : Below w.heap.size w w') : BoxAt w' ok x A c := ⟨Kd.F_below h.r hb, h.c⟩
theorem BoxAt.mono {w : World} {ok ok' : Nat → Prop} {x : Bx} {A : Option Addr} {c : Nat} (h : BoxAt w ok x A c) (hok : ∀ k, ok k → ok' k) : BoxAt w ok' x A c := ⟨Kd.F_mono h.r hok, h.c⟩
theorem BoxAt.step {w w' : World} {ok : Nat → Prop} {x : Bx} {A : Option Addr} {c : Nat} (h : BoxAt w ok x A c) (hm : ∀ k, ok k → k < w.heap.size → w'.heap[k]? = w.heap[k]?) : BoxAt w' ok x A c := ⟨Kd.F_step h.r hm, h.c⟩
theorem BoxAt.bound {w : World} {ok : Nat → Prop} {x : Bx} {A : Option Addr} {c : Nat} (h : BoxAt w ok x A c) : BoxAt w (fun k => ok k ∧ k < w.heap.size) x A c := ⟨Kd.F_bound h.r, h.c⟩
theorem BoxAt.nil (w : World) (ok : Nat → Prop) (x : Bx) (h : x.f6 = []) : BoxAt w ok x none 0 := by
  refine ⟨?_, by simp [h]⟩
  rw [h]
  exact Kd.F_nil _ _ _
theorem BoxAt.K {w : World} {ok : Nat → Prop} {x : Bx} {A : Option Addr} {c : Nat} (h : BoxAt w ok x A c) : (k39).K w x (boxL x A c) := k39_mk w x h.c (Kd.F_now h.r)
theorem reps_nil {α : Type} (R : α → List Value → Prop) (sz : Nat) : Reps R sz [] [] := ⟨by simp, fun j p h => by simp at h⟩
theorem reps_cons {α : Type} {R : α → List Value → Prop} {sz : Nat} {x : α} {xs : List α} {cs rest : List Value} (hx : R x cs) (hl : cs.length = sz) (h : Reps R sz xs rest) : Reps R sz (x :: xs) (cs ++ rest) := by
  refine ⟨by rw [List.length_append, hl, h.1, List.length_cons, Nat.succ_mul, Nat.add_comm], fun j p hj => ?_⟩
  cases j with
  | zero =>
    simp only [List.getElem?_cons_zero, Option.some.injEq] at hj
    subst hj
    simpa [← hl] using hx
  | succ j =>
    simp only [List.getElem?_cons_succ] at hj
    have h2 := h.2 j p hj
    have h3 : (cs ++ rest).drop ((j + 1) * sz) = rest.drop (j * sz) := by
      rw [Nat.succ_mul, Nat.add_comm, ← hl, List.drop_append]
      simp
    rw [h3]
    exact h2
/-- Are a box's numbers lengths? -/
def lensB (x : Bx) : Bool := allLen [x.f1, x.f2, x.f3]
def needE (e : Int) (l : List Bx) : Int := l.foldl (fun e x => if lensB x = true then e else (keptR e 0 1).2) e
theorem needE_take (e : Int) (l : List Bx) (i : Nat) (h : i < l.length) : needE e (l.take (i + 1)) = if lensB (rd_T39 l i) = true then needE e (l.take i) else (keptR (needE e (l.take i)) 0 1).2 := by
  unfold needE
  rw [List.take_add_one, List.foldl_append, List.getElem?_eq_getElem h]
  simp [rd_T39, h]
/-- Some cells of a row of boxes. -/
theorem box_cells {w : World} {A : Option Addr} {l : List Bx} (h : Kd.C k39 w A l.length l) (i : Nat) (hi : i < l.length) : ∃ ad A6 c6, A = some ad ∧ w.cell? (ad.add (i * 7)) = some (.int .i64 (rd_T39 l i).f0) ∧ w.cell? ⟨(ad.add (i * 7)).block, (ad.add (i * 7)).off + 1, none⟩ = some (.int .i64 (rd_T39 l i).f1) ∧ w.cell? ⟨(ad.add (i * 7)).block, (ad.add (i * 7)).off + 2, none⟩ = some (.int .i64 (rd_T39 l i).f2) ∧ w.cell? ⟨(ad.add (i * 7)).block, (ad.add (i * 7)).off + 3, none⟩ = some (.int .i64 (rd_T39 l i).f3) ∧ w.cell? ⟨(ad.add (i * 7)).block, (ad.add (i * 7)).off + 4, none⟩ = some (.int .i64 (rd_T39 l i).f4) ∧ w.cell? ⟨(ad.add (i * 7)).block, (ad.add (i * 7)).off + 5, none⟩ = some (.int .i64 (rd_T39 l i).f5) ∧ w.cell? ⟨(ad.add (i * 7)).block, (ad.add (i * 7)).off + 6, none⟩ = some (.slice A6 (rd_T39 l i).f6.length c6) ∧ (rd_T39 l i).f6.length ≤ c6 ∧ (k49).C w A6 (rd_T39 l i).f6.length (rd_T39 l i).f6 := by
  have := at_T39 h (i : Int) (by omega) (by omega)
  simpa only [Int.toNat_natCast] using this
end Go.Proofs.Ytfbiahlogclkbaa.H

set_option linter.unusedVariables false
set_option linter.unusedSimpArgs false
namespace Go.Proofs.Ytfbiahlogclkbaa.H
open Go.RowKit Go.Proofs.YtfbiahlogclkbaaW.PrintWords Go.Proofs.YtfbiahlogclkbaaW.PrintLast Go.Proofs.YtfbiahlogclkbaaW.PrintMore Go.Proofs.Ytfbiahlogclkbaa.P

end Go.Proofs.Ytfbiahlogclkbaa.H
