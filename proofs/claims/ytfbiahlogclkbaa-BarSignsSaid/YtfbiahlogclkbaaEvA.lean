/- The proof's texts EvA: what the statement leads to. No condition is added. -/
import Derived.Test.YtfbiahlogclkbaaSetA
import Derived.Test.YtfbiahlogclkbaaBlkA
import Derived.Deep.RegionHeld
set_option linter.unusedVariables false
set_option linter.unusedSimpArgs false
namespace Go.Proofs.Ytfbiahlogclkbaa.H
open Go.RowKit Go.Proofs.YtfbiahlogclkbaaW.PrintWords Go.Proofs.YtfbiahlogclkbaaW.PrintLast Go.Proofs.YtfbiahlogclkbaaW.PrintMore Go.Proofs.Ytfbiahlogclkbaa.P
namespace Ev

/-- What a closure holds: a value, or an address in block i. -/
inductive Atom where
  | v (x : Value)
  | p (i off : Nat)
/-- What a row that is only read tells. -/
inductive Row where
  | ints (l : List Int)
  | kids (l : List Kx)
  | boxes (l : List Bx)
/-- One cell: a value; an address in block i; a slice of block i; a slice (number j) of a row that is only read; a closure; an address in such a row. -/
inductive Cell where
  | v (x : Value)
  | p (i off : Nat)
  | sl (i n c : Nat)
  | ex (j : Nat) (r : Row)
  | fn (f : Nat) (first cap : List Atom)
  | rp (j : Nat) (r : Row) (idx off : Nat)
  | own (j n i : Nat)
inductive Part where
  | c (x : Cell)
  | agg (l : List Cell)
inductive Slot where
  | one (p : Part)
  | tup (l : List Part)
/-- Where blocks lie; the slices' values; what lies behind a block's told cells. -/
structure Env where
  a : Nat → Nat
  h : Nat → Value
  t : Nat → Array Value
/-- A told block; opn: it is a row's that may grow (its slice's number, an element's size): more may lie behind its cells. -/
structure Blk where
  live : Bool
  cells : List Cell
  elem : Nat
  opn : Option (Nat × Nat)
structure TI where
  d : TypeDesc
  size : Nat
  zero : List Value
  bytes : Option Nat
abbrev Types := List (Nat × TI)

def Row.len : Row → Nat
  | .ints l => l.length
  | .kids l => l.length
  | .boxes l => l.length
def Row.sz : Row → Nat
  | .ints _ => 1
  | .kids _ => 9
  | .boxes _ => 7
def Row.F (r : Row) (w : World) (fz : Nat → Prop) (A : Option Addr) : Prop :=
  match r with
  | .ints l => Kd.F (Kd.int .i64) w fz A l.length l
  | .kids l => Kd.F k49 w fz A l.length l
  | .boxes l => Kd.F k39 w fz A l.length l
theorem Row.F_step {r : Row} {w w' : World} {fz fz' : Nat → Prop} {A : Option Addr} (h : r.F w fz A) (hm : ∀ k, fz k → k < w.heap.size → w'.heap[k]? = w.heap[k]? ∧ fz' k) : r.F w' fz' A := by
  cases r
  all_goals exact Kd.F_mono (Kd.F_step (Kd.F_bound h) (fun k hk _ => (hm k hk.1 hk.2).1)) (fun k hk => (hm k hk.1 hk.2).2)
/-- Rows can be read, out of the blocks fz. -/
def RF (fz : Nat → Prop) (w : World) (r : Row) (A : Option Addr) : Prop := r.F w fz A
/-- Rows have an address. -/
def RA (r : Row) (A : Option Addr) : Prop := 0 < r.len → ∃ ad, A = some ad
theorem RF_RA {fz : Nat → Prop} {w : World} (r : Row) (A : Option Addr) (h : RF fz w r A) : RA r A := fun hn => by
  cases r with
  | ints l => obtain ⟨ad, rfl, _⟩ := (Kd.F_now h).2.2 hn; exact ⟨ad, rfl⟩
  | kids l => obtain ⟨ad, rfl, _⟩ := (Kd.F_now h).2.2 hn; exact ⟨ad, rfl⟩
  | boxes l => obtain ⟨ad, rfl, _⟩ := (Kd.F_now h).2.2 hn; exact ⟨ad, rfl⟩
theorem RF_step {fz fz' : Nat → Prop} {w w' : World} (hm : ∀ k, fz k → k < w.heap.size → w'.heap[k]? = w.heap[k]? ∧ fz' k) (r : Row) (A : Option Addr) (h : RF fz w r A) : RF fz' w' r A := Row.F_step h hm
abbrev RowP := Row → Option Addr → Prop
def Row.Ok (r : Row) (v : Value) (q : RowP) : Prop := ∃ A c, v = .slice A r.len c ∧ r.len ≤ c ∧ q r A
theorem Row.Ok_step {r : Row} {v : Value} {q q' : RowP} (h : r.Ok v q) (hm : ∀ r A, q r A → q' r A) : r.Ok v q' := by
  obtain ⟨A, c, h1, h2, h3⟩ := h
  exact ⟨A, c, h1, h2, hm _ _ h3⟩
/-- The address that a slice's value holds. -/
def ptrOf : Value → Addr
  | .slice (some a) _ _ => a
  | _ => ⟨0, 0, none⟩

def Atom.den (E : Env) : Atom → Value
  | .v x => x
  | .p i off => .pointer (some ⟨E.a i, off, none⟩)
def Cell.den (E : Env) : Cell → Value
  | .v x => x
  | .p i off => .pointer (some ⟨E.a i, off, none⟩)
  | .sl i n c => .slice (some ⟨E.a i, 0, none⟩) n c
  | .ex j _ => E.h j
  | .fn f x y => .func (.func f) (x.map (Atom.den E)).toArray (y.map (Atom.den E)).toArray
  | .rp j r idx off => .pointer (some ((ptrOf (E.h j)).add (idx * r.sz + off)))
  | .own j _ _ => E.h j
def cellsDen (E : Env) (l : List Cell) : Array Value := (l.map (Cell.den E)).toArray
def Part.den (E : Env) : Part → Value
  | .c x => x.den E
  | .agg l => .agg (cellsDen E l)
def Slot.den (E : Env) : Slot → Value
  | .one p => p.den E
  | .tup l => .tuple (l.map (Part.den E)).toArray
def Part.cells : Part → List Cell
  | .c x => [x]
  | .agg l => l

def Atom.V (nb : Nat) : Atom → Prop
  | .v x => x.oneCell' = true
  | .p i _ => i < nb
/-- What has to hold of a cell: its numbers are told; its row can be read. -/
def Cell.V (E : Env) (nb ne : Nat) (q : RowP) : Cell → Prop
  | .v x => x.oneCell' = true
  | .p i _ => i < nb
  | .sl i _ _ => i < nb
  | .ex j r => j < ne ∧ r.Ok (E.h j) q
  | .fn _ x y => (∀ t, t ∈ x → t.V nb) ∧ ∀ t, t ∈ y → t.V nb
  | .rp j r idx _ => j < ne ∧ r.Ok (E.h j) q ∧ idx < r.len
  | .own j n i => j < ne ∧ i < nb ∧ ∃ cap, E.h j = .slice (some ⟨E.a i, 0, none⟩) n cap ∧ n ≤ cap
def Part.V (E : Env) (nb ne : Nat) (q : RowP) (p : Part) : Prop := ∀ c, c ∈ p.cells → c.V E nb ne q
def Slot.V (E : Env) (nb ne : Nat) (q : RowP) : Slot → Prop
  | .one p => p.V E nb ne q
  | .tup l => ∀ p, p ∈ l → p.V E nb ne q

/-- E' tells all that E tells of nb blocks and ne slices. -/
structure Env.Le (E E' : Env) (nb ne : Nat) : Prop where
  a : ∀ i, i < nb → E'.a i = E.a i
  h : ∀ j, j < ne → E'.h j = E.h j
  t : ∀ i, i < nb → E'.t i = E.t i
theorem Env.Le.refl (E : Env) (nb ne : Nat) : E.Le E nb ne := ⟨fun _ _ => rfl, fun _ _ => rfl, fun _ _ => rfl⟩
theorem Env.Le.trans {E E' E'' : Env} {nb ne nb' ne' : Nat} (h : E.Le E' nb ne) (h' : E'.Le E'' nb' ne') (hb : nb ≤ nb') (he : ne ≤ ne') : E.Le E'' nb ne :=
  ⟨fun i hi => (h'.a i (Nat.lt_of_lt_of_le hi hb)).trans (h.a i hi), fun j hj => (h'.h j (Nat.lt_of_lt_of_le hj he)).trans (h.h j hj), fun i hi => (h'.t i (Nat.lt_of_lt_of_le hi hb)).trans (h.t i hi)⟩
section
variable {E E' : Env} {nb ne nb' ne' : Nat} {q q' : RowP}
theorem Atom.den_le (hE : E.Le E' nb ne) {t : Atom} (h : t.V nb) : t.den E' = t.den E := by
  cases t with
  | v x => rfl
  | p i off => simp only [Atom.den]; rw [hE.a i h]
theorem Cell.den_le (hE : E.Le E' nb ne) {c : Cell} (h : c.V E nb ne q) : c.den E' = c.den E := by
  cases c with
  | v x => rfl
  | p i off => simp only [Cell.den]; rw [hE.a i h]
  | sl i n c => simp only [Cell.den]; rw [hE.a i h]
  | ex j r => simp only [Cell.den]; rw [hE.h j h.1]
  | fn f x y =>
    simp only [Cell.den]
    rw [List.map_congr_left (fun t ht => Atom.den_le hE (h.1 t ht)), List.map_congr_left (fun t ht => Atom.den_le hE (h.2 t ht))]
  | rp j r idx off => simp only [Cell.den]; rw [hE.h j h.1]
  | own j n i => simp only [Cell.den]; rw [hE.h j h.1]
theorem cellsDen_le (hE : E.Le E' nb ne) {l : List Cell} (h : ∀ c, c ∈ l → c.V E nb ne q) : cellsDen E' l = cellsDen E l := by
  unfold cellsDen
  rw [List.map_congr_left (fun c hc => Cell.den_le hE (h c hc))]
theorem Part.den_le (hE : E.Le E' nb ne) {p : Part} (h : p.V E nb ne q) : p.den E' = p.den E := by
  cases p with
  | c x => exact Cell.den_le hE (h x (by simp [Part.cells]))
  | agg l => exact congrArg Value.agg (cellsDen_le hE h)
theorem Slot.den_le (hE : E.Le E' nb ne) {s : Slot} (h : s.V E nb ne q) : s.den E' = s.den E := by
  cases s with
  | one p => exact Part.den_le hE h
  | tup l => simp only [Slot.den]; rw [List.map_congr_left (fun p hp => Part.den_le hE (h p hp))]
/-- What holds of a cell holds from here on. -/
theorem Cell.V_le (hE : E.Le E' nb ne) (hb : nb ≤ nb') (he : ne ≤ ne') (hm : ∀ r A, q r A → q' r A) {c : Cell} (h : c.V E nb ne q) : c.V E' nb' ne' q' := by
  cases c with
  | v x => exact h
  | p i off => exact Nat.lt_of_lt_of_le h hb
  | sl i n c => exact Nat.lt_of_lt_of_le h hb
  | ex j r => exact ⟨Nat.lt_of_lt_of_le h.1 he, by rw [hE.h j h.1]; exact Row.Ok_step h.2 hm⟩
  | fn f x y =>
    refine ⟨fun t ht => ?_, fun t ht => ?_⟩
    · have := h.1 t ht
      cases t with
      | v _ => exact this
      | p i _ => exact Nat.lt_of_lt_of_le this hb
    · have := h.2 t ht
      cases t with
      | v _ => exact this
      | p i _ => exact Nat.lt_of_lt_of_le this hb
  | rp j r idx off => exact ⟨Nat.lt_of_lt_of_le h.1 he, by rw [hE.h j h.1]; exact Row.Ok_step h.2.1 hm, h.2.2⟩
  | own j n i => exact ⟨Nat.lt_of_lt_of_le h.1 he, Nat.lt_of_lt_of_le h.2.1 hb, by rw [hE.h j h.1, hE.a i h.2.1]; exact h.2.2⟩
theorem Part.V_le (hE : E.Le E' nb ne) (hb : nb ≤ nb') (he : ne ≤ ne') (hm : ∀ r A, q r A → q' r A) {p : Part} (h : p.V E nb ne q) : p.V E' nb' ne' q' := fun c hc => Cell.V_le hE hb he hm (h c hc)
theorem Slot.V_le (hE : E.Le E' nb ne) (hb : nb ≤ nb') (he : ne ≤ ne') (hm : ∀ r A, q r A → q' r A) {s : Slot} (h : s.V E nb ne q) : s.V E' nb' ne' q' := by
  cases s with
  | one p => exact Part.V_le hE hb he hm h
  | tup l => exact fun p hp => Part.V_le hE hb he hm (h p hp)
/-- A cell's value takes one cell. -/
theorem Cell.den_one {c : Cell} (h : c.V E nb ne q) : (c.den E).oneCell' = true := by
  cases c with
  | v x => exact h
  | p i off => rfl
  | sl i n c => rfl
  | ex j r => obtain ⟨A, c, he, _⟩ := h.2; simp only [Cell.den]; rw [he]; rfl
  | fn f x y => rfl
  | rp j r idx off => rfl
  | own j n i => obtain ⟨_, _, cap, he, _⟩ := h; simp only [Cell.den]; rw [he]; rfl
theorem oneCell_cells {v : Value} (h : v.oneCell' = true) : v.cells = #[v] := by
  cases v <;> first | rfl | (simp [Value.oneCell'] at h)
theorem Part.den_cells {p : Part} (h : p.V E nb ne q) : (p.den E).cells = cellsDen E p.cells := by
  cases p with
  | c x => simp only [Part.den, Part.cells]; rw [oneCell_cells (Cell.den_one (h x (by simp [Part.cells])))]; simp [cellsDen]
  | agg l => rfl
end
end Ev
end Go.Proofs.Ytfbiahlogclkbaa.H
