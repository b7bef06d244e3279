/- The proof's texts EvB: what the statement leads to. No condition is added. -/
import Derived.Test.YtfbiahlogclkbaaEvA
import Derived.Laws.Tables
set_option linter.unusedVariables false
set_option linter.unusedSimpArgs false
namespace Go.Proofs.Ytfbiahlogclkbaa.H
open Go.RowKit Go.Proofs.YtfbiahlogclkbaaW.PrintWords Go.Proofs.YtfbiahlogclkbaaW.PrintLast Go.Proofs.YtfbiahlogclkbaaW.PrintMore Go.Proofs.Ytfbiahlogclkbaa.P
namespace Ev

/-- What is known of a block's cells. -/
abbrev Mask := List (List (Option Cell))
def allSome {α : Type} : List (Option α) → Option (List α)
  | [] => some []
  | x :: l => x.bind fun y => (allSome l).map (y :: ·)
def cut {α : Type} (l : List α) (off n : Nat) : Option (List α) :=
  match decide (((l.drop off).take n).length = n) with
  | true => some ((l.drop off).take n)
  | false => none
/-- The cells of element i; one slice more is told. -/
def Row.elem (r : Row) (i ne : Nat) : Option (List Cell) :=
  match r with
  | .ints l => (l[i]?).map fun x => [.v (.int .i64 x)]
  | .kids l => (l[i]?).map fun k => [.v (.int .i64 k.f0), .v (.int .i64 k.f1), .v (.int .i64 k.f2.f0), .v (.int .i64 k.f2.f1), .v (.int .i64 k.f2.f2), .v (.int .i64 k.f2.f3), .v (.int .i64 k.f2.f4), .v (.int .i64 k.f2.f5), .ex ne (.kids k.f2.f6)]
  | .boxes l => (l[i]?).map fun k => [.v (.int .i64 k.f0), .v (.int .i64 k.f1), .v (.int .i64 k.f2), .v (.int .i64 k.f3), .v (.int .i64 k.f4), .v (.int .i64 k.f5), .ex ne (.kids k.f6)]

def evO (fr : List Slot) : Operand → Option Slot
  | .tmp t => fr[t]?
  | .const x => match x.oneCell' with
    | true => some (.one (.c (.v x)))
    | false => none
  | .func f => some (.one (.c (.fn f [] [])))
  | .global _ => none
/-- A value that leads to nothing told. -/
def Slot.val? : Slot → Option Value
  | .one (.c (.v x)) => some x
  | _ => none
def opV (fr : List Slot) (x : Operand) : Value := ((evO fr x).bind Slot.val?).getD undef
def closed (fr : List Slot) (x : Operand) : Bool := ((evO fr x).bind Slot.val?).isSome
def purely (P : Program) : Sem Next → Option Value
  | .pure (.value v) => some v
  | .program k => purely P (k P)
  | _ => none
def scal (P : Program) (fr : List Slot) (o : Oper) : Option Value :=
  match o.op with
  | .select _ _ => none
  | _ => match o.op.operands.toList.all (closed fr) with
    | true => match purely P (execOp (opV fr) o) with
      | some v => match v.oneCell' with
        | true => some v
        | false => none
      | none => none
    | false => none

def asOne (cs : List Cell) : Option Part :=
  match cs with
  | [c] => some (.c c)
  | _ => none
/-- The cells at an offset, as a value of a type. -/
def part (ti : TI) (cs : List Cell) (off : Nat) : Option Part :=
  match ti.d.isRow with
  | true => (cut cs off ti.size).map .agg
  | false => (cut cs off 1).bind asOne
def opart (ti : TI) (cs : List (Option Cell)) (off : Nat) : Option Part :=
  match ti.d.isRow with
  | true => ((cut cs off ti.size).bind allSome).map .agg
  | false => ((cut cs off 1).bind allSome).bind asOne
def evLoad (rp : Bool) (ts : Types) (m : Mask) (ne : Nat) (t : Nat) : Slot → Option (Slot × Nat)
  | .one (.c (.p i off)) => (ts.lookup t).bind fun ti => (opart ti (m.getD i []) off).map fun p => (.one p, 0)
  | .one (.c (.rp j r idx off)) => match rp with
    | true => (ts.lookup t).bind fun ti => (r.elem idx ne).bind fun es => (part ti es off).map fun p => (.one p, 1)
    | false => none
  | _ => none
def fieldsOf : TypeDesc → Option (Array Field)
  | .struct fs => some fs
  | _ => none
def elemOf : TypeDesc → Option Nat
  | .slice e => some e
  | _ => none
def evFieldAddr (ts : Types) (t : Nat) (k : Nat) (s : Slot) : Option Slot :=
  (ts.lookup t).bind fun ti => (fieldsOf ti.d).bind fun fs => (fs[k]?).bind fun f => (ts.lookup f.type).bind fun tf =>
    match decide (tf.size = 0) with
    | true => none
    | false => match s with
      | .one (.c (.p i off)) => some (.one (.c (.p i (off + f.offset))))
      | .one (.c (.rp j r idx off)) => some (.one (.c (.rp j r idx (off + f.offset))))
      | _ => none
def evField (ts : Types) (t : Nat) (k : Nat) : Slot → Option Slot
  | .one (.agg l) => (ts.lookup t).bind fun ti => (fieldsOf ti.d).bind fun fs => (fs[k]?).bind fun f => (ts.lookup f.type).bind fun tf => (part tf l f.offset).map .one
  | _ => none
def evIndexAddr (ts : Types) (t : Nat) (s x : Slot) : Option Slot :=
  (ts.lookup t).bind fun ti => (elemOf ti.d).bind fun e => (ts.lookup e).bind fun te =>
    match x with
    | .one (.c (.v (.int _ i))) =>
      match s with
      | .one (.c (.sl b n _)) => match decide (0 ≤ i ∧ i < n) with
        | true => some (.one (.c (.p b (i.toNat * te.size))))
        | false => none
      | .one (.c (.ex j r)) => match decide (0 ≤ i ∧ i < r.len ∧ te.size = r.sz) with
        | true => some (.one (.c (.rp j r i.toNat 0)))
        | false => none
      | .one (.c (.own _ n b)) => match decide (0 ≤ i ∧ i < n) with
        | true => some (.one (.c (.p b (i.toNat * te.size))))
        | false => none
      | _ => none
    | _ => none
def fillC (place : Nat → Option (Nat × Nat)) (cells : List Cell) : List (Nat × List Cell) → Option (List Cell)
  | [] => some cells
  | (i, v) :: rest =>
    match place i with
    | none => none
    | some (off, size) =>
      match decide (v.length ≠ size ∨ off + v.length > cells.length) with
      | true => none
      | false => fillC place (v.zipIdx.foldl (fun cs (c, j) => cs.set (off + j) c) cells) rest
def partsOf (fr : List Slot) : List (Nat × Operand) → Option (List (Nat × Part))
  | [] => some []
  | (i, x) :: l => (evO fr x).bind fun s => match s with
    | .one p => (partsOf fr l).map ((i, p) :: ·)
    | .tup _ => none
def placesOf (ts : Types) : List Field → Option (List (Nat × Nat))
  | [] => some []
  | f :: l => (ts.lookup f.type).bind fun tf => (placesOf ts l).map ((f.offset, tf.size) :: ·)
def evBuild (ts : Types) (fr : List Slot) (t : Nat) (parts : List (Nat × Operand)) : Option Slot :=
  (ts.lookup t).bind fun ti => (fieldsOf ti.d).bind fun fs => (placesOf ts fs.toList).bind fun pl => (partsOf fr parts).bind fun ps =>
    (fillC (fun i => pl[i]?) (ti.zero.map .v) (ps.map fun q => (q.1, q.2.cells))).map fun cs => .one (.agg cs)
def atomOf : Slot → Option Atom
  | .one (.c (.v x)) => some (.v x)
  | .one (.c (.p i off)) => some (.p i off)
  | _ => none
def atomsOf (fr : List Slot) : List Operand → Option (List Atom)
  | [] => some []
  | x :: l => ((evO fr x).bind atomOf).bind fun a => (atomsOf fr l).map (a :: ·)
def evLen (ts : Types) (t : Nat) : Slot → Option Slot
  | .one (.c (.ex _ r)) => (ts.lookup t).bind fun ti => (elemOf ti.d).map fun _ => .one (.c (.v (.int .i64 r.len)))
  | .one (.c (.sl _ n _)) => (ts.lookup t).bind fun ti => (elemOf ti.d).map fun _ => .one (.c (.v (.int .i64 n)))
  | .one (.c (.own _ n _)) => (ts.lookup t).bind fun ti => (elemOf ti.d).map fun _ => .one (.c (.v (.int .i64 n)))
  | .one (.c (.v (.slice _ n _))) => (ts.lookup t).bind fun ti => (elemOf ti.d).map fun _ => .one (.c (.v (.int .i64 n)))
  | _ => none
def evCallP (ts : Types) (fr : List Slot) (c : Call) : Option Slot :=
  match c.callee, c.args.toList, c.argTypes.toList with
  | .builtin .len, [x], [t] => (evO fr x).bind fun s => evLen ts t s
  | _, _, _ => none
def bool0 : Slot → Option Bool
  | .one (.c (.v (.bool b))) => some b
  | _ => none
/-- An operation that only reads: its value, and how many slices more are told. -/
def evP (rp : Bool) (P : Program) (ts : Types) (m : Mask) (fr : List Slot) (ne : Nat) (o : Oper) : Option (Slot × Nat) :=
  match o.op with
  | .move x | .assign x => (evO fr x).map fun s => (s, 0)
  | .pick c x y => ((evO fr c).bind bool0).bind fun b => (evO fr (match b with | true => x | false => y)).map fun s => (s, 0)
  | .nilCheck x => (evO fr x).bind fun s => match s with
    | .one (.c (.p i off)) => some (.one (.c (.p i off)), 0)
    | _ => none
  | .extract x k => (evO fr x).bind fun s => match s with
    | .tup l => (l[k]?).map fun p => (.one p, 0)
    | .one _ => none
  | .load t x => (evO fr x).bind (evLoad rp ts m ne t)
  | .fieldAddr t x k => (evO fr x).bind fun s => (evFieldAddr ts t k s).map fun s => (s, 0)
  | .field t x k => (evO fr x).bind fun s => (evField ts t k s).map fun s => (s, 0)
  | .indexAddr t x i => (evO fr x).bind fun s => (evO fr i).bind fun y => (evIndexAddr ts t s y).map fun s => (s, 0)
  | .build t parts => (evBuild ts fr t parts.toList).map fun s => (s, 0)
  | .makeFunc (.func f) first cap => (atomsOf fr first.toList).bind fun a => (atomsOf fr cap.toList).map fun b => (.one (.c (.fn f a b)), 0)
  | .call c => match evCallP ts fr c with
    | some s => some (s, 0)
    | none => (scal P fr o).map fun v => (.one (.c (.v v)), 0)
  | _ => (scal P fr o).map fun v => (.one (.c (.v v)), 0)
end Ev
end Go.Proofs.Ytfbiahlogclkbaa.H
