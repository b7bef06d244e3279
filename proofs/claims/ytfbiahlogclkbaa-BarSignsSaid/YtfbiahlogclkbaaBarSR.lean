/- The proof's texts BarS BarSR: what the statement leads to. No condition is added. -/
import Derived.Test.YtfbiahlogclkbaaBarL
set_option linter.unusedVariables false
set_option linter.unusedSimpArgs false
namespace Go.Proofs.Ytfbiahlogclkbaa.H
open Go.RowKit Go.Proofs.YtfbiahlogclkbaaW.PrintWords Go.Proofs.YtfbiahlogclkbaaW.PrintLast Go.Proofs.YtfbiahlogclkbaaW.PrintMore Go.Proofs.Ytfbiahlogclkbaa.P Ev
/-- few, Radical without a degree, Need, Konst, barred. -/
def sgSp (f : FV) (l : List Int) (c z : Int) (b s : Bx) (r : Bool) (rr : Bx × Int) (nr : Int × Int) : List (Nat × SpecF) :=
  [(24, spAt [.one (fontP f 0 l), .one (boxP b 1), .one (boxP s 2), .one (boxP s 2)] (boolS r)), (26, spAtB [.one (fontP f 0 l), .one (intP c), .one (intP z), .one (boxP b 1), .one (boxP s 2), .one (.c (.v (.slice none 0 0)))] rr),
    (29, spAt [.one (fontP f 0 l), .one (intP c), .one (intP z), .one (boxP b 1)] (pairS nr)), (22, spKonst), (28, spAt [] (boolS true))]
end Go.Proofs.Ytfbiahlogclkbaa.H

set_option linter.unusedVariables false
set_option linter.unusedSimpArgs false
namespace Go.Proofs.Ytfbiahlogclkbaa.H
open Go.RowKit Go.Proofs.YtfbiahlogclkbaaW.PrintWords Go.Proofs.YtfbiahlogclkbaaW.PrintLast Go.Proofs.YtfbiahlogclkbaaW.PrintMore Go.Proofs.Ytfbiahlogclkbaa.P Ev

def signs_err (f : FV) (fl : List Int) (c : Int) (z : Int) (b : Bx) (s : Bx) (e W H D u a y t a2 S n ne : Int) : (Bool) × List (Bool × Bool) :=
  (↑(Row.kids []).len == 0, [(e != 0, true)])
theorem signs_err_run (f : FV) (fl : List Int) (c : Int) (z : Int) (b : Bx) (s : Bx) (e W H D u a y t a2 S n ne : Int) : Runs1 (ev Try.prog barTy (sgSp f fl c z b s true (⟨0, 0, 0, 0, 0, 0, []⟩, e) (n, ne)) [] [((8, 45), true)] boolR 8 Try.f8 [.one (fontP f 0 fl), .one (intP c), .one (intP z), .one (boxP b 1), .one (boxP s 2)] 3) (signs_err f fl c z b s e W H D u a y t a2 S n ne).1 (signs_err f fl c z b s e W H D u a y t a2 S n ne).2 := ⟨by kernel_rfl⟩
def signs_oktt (f : FV) (fl : List Int) (c : Int) (z : Int) (b : Bx) (s : Bx) (e W H D u a y t a2 S n ne : Int) : (Bool) × List (Bool × Bool) :=
  let v1 := konstR f.h fl 50 c z
  (IntKind.i64.wrap (y - b.f2) == v1.fst, [(decide (c < 2), true), (v1.snd != 0, false), (IntKind.i64.wrap (y + t) != IntKind.i64.wrap (u + s.f2), false), (a != s.f1, false), (W != IntKind.i64.wrap (s.f1 + b.f1), false), (a2 != a, false), (decide (IntKind.i64.wrap (IntKind.i64.wrap (s.f2 + s.f3) - n) ≤ 0), true)])
theorem signs_oktt_run (f : FV) (fl : List Int) (c : Int) (z : Int) (b : Bx) (s : Bx) (e W H D u a y t a2 S n ne : Int) : Runs1 (ev Try.prog barTy (sgSp f fl c z b s true (⟨3, W, H, D, 0, 0, [⟨0, u, s⟩, ⟨a, y, ⟨2, b.f1, t, 0, 0, 0, []⟩⟩, ⟨a2, 0, b⟩, ⟨0, 0, ⟨0, 0, S, 0, 0, 0, []⟩⟩]⟩, 0) (n, 0)) [] [((8, 54), true), ((8, 67), false), ((8, 93), false), ((8, 99), false), ((8, 109), false), ((8, 127), false), ((8, 150), true)] boolR 8 Try.f8 [.one (fontP f 0 fl), .one (intP c), .one (intP z), .one (boxP b 1), .one (boxP s 2)] 3) (signs_oktt f fl c z b s e W H D u a y t a2 S n ne).1 (signs_oktt f fl c z b s e W H D u a y t a2 S n ne).2 := ⟨by kernel_rfl⟩
def signs_oktf (f : FV) (fl : List Int) (c : Int) (z : Int) (b : Bx) (s : Bx) (e W H D u a y t a2 S n ne : Int) : (Bool) × List (Bool × Bool) :=
  let v1 := konstR f.h fl 50 c z
  (decide (IntKind.i64.wrap (y - b.f2) ≥ v1.fst), [(decide (c < 2), true), (v1.snd != 0, false), (IntKind.i64.wrap (y + t) != IntKind.i64.wrap (u + s.f2), false), (a != s.f1, false), (W != IntKind.i64.wrap (s.f1 + b.f1), false), (a2 != a, false), (decide (IntKind.i64.wrap (IntKind.i64.wrap (s.f2 + s.f3) - n) ≤ 0), false), (IntKind.i64.wrap (IntKind.i64.wrap (y - b.f2) - v1.fst) == IntKind.i64.wrap ((IntKind.i64.wrap (IntKind.i64.wrap (s.f2 + s.f3) - n)).tdiv 2), true)])
theorem signs_oktf_run (f : FV) (fl : List Int) (c : Int) (z : Int) (b : Bx) (s : Bx) (e W H D u a y t a2 S n ne : Int) : Runs1 (ev Try.prog barTy (sgSp f fl c z b s true (⟨3, W, H, D, 0, 0, [⟨0, u, s⟩, ⟨a, y, ⟨2, b.f1, t, 0, 0, 0, []⟩⟩, ⟨a2, 0, b⟩, ⟨0, 0, ⟨0, 0, S, 0, 0, 0, []⟩⟩]⟩, 0) (n, 0)) [] [((8, 54), true), ((8, 67), false), ((8, 93), false), ((8, 99), false), ((8, 109), false), ((8, 127), false), ((8, 150), false), ((8, 164), true)] boolR 8 Try.f8 [.one (fontP f 0 fl), .one (intP c), .one (intP z), .one (boxP b 1), .one (boxP s 2)] 3) (signs_oktf f fl c z b s e W H D u a y t a2 S n ne).1 (signs_oktf f fl c z b s e W H D u a y t a2 S n ne).2 := ⟨by kernel_rfl⟩
def signs_okft (f : FV) (fl : List Int) (c : Int) (z : Int) (b : Bx) (s : Bx) (e W H D u a y t a2 S n ne : Int) : (Bool) × List (Bool × Bool) :=
  let v1 := konstR f.h fl 49 c z
  (IntKind.i64.wrap (y - b.f2) == v1.fst, [(decide (c < 2), false), (v1.snd != 0, false), (IntKind.i64.wrap (y + t) != IntKind.i64.wrap (u + s.f2), false), (a != s.f1, false), (W != IntKind.i64.wrap (s.f1 + b.f1), false), (a2 != a, false), (decide (IntKind.i64.wrap (IntKind.i64.wrap (s.f2 + s.f3) - n) ≤ 0), true)])
theorem signs_okft_run (f : FV) (fl : List Int) (c : Int) (z : Int) (b : Bx) (s : Bx) (e W H D u a y t a2 S n ne : Int) : Runs1 (ev Try.prog barTy (sgSp f fl c z b s true (⟨3, W, H, D, 0, 0, [⟨0, u, s⟩, ⟨a, y, ⟨2, b.f1, t, 0, 0, 0, []⟩⟩, ⟨a2, 0, b⟩, ⟨0, 0, ⟨0, 0, S, 0, 0, 0, []⟩⟩]⟩, 0) (n, 0)) [] [((8, 54), false), ((8, 67), false), ((8, 93), false), ((8, 99), false), ((8, 109), false), ((8, 127), false), ((8, 150), true)] boolR 8 Try.f8 [.one (fontP f 0 fl), .one (intP c), .one (intP z), .one (boxP b 1), .one (boxP s 2)] 3) (signs_okft f fl c z b s e W H D u a y t a2 S n ne).1 (signs_okft f fl c z b s e W H D u a y t a2 S n ne).2 := ⟨by kernel_rfl⟩
def signs_okff (f : FV) (fl : List Int) (c : Int) (z : Int) (b : Bx) (s : Bx) (e W H D u a y t a2 S n ne : Int) : (Bool) × List (Bool × Bool) :=
  let v1 := konstR f.h fl 49 c z
  (decide (IntKind.i64.wrap (y - b.f2) ≥ v1.fst), [(decide (c < 2), false), (v1.snd != 0, false), (IntKind.i64.wrap (y + t) != IntKind.i64.wrap (u + s.f2), false), (a != s.f1, false), (W != IntKind.i64.wrap (s.f1 + b.f1), false), (a2 != a, false), (decide (IntKind.i64.wrap (IntKind.i64.wrap (s.f2 + s.f3) - n) ≤ 0), false), (IntKind.i64.wrap (IntKind.i64.wrap (y - b.f2) - v1.fst) == IntKind.i64.wrap ((IntKind.i64.wrap (IntKind.i64.wrap (s.f2 + s.f3) - n)).tdiv 2), true)])
theorem signs_okff_run (f : FV) (fl : List Int) (c : Int) (z : Int) (b : Bx) (s : Bx) (e W H D u a y t a2 S n ne : Int) : Runs1 (ev Try.prog barTy (sgSp f fl c z b s true (⟨3, W, H, D, 0, 0, [⟨0, u, s⟩, ⟨a, y, ⟨2, b.f1, t, 0, 0, 0, []⟩⟩, ⟨a2, 0, b⟩, ⟨0, 0, ⟨0, 0, S, 0, 0, 0, []⟩⟩]⟩, 0) (n, 0)) [] [((8, 54), false), ((8, 67), false), ((8, 93), false), ((8, 99), false), ((8, 109), false), ((8, 127), false), ((8, 150), false), ((8, 164), true)] boolR 8 Try.f8 [.one (fontP f 0 fl), .one (intP c), .one (intP z), .one (boxP b 1), .one (boxP s 2)] 3) (signs_okff f fl c z b s e W H D u a y t a2 S n ne).1 (signs_okff f fl c z b s e W H D u a y t a2 S n ne).2 := ⟨by kernel_rfl⟩
end Go.Proofs.Ytfbiahlogclkbaa.H
