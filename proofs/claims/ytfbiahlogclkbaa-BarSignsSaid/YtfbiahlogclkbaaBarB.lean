/- The proof's texts BarB: what the statement leads to. No condition is added. -/
import Derived.Test.YtfbiahlogclkbaaBarA
set_option linter.unusedVariables false
set_option linter.unusedSimpArgs false
namespace Go.Proofs.Ytfbiahlogclkbaa.H
open Go.RowKit Go.Proofs.YtfbiahlogclkbaaW.PrintWords Go.Proofs.YtfbiahlogclkbaaW.PrintLast Go.Proofs.YtfbiahlogclkbaaW.PrintMore Go.Proofs.Ytfbiahlogclkbaa.P Ev

def need_t (f : FV) (fl : List Int) (c : Int) (z : Int) (b : Bx) : (Int × Int) × List (Bool × Bool) :=
  let v1 := konstR f.h fl 50 c z
  let v2 := kp 0 v1
  let v3 := konstR f.h fl 51 c z
  let v4 := kp v2.snd v3
  let v5 := needE v4.snd [b]
  let v6 := sumR [v2.fst, v4.fst, b.f2, b.f3]
  let v7 := kp v5 v6
  (v7, [(decide (c < 2), true)])
theorem need_t_vars (f : FV) (fl : List Int) (c : Int) (z : Int) (b : Bx) : ∃ v1, v1 = konstR f.h fl 50 c z ∧ ∃ v2, v2 = kp 0 v1 ∧ ∃ v3, v3 = konstR f.h fl 51 c z ∧ ∃ v4, v4 = kp v2.snd v3 ∧ ∃ v5, v5 = needE v4.snd [b] ∧ ∃ v6, v6 = sumR [v2.fst, v4.fst, b.f2, b.f3] ∧ ∃ v7, v7 = kp v5 v6 ∧ need_t f fl c z b = (v7, [(decide (c < 2), true)]) := ⟨_, rfl, _, rfl, _, rfl, _, rfl, _, rfl, _, rfl, _, rfl, by kernel_rfl⟩
theorem need_t_run (f : FV) (fl : List Int) (c : Int) (z : Int) (b : Bx) : Runs1 (ev Try.prog barTy barSp barBo [((55, 7), true)] pairR 29 Try.f29 [.one (fontP f 0 fl), .one (intP c), .one (intP z), .one (boxP b 1)] 2) (need_t f fl c z b).1 (need_t f fl c z b).2 := ⟨by kernel_rfl⟩
theorem need_t_any (f : FV) (fl : List Int) (c : Int) (z : Int) (b : Bx) {Ab : Option Addr} {cb : Nat} {w : World} {ok : Nat → Prop} (hf : FontF w ok f fl) (hb : BoxAt w ok b Ab cb) (hok : ∀ k, ok k → k < w.heap.size) (hcs : Ev.Told (need_t f fl c z b).2) :
    Calls Try.prog 29 #[f.v, .int .i64 c, .int .i64 z, boxV b Ab cb] w (PairPost (need_t f fl c z b).1 w) :=
  ev_pair (hs := [.slice f.s9.A f.s9.n f.s9.c, .slice Ab b.f6.length cb]) (barTab w ok _) Try.func29 (need_t_run f fl c z b) hcs hok (Nat.le_refl _) (fun x hx => by
    simp only [List.mem_cons, List.not_mem_nil, or_false] at hx
    rcases hx with rfl | rfl | rfl | rfl
    · exact fontP_V hf (by decide) rfl
    · exact intP_V _
    · exact intP_V _
    · exact boxP_V hb (by decide) rfl) rfl
def need_f (f : FV) (fl : List Int) (c : Int) (z : Int) (b : Bx) : (Int × Int) × List (Bool × Bool) :=
  let v1 := konstR f.h fl 49 c z
  let v2 := kp 0 v1
  let v3 := konstR f.h fl 51 c z
  let v4 := kp v2.snd v3
  let v5 := needE v4.snd [b]
  let v6 := sumR [v2.fst, v4.fst, b.f2, b.f3]
  let v7 := kp v5 v6
  (v7, [(decide (c < 2), false)])
theorem need_f_vars (f : FV) (fl : List Int) (c : Int) (z : Int) (b : Bx) : ∃ v1, v1 = konstR f.h fl 49 c z ∧ ∃ v2, v2 = kp 0 v1 ∧ ∃ v3, v3 = konstR f.h fl 51 c z ∧ ∃ v4, v4 = kp v2.snd v3 ∧ ∃ v5, v5 = needE v4.snd [b] ∧ ∃ v6, v6 = sumR [v2.fst, v4.fst, b.f2, b.f3] ∧ ∃ v7, v7 = kp v5 v6 ∧ need_f f fl c z b = (v7, [(decide (c < 2), false)]) := ⟨_, rfl, _, rfl, _, rfl, _, rfl, _, rfl, _, rfl, _, rfl, by kernel_rfl⟩
theorem need_f_run (f : FV) (fl : List Int) (c : Int) (z : Int) (b : Bx) : Runs1 (ev Try.prog barTy barSp barBo [((55, 7), false)] pairR 29 Try.f29 [.one (fontP f 0 fl), .one (intP c), .one (intP z), .one (boxP b 1)] 2) (need_f f fl c z b).1 (need_f f fl c z b).2 := ⟨by kernel_rfl⟩
theorem need_f_any (f : FV) (fl : List Int) (c : Int) (z : Int) (b : Bx) {Ab : Option Addr} {cb : Nat} {w : World} {ok : Nat → Prop} (hf : FontF w ok f fl) (hb : BoxAt w ok b Ab cb) (hok : ∀ k, ok k → k < w.heap.size) (hcs : Ev.Told (need_f f fl c z b).2) :
    Calls Try.prog 29 #[f.v, .int .i64 c, .int .i64 z, boxV b Ab cb] w (PairPost (need_f f fl c z b).1 w) :=
  ev_pair (hs := [.slice f.s9.A f.s9.n f.s9.c, .slice Ab b.f6.length cb]) (barTab w ok _) Try.func29 (need_f_run f fl c z b) hcs hok (Nat.le_refl _) (fun x hx => by
    simp only [List.mem_cons, List.not_mem_nil, or_false] at hx
    rcases hx with rfl | rfl | rfl | rfl
    · exact fontP_V hf (by decide) rfl
    · exact intP_V _
    · exact intP_V _
    · exact boxP_V hb (by decide) rfl) rfl
end Go.Proofs.Ytfbiahlogclkbaa.H
