/- The proof's texts FewB: what the statement leads to. No condition is added. -/
import Derived.Test.YtfbiahlogclkbaaBarA
import Derived.Test.YtfbiahlogclkbaaEvQ
import Derived.Test.YtfbiahlogclkbaaFewA
set_option linter.unusedVariables false
set_option linter.unusedSimpArgs false
namespace Go.Proofs.Ytfbiahlogclkbaa.H
open Go.RowKit Go.Proofs.YtfbiahlogclkbaaW.PrintWords Go.Proofs.YtfbiahlogclkbaaW.PrintLast Go.Proofs.YtfbiahlogclkbaaW.PrintMore Go.Proofs.Ytfbiahlogclkbaa.P Ev
/-- What can be read is in blocks of its world. -/
def low (w : World) (k : Nat) : Prop := k < w.heap.size
theorem BoxC.low {w : World} {x : Bx} {A : Option Addr} {c : Nat} (h : BoxC w x A c) : BoxAt w (low w) x A c :=
  ⟨fun W' hW => heapKid.C (fun k hk => hW k hk hk) h.r, h.c⟩
theorem Konst_low {w : World} {f : FV} {l : List Int} (h : f.Konst w l) : FontF w (low w) f l :=
  ⟨h.n, h.c, fun W' hW => (Kd.heap_int _).C (fun k hk => hW k hk hk) h.r⟩
def fewHs (f : FV) (a b c : Bx) (Aa Ab Ac : Option Addr) (ca cb cc : Nat) : List Value := [.slice f.s9.A f.s9.n f.s9.c, .slice Aa a.f6.length ca, .slice Ab b.f6.length cb, .slice Ac c.f6.length cc]
def fewSp (f : FV) (l : List Int) (a b c : Bx) (r1 r2 r3 r4 : Bool) : List (Nat × SpecF) :=
  [(36, spAt [.one (fontP f 0 l)] (boolS r1)), (37, spBy (fun l => exOf (l.headD (.tup []))) [(1, spAt [.one (boxP a 1)] (boolS r2)), (2, spAt [.one (boxP b 2)] (boolS r3)), (3, spAt [.one (boxP c 3)] (boolS r4))])]
theorem few27_run (f : FV) (l : List Int) (a b c : Bx) (r1 r2 r3 r4 : Bool) : Runs1 (ev Try.prog barTy (fewSp f l a b c r1 r2 r3 r4) [] [] boolR 24 Try.f24 [.one (fontP f 0 l), .one (boxP a 1), .one (boxP b 2), .one (boxP c 3)] 4) (r1 && r2 && r3 && r4) [] := by
  cases r1
  · exact ⟨by kernel_rfl⟩
  · cases r2
    · exact ⟨by kernel_rfl⟩
    · cases r3
      · exact ⟨by kernel_rfl⟩
      · cases r4
        · exact ⟨by kernel_rfl⟩
        · exact ⟨by kernel_rfl⟩
theorem few27_any (f : FV) (a b c : Bx) (Aa Ab Ac : Option Addr) (ca cb cc : Nat) (w : World) (hf : FontAt w f) (ha : BoxC w a Aa ca) (hb : BoxC w b Ab cb) (hc : BoxC w c Ac cc) :
    ∃ r : Bool, ∀ w1, Below w.heap.size w w1 → Calls Try.prog 24 #[f.v, boxV a Aa ca, boxV b Ab cb, boxV c Ac cc] w1 fun e w' => e = .returned (.bool r) ∧ Below w1.heap.size w1 w' := by
  obtain ⟨r1, h1⟩ := few18_any f w hf
  obtain ⟨r2, h2⟩ := few23_any a Aa ca w ha
  obtain ⟨r3, h3⟩ := few23_any b Ab cb w hb
  obtain ⟨r4, h4⟩ := few23_any c Ac cc w hc
  obtain ⟨l, hl⟩ := hf.konst
  refine ⟨r1 && r2 && r3 && r4, fun w1 hw => ?_⟩
  have hl1 := hl.below hw
  have ha1 := ha.below hw
  have hb1 := hb.below hw
  have hc1 := hc.below hw
  have ht : TabOk w1 (low w1) (fewHs f a b c Aa Ab Ac ca cb cc) barTy (fewSp f l a b c r1 r2 r3 r4) [] := by
    refine ⟨(barTab w1 (low w1) []).ts, fun p hp => ?_, fun p hp => by cases hp⟩
    simp only [fewSp, List.mem_cons, List.not_mem_nil, or_false] at hp
    rcases hp with rfl | rfl
    · refine ⟨enter_of Try.func36 rfl (by kernel_rfl), spAt_ok (fun x hx => ?_) (bool_at r1).1 (bool_at r1).2 (fun w2 h => h1 w2 (bthen hw h))⟩
      simp only [List.mem_singleton] at hx
      subst hx
      exact font_x hl1.n hl1.c rfl
    · refine ⟨enter_of Try.func37 rfl (by kernel_rfl), spBy_ok (fun p hp => ?_)⟩
      simp only [List.mem_cons, List.not_mem_nil, or_false] at hp
      rcases hp with rfl | rfl | rfl
      · refine spAt_ok (fun x hx => ?_) (bool_at r2).1 (bool_at r2).2 (fun w2 h => h2 w2 (bthen hw h))
        simp only [List.mem_singleton] at hx
        subst hx
        exact box_x ha1.c rfl
      · refine spAt_ok (fun x hx => ?_) (bool_at r3).1 (bool_at r3).2 (fun w2 h => h3 w2 (bthen hw h))
        simp only [List.mem_singleton] at hx
        subst hx
        exact box_x hb1.c rfl
      · refine spAt_ok (fun x hx => ?_) (bool_at r4).1 (bool_at r4).2 (fun w2 h => h4 w2 (bthen hw h))
        simp only [List.mem_singleton] at hx
        subst hx
        exact box_x hc1.c rfl
  refine ev_bool ht Try.func24 (few27_run f l a b c r1 r2 r3 r4) told_nil (fun k hk => hk) (Nat.le_refl _) (fun x hx => ?_) rfl
  simp only [List.mem_cons, List.not_mem_nil, or_false] at hx
  rcases hx with rfl | rfl | rfl | rfl
  · exact fontP_V (Konst_low hl1) (by decide) rfl
  · exact boxP_V ha1.low (by decide) rfl
  · exact boxP_V hb1.low (by decide) rfl
  · exact boxP_V hc1.low (by decide) rfl
end Go.Proofs.Ytfbiahlogclkbaa.H
