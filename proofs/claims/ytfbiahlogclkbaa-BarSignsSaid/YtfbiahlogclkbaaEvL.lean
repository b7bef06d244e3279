/- The proof's texts EvL: what the statement leads to. No condition is added. -/
import Derived.Test.YtfbiahlogclkbaaEvK
import Derived.Test.YtfbiahlogclkbaaStyB
import Derived.Test.YtfbiahlogclkbaaLitC
set_option linter.unusedVariables false
set_option linter.unusedSimpArgs false
namespace Go.Proofs.Ytfbiahlogclkbaa.H
open Go.RowKit Go.Proofs.YtfbiahlogclkbaaW.PrintWords Go.Proofs.YtfbiahlogclkbaaW.PrintLast Go.Proofs.YtfbiahlogclkbaaW.PrintMore Go.Proofs.Ytfbiahlogclkbaa.P
namespace Ev

def intC : Cell → Option Int
  | .v (.int .i64 n) => some n
  | _ => none
def boolC : Cell → Option Bool
  | .v (.bool b) => some b
  | _ => none
def rowC : Cell → Option H.Row
  | .v (.slice A n c) => some ⟨A, n, c⟩
  | _ => none
def kidsC : Cell → Option (List Kx)
  | .ex _ (.kids l) => some l
  | .v (.slice none 0 0) => some []
  | _ => none
def intS : Slot → Option Int
  | .one (.c c) => intC c
  | _ => none
def intsL : List Cell → Option (List Int)
  | [] => some []
  | c :: l => (intC c).bind fun x => (intsL l).map (x :: ·)
def intsS (hp : List Blk) : Slot → Option (List Int)
  | .one (.c (.ex _ (.ints l))) => some l
  | .one (.c (.sl i n c)) => (hp[i]?).bind fun b => match decide (b.live = true ∧ b.opn.isNone = true ∧ n = b.cells.length ∧ n ≤ c ∧ n ≤ 1000000) with
    | true => intsL b.cells
    | false => none
  | _ => none
/-- A head's six cells. -/
def headL : List Cell → Option S23
  | [c0, c1, c2, c3, c4, c5] => (intC c0).bind fun a0 => (intC c1).bind fun a1 => (intC c2).bind fun a2 => (intC c3).bind fun a3 => (intC c4).bind fun a4 => (boolC c5).map fun a5 => ⟨a0, a1, a2, a3, a4, a5⟩
  | _ => none
/-- A font's seventeen cells: all but its constants' row; that one's number and what it tells. -/
def fontL (hp : List Blk) : List Cell → Option (FV × Nat × List Int)
  | [c0, c1, c2, c3, c4, c5, c6, c7, c8, c9, c10, c11, c12, c13, c14, c15, c16] =>
    (headL [c0, c1, c2, c3, c4, c5]).bind fun h => (rowC c6).bind fun r6 => (rowC c7).bind fun r7 => (rowC c8).bind fun r8 => (intsS hp (.one (.c c9))).bind fun q => (rowC c10).bind fun r10 => (rowC c11).bind fun r11 => (rowC c12).bind fun r12 => (rowC c13).bind fun r13 =>
      (intC c14).bind fun i => (rowC c15).bind fun r15 => (rowC c16).map fun r16 => (⟨h, i, r6, r7, r8, ⟨none, 0, 0⟩, r10, r11, r12, r13, r15, r16⟩, 0, q)
  | _ => none
def fontS (hp : List Blk) : Slot → Option (FV × Nat × List Int)
  | .one (.agg l) => fontL hp l
  | _ => none
def intP (n : Int) : Part := .c (.v (.int .i64 n))
def pairS (r : Int × Int) : Slot := .tup [intP r.1, intP r.2]
def boolS (b : Bool) : Slot := .one (.c (.v (.bool b)))
def boxP (b : Bx) (j : Nat) : Part := .agg [.v (.int .i64 b.f0), .v (.int .i64 b.f1), .v (.int .i64 b.f2), .v (.int .i64 b.f3), .v (.int .i64 b.f4), .v (.int .i64 b.f5), .ex j (.kids b.f6)]
def kidL9 : List Cell → Option Kx
  | [c0, c1, c2, c3, c4, c5, c6, c7, c8] => (intC c0).bind fun a0 => (intC c1).bind fun a1 => (intC c2).bind fun a2 => (intC c3).bind fun a3 => (intC c4).bind fun a4 => (intC c5).bind fun a5 => (intC c6).bind fun a6 => (intC c7).bind fun a7 => (kidsC c8).map fun l => ⟨a0, a1, ⟨a2, a3, a4, a5, a6, a7, l⟩⟩
  | _ => none
def kidsL : Nat → List Cell → Option (List Kx)
  | _, [] => some []
  | 0, _ => none
  | n + 1, l => (kidL9 (l.take 9)).bind fun k => (kidsL n (l.drop 9)).map (k :: ·)
/-- A row of kids; the block that it lies in, if it is told. -/
def kidsS (hp : List Blk) : Slot → Option (List Kx × Option Nat)
  | .one (.c (.ex _ (.kids l))) => match decide (l.length ≤ 1000) with
    | true => some (l, none)
    | false => none
  | .one (.c (.v (.slice none 0 0))) => some ([], none)
  | .one (.c (.sl i n c)) => (hp[i]?).bind fun b => (kidsL n b.cells).bind fun l => match decide (b.live = true ∧ b.opn.isNone = true ∧ n = l.length ∧ n ≤ c ∧ n ≤ 1000) with
    | true => some (l, some i)
    | false => none
  | .one (.c (.own _ n i)) => (hp[i]?).bind fun b => (kidsL n b.cells).bind fun l => match decide (b.live = true ∧ n = l.length ∧ n ≤ 1000) with
    | true => some (l, some i)
    | false => none
  | _ => none
def outS (s : Slot) (hp : List Blk) (ne : Nat) : Out := ⟨s, hp, ne, [], []⟩
def spIs : SpecF := fun args hp ne => match args with
  | [s] => (intsS hp s).map fun l => outS (boolS (allLen l)) hp ne
  | _ => none
def spSum : SpecF := fun args hp ne => match args with
  | [s] => (intsS hp s).map fun l => outS (pairS (sumR l)) hp ne
  | _ => none
def spHalf : SpecF := fun args hp ne => match args with
  | [s] => (intS s).map fun a => outS (pairS (halfR a)) hp ne
  | _ => none
def spMulDiv : SpecF := fun args hp ne => match args with
  | [s, t, u] => (intS s).bind fun a => (intS t).bind fun b => (intS u).map fun c => outS (pairS (mulDivR a b c)) hp ne
  | _ => none
def spKonst : SpecF := fun args hp ne => match args with
  | [f, s, t, u] => (fontS hp f).bind fun q => (intS s).bind fun k => (intS t).bind fun c => (intS u).map fun z => outS (pairS (konstR q.1.h q.2.2 k c z)) hp ne
  | _ => none
def frz (hp : List Blk) : Option Nat → List Blk
  | none => hp
  | some i => match hp[i]? with
    | some b => hp.set i { b with live := false }
    | none => hp
def frzChg (hp : List Blk) : Option Nat → Chg
  | none => []
  | some i => match hp[i]? with
    | some b => chgOf i 0 b.cells.length
    | none => []
def spSet : SpecF := fun args hp ne => match args with
  | [s, t] => (intS s).bind fun x => (kidsS hp t).map fun q => ⟨.tup [boxP (setR x q.1).1 ne, intP (setR x q.1).2], frz hp q.2, ne + 1, frzChg hp q.2, []⟩
  | _ => none
section
variable {C : Ctx} {E : Env} {hp : List Blk} {ne : Nat} {w w' : World}
theorem intC_some {c : Cell} {n : Int} (h : intC c = some n) : c = .v (.int .i64 n) := by
  unfold intC at h
  split at h
  · rw [Option.some.inj h]
  · cases h
theorem boolC_some {c : Cell} {n : Bool} (h : boolC c = some n) : c = .v (.bool n) := by
  unfold boolC at h
  split at h
  · rw [Option.some.inj h]
  · cases h
theorem rowC_some {c : Cell} {r : H.Row} (h : rowC c = some r) : c = .v (.slice r.A r.n r.c) := by
  unfold rowC at h
  split at h
  · rw [← Option.some.inj h]
  · cases h
theorem intS_some {s : Slot} {n : Int} (h : intS s = some n) : s = .one (.c (.v (.int .i64 n))) := by
  unfold intS at h
  split at h
  · rw [intC_some h]
  · cases h
theorem headL_some {l : List Cell} {h : S23} (hl : headL l = some h) : l = [.v (.int .i64 h.f0), .v (.int .i64 h.f1), .v (.int .i64 h.f2), .v (.int .i64 h.f3), .v (.int .i64 h.f4), .v (.bool h.f5)] := by
  unfold headL at hl
  split at hl
  · obtain ⟨a0, h0, hl⟩ := Option.bind_eq_some_iff.1 hl
    obtain ⟨a1, h1, hl⟩ := Option.bind_eq_some_iff.1 hl
    obtain ⟨a2, h2, hl⟩ := Option.bind_eq_some_iff.1 hl
    obtain ⟨a3, h3, hl⟩ := Option.bind_eq_some_iff.1 hl
    obtain ⟨a4, h4, hl⟩ := Option.bind_eq_some_iff.1 hl
    obtain ⟨a5, h5, rfl⟩ := Option.map_eq_some_iff.1 hl
    rw [intC_some h0, intC_some h1, intC_some h2, intC_some h3, intC_some h4, boolC_some h5]
  · cases hl
theorem intsL_den (E : Env) : ∀ {l : List Cell} {r : List Int}, intsL l = some r → l.map (Cell.den E) = nums .i64 r ∧ r.length = l.length
  | [], r, h => by simp only [intsL, Option.some.injEq] at h; subst h; exact ⟨rfl, rfl⟩
  | c :: l, r, h => by
    simp only [intsL] at h
    obtain ⟨x, hx, h2⟩ := Option.bind_eq_some_iff.1 h
    obtain ⟨q, hq, rfl⟩ := Option.map_eq_some_iff.1 h2
    obtain ⟨h3, h4⟩ := intsL_den E hq
    rw [intC_some hx]
    exact ⟨by rw [List.map_cons, h3]; rfl, by simp [h4]⟩
theorem intsS_ok (h : Hs C E hp ne w) {s : Slot} {l : List Int} (hs : intsS hp s = some l) (hv : s.V E hp.length ne (RF (fz C E hp) w)) : ∃ A c, s.den E = .slice A l.length c ∧ l.length ≤ c ∧ Kd.C (Kd.int .i64) w A l.length l := by
  unfold intsS at hs
  split at hs
  · injection hs with hs
    subst hs
    obtain ⟨_, A, c, he, hc, hF⟩ := one_V hv
    exact ⟨A, c, he, hc, Kd.F_now hF⟩
  · rename_i i n c
    obtain ⟨b, hb, h2⟩ := Option.bind_eq_some_iff.1 hs
    split at h2
    · rename_i hd
      obtain ⟨hl, ho, h3, h4, h5⟩ := of_decide_eq_true hd
      obtain ⟨h6, h7⟩ := intsL_den E h2
      refine ⟨some ⟨E.a i, 0, none⟩, c, by rw [h7, ← h3]; rfl, by omega, ?_⟩
      exact C_at (h.blk0 hb hl ho) (by rw [cellsDen, h6]) (by omega)
    · cases h2
  · cases hs
theorem fontS_some (hw : Hs C E hp ne w) {s : Slot} {q : FV × Nat × List Int} (hs : fontS hp s = some q) (hv : s.V E hp.length ne (RF (fz C E hp) w)) : ∃ f : FV, s.den E = f.v ∧ f.h = q.1.h ∧ f.Konst w q.2.2 := by
  unfold fontS at hs
  split at hs
  · rename_i l
    unfold fontL at hs
    split at hs
    · rename_i c0 c1 c2 c3 c4 c5 c6 c7 c8 c9 c10 c11 c12 c13 c14 c15 c16
      obtain ⟨h, h0, hl⟩ := Option.bind_eq_some_iff.1 hs
      obtain ⟨r6, h6, hl⟩ := Option.bind_eq_some_iff.1 hl
      obtain ⟨r7, h7, hl⟩ := Option.bind_eq_some_iff.1 hl
      obtain ⟨r8, h8, hl⟩ := Option.bind_eq_some_iff.1 hl
      obtain ⟨r9, h9, hl⟩ := Option.bind_eq_some_iff.1 hl
      obtain ⟨r10, h10, hl⟩ := Option.bind_eq_some_iff.1 hl
      obtain ⟨r11, h11, hl⟩ := Option.bind_eq_some_iff.1 hl
      obtain ⟨r12, h12, hl⟩ := Option.bind_eq_some_iff.1 hl
      obtain ⟨r13, h13, hl⟩ := Option.bind_eq_some_iff.1 hl
      obtain ⟨r14, h14, hl⟩ := Option.bind_eq_some_iff.1 hl
      obtain ⟨r15, h15, hl⟩ := Option.bind_eq_some_iff.1 hl
      obtain ⟨r16, h16, rfl⟩ := Option.map_eq_some_iff.1 hl
      have e0 := headL_some h0
      simp only [List.cons.injEq, and_true] at e0
      obtain ⟨e0, e1, e2, e3, e4, e5⟩ := e0
      obtain ⟨A, c, he, hc, hF⟩ := intsS_ok hw h9 (cell_V (hv c9 (by simp [Part.cells])))
      have he' : c9.den E = .slice A r9.length c := he
      refine ⟨⟨h, r14, r6, r7, r8, ⟨A, r9.length, c⟩, r10, r11, r12, r13, r15, r16⟩, ?_, rfl, ⟨rfl, hF, hc⟩⟩
      rw [e0, e1, e2, e3, e4, e5, rowC_some h6, rowC_some h7, rowC_some h8, rowC_some h10, rowC_some h11, rowC_some h12, rowC_some h13, intC_some h14, rowC_some h15, rowC_some h16]
      show Value.agg #[_, _, _, _, _, _, _, _, _, c9.den E, _, _, _, _, _, _, _] = _
      rw [he']
      rfl
    · cases hs
  · cases hs
/-- What leaves all blocks as they were, and hands back what leads nowhere. -/
theorem out_ok {f : Nat} {args : List Slot} {s : Slot} (h : Hs C E hp ne w) (hv : s.V E hp.length ne (RF (fz C E hp) w)) (hc : Calls Try.prog f (args.map (Slot.den E)).toArray w fun e w' => e = .returned (s.den E) ∧ Below w.heap.size w w') :
    Calls Try.prog f (args.map (Slot.den E)).toArray w fun e w' => ∃ E', e = .returned (s.den E') ∧ Post C E hp ne w E' hp ne w' ∧ s.V E' hp.length ne (RF (fz C E' hp) w') := by
  refine hc.mono ?_
  rintro e w' ⟨rfl, hb⟩
  have hp0 := below_post h hb
  exact ⟨E, rfl, hp0, (hp0.slot hv).1⟩
theorem pair_V (r : Int × Int) {nb : Nat} {q : RowP} : (pairS r).V E nb ne q := fun p hp c hc => by
  simp only [List.mem_cons, List.not_mem_nil, or_false] at hp
  rcases hp with rfl | rfl
  all_goals
    simp only [intP, Part.cells, List.mem_singleton] at hc
    subst hc
    rfl
theorem spIs_ok : SpecOk Try.prog C 23 spIs := fun args hp ne o h hcs => by
  unfold spIs at h
  split at h
  · rename_i s
    obtain ⟨l, hl, rfl⟩ := Option.map_eq_some_iff.1 h
    refine ⟨Agree.refl _, fun E w hs hv => out_ok hs (cell_V rfl) ?_⟩
    obtain ⟨A, c, h1, h2, h3⟩ := intsS_ok hs hl (hv s (by simp))
    simp only [List.map_cons, List.map_nil, h1]
    exact Is_any A c l w h3 h2
  · cases h
theorem spSum_ok : SpecOk Try.prog C 74 spSum := fun args hp ne o h hcs => by
  unfold spSum at h
  split at h
  · rename_i s
    obtain ⟨l, hl, rfl⟩ := Option.map_eq_some_iff.1 h
    refine ⟨Agree.refl _, fun E w hs hv => out_ok hs (pair_V _) ?_⟩
    obtain ⟨A, c, h1, h2, h3⟩ := intsS_ok hs hl (hv s (by simp))
    simp only [List.map_cons, List.map_nil, h1]
    exact Sum_any A c l w h3 h2
  · cases h
theorem spHalf_ok : SpecOk Try.prog C 60 spHalf := fun args hp ne o h hcs => by
  unfold spHalf at h
  split at h
  · rename_i s
    obtain ⟨a, ha, rfl⟩ := Option.map_eq_some_iff.1 h
    refine ⟨Agree.refl _, fun E w hs hv => out_ok hs (pair_V _) ?_⟩
    rw [intS_some ha]
    exact Half_any a w
  · cases h
theorem spMulDiv_ok : SpecOk Try.prog C 61 spMulDiv := fun args hp ne o h hcs => by
  unfold spMulDiv at h
  split at h
  · rename_i s t u
    obtain ⟨a, ha, h2⟩ := Option.bind_eq_some_iff.1 h
    obtain ⟨b, hb, h3⟩ := Option.bind_eq_some_iff.1 h2
    obtain ⟨c, hc, rfl⟩ := Option.map_eq_some_iff.1 h3
    refine ⟨Agree.refl _, fun E w hs hv => out_ok hs (pair_V _) ?_⟩
    rw [intS_some ha, intS_some hb, intS_some hc]
    exact MulDiv_any a b c w
  · cases h
theorem spKonst_ok : SpecOk Try.prog C 22 spKonst := fun args hp ne o h hcs => by
  unfold spKonst at h
  split at h
  · rename_i f s t u
    obtain ⟨q, hq, h1⟩ := Option.bind_eq_some_iff.1 h
    obtain ⟨a, ha, h2⟩ := Option.bind_eq_some_iff.1 h1
    obtain ⟨b, hb, h3⟩ := Option.bind_eq_some_iff.1 h2
    obtain ⟨c, hc, rfl⟩ := Option.map_eq_some_iff.1 h3
    refine ⟨Agree.refl _, fun E w hs hv => out_ok hs (pair_V _) ?_⟩
    obtain ⟨f', h4, h5, h6⟩ := fontS_some hs hq (hv f (by simp))
    rw [intS_some ha, intS_some hb, intS_some hc, ← h5]
    simp only [List.map_cons, List.map_nil, h4]
    exact Konst_any f' q.2.2 a b c w h6
  · cases h
end
end Ev
end Go.Proofs.Ytfbiahlogclkbaa.H
