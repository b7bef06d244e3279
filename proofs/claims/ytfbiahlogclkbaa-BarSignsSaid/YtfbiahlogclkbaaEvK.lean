/- The proof's texts EvJ EvK: what the statement leads to. No condition is added. -/
import Derived.Test.YtfbiahlogclkbaaEvI
set_option linter.unusedVariables false
set_option linter.unusedSimpArgs false
namespace Go.Proofs.Ytfbiahlogclkbaa.H
open Go.RowKit Go.Proofs.YtfbiahlogclkbaaW.PrintWords Go.Proofs.YtfbiahlogclkbaaW.PrintLast Go.Proofs.YtfbiahlogclkbaaW.PrintMore Go.Proofs.Ytfbiahlogclkbaa.P
namespace Ev

inductive XK where
  | normal
  | exit (id : Nat)
  | ret
def XK.ex : XK → Exit
  | .normal => .normal
  | .exit id => .exit id
  | .ret => .ret
structure Res where
  x : XK
  st : St
  chg : Chg
  cs : Conds
def Res.then (r r' : Res) : Res := ⟨r'.x, r'.st, r.chg ++ r'.chg, r.cs ++ r'.cs⟩
def slotNo : Operand → Nat
  | .tmp t => t
  | _ => 0
def evC (P : Program) (ts : Types) (K : Callee) (orc : Orc) (F : Nat) : Nat → Code → St → Option Res
  | 0, _, _ => none
  | fuel + 1, c, st =>
    match c with
    | .skip => some ⟨.normal, st, [], []⟩
    | .ret => some ⟨.ret, st, [], []⟩
    | .exit id => some ⟨.exit id, st, [], []⟩
    | .region _ ops false => (evSeq P ts K orc F ops ops.toList st).map fun q => ⟨.normal, q.1, q.2.1, q.2.2⟩
    | .region _ ops true => (evDraw P ts K orc F ops st).map fun q => ⟨.normal, q.1, q.2.1, q.2.2⟩
    | .seq a b => (evC P ts K orc F fuel a st).bind fun r => match r.x with
      | .normal => (evC P ts K orc F fuel b r.st).map r.then
      | .exit _ => some r
      | .ret => some r
    | .cond c t e => ((evO st.fr c).bind boolOf).bind fun b => match b with
      | none => none
      | some b => match (dec orc F (slotNo c) b).1 with
        | true => (evC P ts K orc F fuel t st).map fun r => ⟨r.x, r.st, r.chg, (dec orc F (slotNo c) b).2 ++ r.cs⟩
        | false => (evC P ts K orc F fuel e st).map fun r => ⟨r.x, r.st, r.chg, (dec orc F (slotNo c) b).2 ++ r.cs⟩
    | .block id c => (evC P ts K orc F fuel c st).map fun r => match r.x with
      | .exit id' => match decide (id' = id) with
        | true => { r with x := .normal }
        | false => r
      | .normal => r
      | .ret => r
    | .loop c => (evC P ts K orc F fuel c st).bind fun r => match r.x with
      | .normal => (evC P ts K orc F fuel (.loop c) r.st).map r.then
      | .exit _ => some r
      | .ret => some r
    | _ => none
section
variable {P : Program} {ts : Types} {C : Ctx} {K : Callee} {orc : Orc} {F : Nat} {E E' : Env} {hp : List Blk} {st st' : St} {ne : Nat} {w w' : World} {fr : List Slot} {a : Act} {o : Oper} {ops : Array Oper}
theorem evC_agree (hK : CallOk P C K) : ∀ (fuel : Nat) (c : Code) (st : St) (r : Res), evC P ts K orc F fuel c st = some r → Holds r.cs → Agree st.hp r.st.hp r.chg
  | 0, c, st, r, h, hcs => by simp [evC] at h
  | fuel + 1, c, st, r, h, hcs => by
    have seq : ∀ (c1 c2 : Code), ((evC P ts K orc F fuel c1 st).bind fun r => match r.x with
        | .normal => (evC P ts K orc F fuel c2 r.st).map r.then
        | .exit _ => some r
        | .ret => some r) = some r → Agree st.hp r.st.hp r.chg := fun c1 c2 h => by
      obtain ⟨r1, h1, h2⟩ := Option.bind_eq_some_iff.1 h
      split at h2
      · obtain ⟨r2, h3, rfl⟩ := Option.map_eq_some_iff.1 h2
        exact (evC_agree hK fuel _ _ _ h1 hcs.left).trans (evC_agree hK fuel _ _ _ h3 hcs.right)
      · injection h2 with h2; subst h2; exact evC_agree hK fuel _ _ _ h1 hcs
      · injection h2 with h2; subst h2; exact evC_agree hK fuel _ _ _ h1 hcs
    cases c
    case skip => simp only [evC, Option.some.injEq] at h; subst h; exact Agree.refl _
    case ret => simp only [evC, Option.some.injEq] at h; subst h; exact Agree.refl _
    case exit => simp only [evC, Option.some.injEq] at h; subst h; exact Agree.refl _
    case region id ops dr =>
      cases dr
      · simp only [evC] at h
        obtain ⟨q, hq, rfl⟩ := Option.map_eq_some_iff.1 h
        exact evSeq_agree hK _ _ _ hq hcs
      · simp only [evC] at h
        obtain ⟨q, hq, rfl⟩ := Option.map_eq_some_iff.1 h
        exact evDraw_agree hK hq hcs
    case seq c1 c2 => simp only [evC] at h; exact seq _ _ h
    case loop c1 => simp only [evC] at h; exact seq _ _ h
    case cond c1 t e =>
      simp only [evC] at h
      obtain ⟨b, hb, h2⟩ := Option.bind_eq_some_iff.1 h
      cases b with
      | none => cases h2
      | some b =>
        simp only at h2
        split at h2
        · obtain ⟨r1, h1, rfl⟩ := Option.map_eq_some_iff.1 h2
          exact evC_agree hK fuel t st r1 h1 hcs.right
        · obtain ⟨r1, h1, rfl⟩ := Option.map_eq_some_iff.1 h2
          exact evC_agree hK fuel e st r1 h1 hcs.right
    case block id c1 =>
      simp only [evC] at h
      obtain ⟨r1, h1, h2⟩ := Option.map_eq_some_iff.1 h
      split at h2
      · split at h2
        · subst h2; exact evC_agree hK fuel c1 st r1 h1 hcs
        · subst h2; exact evC_agree hK fuel c1 st r1 h1 hcs
      · subst h2; exact evC_agree hK fuel c1 st r1 h1 hcs
      · subst h2; exact evC_agree hK fuel c1 st r1 h1 hcs
    all_goals simp [evC] at h
theorem Holds.append {x y : Conds} (h1 : Holds x) (h2 : Holds y) : Holds (x ++ y) := fun c hc => by
  rcases List.mem_append.1 hc with hc | hc
  · exact h1 c hc
  · exact h2 c hc
theorem boolOf_some {s : Slot} {b : Bool} (h : boolOf s = some (some b)) : s = .one (.c (.v (.bool b))) := by
  unfold boolOf at h
  split at h
  · injection h with h; injection h with h; rw [h]
  · injection h with h; cases h
  · cases h
theorem noPanic_then {Q : Exit → Act → World → Prop} (h : NoPanic Q) (Kn : Act → World → Prop) : NoPanic (Exit.then Kn Q) := fun c a w => h c a w
theorem noPanic_block {Q : Exit → Act → World → Prop} (h : NoPanic Q) (id : Nat) : NoPanic (Exit.inBlock id Q) := fun c a w => h c a w
/-- What the code comes to: at the code itself (A), and at a loop's next round (B). -/
theorem evC_both (hts : TypesOk P ts) (hK : CallOk P C K) (hmix : P.follows .mixedOrders = true) : ∀ (fuel : Nat),
    (∀ (c : Code) (E : Env) (st : St) (a : Act) (w : World) (r : Res) (Q : Exit → Act → World → Prop), evC P ts K orc F fuel c st = some r → Holds r.cs → Sat C E st a w → NoPanic Q →
      (∀ E' a' w', Post C E st.hp st.ne w E' r.st.hp r.st.ne w' → Sat C E' r.st a' w' → Q r.x.ex a' w') → c.wp P Q a w) ∧
    (∀ (c : Code) (E : Env) (st : St) (a : Act) (w : World) (r : Res) (Q : Exit → Act → World → Prop), evC P ts K orc F fuel (.loop c) st = some r → Holds r.cs → Sat C E st a w → NoPanic Q →
      (∀ E' a' w', Post C E st.hp st.ne w E' r.st.hp r.st.ne w' → Sat C E' r.st a' w' → Q r.x.ex a' w') →
      ∀ b k cs, ∃ e a' w', Q e a' w' ∧ Arrives P (lone (b.at a (.code c :: .inLoop c :: k)) cs w) b k cs e a' w') := by
  intro fuel
  induction fuel with
  | zero => exact ⟨fun c E st a w r Q h => by simp [evC] at h, fun c E st a w r Q h => by simp [evC] at h⟩
  | succ fuel ih =>
    obtain ⟨ihA, ihB⟩ := ih
    have hB : ∀ (c : Code) (E : Env) (st : St) (a : Act) (w : World) (r : Res) (Q : Exit → Act → World → Prop), evC P ts K orc F (fuel + 1) (.loop c) st = some r → Holds r.cs → Sat C E st a w → NoPanic Q →
      (∀ E' a' w', Post C E st.hp st.ne w E' r.st.hp r.st.ne w' → Sat C E' r.st a' w' → Q r.x.ex a' w') →
      ∀ b k cs, ∃ e a' w', Q e a' w' ∧ Arrives P (lone (b.at a (.code c :: .inLoop c :: k)) cs w) b k cs e a' w' := by
      intro c E st a w r Q h hcs hsat hnp hk b k cs
      simp only [evC] at h
      obtain ⟨r1, h1, h2⟩ := Option.bind_eq_some_iff.1 h
      have fin : ∀ (hx : ∀ aa ww, Q r1.x.ex aa ww → r1.x.ex ≠ .normal), r1 = r → ∃ e a' w', Q e a' w' ∧ Arrives P (lone (b.at a (.code c :: .inLoop c :: k)) cs w) b k cs e a' w' := by
        intro hx he
        subst he
        have h3 := ihA c E st a w r1 (fun e a' w' => e = r1.x.ex ∧ Q e a' w') h1 hcs hsat (fun c' a' w' hh => hnp c' a' w' hh.2) (fun E' a' w' hp0 hs' => ⟨rfl, hk E' a' w' hp0 hs'⟩)
        obtain ⟨e, a1, w1, ⟨he, hq⟩, harr⟩ := h3 b (.inLoop c :: k) cs
        subst he
        exact ⟨_, a1, w1, hq, .pass (x := .inLoop c) rfl (fun _ _ => .inl (hx a1 w1 hq)) harr⟩
      cases hr1 : r1.x with
      | normal =>
        rw [hr1] at h2
        obtain ⟨r2, h3, rfl⟩ := Option.map_eq_some_iff.1 h2
        have h4 := ihA c E st a w r1 (fun e a' w' => e = .normal ∧ ∃ E', Post C E st.hp st.ne w E' r1.st.hp r1.st.ne w' ∧ Sat C E' r1.st a' w') h1 hcs.left hsat (fun c' a' w' hh => by cases hh.1) (fun E' a' w' hp0 hs' => ⟨by rw [hr1]; rfl, E', hp0, hs'⟩)
        obtain ⟨e, a1, w1, ⟨he, E', hp0, hs'⟩, harr⟩ := h4 b (.inLoop c :: k) cs
        subst he
        obtain ⟨e2, a2, w2, hq2, harr2⟩ := ihB c E' r1.st a1 w1 r2 Q h3 hcs.right hs' hnp (fun E'' a'' w'' hp1 hs'' => hk E'' a'' w'' (hp0.trans hp1) hs'') b k cs
        exact ⟨e2, a2, w2, hq2, .of_steps (Steps.trans harr (.one step_inLoop)) harr2⟩
      | exit id =>
        rw [hr1] at h2
        exact fin (fun _ _ _ => by rw [hr1]; simp [XK.ex]) (Option.some.inj h2)
      | ret =>
        rw [hr1] at h2
        exact fin (fun _ _ _ => by rw [hr1]; simp [XK.ex]) (Option.some.inj h2)
    refine ⟨?_, hB⟩
    intro c E st a w r Q h hcs hsat hnp hk
    cases c
    case skip => simp only [evC, Option.some.injEq] at h; subst h; exact wp_skip (hk E a w (Post.refl hsat.hs) hsat)
    case ret => simp only [evC, Option.some.injEq] at h; subst h; exact wp_ret (hk E a w (Post.refl hsat.hs) hsat)
    case exit => simp only [evC, Option.some.injEq] at h; subst h; exact wp_exit (hk E a w (Post.refl hsat.hs) hsat)
    case region id ops dr =>
      cases dr
      · simp only [evC] at h
        obtain ⟨q, hq, rfl⟩ := Option.map_eq_some_iff.1 h
        exact wp_region_list (evSeq_ok hts hK _ E st a w q hq hcs hsat hk)
      · simp only [evC] at h
        obtain ⟨q, hq, rfl⟩ := Option.map_eq_some_iff.1 h
        exact evDraw_ok hts hK hmix hq hcs hsat hnp hk
    case seq c1 c2 =>
      simp only [evC] at h
      obtain ⟨r1, h1, h2⟩ := Option.bind_eq_some_iff.1 h
      refine wp_seq (ihA c1 E st a w r1 _ h1 ?_ hsat (noPanic_then hnp _) fun E' a' w' hp0 hs' => ?_)
      · split at h2
        · obtain ⟨r2, h3, rfl⟩ := Option.map_eq_some_iff.1 h2
          exact hcs.left
        · injection h2 with h2; subst h2; exact hcs
        · injection h2 with h2; subst h2; exact hcs
      · cases hr1 : r1.x with
        | normal =>
          rw [hr1] at h2
          obtain ⟨r2, h3, rfl⟩ := Option.map_eq_some_iff.1 h2
          exact ihA c2 E' r1.st a' w' r2 Q h3 hcs.right hs' hnp (fun E'' a'' w'' hp1 hs'' => hk E'' a'' w'' (hp0.trans hp1) hs'')
        | exit id =>
          rw [hr1] at h2
          injection h2 with h2
          subst h2
          have := hk E' a' w' hp0 hs'
          rw [hr1] at this
          exact this
        | ret =>
          rw [hr1] at h2
          injection h2 with h2
          subst h2
          have := hk E' a' w' hp0 hs'
          rw [hr1] at this
          exact this
    case loop c1 =>
      intro b k cs
      obtain ⟨e, a', w', hq, harr⟩ := hB c1 E st a w r Q h hcs hsat hnp hk b k cs
      exact ⟨e, a', w', hq, .of_steps (.one step_loop) harr⟩
    case cond c1 t e =>
      simp only [evC] at h
      obtain ⟨b, hb, h2⟩ := Option.bind_eq_some_iff.1 h
      obtain ⟨s, hs, hsb⟩ := Option.bind_eq_some_iff.1 hb
      cases b with
      | none => cases h2
      | some b =>
        simp only at h2
        have hev : a.eval c1 = .bool b := by
          rw [(evO_ok hsat.fr.t hsat.fr.v hs).1, boolOf_some hsb]
          rfl
        refine wp_cond hev ?_
        cases hd : (dec orc F (slotNo c1) b).1 with
        | true =>
          rw [hd] at h2
          obtain ⟨r1, h1, rfl⟩ := Option.map_eq_some_iff.1 h2
          rw [dec_ok hcs.left] at hd
          rw [if_pos hd]
          exact ihA t E st a w r1 Q h1 hcs.right hsat hnp hk
        | false =>
          rw [hd] at h2
          obtain ⟨r1, h1, rfl⟩ := Option.map_eq_some_iff.1 h2
          rw [dec_ok hcs.left] at hd
          rw [if_neg (by rw [hd]; simp)]
          exact ihA e E st a w r1 Q h1 hcs.right hsat hnp hk
    case block id c1 =>
      simp only [evC] at h
      obtain ⟨r1, h1, h2⟩ := Option.map_eq_some_iff.1 h
      refine wp_block (ihA c1 E st a w r1 _ h1 ?_ hsat (noPanic_block hnp _) fun E' a' w' hp0 hs' => ?_)
      · split at h2
        · split at h2
          · subst h2; exact hcs
          · subst h2; exact hcs
        · subst h2; exact hcs
        · subst h2; exact hcs
      · cases hr1 : r1.x with
        | normal =>
          rw [hr1] at h2
          simp only at h2
          subst h2
          have := hk E' a' w' hp0 hs'
          rw [hr1] at this
          exact this
        | ret =>
          rw [hr1] at h2
          simp only at h2
          subst h2
          have := hk E' a' w' hp0 hs'
          rw [hr1] at this
          exact this
        | exit id' =>
          rw [hr1] at h2
          simp only at h2
          show Exit.inBlock id Q (.exit id') a' w'
          unfold Exit.inBlock
          by_cases hid : id' = id
          · rw [decide_eq_true hid] at h2
            simp only at h2
            subst h2
            simp only [hid, if_true]
            exact hk E' a' w' hp0 hs'
          · rw [decide_eq_false hid] at h2
            simp only at h2
            subst h2
            simp only [hid, if_false]
            have := hk E' a' w' hp0 hs'
            rw [hr1] at this
            exact this
    all_goals simp [evC] at h
end
end Ev
end Go.Proofs.Ytfbiahlogclkbaa.H

set_option linter.unusedVariables false
set_option linter.unusedSimpArgs false
namespace Go.Proofs.Ytfbiahlogclkbaa.H
open Go.RowKit Go.Proofs.YtfbiahlogclkbaaW.PrintWords Go.Proofs.YtfbiahlogclkbaaW.PrintLast Go.Proofs.YtfbiahlogclkbaaW.PrintMore Go.Proofs.Ytfbiahlogclkbaa.P
namespace Ev

def partS : Slot → Option Part
  | .one p => some p
  | .tup _ => none
def resPart (ts : Types) (st : St) : ResultVar → Option Part
  | .tmp t => (st.fr[t]?).bind partS
  | .cell x t => (st.fr[x]?).bind fun s => match s with
    | .one (.c (.p i off)) => (ts.lookup t).bind fun ti => opart ti ((maskOf st.hp).getD i []) off
    | _ => none
def resParts (ts : Types) (st : St) : List ResultVar → Option (List Part)
  | [] => some []
  | x :: l => (resPart ts st x).bind fun p => (resParts ts st l).map (p :: ·)
def resSlot : List Part → Slot
  | [p] => .one p
  | l => .tup l
def evFn (P : Program) (ts : Types) (K : Callee) (orc : Orc) (fuel : Nat) (F : Nat) (fn : Func) (args : List Slot) (hp : List Blk) (ne : Nat) : Option Out :=
  fn.body.bind fun c => (evC P ts K orc F fuel c ⟨args ++ List.replicate (fn.ntmps - args.length) (.tup []), hp, ne⟩).bind fun r =>
    match r.x with
    | .exit _ => none
    | _ => (resParts ts r.st fn.results.toList).map fun l => ⟨resSlot l, r.st.hp, r.st.ne, r.chg, r.cs⟩
def resSem (a : Act) (x : ResultVar) : Sem Value :=
  match x with
  | .tmp t => pure (a.tmps.getD t undef)
  | .cell y t => do loadVar t (← asAddr (a.tmps.getD y undef))
abbrev SpecF := List Slot → List Blk → Nat → Option Out
def Enter (P : Program) (f : Nat) : Prop := ∀ vs w, (callFunc f vs).run P w = .ok (.enter f vs) w
def SpecOk (P : Program) (C : Ctx) (f : Nat) (s : SpecF) : Prop := ∀ (args : List Slot) (hp : List Blk) (ne : Nat) (o : Out), s args hp ne = some o → Holds o.cs →
  Agree hp o.hp o.chg ∧ ∀ E w, Hs C E hp ne w → (∀ x, x ∈ args → x.V E hp.length ne (RF (fz C E hp) w)) →
    Calls P f (args.map (Slot.den E)).toArray w fun e w' => ∃ E', e = .returned (o.s.den E') ∧ Post C E hp ne w E' o.hp o.ne w' ∧ o.s.V E' o.hp.length o.ne (RF (fz C E' o.hp) w')
def mkK (P : Program) (ts : Types) (orc : Orc) (fuel : Nat) (specs : List (Nat × SpecF)) (bodies : List (Nat × Func)) : Nat → Callee
  | 0, f, args, hp, ne => (specs.lookup f).bind fun s => s args hp ne
  | n + 1, f, args, hp, ne => match specs.lookup f with
    | some s => s args hp ne
    | none => (bodies.lookup f).bind fun fn => evFn P ts (mkK P ts orc fuel specs bodies n) orc fuel f fn args hp ne
theorem lookup_mem {α : Type} {k : Nat} {v : α} : ∀ {l : List (Nat × α)}, l.lookup k = some v → (k, v) ∈ l
  | [], h => by cases h
  | (k', v') :: l, h => by
    rw [List.lookup_cons] at h
    cases hk : k == k' with
    | true =>
      rw [hk] at h
      simp only [Option.some.injEq] at h
      subst h
      rw [beq_iff_eq] at hk
      subst hk
      simp
    | false =>
      rw [hk] at h
      exact List.mem_cons_of_mem _ (lookup_mem h)
theorem enter_of {P : Program} {f : Nat} {fn : Func} (hf : P.funcs[f]? = some fn) (hb : fn.body.isNone = false) (hn : (fn.name == "runtime.NumGoroutine") = false) : Enter P f := fun vs w => by
  simp only [callFunc, Sem.run_bind, run_program, Result.andThen_ok, hf, hn, hb, Bool.false_eq_true, if_false, Sem.run_pure]
section
variable {P : Program} {ts : Types} {C : Ctx} {K : Callee} {orc : Orc} {F : Nat} {E E' : Env} {hp : List Blk} {st st' : St} {ne : Nat} {w w' : World} {fr : List Slot} {a : Act}
theorem resPart_ok (hts : TypesOk P ts) (h : Sat C E st a w) {x : ResultVar} {p : Part} (hx : resPart ts st x = some p) : p.V E st.hp.length st.ne (RF (fz C E st.hp) w) ∧
    (resSem a x).run P w = .ok (p.den E) w := by
  have hget : ∀ (t : Nat) (s : Slot), st.fr[t]? = some s → a.tmps.getD t undef = s.den E ∧ s.V E st.hp.length st.ne (RF (fz C E st.hp) w) := fun t s hs => by
    refine ⟨?_, h.fr.v s (List.mem_of_getElem? hs)⟩
    simp [h.fr.t, hs]
  cases x with
  | tmp t =>
    obtain ⟨s, hs, h2⟩ := Option.bind_eq_some_iff.1 hx
    unfold partS at h2
    split at h2
    · injection h2 with h2
      subst h2
      obtain ⟨h3, h4⟩ := hget t _ hs
      refine ⟨h4, ?_⟩
      unfold resSem
      simp only [h3]
      rfl
    · cases h2
  | cell y t =>
    obtain ⟨s, hs, h2⟩ := Option.bind_eq_some_iff.1 hx
    split at h2
    · rename_i i off
      obtain ⟨ti, hti, h3⟩ := Option.bind_eq_some_iff.1 h2
      obtain ⟨h4, h5⟩ := hget y _ hs
      obtain ⟨E1, _, _, h0, hv, hrun⟩ := load_p (q := RF (fz C E st.hp) w) (Wd := fun _ => True) (hts _ _ hti) (mask_V h.hs) h3
      have := h0 rfl
      subst this
      refine ⟨hv, ?_⟩
      have := hrun w (mask_at h.hs) trivial
      simp only [Instr.loadAt, Instr.sureAddr, Sem.run_bind, Sem.run_pure, Result.andThen_ok] at this
      unfold resSem
      simp only [h4, Slot.den, Part.den, Cell.den, asAddr, Sem.run_bind, Sem.run_pure, Result.andThen_ok]
      exact this
    · cases h2
theorem resParts_ok (hts : TypesOk P ts) (h : Sat C E st a w) : ∀ {l : List ResultVar} {ps : List Part}, resParts ts st l = some ps → (∀ p, p ∈ ps → p.V E st.hp.length st.ne (RF (fz C E st.hp) w)) ∧
    (l.mapM (resSem a)).run P w = .ok (ps.map (Part.den E)) w
  | [], ps, hx => by simp only [resParts, Option.some.injEq] at hx; subst hx; exact ⟨fun p hp => by simp at hp, rfl⟩
  | x :: l, ps, hx => by
    simp only [resParts] at hx
    obtain ⟨p, hp, h2⟩ := Option.bind_eq_some_iff.1 hx
    obtain ⟨q, hq, rfl⟩ := Option.map_eq_some_iff.1 h2
    obtain ⟨h3, h4⟩ := resPart_ok hts h hp
    obtain ⟨h5, h6⟩ := resParts_ok hts h hq
    refine ⟨fun y hy => ?_, ?_⟩
    · rcases List.mem_cons.1 hy with rfl | hy
      · exact h3
      · exact h5 y hy
    · rw [List.mapM_cons, Sem.run_bind, h4]
      simp only [Result.andThen_ok, Sem.run_bind, h6, Sem.run_pure, List.map_cons]
theorem results_ok (hts : TypesOk P ts) (h : Sat C E st a w) {fn : Func} {ps : List Part} (hx : resParts ts st fn.results.toList = some ps) : (resSlot ps).V E st.hp.length st.ne (RF (fz C E st.hp) w) ∧ (results fn a.tmps).run P w = .ok ((resSlot ps).den E) w := by
  obtain ⟨h1, h2⟩ := resParts_ok hts h hx
  have h3 : (resSlot ps).V E st.hp.length st.ne (RF (fz C E st.hp) w) ∧ (resSlot ps).den E = if h : (ps.map (Part.den E)).toArray.size = 1 then (ps.map (Part.den E)).toArray[0] else .tuple (ps.map (Part.den E)).toArray := by
    match ps, h1 with
    | [], h1 => exact ⟨fun p hp => by simp at hp, rfl⟩
    | [p], h1 => exact ⟨h1 p (by simp), rfl⟩
    | p :: p' :: l, h1 => exact ⟨h1, by simp [resSlot, Slot.den]⟩
  refine ⟨h3.1, ?_⟩
  unfold results
  rw [Sem.run_bind, Array.mapM_eq_mapM_toList, Sem.run_map]
  have h4 : ∀ (f : ResultVar → Sem Value), (∀ x, f x = resSem a x) → (fn.results.toList.mapM f).run P w = .ok (ps.map (Part.den E)) w := fun f hf => by rw [funext hf]; exact h2
  rw [h4 _ (fun x => by cases x <;> rfl)]
  simp only [Result.andThen_ok, Sem.run_pure]
  rw [h3.2]
theorem fr0_den (E : Env) (args : List Slot) (n : Nat) : (args.map (Slot.den E)).toArray ++ Array.replicate n undef = ((args ++ List.replicate n (Slot.tup [])).map (Slot.den E)).toArray := by
  rw [List.map_append, List.map_replicate]
  simp [Slot.den, undef]
theorem evFn_ok (hts : TypesOk P ts) (hK : CallOk P C K) (hmix : P.follows .mixedOrders = true) {fuel : Nat} {fn : Func} (hf : P.funcs[F]? = some fn) {args : List Slot} {o : Out} (h : evFn P ts K orc fuel F fn args hp ne = some o) (hcs : Holds o.cs) :
    Agree hp o.hp o.chg ∧ ∀ E w, Hs C E hp ne w → (∀ x, x ∈ args → x.V E hp.length ne (RF (fz C E hp) w)) →
      Calls P F (args.map (Slot.den E)).toArray w fun e w' => ∃ E', e = .returned (o.s.den E') ∧ Post C E hp ne w E' o.hp o.ne w' ∧ o.s.V E' o.hp.length o.ne (RF (fz C E' o.hp) w') := by
  unfold evFn at h
  obtain ⟨c, hc, h2⟩ := Option.bind_eq_some_iff.1 h
  obtain ⟨r, hr, h3⟩ := Option.bind_eq_some_iff.1 h2
  have h4 : ∃ l, resParts ts r.st fn.results.toList = some l ∧ o = ⟨resSlot l, r.st.hp, r.st.ne, r.chg, r.cs⟩ ∧ (r.x = .normal ∨ r.x = .ret) := by
    cases hx : r.x with
    | exit id => rw [hx] at h3; cases h3
    | normal =>
      rw [hx] at h3
      obtain ⟨l, hl, rfl⟩ := Option.map_eq_some_iff.1 h3
      exact ⟨l, hl, rfl, .inl rfl⟩
    | ret =>
      rw [hx] at h3
      obtain ⟨l, hl, rfl⟩ := Option.map_eq_some_iff.1 h3
      exact ⟨l, hl, rfl, .inr rfl⟩
  obtain ⟨l, hl, rfl, hx⟩ := h4
  refine ⟨evC_agree hK _ _ _ _ hr hcs, fun E w hs hv => ?_⟩
  refine calls_of_wp hf hc ?_
  refine Code.wp_mono (Q := fun e a' w' => (e = .normal ∨ e = .ret) ∧ bodyPost P fn (fun e w' => ∃ E', e = .returned ((resSlot l).den E') ∧ Post C E hp ne w E' r.st.hp r.st.ne w' ∧ (resSlot l).V E' r.st.hp.length r.st.ne (RF (fz C E' r.st.hp) w')) e a' w') (fun e a w h => h.2) ?_
  refine (evC_both hts hK hmix fuel).1 c E _ _ w r _ hr hcs ⟨⟨?_, rfl, fun s hs' => ?_⟩, hs⟩ ?_ ?_
  · have := fr0_den E args (fn.ntmps - args.length)
    simpa using this
  · rcases List.mem_append.1 hs' with hs' | hs'
    · exact hv s hs'
    · rw [List.eq_of_mem_replicate hs']
      exact undef_V
  · intro c' a' w' hh
    rcases hh.1 with hh | hh <;> cases hh
  · intro E' a' w' hp0 hs'
    obtain ⟨h5, h6⟩ := results_ok hts hs' hl
    have h7 : a'.defers = [] ∧ ∃ v, (results fn a'.tmps).run P w' = .ok v w' ∧ ∃ E', Ending.returned v = .returned ((resSlot l).den E') ∧ Post C E hp ne w E' r.st.hp r.st.ne w' ∧ (resSlot l).V E' r.st.hp.length r.st.ne (RF (fz C E' r.st.hp) w') := ⟨hs'.fr.d, _, h6, E', rfl, hp0, h5⟩
    rcases hx with hx | hx
    · rw [hx]; exact ⟨.inl rfl, h7⟩
    · rw [hx]; exact ⟨.inr rfl, h7⟩
theorem mkK_ok (hts : TypesOk P ts) (hmix : P.follows .mixedOrders = true) {fuel : Nat} {specs : List (Nat × SpecF)} {bodies : List (Nat × Func)} (hsp : ∀ p, p ∈ specs → Enter P p.1 ∧ SpecOk P C p.1 p.2) (hbo : ∀ p, p ∈ bodies → Enter P p.1 ∧ P.funcs[p.1]? = some p.2) : ∀ n, CallOk P C (mkK P ts orc fuel specs bodies n)
  | 0 => fun f args hp ne o h hcs => by
    obtain ⟨s, hs, h2⟩ := Option.bind_eq_some_iff.1 h
    obtain ⟨h3, h4⟩ := hsp _ (lookup_mem hs)
    obtain ⟨h5, h6⟩ := h4 args hp ne o h2 hcs
    exact ⟨h5, fun E w hh hv => ⟨h3, h6 E w hh hv⟩⟩
  | n + 1 => fun f args hp ne o h hcs => by
    unfold mkK at h
    split at h
    · rename_i s hs
      obtain ⟨h3, h4⟩ := hsp _ (lookup_mem hs)
      obtain ⟨h5, h6⟩ := h4 args hp ne o h hcs
      exact ⟨h5, fun E w hh hv => ⟨h3, h6 E w hh hv⟩⟩
    · obtain ⟨fn, hfn, h2⟩ := Option.bind_eq_some_iff.1 h
      obtain ⟨h3, h4⟩ := hbo _ (lookup_mem hfn)
      obtain ⟨h5, h6⟩ := evFn_ok hts (mkK_ok hts hmix hsp hbo n) hmix h4 h2 hcs
      exact ⟨h5, fun E w hh hv => ⟨h3, h6 E w hh hv⟩⟩
/-- What leaves all blocks as they were. -/
theorem below_post (h : Hs C E hp ne w) (hb : Below w.heap.size w w') : Post C E hp ne w E hp ne w' := by
  have hkeep : ∀ k, fz C E hp k → k < w.heap.size → w'.heap[k]? = w.heap[k]? ∧ fz C E hp k := fun k hk hlt => ⟨hb.block k hlt, hk⟩
  refine ⟨Env.Le.refl _ _ _, Nat.le_refl _, Nat.le_refl _, ?_, hkeep⟩
  exact ⟨fun i b hi hl => (hb.block _ (h.lt hi hl)).trans (h.blk i b hi hl), h.tl, h.inj, h.nok, fun i b hi hl c hc => Cell.V_le (Env.Le.refl _ _ _) (Nat.le_refl _) (Nat.le_refl _) (RF_step hkeep) (h.cv i b hi hl c hc), h.okb, h.np, h.np0, h.hd, h.low,
    hb.os.trans h.os, hb.tape.trans h.tape, hb.output.trans h.output, Nat.le_trans h.size hb.size, fun k hk hne => (hb.block k (Nat.lt_of_lt_of_le hk h.size)).trans (h.far k hk hne)⟩
/-- A slice more is told. -/
theorem more_post (h : Hs C E hp ne w) (v : Value) : Post C E hp ne w (E.more ne v) hp (ne + 1) w := by
  have hle := Env.more_le E hp.length ne v
  have hkeep : ∀ k, fz C E hp k → k < w.heap.size → w.heap[k]? = w.heap[k]? ∧ fz C (E.more ne v) hp k := fun k hk _ => ⟨rfl, hk⟩
  refine ⟨hle, Nat.le_refl _, Nat.le_add_right _ _, ?_, hkeep⟩
  exact ⟨fun i b hi hl => by rw [show (E.more ne v).a i = E.a i from rfl, show (E.more ne v).t i = E.t i from rfl, h.blk i b hi hl, cellsDen_le hle (h.cv i b hi hl)], fun i b hi hl => TlOk.le hle (Nat.le_add_right _ _) (idx_lt hi) (h.tl i b hi hl), h.inj, h.nok, fun i b hi hl c hc => Cell.V_le hle (Nat.le_refl _) (Nat.le_add_right _ _) (RF_step hkeep) (h.cv i b hi hl c hc), h.okb, h.np, h.np0, hd_le hle (Nat.le_succ _) h.hd, h.low, h.os, h.tape, h.output, h.size, h.far⟩
/-- A block that nobody writes from here on. -/
theorem freeze_post (h : Hs C E hp ne w) {i : Nat} {b : Blk} (hi : hp[i]? = some b) : Post C E hp ne w E (hp.set i { b with live := false }) ne w := by
  have hget : ∀ (j : Nat) (c : Blk), (hp.set i { b with live := false })[j]? = some c → c.live = true → hp[j]? = some c := fun j c hj hl => by
    rcases set_get hj with ⟨rfl, rfl⟩ | ⟨_, hj⟩
    · cases hl
    · exact hj
  have hkeep : ∀ k, fz C E hp k → k < w.heap.size → w.heap[k]? = w.heap[k]? ∧ fz C E (hp.set i { b with live := false }) k := fun k hk _ => by
    refine ⟨rfl, ?_⟩
    rcases hk with hk | ⟨h1, h2⟩
    · exact .inl hk
    · exact .inr ⟨h1, fun j c hj hl => h2 j c (hget j c hj hl) hl⟩
  have hlen : (hp.set i { b with live := false }).length = hp.length := by simp
  refine ⟨Env.Le.refl _ _ _, by rw [hlen]; exact Nat.le_refl _, Nat.le_refl _, ?_, hkeep⟩
  refine ⟨fun j c hj hl => h.blk j c (hget j c hj hl) hl, fun j c hj hl => h.tl j c (hget j c hj hl) hl, fun j k c d hj hk hc hd => h.inj j k c d (hget j c hj hc) (hget k d hk hd) hc hd, fun j c hj hl => h.nok j c (hget j c hj hl) hl, fun j c hj hl x hx => ?_, h.okb, by rw [hlen]; exact h.np, h.np0, h.hd, fun j c hj hn => ?_, h.os, h.tape, h.output, h.size, h.far⟩
  · rw [hlen]
    exact Cell.V_le (Env.Le.refl _ _ _) (Nat.le_refl _) (Nat.le_refl _) (RF_step hkeep) (h.cv j c (hget j c hj hl) hl x hx)
  · rcases set_get hj with ⟨rfl, rfl⟩ | ⟨_, hj⟩
    · exact h.low _ b hi hn
    · exact h.low _ c hj hn
end
end Ev
end Go.Proofs.Ytfbiahlogclkbaa.H
