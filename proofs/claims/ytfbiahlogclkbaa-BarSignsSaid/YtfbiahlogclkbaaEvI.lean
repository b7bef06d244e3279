/- The proof's texts EvH EvI: what the statement leads to. No condition is added. -/
import Derived.Test.YtfbiahlogclkbaaEvP
set_option linter.unusedVariables false
set_option linter.unusedSimpArgs false
namespace Go.Proofs.Ytfbiahlogclkbaa.H
open Go.RowKit Go.Proofs.YtfbiahlogclkbaaW.PrintWords Go.Proofs.YtfbiahlogclkbaaW.PrintLast Go.Proofs.YtfbiahlogclkbaaW.PrintMore Go.Proofs.Ytfbiahlogclkbaa.P
namespace Ev

structure St where
  fr : List Slot
  hp : List Blk
  ne : Nat
/-- What is taken to be so: the first is the second. -/
inductive Cond where
  | b (x y : Bool)
  | s (x y : St)
def Cond.ok : Cond → Prop
  | .b x y => x = y
  | .s x y => x = y
abbrev Conds := List Cond
def Holds (cs : Conds) : Prop := ∀ c, c ∈ cs → c.ok
theorem Holds.left {x y : Conds} (h : Holds (x ++ y)) : Holds x := fun c hc => h c (List.mem_append_left _ hc)
theorem Holds.right {x y : Conds} (h : Holds (x ++ y)) : Holds y := fun c hc => h c (List.mem_append_right _ hc)
structure Out where
  s : Slot
  hp : List Blk
  ne : Nat
  chg : Chg
  cs : Conds
abbrev Callee := Nat → List Slot → List Blk → Nat → Option Out
/-- A call comes to what the table says. -/
def CallOk (P : Program) (C : Ctx) (K : Callee) : Prop := ∀ (f : Nat) (args : List Slot) (hp : List Blk) (ne : Nat) (o : Out), K f args hp ne = some o → Holds o.cs →
  Agree hp o.hp o.chg ∧ ∀ E w, Hs C E hp ne w → (∀ x, x ∈ args → x.V E hp.length ne (RF (fz C E hp) w)) → (∀ vs w, (callFunc f vs).run P w = .ok (.enter f vs) w) ∧
    Calls P f (args.map (Slot.den E)).toArray w fun e w' => ∃ E', e = .returned (o.s.den E') ∧ Post C E hp ne w E' o.hp o.ne w' ∧ o.s.V E' o.hp.length o.ne (RF (fz C E' o.hp) w')
def atomSlot : Atom → Slot
  | .v x => .one (.c (.v x))
  | .p i off => .one (.c (.p i off))
def argsOf (fr : List Slot) : List Operand → Option (List Slot)
  | [] => some []
  | x :: l => (evO fr x).bind fun s => (argsOf fr l).map (s :: ·)
def evCall (K : Callee) (st : St) (c : Call) : Option Out :=
  match c.callee with
  | .value f => (evO st.fr f).bind fun s => match s with
    | .one (.c (.fn F first cap)) => (argsOf st.fr c.args.toList).bind fun l => K F (first.map atomSlot ++ l ++ cap.map atomSlot) st.hp st.ne
    | _ => none
  | _ => none
def maskOf (hp : List Blk) : Mask := hp.map fun b => match b.live with
  | true => b.cells.map some
  | false => []
def isCall : Op → Bool
  | .call c => match c.callee with
    | .value _ => true
    | _ => false
  | _ => false
def isEff : Op → Bool
  | .alloc _ | .box _ _ | .buildSlice _ _ _ | .makeSlice _ _ _ | .store _ _ _ => true
  | _ => false
def callOf : Op → Option Call
  | .call c => some c
  | _ => none
/-- One operation. -/
def evX0 (P : Program) (ts : Types) (K : Callee) (st : St) (o : Oper) : Option Out :=
  match isCall o.op with
  | true => (callOf o.op).bind (evCall K st)
  | false => match isEff o.op with
    | true => (evE ts st.fr st.hp o).map fun q => ⟨q.1, q.2.1, st.ne, q.2.2, []⟩
    | false => match (appArgs o.op).isSome with
      | true => (evApp ts st.fr st.hp st.ne o).map fun q => ⟨q.1, q.2.1, st.ne + 1, q.2.2, []⟩
      | false => (evP true P ts (maskOf st.hp) st.fr st.ne o).map fun q => ⟨q.1, st.hp, st.ne + q.2, [], []⟩
def putS (fr : List Slot) (dst : Option Nat) (s : Slot) : List Slot :=
  match dst with
  | some d => fr.set d s
  | none => fr
/-- What is taken of a condition: told beforehand (by function and slot), or as it is. -/
abbrev Orc := List ((Nat × Nat) × Bool)
def dec (orc : Orc) (F c : Nat) (b : Bool) : Bool × Conds := (b, [])
theorem dec_ok {orc : Orc} {F c : Nat} {b : Bool} (h : Holds (dec orc F c b).2) : (dec orc F c b).1 = b := rfl
def bool1 : Slot → Option Bool
  | .one (.c (.v (.bool b))) => some b
  | _ => none
/-- What an operation hands over, if it is told beforehand. -/
def decS (orc : Orc) (F : Nat) (dst : Option Nat) (s : Slot) : Slot × Conds :=
  match dst with
  | none => (s, [])
  | some d => match orc.lookup (F, d) with
    | none => (s, [])
    | some v => match bool1 s with
      | some b => (.one (.c (.v (.bool v))), [.b b v])
      | none => (s, [])
theorem decS_ok {orc : Orc} {F : Nat} {dst : Option Nat} {s : Slot} (h : Holds (decS orc F dst s).2) : (decS orc F dst s).1 = s := by
  cases dst with
  | none => rfl
  | some d =>
    cases hl : orc.lookup (F, d) with
    | none => simp [decS, hl]
    | some v =>
      cases hb : bool1 s with
      | none => simp [decS, hl, hb]
      | some b =>
        simp only [decS, hl, hb] at h ⊢
        have h2 : b = v := h (.b b v) (by simp)
        subst h2
        unfold bool1 at hb
        split at hb
        · injection hb with hb
          subst hb
          rfl
        · cases hb
def evX (P : Program) (ts : Types) (K : Callee) (orc : Orc) (F : Nat) (st : St) (o : Oper) : Option Out :=
  (evX0 P ts K st o).map fun r => ⟨(decS orc F o.dst r.s).1, r.hp, r.ne, r.chg, r.cs ++ (decS orc F o.dst r.s).2⟩
def boolOf : Slot → Option (Option Bool)
  | .one (.c (.v (.bool b))) => some (some b)
  | .tup [] => some none
  | _ => none
def evGuard (orc : Orc) (F : Nat) (ops : Array Oper) (fr : List Slot) (o : Oper) : Option (Bool × Conds) :=
  match o.guard with
  | none => some (true, [])
  | some (j, want) => ((ops[j]?).bind (·.dst)).bind fun d => ((fr[d]?).bind boolOf).map fun b => match b with
    | some b => ((dec orc F d b).1 == want, (dec orc F d b).2)
    | none => (false, [])
def evSeq (P : Program) (ts : Types) (K : Callee) (orc : Orc) (F : Nat) (ops : Array Oper) : List Oper → St → Option (St × Chg × Conds)
  | [], st => some (st, [], [])
  | o :: rest, st => (evGuard orc F ops st.fr o).bind fun g =>
    match g.1 with
    | true => (evX P ts K orc F st o).bind fun r => (evSeq P ts K orc F ops rest ⟨putS st.fr o.dst r.s, r.hp, r.ne⟩).map fun q => (q.1, r.chg ++ q.2.1, g.2 ++ (r.cs ++ q.2.2))
    | false => (evSeq P ts K orc F ops rest { st with fr := putS st.fr o.dst (.tup []) }).map fun q => (q.1, q.2.1, g.2 ++ q.2.2)
section
variable {P : Program} {ts : Types} {C : Ctx} {K : Callee} {orc : Orc} {F : Nat} {E E' : Env} {hp : List Blk} {st st' : St} {ne : Nat} {w w' : World} {fr : List Slot} {a : Act} {o : Oper} {ops : Array Oper}
structure FrOk (C : Ctx) (E : Env) (fr : List Slot) (hp : List Blk) (ne : Nat) (a : Act) (w : World) : Prop where
  t : a.tmps = (fr.map (Slot.den E)).toArray
  d : a.defers = []
  v : ∀ s, s ∈ fr → s.V E hp.length ne (RF (fz C E hp) w)
structure Sat (C : Ctx) (E : Env) (st : St) (a : Act) (w : World) : Prop where
  fr : FrOk C E st.fr st.hp st.ne a w
  hs : Hs C E st.hp st.ne w
theorem FrOk.step {hp' : List Blk} {ne' : Nat} (h : FrOk C E fr hp ne a w) (hp0 : Post C E hp ne w E' hp' ne' w') : FrOk C E' fr hp' ne' a w' :=
  ⟨by rw [h.t, List.map_congr_left (fun s hs => (hp0.slot (h.v s hs)).2)], h.d, fun s hs => (hp0.slot (h.v s hs)).1⟩
theorem FrOk.put {s : Slot} (h : FrOk C E fr hp ne a w) (hs : s.V E hp.length ne (RF (fz C E hp) w)) (dst : Option Nat) : FrOk C E (putS fr dst s) hp ne (a.put dst (s.den E)) w := by
  cases dst with
  | none => exact h
  | some d =>
    refine ⟨?_, h.d, fun x hx => ?_⟩
    · simp only [Act.put, putS, h.t, List.map_set, List.setIfInBounds_toArray]
    · rcases List.mem_or_eq_of_mem_set hx with hx | rfl
      · exact h.v x hx
      · exact hs
theorem undef_V : (Slot.tup []).V E hp.length ne (RF (fz C E hp) w) := fun p hp => by simp at hp
theorem put_undef (fr : List Slot) (h : FrOk C E fr hp ne a w) (dst : Option Nat) : FrOk C E (putS fr dst (.tup [])) hp ne (a.put dst undef) w := h.put (s := .tup []) undef_V dst
theorem Sat.put {s : Slot} {hp' : List Blk} {ne' : Nat} (h : Sat C E st a w) (hp0 : Post C E st.hp st.ne w E' hp' ne' w') (hs : s.V E' hp'.length ne' (RF (fz C E' hp') w')) (dst : Option Nat) : Sat C E' ⟨putS st.fr dst s, hp', ne'⟩ (a.put dst (s.den E')) w' :=
  ⟨(h.fr.step hp0).put hs dst, hp0.hs⟩
theorem atomSlot_ok {t : Atom} (h : t.V hp.length) : (atomSlot t).V E hp.length ne (RF (fz C E hp) w) ∧ (atomSlot t).den E = t.den E := by
  cases t with
  | v x => exact ⟨cell_V h, rfl⟩
  | p i off => exact ⟨cell_V h, rfl⟩
theorem argsOf_ok (h : FrOk C E fr hp ne a w) : ∀ {l : List Operand} {r : List Slot}, argsOf fr l = some r → l.map a.eval = r.map (Slot.den E) ∧ ∀ x, x ∈ r → x.V E hp.length ne (RF (fz C E hp) w)
  | [], r, he => by simp only [argsOf, Option.some.injEq] at he; subst he; exact ⟨rfl, fun x hx => by simp at hx⟩
  | x :: l, r, he => by
    simp only [argsOf] at he
    obtain ⟨s, h1, h2⟩ := Option.bind_eq_some_iff.1 he
    obtain ⟨q, h3, rfl⟩ := Option.map_eq_some_iff.1 h2
    obtain ⟨h4, h5⟩ := evO_ok h.t h.v h1
    obtain ⟨h6, h7⟩ := argsOf_ok h h3
    refine ⟨by simp only [List.map_cons, h4, h6], fun y hy => ?_⟩
    rcases List.mem_cons.1 hy with rfl | hy
    · exact h5
    · exact h7 y hy
theorem mask_at (h : Hs C E hp ne w) : MaskAt E (maskOf hp) w := fun i j c hj => by
  unfold maskOf at hj
  rw [List.getD_eq_getElem?_getD, List.getElem?_map] at hj
  cases hi : hp[i]? with
  | none => rw [hi] at hj; simp at hj
  | some b =>
    rw [hi] at hj
    simp only [Option.map_some, Option.getD_some] at hj
    cases hl : b.live with
    | false => rw [hl] at hj; simp at hj
    | true =>
      rw [hl] at hj
      simp only [List.getElem?_map] at hj
      obtain ⟨c', hc', he⟩ := Option.map_eq_some_iff.1 hj
      injection he with he
      subst he
      rw [blk_cell (h.blk i b hi hl), cellsT_get hc']
theorem mask_V (h : Hs C E hp ne w) : MaskV E hp.length ne (RF (fz C E hp) w) (maskOf hp) := fun i c hc => by
  unfold maskOf at hc
  rw [List.getD_eq_getElem?_getD, List.getElem?_map] at hc
  cases hi : hp[i]? with
  | none => rw [hi] at hc; simp at hc
  | some b =>
    rw [hi] at hc
    simp only [Option.map_some, Option.getD_some] at hc
    cases hl : b.live with
    | false => rw [hl] at hc; simp at hc
    | true =>
      rw [hl] at hc
      obtain ⟨c', hc', he⟩ := List.mem_map.1 hc
      injection he with he
      subst he
      exact h.cv i b hi hl c' hc'
theorem evE_agree {hp' : List Blk} {s : Slot} {chg : Chg} (h : evE ts fr hp o = some (s, hp', chg)) : Agree hp hp' chg := by
  obtain ⟨dst, op, type, pos, after, guard⟩ := o
  cases op
  case alloc t =>
    obtain ⟨ti, hti, h2⟩ := Option.map_eq_some_iff.1 h
    simp only [Prod.mk.injEq] at h2
    obtain ⟨rfl, rfl, rfl⟩ := h2
    exact Agree.push _ _
  case box t x =>
    obtain ⟨s1, hs1, h2⟩ := Option.bind_eq_some_iff.1 h
    split at h2
    · simp only [Option.some.injEq, Prod.mk.injEq] at h2
      obtain ⟨rfl, rfl, rfl⟩ := h2
      exact Agree.push _ _
    · cases h2
  case buildSlice t n parts =>
    have h : evSlice ts fr hp t n parts.toList = some (s, hp', chg) := h
    unfold evSlice at h
    obtain ⟨ti, hti, h2⟩ := Option.bind_eq_some_iff.1 h
    obtain ⟨e, he, h3⟩ := Option.bind_eq_some_iff.1 h2
    obtain ⟨te, hte, h4⟩ := Option.bind_eq_some_iff.1 h3
    split at h4
    · cases h4
    · obtain ⟨ps, hps, h5⟩ := Option.bind_eq_some_iff.1 h4
      obtain ⟨cs, hcs, h6⟩ := Option.map_eq_some_iff.1 h5
      simp only [Prod.mk.injEq] at h6
      obtain ⟨rfl, rfl, rfl⟩ := h6
      exact Agree.push _ _
  case store t x y =>
    have h : evStore ts fr hp t x y = some (s, hp', chg) := h
    unfold evStore at h
    obtain ⟨ti, hti, h2⟩ := Option.bind_eq_some_iff.1 h
    obtain ⟨s1, hs1, h3⟩ := Option.bind_eq_some_iff.1 h2
    obtain ⟨s2, hs2, h4⟩ := Option.bind_eq_some_iff.1 h3
    split at h4
    · rename_i i off p
      obtain ⟨b, hb, h5⟩ := Option.bind_eq_some_iff.1 h4
      split at h5
      · rename_i hc
        obtain ⟨hl, hc1, hc2⟩ := of_decide_eq_true hc
        simp only [Option.some.injEq, Prod.mk.injEq] at h5
        obtain ⟨rfl, rfl, rfl⟩ := h5
        rw [← hc1]
        exact Agree.store hb p.cells
      · cases h5
    · cases h4
  case makeSlice t x y =>
    obtain ⟨ti, e, te, by_, l, c, h1, h2, h3, h4, h5, h6, _, rfl, rfl, rfl⟩ := make_parts h
    exact Agree.push _ _
  all_goals cases h
theorem evX0_agree (hK : CallOk P C K) {r : Out} (h : evX0 P ts K st o = some r) (hcs : Holds r.cs) : Agree st.hp r.hp r.chg := by
  unfold evX0 at h
  cases h1 : isCall o.op with
  | true =>
    rw [h1] at h
    obtain ⟨c, hc, h2⟩ := Option.bind_eq_some_iff.1 h
    unfold evCall at h2
    split at h2
    · obtain ⟨s, hs, h3⟩ := Option.bind_eq_some_iff.1 h2
      split at h3
      · obtain ⟨l, hl, h4⟩ := Option.bind_eq_some_iff.1 h3
        exact (hK _ _ _ _ _ h4 hcs).1
      · cases h3
    · cases h2
  | false =>
    rw [h1] at h
    simp only at h
    cases h2 : isEff o.op with
    | true =>
      rw [h2] at h
      obtain ⟨q, hq, rfl⟩ := Option.map_eq_some_iff.1 h
      obtain ⟨q1, q2, q3⟩ := q
      exact evE_agree hq
    | false =>
      rw [h2] at h
      simp only at h
      cases h3 : (appArgs o.op).isSome with
      | true =>
        rw [h3] at h
        obtain ⟨q, hq, rfl⟩ := Option.map_eq_some_iff.1 h
        obtain ⟨q1, q2, q3⟩ := q
        exact evApp_agree hq
      | false =>
        rw [h3] at h
        obtain ⟨q, hq, rfl⟩ := Option.map_eq_some_iff.1 h
        exact Agree.refl _
theorem evX0_ok (hts : TypesOk P ts) (hK : CallOk P C K) {r : Out} (h : evX0 P ts K st o = some r) (hcs : Holds r.cs) (hsat : Sat C E st a w) {Kn : Act → World → Prop} {Q : Exit → Act → World → Prop}
    (hk : ∀ E' w', Post C E st.hp st.ne w E' r.hp r.ne w' → Sat C E' ⟨putS st.fr o.dst r.s, r.hp, r.ne⟩ (a.put o.dst (r.s.den E')) w' → Kn (a.put o.dst (r.s.den E')) w') : o.wp P a w Kn Q := by
  unfold evX0 at h
  cases h1 : isCall o.op with
  | true =>
    rw [h1] at h
    obtain ⟨c, hc, h2⟩ := Option.bind_eq_some_iff.1 h
    have hop : o.op = .call c := by
      unfold callOf at hc
      split at hc
      · rename_i heq; rw [heq, Option.some.inj hc]
      · cases hc
    unfold evCall at h2
    split at h2
    · rename_i f hcal
      obtain ⟨s, hs, h3⟩ := Option.bind_eq_some_iff.1 h2
      split at h3
      · rename_i F' first cap
        obtain ⟨l, hl, h4⟩ := Option.bind_eq_some_iff.1 h3
        obtain ⟨e1, v1⟩ := evO_ok hsat.fr.t hsat.fr.v hs
        obtain ⟨e2, v2⟩ := argsOf_ok hsat.fr hl
        obtain ⟨va, vb⟩ := one_V v1
        have hargs : ∀ x, x ∈ first.map atomSlot ++ l ++ cap.map atomSlot → x.V E st.hp.length st.ne (RF (fz C E st.hp) w) := by
          intro x hx
          rcases List.mem_append.1 hx with hx | hx
          · rcases List.mem_append.1 hx with hx | hx
            · obtain ⟨t, ht, rfl⟩ := List.mem_map.1 hx; exact (atomSlot_ok (va t ht)).1
            · exact v2 x hx
          · obtain ⟨t, ht, rfl⟩ := List.mem_map.1 hx; exact (atomSlot_ok (vb t ht)).1
        obtain ⟨henter, hcalls⟩ := (hK _ _ _ _ _ h4 hcs).2 E w hsat.hs hargs
        have hmap : ((first.map atomSlot ++ l ++ cap.map atomSlot).map (Slot.den E)).toArray = (first.map (Atom.den E)).toArray ++ c.args.map a.eval ++ (cap.map (Atom.den E)).toArray := by
          have h6 : (first.map atomSlot).map (Slot.den E) = first.map (Atom.den E) := by rw [List.map_map]; exact List.map_congr_left (fun t ht => (atomSlot_ok (C := C) (hp := st.hp) (ne := st.ne) (w := w) (va t ht)).2)
          have h7 : (cap.map atomSlot).map (Slot.den E) = cap.map (Atom.den E) := by rw [List.map_map]; exact List.map_congr_left (fun t ht => (atomSlot_ok (C := C) (hp := st.hp) (ne := st.ne) (w := w) (vb t ht)).2)
          have h8 : (c.args.map a.eval) = (c.args.toList.map a.eval).toArray := by cases c.args; simp
          rw [List.map_append, List.map_append, h6, h7, h8, e2]
          simp
        have hrun : (execOp a.eval o).run P w = .ok (.enter F' ((first.map (Atom.den E)).toArray ++ c.args.map a.eval ++ (cap.map (Atom.den E)).toArray)) w := by
          simp only [execOp, hop, resolve, hcal, e1, Slot.den, Part.den, Cell.den, Deferred.ofValue, Sem.run_bind, Sem.run_pure, Result.andThen_ok, invoke]
          exact henter _ _
        unfold Oper.wp
        rw [hrun, Oper.upon_enter, ← hmap]
        refine hcalls.mono ?_
        rintro e w' ⟨E', rfl, hp0, hv⟩
        exact hk E' w' hp0 (hsat.put hp0 hv _)
      · cases h3
    · cases h2
  | false =>
    rw [h1] at h
    simp only at h
    cases h2 : isEff o.op with
    | true =>
      rw [h2] at h
      obtain ⟨q, hq, rfl⟩ := Option.map_eq_some_iff.1 h
      obtain ⟨q1, q2, q3⟩ := q
      obtain ⟨E', w', hrun, hp0, hv⟩ := (evE_ok hts hsat.fr.t hsat.fr.v hq hsat.hs).1
      unfold Oper.wp
      rcases hrun with hrun | ⟨hrun, rfl⟩
      · rw [hrun, Oper.upon_value]
        exact hk E' w' hp0 (hsat.put hp0 hv _)
      · rw [hrun, Oper.upon_skip]
        exact hk E' w' hp0 (hsat.put hp0 hv _)
    | false =>
      rw [h2] at h
      simp only at h
      cases h3 : (appArgs o.op).isSome with
      | true =>
        rw [h3] at h
        obtain ⟨q, hq, rfl⟩ := Option.map_eq_some_iff.1 h
        obtain ⟨q1, q2, q3⟩ := q
        obtain ⟨E', w', hrun, hp0, hv⟩ := evApp_ok hts hsat.fr.t hsat.fr.v hq hsat.hs
        unfold Oper.wp
        rw [hrun, Oper.upon_value]
        exact hk E' w' hp0 (hsat.put hp0 hv _)
      | false =>
        rw [h3] at h
        obtain ⟨q, hq, rfl⟩ := Option.map_eq_some_iff.1 h
        obtain ⟨q1, q2⟩ := q
        obtain ⟨E', hle, ⟨hEa, hEt⟩, _, hv, hrun⟩ := evP_ok (Wd := Alike (fz C E st.hp) w) (fun r A h => RF_RA r A h) (fun _ => rp_read) hts hsat.fr.t hsat.fr.v (mask_V hsat.hs) hq
        have hr := hrun w (mask_at hsat.hs) (fun k _ _ => rfl)
        have hfz : ∀ k, fz C E st.hp k → fz C E' st.hp k := fun k hk => by
          rcases hk with hk | ⟨h3, h4⟩
          · exact .inl hk
          · exact .inr ⟨h3, fun i b hi hl => by rw [hEa]; exact h4 i b hi hl⟩
        have hkeep : ∀ k, fz C E st.hp k → k < w.heap.size → w.heap[k]? = w.heap[k]? ∧ fz C E' st.hp k := fun k hk _ => ⟨rfl, hfz k hk⟩
        have hHs : Hs C E' st.hp (st.ne + q2) w := by
          have h := hsat.hs
          constructor
          · intro i b hi hl
            rw [hEa, hEt, h.blk i b hi hl, cellsDen_le hle (h.cv i b hi hl)]
          · intro i b hi hl
            exact TlOk.le hle (Nat.le_add_right _ _) (idx_lt hi) (h.tl i b hi hl)
          · intro i j b c; rw [hEa]; exact h.inj i j b c
          · intro i b; rw [hEa]; exact h.nok i b
          · intro i b hi hl c hc
            exact Cell.V_le hle (Nat.le_refl _) (Nat.le_add_right _ _) (RF_step hkeep) (h.cv i b hi hl c hc)
          · exact h.okb
          · exact h.np
          · exact h.np0
          · exact hd_le hle (Nat.le_add_right _ _) h.hd
          · intro i b; rw [hEa]; exact h.low i b
          · exact h.os
          · exact h.tape
          · exact h.output
          · exact h.size
          · intro k hk; rw [hEa]; exact h.far k hk
        have hp0 : Post C E st.hp st.ne w E' st.hp (st.ne + q2) w := ⟨hle, Nat.le_refl _, Nat.le_add_right _ _, hHs, hkeep⟩
        unfold Oper.wp
        rw [hr, Oper.upon_value]
        refine hk E' w hp0 (hsat.put hp0 ?_ _)
        exact Slot.V_le (Env.Le.refl _ _ _) (Nat.le_refl _) (Nat.le_refl _) (RF_step hkeep) hv
theorem evX_agree (hK : CallOk P C K) {r : Out} (h : evX P ts K orc F st o = some r) (hcs : Holds r.cs) : Agree st.hp r.hp r.chg := by
  obtain ⟨r0, h0, rfl⟩ := Option.map_eq_some_iff.1 h
  have hcs : Holds (r0.cs ++ (decS orc F o.dst r0.s).2) := hcs
  exact evX0_agree (r := r0) hK h0 hcs.left
theorem evX_ok (hts : TypesOk P ts) (hK : CallOk P C K) {r : Out} (h : evX P ts K orc F st o = some r) (hcs : Holds r.cs) (hsat : Sat C E st a w) {Kn : Act → World → Prop} {Q : Exit → Act → World → Prop}
    (hk : ∀ E' w', Post C E st.hp st.ne w E' r.hp r.ne w' → Sat C E' ⟨putS st.fr o.dst r.s, r.hp, r.ne⟩ (a.put o.dst (r.s.den E')) w' → Kn (a.put o.dst (r.s.den E')) w') : o.wp P a w Kn Q := by
  obtain ⟨r0, h0, rfl⟩ := Option.map_eq_some_iff.1 h
  have hcs : Holds (r0.cs ++ (decS orc F o.dst r0.s).2) := hcs
  have hd := decS_ok hcs.right
  simp only [hd] at hk
  exact evX0_ok (r := r0) hts hK h0 hcs.left hsat hk
end
end Ev
end Go.Proofs.Ytfbiahlogclkbaa.H

set_option linter.unusedVariables false
set_option linter.unusedSimpArgs false
namespace Go.Proofs.Ytfbiahlogclkbaa.H
open Go.RowKit Go.Proofs.YtfbiahlogclkbaaW.PrintWords Go.Proofs.YtfbiahlogclkbaaW.PrintLast Go.Proofs.YtfbiahlogclkbaaW.PrintMore Go.Proofs.Ytfbiahlogclkbaa.P
namespace Ev

/-- What a region's loads may lean on: all cells but those told. -/
def maskBut (hp : List Blk) (unst : Chg) : Mask := hp.zipIdx.map fun (b, i) => match b.live with
  | true => b.cells.zipIdx.map fun (c, j) => match unst.contains (i, j) with
    | true => none
    | false => some c
  | false => []
/-- An operation that may be taken first. -/
def evPick (P : Program) (ts : Types) (orc : Orc) (F : Nat) (ops : Array Oper) (m : Mask) (listed : Array Bool) (st : St) : List Nat → Option (Nat × Slot × Option Nat × Conds)
  | [] => none
  | i :: rs =>
    match (match ops[i]? with
      | some o => match Region.free .any ops listed i with
        | true => match isCall o.op with
          | true => none
          | false => match isEff o.op with
            | true => none
            | false => (evGuard orc F ops st.fr o).bind fun g => match g.1 with
              | true => (evP false P ts m st.fr st.ne o).bind fun q => match q.2 with
                | 0 => some (i, (decS orc F o.dst q.1).1, o.dst, g.2 ++ (decS orc F o.dst q.1).2)
                | _ => none
              | false => some (i, Slot.tup [], o.dst, g.2)
        | false => none
      | none => none) with
    | some x => some x
    | none => evPick P ts orc F ops m listed st rs
def within (n : Nat) (unst chg : Chg) : Bool := chg.all fun p => decide (n ≤ p.1) || unst.contains p
/-- Where an order ends: the state, what has changed, what was taken to be so, which operation made which block. -/
structure Go where
  st : St
  chg : Chg
  cs : Conds
  log : List (Nat × Nat)
def Go.add (chg : Chg) (cs : Conds) (log : List (Nat × Nat)) (g : Go) : Go := ⟨g.st, chg ++ g.chg, cs ++ g.cs, log ++ g.log⟩
def collect (f : Nat → Option (List Go)) : List Nat → Option (List Go)
  | [] => some []
  | i :: rs => (f i).bind fun l => (collect f rs).map (l ++ ·)
def logOf (o : Oper) (i n : Nat) : List (Nat × Nat) :=
  match o.op with
  | .alloc _ | .box _ _ | .buildSlice _ _ _ | .makeSlice _ _ _ => [(i, n)]
  | .call _ => match (appArgs o.op).isSome with
    | true => [(i, n)]
    | false => []
  | _ => []
def evGo (P : Program) (ts : Types) (K : Callee) (orc : Orc) (F : Nat) (ops : Array Oper) (m : Mask) (n : Nat) (unst : Chg) : Nat → Array Bool → St → Option (List Go)
  | 0, _, _ => none
  | fuel + 1, listed, st =>
    match Region.ready .any ops listed with
    | [] => some [⟨st, [], [], []⟩]
    | i :: rs => match evPick P ts orc F ops m listed st (i :: rs) with
      | some x => (evGo P ts K orc F ops m n unst fuel (listed.setIfInBounds x.1 true) { st with fr := putS st.fr x.2.2.1 x.2.1 }).map fun l => l.map (Go.add [] x.2.2.2 [])
      | none => collect (fun i => (ops[i]?).bind fun o => (evGuard orc F ops st.fr o).bind fun g => match g.1 with
          | true => (evX P ts K orc F st o).bind fun r => match within n unst r.chg with
            | true => (evGo P ts K orc F ops m n unst fuel (listed.setIfInBounds i true) ⟨putS st.fr o.dst r.s, r.hp, r.ne⟩).map fun l => l.map (Go.add r.chg (g.2 ++ r.cs) (logOf o i st.hp.length))
            | false => none
          | false => none) (i :: rs)
/-- Blocks told by other numbers. -/
def Atom.ren (ρ : Nat → Nat) : Atom → Atom
  | .v x => .v x
  | .p i off => .p (ρ i) off
def Cell.ren (ρ : Nat → Nat) : Cell → Cell
  | .v x => .v x
  | .p i off => .p (ρ i) off
  | .sl i n c => .sl (ρ i) n c
  | .ex j r => .ex j r
  | .fn f x y => .fn f (x.map (Atom.ren ρ)) (y.map (Atom.ren ρ))
  | .rp j r idx off => .rp j r idx off
  | .own j n i => .own j n (ρ i)
def Part.ren (ρ : Nat → Nat) : Part → Part
  | .c x => .c (x.ren ρ)
  | .agg l => .agg (l.map (Cell.ren ρ))
def Slot.ren (ρ : Nat → Nat) : Slot → Slot
  | .one p => .one (p.ren ρ)
  | .tup l => .tup (l.map (Part.ren ρ))
def Blk.ren (ρ : Nat → Nat) (b : Blk) : Blk := ⟨b.live, b.cells.map (Cell.ren ρ), b.elem, b.opn⟩
def insLog (x : Nat × Nat) : List (Nat × Nat) → List (Nat × Nat)
  | [] => [x]
  | y :: l => match decide (x.1 ≤ y.1) with
    | true => x :: y :: l
    | false => y :: insLog x l
def sortLog : List (Nat × Nat) → List (Nat × Nat)
  | [] => []
  | x :: l => insLog x (sortLog l)
/-- The blocks' new order: those that stood, those that the region's own operations made, by these; the rest. -/
def ordOf (n N : Nat) (log : List (Nat × Nat)) : List Nat :=
  List.range n ++ (sortLog log).map (·.2) ++ ((List.range N).filter fun m => decide (n ≤ m) && !(log.map (·.2)).contains m)
def posOf (ord : List Nat) (m : Nat) : Nat := ord.idxOf m
def atomOld (n : Nat) : Atom → Bool
  | .v _ => true
  | .p i _ => decide (i < n)
def cellOld (n : Nat) : Cell → Bool
  | .p i _ => decide (i < n)
  | .sl i _ _ => decide (i < n)
  | .own _ _ i => decide (i < n)
  | .fn _ x y => x.all (atomOld n) && y.all (atomOld n)
  | _ => true
def blksAt (hp : List Blk) : List Nat → Option (List Blk)
  | [] => some []
  | m :: l => (hp[m]?).bind fun b => (blksAt hp l).map (b :: ·)
def permOk (n N : Nat) (ord : List Nat) : Bool := decide (ord.length = N) && (List.range N).all (fun m => decide (posOf ord m < N) && (ord[posOf ord m]? == some m)) && (List.range n).all (fun m => posOf ord m == m) && (List.range N).all (fun k => match ord[k]? with
  | some m => decide (m < N) && (posOf ord m == k)
  | none => false)
def renSt (ord : List Nat) (hp : List Blk) (st : St) : St := ⟨st.fr.map (Slot.ren (posOf ord)), hp.map (Blk.ren (posOf ord)), st.ne⟩
def canon (n : Nat) (g : Go) : Option St :=
  let ord := ordOf n g.st.hp.length g.log
  (blksAt g.st.hp ord).bind fun hp => match permOk n g.st.hp.length ord && (g.st.hp.take n).all (fun b => b.cells.all (cellOld n)) with
    | true => some (renSt ord hp g.st)
    | false => none
def canons (n : Nat) (q : St) : List Go → Option Conds
  | [] => some []
  | g :: l => (canon n g).bind fun s => (canons n q l).map fun cs => Cond.s s q :: (g.cs ++ cs)
def evDraw (P : Program) (ts : Types) (K : Callee) (orc : Orc) (F : Nat) (ops : Array Oper) (st : St) : Option (St × Chg × Conds) :=
  (evSeq P ts K orc F ops ops.toList st).bind fun q =>
    match Region.noSelect ops with
    | true => (evGo P ts K orc F ops (maskBut st.hp q.2.1) st.hp.length q.2.1 (ops.size + 1) (Array.replicate ops.size false) st).bind fun l => match l with
      | [] => none
      | [g] => some (g.st, g.chg, g.cs)
      | g :: l => (canon st.hp.length g).bind fun s => (canons st.hp.length s l).map fun cs => (s, g.chg, g.cs ++ cs)
    | false => none
section
variable {P : Program} {ts : Types} {C : Ctx} {K : Callee} {orc : Orc} {F : Nat} {E E' : Env} {hp : List Blk} {st st' : St} {ne : Nat} {w w' : World} {fr : List Slot} {a : Act} {o : Oper} {ops : Array Oper}
theorem guard_ok (h : FrOk C E fr hp ne a w) {g : Bool × Conds} (hg : evGuard orc F ops fr o = some g) (hcs : Holds g.2) : Region.wanted o (yielded ops a.tmps) = g.1 := by
  unfold evGuard at hg
  unfold Region.wanted
  split at hg
  · rename_i heq
    rw [heq]
    injection hg with hg
    subst hg
    rfl
  · rename_i j want heq
    rw [heq]
    obtain ⟨d, hd, h2⟩ := Option.bind_eq_some_iff.1 hg
    obtain ⟨b, hb, rfl⟩ := Option.map_eq_some_iff.1 h2
    obtain ⟨s, hs, hsb⟩ := Option.bind_eq_some_iff.1 hb
    have hy : yielded ops a.tmps j = match s.den E with | .bool b => some b | _ => none := by
      unfold yielded
      rw [hd, h.t]
      simp only [Option.bind_some, List.getElem?_toArray, List.getElem?_map, hs, Option.map_some]
      cases s.den E <;> rfl
    simp only [hy]
    unfold boolOf at hsb
    split at hsb
    · rename_i b'
      injection hsb with hsb
      subst hsb
      simp only at hcs ⊢
      rw [dec_ok hcs]
      cases b' <;> cases want <;> rfl
    · injection hsb with hsb
      subst hsb
      cases want <;> rfl
    · cases hsb
theorem evSeq_ok (hts : TypesOk P ts) (hK : CallOk P C K) : ∀ (l : List Oper) (E : Env) (st : St) (a : Act) (w : World) (q : St × Chg × Conds), evSeq P ts K orc F ops l st = some q → Holds q.2.2 → Sat C E st a w → ∀ {Q : Exit → Act → World → Prop},
    (∀ E' a' w', Post C E st.hp st.ne w E' q.1.hp q.1.ne w' → Sat C E' q.1 a' w' → Q .normal a' w') → wpList P ops Q l a w
  | [], E, st, a, w, q, h, hcs, hsat, Q, hk => by
    simp only [evSeq, Option.some.injEq] at h
    subst h
    exact hk E a w (Post.refl hsat.hs) hsat
  | o :: rest, E, st, a, w, q, h, hcs, hsat, Q, hk => by
    simp only [evSeq] at h
    obtain ⟨g, hg, h2⟩ := Option.bind_eq_some_iff.1 h
    obtain ⟨g1, g2⟩ := g
    simp only at h2
    cases g1 with
    | true =>
      obtain ⟨r, hr, h3⟩ := Option.bind_eq_some_iff.1 h2
      obtain ⟨q', hq', rfl⟩ := Option.map_eq_some_iff.1 h3
      simp only at hcs hk
      have hw := guard_ok hsat.fr hg hcs.left
      unfold wpList
      rw [if_pos hw]
      refine .inl (evX_ok hts hK hr hcs.right.left hsat fun E' w' hp0 hs' => ?_)
      exact evSeq_ok hts hK rest E' _ _ w' q' hq' hcs.right.right hs' fun E'' a'' w'' hp1 hs'' => hk E'' a'' w'' (hp0.trans hp1) hs''
    | false =>
      obtain ⟨q', hq', rfl⟩ := Option.map_eq_some_iff.1 h2
      simp only at hcs hk
      have hw := guard_ok hsat.fr hg hcs.left
      unfold wpList
      rw [if_neg (by rw [hw]; simp)]
      exact evSeq_ok hts hK rest E _ _ w q' hq' hcs.right ⟨put_undef st.fr hsat.fr o.dst, hsat.hs⟩ hk
theorem evSeq_agree (hK : CallOk P C K) : ∀ (l : List Oper) (st : St) (q : St × Chg × Conds), evSeq P ts K orc F ops l st = some q → Holds q.2.2 → Agree st.hp q.1.hp q.2.1
  | [], st, q, h, hcs => by
    simp only [evSeq, Option.some.injEq] at h
    subst h
    exact Agree.refl _
  | o :: rest, st, q, h, hcs => by
    simp only [evSeq] at h
    obtain ⟨g, hg, h2⟩ := Option.bind_eq_some_iff.1 h
    obtain ⟨g1, g2⟩ := g
    simp only at h2
    cases g1 with
    | true =>
      obtain ⟨r, hr, h3⟩ := Option.bind_eq_some_iff.1 h2
      obtain ⟨q', hq', rfl⟩ := Option.map_eq_some_iff.1 h3
      simp only at hcs
      exact (evX_agree hK hr hcs.right.left).trans (evSeq_agree hK rest _ q' hq' hcs.right.right)
    | false =>
      obtain ⟨q', hq', rfl⟩ := Option.map_eq_some_iff.1 h2
      simp only at hcs
      exact evSeq_agree hK rest ⟨putS st.fr o.dst (.tup []), st.hp, st.ne⟩ q' hq' hcs.right
theorem maskBut_get {unst : Chg} {i j : Nat} {c : Cell} (h : ((maskBut hp unst).getD i [])[j]? = some (some c)) : ∃ b, hp[i]? = some b ∧ b.live = true ∧ b.cells[j]? = some c ∧ unst.contains (i, j) = false := by
  unfold maskBut at h
  rw [List.getD_eq_getElem?_getD, List.getElem?_map, List.getElem?_zipIdx] at h
  cases hi : hp[i]? with
  | none => rw [hi] at h; simp at h
  | some b =>
    rw [hi] at h
    simp only [Option.map_some, Option.getD_some, Nat.zero_add] at h
    refine ⟨b, rfl, ?_⟩
    cases hl : b.live with
    | false => rw [hl] at h; simp at h
    | true =>
      rw [hl] at h
      simp only [List.getElem?_map, List.getElem?_zipIdx, Nat.zero_add] at h
      cases hj : b.cells[j]? with
      | none => rw [hj] at h; simp at h
      | some c' =>
        rw [hj] at h
        simp only [Option.map_some, Option.some.injEq] at h
        cases hu : unst.contains (i, j) with
        | true => rw [hu] at h; cases h
        | false => rw [hu] at h; injection h with h; subst h; exact ⟨rfl, rfl, rfl⟩
theorem maskBut_mem {unst : Chg} {i : Nat} {c : Cell} (h : some c ∈ (maskBut hp unst).getD i []) : ∃ b, hp[i]? = some b ∧ b.live = true ∧ c ∈ b.cells := by
  obtain ⟨j, hj⟩ := List.getElem?_of_mem h
  obtain ⟨b, h1, h2, h3, _⟩ := maskBut_get hj
  exact ⟨b, h1, h2, List.mem_of_getElem? h3⟩
theorem evPick_mem {m : Mask} {listed : Array Bool} {x : Nat × Slot × Option Nat × Conds} : ∀ {rs : List Nat}, evPick P ts orc F ops m listed st rs = some x →
    x.1 ∈ rs ∧ ∃ o g, ops[x.1]? = some o ∧ Region.free .any ops listed x.1 = true ∧ x.2.2.1 = o.dst ∧ evGuard orc F ops st.fr o = some g ∧ (Holds x.2.2.2 → Holds g.2 ∧ ((g.1 = true ∧ evP false P ts m st.fr st.ne o = some (x.2.1, 0)) ∨ (g.1 = false ∧ x.2.1 = .tup [])))
  | [], h => by simp [evPick] at h
  | i :: rs, h => by
    unfold evPick at h
    split at h
    · rename_i y hy
      injection h with h
      subst h
      cases ho : ops[i]? with
      | none => rw [ho] at hy; cases hy
      | some o =>
        rw [ho] at hy
        simp only at hy
        cases hf : Region.free .any ops listed i with
        | false => rw [hf] at hy; cases hy
        | true =>
          rw [hf] at hy
          simp only at hy
          cases h1 : isCall o.op with
          | true => rw [h1] at hy; cases hy
          | false =>
            rw [h1] at hy
            simp only at hy
            cases h2 : isEff o.op with
            | true => rw [h2] at hy; cases hy
            | false =>
              rw [h2] at hy
              obtain ⟨g, hg, h3⟩ := Option.bind_eq_some_iff.1 hy
              obtain ⟨g1, g2⟩ := g
              simp only at h3
              cases g1 with
              | true =>
                obtain ⟨q, hq, h4⟩ := Option.bind_eq_some_iff.1 h3
                obtain ⟨q1, q2⟩ := q
                cases q2 with
                | zero =>
                  simp only [Option.some.injEq] at h4
                  subst h4
                  exact ⟨by simp, o, (true, g2), ho, hf, rfl, hg, fun hc => ⟨hc.left, .inl ⟨rfl, by simp only [decS_ok hc.right]; exact hq⟩⟩⟩
                | succ n => cases h4
              | false =>
                simp only [Option.some.injEq] at h3
                subst h3
                exact ⟨by simp, o, (false, g2), ho, hf, rfl, hg, fun hc => ⟨hc, .inr ⟨rfl, rfl⟩⟩⟩
    · obtain ⟨h1, h2⟩ := evPick_mem h
      exact ⟨by simp [h1], h2⟩
theorem collect_mem {f : Nat → Option (List Go)} : ∀ {rs : List Nat} {l : List Go}, collect f rs = some l → ∀ i, i ∈ rs → ∃ l', f i = some l' ∧ ∀ g, g ∈ l' → g ∈ l
  | [], l, h, i, hi => by simp at hi
  | j :: rs, l, h, i, hi => by
    simp only [collect] at h
    obtain ⟨l1, h1, h2⟩ := Option.bind_eq_some_iff.1 h
    obtain ⟨l2, h3, rfl⟩ := Option.map_eq_some_iff.1 h2
    rcases List.mem_cons.1 hi with rfl | hi
    · exact ⟨l1, h1, fun g hg => List.mem_append_left _ hg⟩
    · obtain ⟨l', h4, h5⟩ := collect_mem h3 i hi
      exact ⟨l', h4, fun g hg => List.mem_append_right _ (h5 g hg)⟩
theorem collect_inv {f : Nat → Option (List Go)} : ∀ {rs : List Nat} {l : List Go}, collect f rs = some l → ∀ g, g ∈ l → ∃ i l', i ∈ rs ∧ f i = some l' ∧ g ∈ l'
  | [], l, h, g, hg => by simp only [collect, Option.some.injEq] at h; subst h; simp at hg
  | j :: rs, l, h, g, hg => by
    simp only [collect] at h
    obtain ⟨l1, h1, h2⟩ := Option.bind_eq_some_iff.1 h
    obtain ⟨l2, h3, rfl⟩ := Option.map_eq_some_iff.1 h2
    rcases List.mem_append.1 hg with hg | hg
    · exact ⟨j, l1, by simp, h1, hg⟩
    · obtain ⟨i, l', h4, h5, h6⟩ := collect_inv h3 g hg
      exact ⟨i, l', by simp [h4], h5, h6⟩
theorem evGo_agree (hK : CallOk P C K) {m : Mask} {n : Nat} {unst : Chg} : ∀ (fuel : Nat) (listed : Array Bool) (st : St) (l : List Go), evGo P ts K orc F ops m n unst fuel listed st = some l → ∀ g, g ∈ l → Holds g.cs → Agree st.hp g.st.hp g.chg
  | 0, listed, st, l, h, g, hg, hcs => by simp [evGo] at h
  | fuel + 1, listed, st, l, h, g, hg, hcs => by
    unfold evGo at h
    split at h
    · injection h with h
      subst h
      simp only [List.mem_singleton] at hg
      subst hg
      exact Agree.refl _
    · rename_i i rs hrd
      split at h
      · rename_i x hx
        obtain ⟨l', hl', rfl⟩ := Option.map_eq_some_iff.1 h
        obtain ⟨g', hg', rfl⟩ := List.mem_map.1 hg
        exact evGo_agree hK fuel _ ⟨putS st.fr x.2.2.1 x.2.1, st.hp, st.ne⟩ l' hl' g' hg' hcs.right
      · obtain ⟨j, l', hj, hl', hgl⟩ := collect_inv h g hg
        obtain ⟨o, ho, h2⟩ := Option.bind_eq_some_iff.1 hl'
        obtain ⟨gd, hgd, h3⟩ := Option.bind_eq_some_iff.1 h2
        obtain ⟨g1, g2⟩ := gd
        simp only at h3
        cases g1 with
        | false => cases h3
        | true =>
          obtain ⟨r, hr, h4⟩ := Option.bind_eq_some_iff.1 h3
          split at h4
          · obtain ⟨l2, hl2, rfl⟩ := Option.map_eq_some_iff.1 h4
            obtain ⟨g', hg', rfl⟩ := List.mem_map.1 hgl
            exact (evX_agree hK hr hcs.left.right).trans (evGo_agree hK fuel _ _ l2 hl2 g' hg' hcs.right)
          · cases h4
theorem collect_ne {f : Nat → Option (List Go)} {i : Nat} {rs : List Nat} (hf : f i ≠ some []) : collect f (i :: rs) ≠ some [] := fun h => by
  simp only [collect] at h
  obtain ⟨l1, h1, h2⟩ := Option.bind_eq_some_iff.1 h
  obtain ⟨l2, h3, h4⟩ := Option.map_eq_some_iff.1 h2
  have := List.append_eq_nil_iff.1 h4
  rw [this.1] at h1
  exact hf h1
theorem evGo_ne {m : Mask} {n : Nat} {unst : Chg} : ∀ (fuel : Nat) (listed : Array Bool) (st : St), evGo P ts K orc F ops m n unst fuel listed st ≠ some []
  | 0, listed, st, h => by simp [evGo] at h
  | fuel + 1, listed, st, h => by
    unfold evGo at h
    split at h
    · simp at h
    · split at h
      · obtain ⟨l', hl', h2⟩ := Option.map_eq_some_iff.1 h
        rw [List.map_eq_nil_iff.1 h2] at hl'
        exact evGo_ne fuel _ _ hl'
      · refine collect_ne (fun h => ?_) h
        obtain ⟨o, ho, h2⟩ := Option.bind_eq_some_iff.1 h
        obtain ⟨g, hg, h3⟩ := Option.bind_eq_some_iff.1 h2
        split at h3
        · obtain ⟨r, hr, h4⟩ := Option.bind_eq_some_iff.1 h3
          split at h4
          · obtain ⟨l', hl', h5⟩ := Option.map_eq_some_iff.1 h4
            rw [List.map_eq_nil_iff.1 h5] at hl'
            exact evGo_ne fuel _ _ hl'
          · cases h4
        · cases h3
theorem within_append {n : Nat} {unst x y : Chg} (h1 : within n unst x = true) (h2 : within n unst y = true) : within n unst (x ++ y) = true := by
  unfold within at *
  rw [List.all_append, h1, h2]
  rfl
/-- What a region's loads lean on holds still. -/
theorem mask_held {E0 : Env} {hp0 : List Blk} {ne0 : Nat} {wr : World} {unst chg : Chg} (hs0 : Hs C E0 hp0 ne0 wr) (hp1 : Post C E0 hp0 ne0 wr E hp ne w) (hag : Agree hp0 hp chg) (hw : within hp0.length unst chg = true) : MaskAt E0 (maskBut hp0 unst) w := fun i j c hj => by
  obtain ⟨b, h1, h2, h3, h4⟩ := maskBut_get hj
  have h5 : (i, j) ∉ chg := fun hm => by
    have := List.all_eq_true.1 hw _ hm
    simp only [Bool.or_eq_true, decide_eq_true_eq] at this
    rcases this with h | h
    · have := idx_lt h1; omega
    · rw [h4] at h; cases h
  obtain ⟨b', h6, h7, h8⟩ := hag i b h1 h2 j c h3 h5
  have h9 := hp1.hs.blk i b' h6 h7
  rw [hp1.le.a i (idx_lt h1)] at h9
  rw [blk_cell h9, cellsT_get h8, Cell.den_le hp1.le (hs0.cv i b h1 h2 c (List.mem_of_getElem? h3))]
def NoPanic (Q : Exit → Act → World → Prop) : Prop := ∀ c a w, ¬ Q (.panic c) a w
theorem evGo_ok (hts : TypesOk P ts) (hK : CallOk P C K) (hsel : Region.noSelect ops = true) {E0 : Env} {hp0 : List Blk} {ne0 : Nat} {wr : World} {unst : Chg} (hs0 : Hs C E0 hp0 ne0 wr) {Q : Exit → Act → World → Prop} (hnp : NoPanic Q) : ∀ (fuel : Nat) (listed : Array Bool) (E : Env) (st : St) (a : Act) (w : World) (l : List Go) (chg : Chg),
    evGo P ts K orc F ops (maskBut hp0 unst) hp0.length unst (fuel + 1) listed st = some l → (∀ g, g ∈ l → Holds g.cs) → Sat C E st a w → Post C E0 hp0 ne0 wr E st.hp st.ne w → Agree hp0 st.hp chg → within hp0.length unst chg = true →
    (∀ g, g ∈ l → ∀ E' a' w', Post C E0 hp0 ne0 wr E' g.st.hp g.st.ne w' → Sat C E' g.st a' w' → Q .normal a' w') → wpAnyH P .any ops Q (MaskAt E0 (maskBut hp0 unst)) fuel listed a w := by
  intro fuel
  induction fuel with
  | zero =>
    intro listed E st a w l chg h hcs hsat hp1 hag hw hk
    unfold evGo at h
    split at h
    · rename_i hrd
      injection h with h
      subst h
      exact wpAnyH_done hrd (hk ⟨st, [], [], []⟩ (by simp) E a w hp1 hsat) 0
    · rename_i i rs hrd
      split at h
      · simp [evGo] at h
      · obtain ⟨l', hl', _⟩ := collect_mem h i (by simp)
        obtain ⟨o, ho, h2⟩ := Option.bind_eq_some_iff.1 hl'
        obtain ⟨g, hg, h3⟩ := Option.bind_eq_some_iff.1 h2
        split at h3
        · obtain ⟨r, hr, h4⟩ := Option.bind_eq_some_iff.1 h3
          split at h4
          · simp [evGo] at h4
          · cases h4
        · cases h3
  | succ fuel ih =>
    intro listed E st a w l chg h hcs hsat hp1 hag hw hk
    unfold evGo at h
    split at h
    · rename_i hrd
      injection h with h
      subst h
      exact wpAnyH_done hrd (hk ⟨st, [], [], []⟩ (by simp) E a w hp1 hsat) _
    · rename_i i rs hrd
      split at h
      · rename_i x hx
        obtain ⟨l', hl', rfl⟩ := Option.map_eq_some_iff.1 h
        obtain ⟨hxm, o, g, ho, hfree, hdst, hg, hgc⟩ := evPick_mem hx
        have hne : ∃ g0, g0 ∈ l' := by
          cases l' with
          | cons g0 _ => exact ⟨g0, by simp⟩
          | nil => exact absurd hl' (evGo_ne _ _ _)
        obtain ⟨g0, hg0⟩ := hne
        obtain ⟨hcg, hcase⟩ := hgc (hcs _ (List.mem_map.2 ⟨g0, hg0, rfl⟩)).left
        have hwant := guard_ok hsat.fr hg hcg
        have hmV : ∀ (qq : RowP), (∀ r A, RF (fz C E0 hp0) wr r A → qq r A) → MaskV E st.hp.length st.ne qq (maskBut hp0 unst) := fun qq hqq i c hc => by
          obtain ⟨b, h1, h2, h3⟩ := maskBut_mem hc
          exact Cell.V_le hp1.le hp1.hb hp1.he hqq (hs0.cv i b h1 h2 c h3)
        have hEq : ∀ w', MaskAt E0 (maskBut hp0 unst) w' → MaskAt E (maskBut hp0 unst) w' := fun w' hm i j c hj => by
          obtain ⟨b, h1, h2, h3, _⟩ := maskBut_get hj
          rw [hp1.le.a i (idx_lt h1), Cell.den_le hp1.le (hs0.cv i b h1 h2 c (List.mem_of_getElem? h3))]
          exact hm i j c hj
        have hV : x.2.1.V E st.hp.length st.ne (RF (fz C E st.hp) w) := by
          rcases hcase with ⟨_, hev⟩ | ⟨_, he⟩
          · obtain ⟨E', _, _, h0, hv, _⟩ := evP_ok (Wd := fun _ => True) (fun r A h => RF_RA r A h) (fun h => by cases h) hts hsat.fr.t hsat.fr.v (hmV _ (RF_step hp1.keep)) hev
            have := h0 rfl
            subst this
            exact hv
          · rw [he]; exact undef_V
        have hY : YieldsIf P ops (MaskAt E0 (maskBut hp0 unst)) o (x.2.1.den E) a := by
          rcases hcase with ⟨hg1, hev⟩ | ⟨hg1, he⟩
          · obtain ⟨E', _, _, h0, _, hrun⟩ := evP_ok (q := RA) (Wd := fun _ => True) (fun r A h => h) (fun h => by cases h) hts hsat.fr.t (fun s hs => Slot.V_le (Env.Le.refl _ _ _) (Nat.le_refl _) (Nat.le_refl _) (fun r A h => RF_RA r A h) (hsat.fr.v s hs)) (hmV _ (fun r A h => RF_RA r A h)) hev
            have := h0 rfl
            subst this
            exact .inl ⟨hwant.trans hg1, fun w' hS => hrun w' (hEq w' hS) trivial⟩
          · exact .inr ⟨hwant.trans hg1, by rw [he]; rfl⟩
        have hdst' : o.dst = x.2.2.1 := hdst.symm
        refine wpAnyH_take ho hsel hfree (by rw [hrd]; simpa using hxm) (fun c a w h => absurd h (hnp c _ w)) hY (mask_held hs0 hp1 hag hw) ?_
        rw [hdst']
        exact ih _ E ⟨putS st.fr x.2.2.1 x.2.1, st.hp, st.ne⟩ _ w l' chg hl' (fun g' hg' => (hcs _ (List.mem_map.2 ⟨g', hg', rfl⟩)).right) ⟨hsat.fr.put hV _, hsat.hs⟩ hp1 hag hw (fun g' hg' => hk (Go.add [] x.2.2.2 [] g') (List.mem_map.2 ⟨g', hg', rfl⟩))
      · refine wpAnyH_all hrd (by simp) fun j hj => ?_
        obtain ⟨l', hl', hsub⟩ := collect_mem h j hj
        obtain ⟨o, ho, h2⟩ := Option.bind_eq_some_iff.1 hl'
        obtain ⟨g, hg, h3⟩ := Option.bind_eq_some_iff.1 h2
        obtain ⟨g1, g2⟩ := g
        simp only at h3
        cases g1 with
        | false => cases h3
        | true =>
          obtain ⟨r, hr, h4⟩ := Option.bind_eq_some_iff.1 h3
          cases hwi : within hp0.length unst r.chg with
          | false => rw [hwi] at h4; cases h4
          | true =>
            rw [hwi] at h4
            obtain ⟨l2, hl2, rfl⟩ := Option.map_eq_some_iff.1 h4
            have hne : ∃ g0, g0 ∈ l2 := by
              cases l2 with
              | cons g0 _ => exact ⟨g0, by simp⟩
              | nil => exact absurd hl2 (evGo_ne _ _ _)
            obtain ⟨g0, hg0⟩ := hne
            have hcs0 := hcs _ (hsub _ (List.mem_map.2 ⟨g0, hg0, rfl⟩))
            have hwant := guard_ok hsat.fr hg hcs0.left.left
            unfold wpOp
            simp only [ho]
            rw [if_pos hwant]
            refine .inl (evX_ok hts hK hr hcs0.left.right hsat fun E' w' hp2 hs' => ?_)
            have hp3 := hp1.trans hp2
            have hag' := hag.trans (evX_agree hK hr hcs0.left.right)
            have hw' := within_append hw hwi
            exact ⟨mask_held hs0 hp3 hag' hw', ih _ E' _ _ w' l2 _ hl2 (fun g' hg' => (hcs _ (hsub _ (List.mem_map.2 ⟨g', hg', rfl⟩))).right) hs' hp3 hag' hw' (fun g' hg' => hk (Go.add r.chg (g2 ++ r.cs) (logOf o j st.hp.length) g') (hsub _ (List.mem_map.2 ⟨g', hg', rfl⟩)))⟩
/-- What a renumbering has to be. -/
structure PermP (n N : Nat) (ord : List Nat) : Prop where
  len : ord.length = N
  fwd : ∀ m, m < N → posOf ord m < N ∧ ord[posOf ord m]? = some m
  old : ∀ m, m < n → posOf ord m = m
  bwd : ∀ k, k < N → ∃ m, ord[k]? = some m ∧ m < N ∧ posOf ord m = k
theorem perm_of {n N : Nat} {ord : List Nat} (h : permOk n N ord = true) : PermP n N ord := by
  unfold permOk at h
  simp only [Bool.and_eq_true, List.all_eq_true, List.mem_range, decide_eq_true_eq, beq_iff_eq] at h
  obtain ⟨⟨⟨h1, h2⟩, h3⟩, h4⟩ := h
  refine ⟨h1, fun m hm => h2 m hm, h3, fun k hk => ?_⟩
  have := h4 k hk
  split at this
  · rename_i m hm
    simp only [Bool.and_eq_true, decide_eq_true_eq, beq_iff_eq] at this
    exact ⟨m, hm, this.1, this.2⟩
  · cases this
def Env.ren (E : Env) (ord : List Nat) : Env := ⟨fun k => E.a (ord.getD k 0), E.h, fun k => E.t (ord.getD k 0)⟩
theorem Env.ren_at {n N : Nat} {ord : List Nat} (hp0 : PermP n N ord) {m : Nat} (hm : m < N) : (E.ren ord).a (posOf ord m) = E.a m := by
  simp only [Env.ren, List.getD_eq_getElem?_getD, (hp0.fwd m hm).2, Option.getD_some]
theorem Env.ren_tl {n N : Nat} {ord : List Nat} (hp0 : PermP n N ord) {m : Nat} (hm : m < N) : (E.ren ord).t (posOf ord m) = E.t m := by
  simp only [Env.ren, List.getD_eq_getElem?_getD, (hp0.fwd m hm).2, Option.getD_some]
theorem Atom.ren_ok {n N : Nat} {ord : List Nat} (hpm : PermP n N ord) {t : Atom} (h : t.V N) : (t.ren (posOf ord)).V N ∧ (t.ren (posOf ord)).den (E.ren ord) = t.den E := by
  cases t with
  | v x => exact ⟨h, rfl⟩
  | p i off => exact ⟨(hpm.fwd i h).1, by simp only [Atom.ren, Atom.den, Env.ren_at hpm h]⟩
theorem Cell.ren_ok {n N : Nat} {ord : List Nat} (hpm : PermP n N ord) {q : RowP} {c : Cell} (h : c.V E N ne q) : (c.ren (posOf ord)).V (E.ren ord) N ne q ∧ (c.ren (posOf ord)).den (E.ren ord) = c.den E := by
  cases c with
  | v x => exact ⟨h, rfl⟩
  | p i off => exact ⟨(hpm.fwd i h).1, by simp only [Cell.ren, Cell.den, Env.ren_at hpm h]⟩
  | sl i n c => exact ⟨(hpm.fwd i h).1, by simp only [Cell.ren, Cell.den, Env.ren_at hpm h]⟩
  | ex j r => exact ⟨h, rfl⟩
  | fn f x y =>
    refine ⟨⟨fun t ht => ?_, fun t ht => ?_⟩, ?_⟩
    · obtain ⟨t', ht', rfl⟩ := List.mem_map.1 ht; exact (Atom.ren_ok (E := E) hpm (h.1 t' ht')).1
    · obtain ⟨t', ht', rfl⟩ := List.mem_map.1 ht; exact (Atom.ren_ok (E := E) hpm (h.2 t' ht')).1
    · have e1 : x.map (Atom.den (E.ren ord) ∘ Atom.ren (posOf ord)) = x.map (Atom.den E) := List.map_congr_left (fun t ht => (Atom.ren_ok (E := E) hpm (h.1 t ht)).2)
      have e2 : y.map (Atom.den (E.ren ord) ∘ Atom.ren (posOf ord)) = y.map (Atom.den E) := List.map_congr_left (fun t ht => (Atom.ren_ok (E := E) hpm (h.2 t ht)).2)
      simp only [Cell.ren, Cell.den, List.map_map, e1, e2]
  | rp j r idx off => exact ⟨h, rfl⟩
  | own j n i =>
    obtain ⟨h1, h2, cap, h3, h4⟩ := h
    exact ⟨⟨h1, (hpm.fwd i h2).1, cap, by rw [Env.ren_at hpm h2]; exact h3, h4⟩, rfl⟩
theorem cells_ren {n N : Nat} {ord : List Nat} (hpm : PermP n N ord) {q : RowP} {l : List Cell} (h : ∀ c, c ∈ l → c.V E N ne q) : (∀ c, c ∈ l.map (Cell.ren (posOf ord)) → c.V (E.ren ord) N ne q) ∧ cellsDen (E.ren ord) (l.map (Cell.ren (posOf ord))) = cellsDen E l := by
  refine ⟨fun c hc => ?_, ?_⟩
  · obtain ⟨c', hc', rfl⟩ := List.mem_map.1 hc; exact (Cell.ren_ok hpm (h c' hc')).1
  · have e1 : l.map (Cell.den (E.ren ord) ∘ Cell.ren (posOf ord)) = l.map (Cell.den E) := List.map_congr_left (fun c hc => (Cell.ren_ok hpm (h c hc)).2)
    simp only [cellsDen, List.map_map, e1]
theorem Part.ren_ok {n N : Nat} {ord : List Nat} (hpm : PermP n N ord) {q : RowP} {p : Part} (h : p.V E N ne q) : (p.ren (posOf ord)).V (E.ren ord) N ne q ∧ (p.ren (posOf ord)).den (E.ren ord) = p.den E := by
  cases p with
  | c x =>
    have := Cell.ren_ok hpm (h x (by simp [Part.cells]))
    exact ⟨fun c hc => by simp only [Part.ren, Part.cells, List.mem_singleton] at hc; subst hc; exact this.1, this.2⟩
  | agg l =>
    have := cells_ren hpm h
    exact ⟨this.1, congrArg Value.agg this.2⟩
theorem Slot.ren_ok {n N : Nat} {ord : List Nat} (hpm : PermP n N ord) {q : RowP} {s : Slot} (h : s.V E N ne q) : (s.ren (posOf ord)).V (E.ren ord) N ne q ∧ (s.ren (posOf ord)).den (E.ren ord) = s.den E := by
  cases s with
  | one p => exact Part.ren_ok hpm h
  | tup l =>
    refine ⟨fun p hp => ?_, ?_⟩
    · obtain ⟨p', hp', rfl⟩ := List.mem_map.1 hp; exact (Part.ren_ok hpm (h p' hp')).1
    · have e1 : l.map (Part.den (E.ren ord) ∘ Part.ren (posOf ord)) = l.map (Part.den E) := List.map_congr_left (fun p hp => (Part.ren_ok hpm (h p hp)).2)
      simp only [Slot.ren, Slot.den, List.map_map, e1]
theorem blksAt_get {hp1 : List Blk} : ∀ {ord : List Nat}, blksAt hp ord = some hp1 → hp1.length = ord.length ∧ ∀ (k m : Nat), ord[k]? = some m → hp1[k]? = hp[m]?
  | [], h => by simp only [blksAt, Option.some.injEq] at h; subst h; exact ⟨rfl, fun k m hk => by simp at hk⟩
  | m :: l, h => by
    simp only [blksAt] at h
    obtain ⟨b, hb, h2⟩ := Option.bind_eq_some_iff.1 h
    obtain ⟨r, hr, rfl⟩ := Option.map_eq_some_iff.1 h2
    obtain ⟨h3, h4⟩ := blksAt_get hr
    refine ⟨by simp [h3], fun k m' hk => ?_⟩
    cases k with
    | zero => simp only [List.getElem?_cons_zero, Option.some.injEq] at hk; subst hk; simpa using hb.symm
    | succ k => simpa using h4 k m' (by simpa using hk)
theorem ren_get {n : Nat} {ord : List Nat} {hp1 : List Blk} (hpm : PermP n hp.length ord) (hb : blksAt hp ord = some hp1) {k : Nat} {b : Blk} (h : (hp1.map (Blk.ren (posOf ord)))[k]? = some b) : ∃ m b0, hp[m]? = some b0 ∧ b = b0.ren (posOf ord) ∧ m < hp.length ∧ posOf ord m = k ∧ (E.ren ord).a k = E.a m ∧ (E.ren ord).t k = E.t m := by
  rw [List.getElem?_map] at h
  obtain ⟨b0, hb0, rfl⟩ := Option.map_eq_some_iff.1 h
  obtain ⟨h1, h2⟩ := blksAt_get hb
  have hk : k < hp.length := by rw [← hpm.len, ← h1]; exact (List.getElem?_eq_some_iff.1 hb0).1
  obtain ⟨m, hm, hmN, hpos⟩ := hpm.bwd k hk
  refine ⟨m, b0, ?_, rfl, hmN, hpos, ?_, ?_⟩
  · rw [← h2 k m hm]; exact hb0
  · rw [← hpos]; exact Env.ren_at hpm hmN
  · rw [← hpos]; exact Env.ren_tl hpm hmN
theorem ren_post {E0 : Env} {hp0 : List Blk} {ne0 : Nat} {wr : World} {ord : List Nat} {hp1 : List Blk} (hs0 : Hs C E0 hp0 ne0 wr) (hpm : PermP hp0.length hp.length ord) (hb : blksAt hp ord = some hp1) (h : Post C E0 hp0 ne0 wr E hp ne w) :
    Post C E0 hp0 ne0 wr (E.ren ord) (hp1.map (Blk.ren (posOf ord))) ne w ∧ ∀ k, fz C E hp k → fz C (E.ren ord) (hp1.map (Blk.ren (posOf ord))) k := by
  have hH := h.hs
  have hfz : ∀ k, fz C E hp k → fz C (E.ren ord) (hp1.map (Blk.ren (posOf ord))) k := fun k hk => by
    rcases hk with hk | ⟨h1, h2⟩
    · exact .inl hk
    · refine .inr ⟨h1, fun j b hj hl => ?_⟩
      obtain ⟨m, b0, h3, rfl, _, _, h4, _⟩ := ren_get (E := E) hpm hb hj
      rw [h4]
      exact h2 m b0 h3 hl
  have hlen : (hp1.map (Blk.ren (posOf ord))).length = hp.length := by rw [List.length_map, (blksAt_get hb).1, hpm.len]
  have hold : ∀ i, i < hp0.length → (E.ren ord).a i = E.a i := fun i hi => by
    have h1 := Env.ren_at (E := E) hpm (Nat.lt_of_lt_of_le hi h.hb)
    rwa [hpm.old i hi] at h1
  have holdt : ∀ i, i < hp0.length → (E.ren ord).t i = E.t i := fun i hi => by
    have h1 := Env.ren_tl (E := E) hpm (Nat.lt_of_lt_of_le hi h.hb)
    rwa [hpm.old i hi] at h1
  have hnp := hs0.np
  refine ⟨⟨⟨fun i hi => (hold i hi).trans (h.le.a i hi), h.le.h, fun i hi => (holdt i hi).trans (h.le.t i hi)⟩, by rw [hlen]; exact h.hb, h.he, ?_, fun k hk hlt => ⟨(h.keep k hk hlt).1, hfz k (h.keep k hk hlt).2⟩⟩, hfz⟩
  constructor
  · intro k b hk hl
    obtain ⟨m, b0, h3, rfl, _, _, h4, h5⟩ := ren_get (E := E) hpm hb hk
    rw [h4, h5, hH.blk m b0 h3 hl]
    simp only [Blk.ren]
    rw [(cells_ren hpm (hH.cv m b0 h3 hl)).2]
  · intro k b hk hl
    obtain ⟨m, b0, h3, rfl, _, _, h4, h5⟩ := ren_get (E := E) hpm hb hk
    have := hH.tl m b0 h3 hl
    unfold TlOk at this ⊢
    simp only [Blk.ren, List.length_map, h4, h5]
    exact this
  · intro k1 k2 b c hk1 hk2 hl1 hl2 he
    obtain ⟨m1, b0, h3, rfl, _, h5, h4, _⟩ := ren_get (E := E) hpm hb hk1
    obtain ⟨m2, c0, h6, rfl, _, h8, h7, _⟩ := ren_get (E := E) hpm hb hk2
    rw [h4, h7] at he
    rw [← h5, ← h8, hH.inj m1 m2 b0 c0 h3 h6 hl1 hl2 he]
  · intro k b hk hl
    obtain ⟨m, b0, h3, rfl, _, _, h4, _⟩ := ren_get (E := E) hpm hb hk
    rw [h4]
    exact hH.nok m b0 h3 hl
  · intro k b hk hl c hc
    obtain ⟨m, b0, h3, rfl, _, _, h4, _⟩ := ren_get (E := E) hpm hb hk
    rw [hlen]
    have := (cells_ren hpm (hH.cv m b0 h3 hl)).1 c hc
    exact Cell.V_le (Env.Le.refl _ _ _) (Nat.le_refl _) (Nat.le_refl _) (RF_step (fun k hk _ => ⟨rfl, hfz k hk⟩)) this
  · exact hH.okb
  · rw [hlen]; exact hH.np
  · exact hH.np0
  · exact hH.hd
  · intro k b hk hn
    obtain ⟨m, b0, h3, rfl, _, h5, h4, _⟩ := ren_get (E := E) hpm hb hk
    rw [h4]
    refine hH.low m b0 h3 (Nat.not_lt.1 fun hlt => ?_)
    have := hpm.old m (Nat.lt_of_lt_of_le hlt hnp)
    omega
  · exact hH.os
  · exact hH.tape
  · exact hH.output
  · exact hH.size
  · intro k hk hne
    exact hH.far k hk (fun i hi => by have := hne i hi; rwa [hold i (Nat.lt_of_lt_of_le hi hnp)] at this)
theorem canon_some {n : Nat} {g : Go} {s : St} (h : canon n g = some s) : ∃ ord hp1, PermP n g.st.hp.length ord ∧ blksAt g.st.hp ord = some hp1 ∧ s = renSt ord hp1 g.st ∧ ∀ b, b ∈ g.st.hp.take n → ∀ c, c ∈ b.cells → cellOld n c = true := by
  unfold canon at h
  obtain ⟨hp1, hb, h2⟩ := Option.bind_eq_some_iff.1 h
  split at h2
  · rename_i hc
    rw [Bool.and_eq_true] at hc
    injection h2 with h2
    exact ⟨_, hp1, perm_of hc.1, hb, h2.symm, fun b hb c hcc => List.all_eq_true.1 (List.all_eq_true.1 hc.2 b hb) c hcc⟩
  · cases h2
theorem canon_ok {E0 : Env} {hp0 : List Blk} {ne0 : Nat} {wr : World} {g : Go} {s : St} (hs0 : Hs C E0 hp0 ne0 wr) (h : canon hp0.length g = some s) (hp1 : Post C E0 hp0 ne0 wr E g.st.hp g.st.ne w) (hsat : Sat C E g.st a w) : ∃ E', Post C E0 hp0 ne0 wr E' s.hp s.ne w ∧ Sat C E' s a w := by
  obtain ⟨ord, hpx, hpm, hb, rfl, _⟩ := canon_some h
  obtain ⟨h1, h2⟩ := ren_post hs0 hpm hb hp1
  have hlen : (hpx.map (Blk.ren (posOf ord))).length = g.st.hp.length := by rw [List.length_map, (blksAt_get hb).1, hpm.len]
  refine ⟨E.ren ord, h1, ⟨⟨?_, hsat.fr.d, fun x hx => ?_⟩, h1.hs⟩⟩
  · rw [hsat.fr.t]
    have e1 : g.st.fr.map (Slot.den (E.ren ord) ∘ Slot.ren (posOf ord)) = g.st.fr.map (Slot.den E) := List.map_congr_left (fun x hx => (Slot.ren_ok hpm (hsat.fr.v x hx)).2)
    simp only [renSt, List.map_map, e1]
  · simp only [renSt] at hx ⊢
    obtain ⟨x', hx', rfl⟩ := List.mem_map.1 hx
    rw [hlen]
    exact Slot.V_le (Env.Le.refl _ _ _) (Nat.le_refl _) (Nat.le_refl _) (RF_step (fun k hk _ => ⟨rfl, h2 k hk⟩)) (Slot.ren_ok hpm (hsat.fr.v x' hx')).1
theorem Atom.ren_old {n N : Nat} {ord : List Nat} (hpm : PermP n N ord) {t : Atom} (h : atomOld n t = true) : t.ren (posOf ord) = t := by
  cases t with
  | v x => rfl
  | p i off => simp only [Atom.ren, hpm.old i (of_decide_eq_true h)]
theorem Cell.ren_old {n N : Nat} {ord : List Nat} (hpm : PermP n N ord) {c : Cell} (h : cellOld n c = true) : c.ren (posOf ord) = c := by
  cases c with
  | v x => rfl
  | p i off => simp only [Cell.ren, hpm.old i (of_decide_eq_true h)]
  | sl i n c => simp only [Cell.ren, hpm.old i (of_decide_eq_true h)]
  | ex j r => rfl
  | fn f x y =>
    simp only [cellOld, Bool.and_eq_true, List.all_eq_true] at h
    have e1 : x.map (Atom.ren (posOf ord)) = x := (List.map_congr_left (fun t ht => Atom.ren_old hpm (h.1 t ht))).trans (List.map_id x)
    have e2 : y.map (Atom.ren (posOf ord)) = y := (List.map_congr_left (fun t ht => Atom.ren_old hpm (h.2 t ht))).trans (List.map_id y)
    simp only [Cell.ren, e1, e2]
  | rp j r idx off => rfl
  | own j n i => simp only [Cell.ren, hpm.old i (of_decide_eq_true h)]
theorem canon_agree {hp0 : List Blk} {g : Go} {s : St} {chg : Chg} (h : canon hp0.length g = some s) (hag : Agree hp0 g.st.hp chg) : Agree hp0 s.hp chg := fun i b hi hl j c hj hn => by
  obtain ⟨ord, hpx, hpm, hb, rfl, hold⟩ := canon_some h
  obtain ⟨b', h1, h2, h3⟩ := hag i b hi hl j c hj hn
  have hin := idx_lt hi
  have h4 : ord[i]? = some i := by
    have := (hpm.fwd i (idx_lt h1)).2
    rwa [hpm.old i hin] at this
  refine ⟨b'.ren (posOf ord), ?_, h2, ?_⟩
  · simp only [renSt, List.getElem?_map, (blksAt_get hb).2 i i h4, h1, Option.map_some]
  · have h5 : b' ∈ g.st.hp.take hp0.length := List.mem_of_getElem? (i := i) (by rw [List.getElem?_take, if_pos hin]; exact h1)
    have h6 := Cell.ren_old hpm (hold b' h5 c (List.mem_of_getElem? h3))
    simp only [Blk.ren, List.getElem?_map, h3, Option.map_some, h6]
theorem canons_mem {n : Nat} {q : St} : ∀ {l : List Go} {cs : Conds}, canons n q l = some cs → Holds cs → ∀ g, g ∈ l → canon n g = some q ∧ Holds g.cs
  | [], cs, h, hcs, g, hg => by simp at hg
  | g :: l, cs, h, hcs, g', hg' => by
    simp only [canons] at h
    obtain ⟨s, hs, h2⟩ := Option.bind_eq_some_iff.1 h
    obtain ⟨cs', hcs', rfl⟩ := Option.map_eq_some_iff.1 h2
    have h3 : s = q := hcs (Cond.s s q) (by simp)
    have h4 : Holds (g.cs ++ cs') := fun c hc => hcs c (by simp only [List.mem_cons]; exact .inr hc)
    rcases List.mem_cons.1 hg' with rfl | hg'
    · exact ⟨by rw [hs, h3], h4.left⟩
    · exact canons_mem hcs' h4.right g' hg'
theorem evDraw_ok (hts : TypesOk P ts) (hK : CallOk P C K) (hmix : P.follows .mixedOrders = true) {id : Nat} {q : St × Chg × Conds} (h : evDraw P ts K orc F ops st = some q) (hcs : Holds q.2.2) (hsat : Sat C E st a w) {Q : Exit → Act → World → Prop} (hnp : NoPanic Q)
    (hk : ∀ E' a' w', Post C E st.hp st.ne w E' q.1.hp q.1.ne w' → Sat C E' q.1 a' w' → Q .normal a' w') : (Code.region id ops true).wp P Q a w := by
  unfold evDraw at h
  obtain ⟨q0, _, h2⟩ := Option.bind_eq_some_iff.1 h
  cases hsel : Region.noSelect ops with
  | false => rw [hsel] at h2; cases h2
  | true =>
    rw [hsel] at h2
    obtain ⟨l, hl, h3⟩ := Option.bind_eq_some_iff.1 h2
    have hp0 := drew_post hsat.hs
    have key : (∀ g, g ∈ l → Holds g.cs) → (∀ g, g ∈ l → ∀ E' a' w', Post C E st.hp st.ne w.drew E' g.st.hp g.st.ne w' → Sat C E' g.st a' w' → Q .normal a' w') → (Code.region id ops true).wp P Q a w := fun h4 h5 => by
      refine wp_region_held (S := MaskAt E (maskBut st.hp q0.2.1)) hmix ?_
      exact evGo_ok hts hK hsel hp0.hs hnp ops.size _ E st a _ l [] hl h4 ⟨hsat.fr.step hp0, hp0.hs⟩ (Post.refl hp0.hs) (Agree.refl _) rfl h5
    split at h3
    · cases h3
    · rename_i g
      injection h3 with h3
      subst h3
      refine key (fun g' hg' => ?_) (fun g' hg' E' a' w' hp1 hs' => ?_)
      · simp only [List.mem_singleton] at hg'; subst hg'; exact hcs
      · simp only [List.mem_singleton] at hg'; subst hg'; exact hk E' a' w' (hp0.trans hp1) hs'
    · rename_i g l' _
      obtain ⟨s, hs, h4⟩ := Option.bind_eq_some_iff.1 h3
      obtain ⟨cs, hcs', rfl⟩ := Option.map_eq_some_iff.1 h4
      have hall : ∀ g', g' ∈ g :: l' → canon st.hp.length g' = some s ∧ Holds g'.cs := fun g' hg' => by
        rcases List.mem_cons.1 hg' with rfl | hg'
        · exact ⟨hs, hcs.left⟩
        · exact canons_mem hcs' hcs.right g' hg'
      refine key (fun g' hg' => (hall g' hg').2) (fun g' hg' E' a' w' hp1 hs' => ?_)
      obtain ⟨E'', hp2, hs''⟩ := canon_ok hp0.hs (hall g' hg').1 hp1 hs'
      exact hk E'' a' w' (hp0.trans hp2) hs''
theorem evDraw_agree (hK : CallOk P C K) {q : St × Chg × Conds} (h : evDraw P ts K orc F ops st = some q) (hcs : Holds q.2.2) : Agree st.hp q.1.hp q.2.1 := by
  unfold evDraw at h
  obtain ⟨q0, _, h2⟩ := Option.bind_eq_some_iff.1 h
  split at h2
  · obtain ⟨l, hl, h3⟩ := Option.bind_eq_some_iff.1 h2
    split at h3
    · cases h3
    · injection h3 with h3
      subst h3
      exact evGo_agree hK _ _ _ _ hl _ (by simp) hcs
    · obtain ⟨s, hs, h4⟩ := Option.bind_eq_some_iff.1 h3
      obtain ⟨cs, hcs', rfl⟩ := Option.map_eq_some_iff.1 h4
      exact canon_agree hs (evGo_agree hK _ _ _ _ hl _ (by simp) hcs.left)
  · cases h2
end
end Ev
end Go.Proofs.Ytfbiahlogclkbaa.H
