/- The proof's texts EvP: what the statement leads to. No condition is added. -/
import Derived.Test.YtfbiahlogclkbaaEvG
import Derived.ArgAppend
set_option linter.unusedVariables false
set_option linter.unusedSimpArgs false
namespace Go.Proofs.Ytfbiahlogclkbaa.H
open Go.RowKit Go.Proofs.YtfbiahlogclkbaaW.PrintWords Go.Proofs.YtfbiahlogclkbaaW.PrintLast Go.Proofs.YtfbiahlogclkbaaW.PrintMore Go.Proofs.Ytfbiahlogclkbaa.P
namespace Ev

/-- A block that is not told any more. -/
def dead (hp : List Blk) : Option (Nat × Blk) → List Blk
  | none => hp
  | some (i, b) => hp.set i { b with live := false }
theorem dead_len (hp : List Blk) (k : Option (Nat × Blk)) : (dead hp k).length = hp.length := by
  cases k <;> simp [dead]
theorem dead_get {hp : List Blk} {k : Option (Nat × Blk)} {j : Nat} {c : Blk} (h : (dead hp k)[j]? = some c) (hl : c.live = true) : hp[j]? = some c ∧ ∀ i b, k = some (i, b) → j ≠ i := by
  cases k with
  | none => exact ⟨h, fun i b e => by cases e⟩
  | some q =>
    obtain ⟨i, b⟩ := q
    rcases set_get h with ⟨rfl, rfl⟩ | ⟨h1, h2⟩
    · cases hl
    · exact ⟨h2, fun i' b' e => by injection e with e; injection e with e1 e2; rw [← e1]; exact h1⟩
/-- A block and a slice more. -/
def Env.newO (E : Env) (n g ne : Nat) (v : Value) (tl : Array Value) : Env := ⟨fun i => if i = n then g else E.a i, fun j => if j = ne then v else E.h j, fun i => if i = n then tl else E.t i⟩
theorem Env.newO_le (E : Env) (n g ne : Nat) (v : Value) (tl : Array Value) : E.Le (E.newO n g ne v tl) n ne := ⟨fun i hi => by simp only [Env.newO]; rw [if_neg (by omega)], fun i hi => by simp only [Env.newO]; rw [if_neg (by omega)], fun i hi => by simp only [Env.newO]; rw [if_neg (by omega)]⟩
theorem Env.newO_a (E : Env) (n g ne : Nat) (v : Value) (tl : Array Value) : (E.newO n g ne v tl).a n = g := by simp [Env.newO]
theorem Env.newO_h (E : Env) (n g ne : Nat) (v : Value) (tl : Array Value) : (E.newO n g ne v tl).h ne = v := by simp [Env.newO]
theorem Env.newO_t (E : Env) (n g ne : Nat) (v : Value) (tl : Array Value) : (E.newO n g ne v tl).t n = tl := by simp [Env.newO]
section
variable {P : Program} {ts : Types} {C : Ctx} {E : Env} {hp : List Blk} {ne : Nat} {w w' : World}
theorem app_post (h : Hs C E hp ne w) (k : Option (Nat × Blk)) (hk : ∀ i b, k = some (i, b) → hp[i]? = some b ∧ b.live = true) (cells : List Cell) (hv : ∀ c, c ∈ cells → c.V E hp.length ne (RF (fz C E hp) w)) (T size g n cap : Nat) (tl : Array Value)
    (hn : cells.length = n * size) (hc : n ≤ cap) (hm : cap ≤ maxLen) (ht : cells.length + tl.size = cap * size) (hat : w'.heap[g]? = some (.cells (cellsDen E cells ++ tl) T (0, 0)))
    (hg : w.heap.size ≤ g ∨ ∃ i b, k = some (i, b) ∧ E.a i = g) (hsame : ∀ j, j < w.heap.size → j ≠ g → w'.heap[j]? = w.heap[j]?) (hos : w'.os = w.os) (htape : w'.tape = w.tape) (hout : w'.output = w.output) (hsize : w.heap.size ≤ w'.heap.size) :
    Post C E hp ne w (E.newO hp.length g ne (.slice (some ⟨g, 0, none⟩) n cap) tl) (dead hp k ++ [⟨true, cells, T, some (ne, size)⟩]) (ne + 1) w' := by
  have hle := Env.newO_le E hp.length g ne (.slice (some ⟨g, 0, none⟩) n cap) tl
  have hlen : (dead hp k ++ [(⟨true, cells, T, some (ne, size)⟩ : Blk)]).length = hp.length + 1 := by simp [dead_len]
  have hget : ∀ (j : Nat) (c : Blk), (dead hp k ++ [(⟨true, cells, T, some (ne, size)⟩ : Blk)])[j]? = some c → c.live = true → (hp[j]? = some c ∧ ∀ i b, k = some (i, b) → j ≠ i) ∨ (j = hp.length ∧ c = ⟨true, cells, T, some (ne, size)⟩) := fun j c hj hl => by
    rcases push_get hj with hj | ⟨rfl, rfl⟩
    · exact .inl (dead_get hj hl)
    · exact .inr ⟨dead_len _ _, rfl⟩
  have hold : ∀ i b, hp[i]? = some b → (E.newO hp.length g ne (.slice (some ⟨g, 0, none⟩) n cap) tl).a i = E.a i := fun i b hi => hle.a i (idx_lt hi)
  have hne : ∀ i b, hp[i]? = some b → b.live = true → (∀ j c, k = some (j, c) → i ≠ j) → E.a i ≠ g := fun i b hi hl hj e => by
    rcases hg with hg | ⟨j, c, rfl, hg⟩
    · have := h.lt hi hl; omega
    · obtain ⟨h1, h2⟩ := hk j c rfl
      exact hj j c rfl (h.inj i j b c hi h1 hl h2 (e.trans hg.symm))
  have hnok : ∀ j, fz C E hp j → j < w.heap.size → j ≠ g := fun j hj hlt e => by
    subst e
    rcases hg with hg | ⟨i, c, rfl, hg⟩
    · omega
    · obtain ⟨h1, h2⟩ := hk i c rfl
      rcases hj with hj | ⟨_, hj⟩
      · exact h.nok i c h1 h2 (hg ▸ hj)
      · exact hj i c h1 h2 hg
  have hlow : C.w0.heap.size ≤ g := by
    rcases hg with hg | ⟨i, c, rfl, hg⟩
    · exact Nat.le_trans h.size hg
    · obtain ⟨h1, h2⟩ := hk i c rfl
      rw [← hg]
      exact h.low i c h1 (by rw [h.np0]; exact Nat.zero_le _)
  have hkeep : ∀ j, fz C E hp j → j < w.heap.size → w'.heap[j]? = w.heap[j]? ∧ fz C (E.newO hp.length g ne (.slice (some ⟨g, 0, none⟩) n cap) tl) (dead hp k ++ [⟨true, cells, T, some (ne, size)⟩]) j := fun j hj hlt => by
    have hjg := hnok j hj hlt
    refine ⟨hsame j hlt hjg, ?_⟩
    rcases hj with hj | ⟨h1, h2⟩
    · exact .inl hj
    · refine .inr ⟨h1, fun i b hi hl => ?_⟩
      rcases hget i b hi hl with ⟨hi, _⟩ | ⟨rfl, rfl⟩
      · rw [hold i b hi]; exact h2 i b hi hl
      · rw [Env.newO_a]; exact fun e => hjg e.symm
  refine ⟨hle, by rw [hlen]; omega, by omega, ?_, hkeep⟩
  constructor
  · intro i b hi hl
    rcases hget i b hi hl with ⟨hi, hj⟩ | ⟨rfl, rfl⟩
    · rw [hold i b hi, hsame _ (h.lt hi hl) (hne i b hi hl hj), h.blk i b hi hl, cellsDen_le hle (h.cv i b hi hl), hle.t i (idx_lt hi)]
    · rw [Env.newO_a, Env.newO_t, cellsDen_le hle hv]
      exact hat
  · intro i b hi hl
    rcases hget i b hi hl with ⟨hi, hj⟩ | ⟨rfl, rfl⟩
    · exact TlOk.le hle (Nat.le_succ _) (idx_lt hi) (h.tl i b hi hl)
    · exact ⟨Nat.lt_succ_self _, n, cap, by rw [Env.newO_a, Env.newO_h], hn, hc, hm, by rw [Env.newO_t]; exact ht⟩
  · intro i j b c hi hj hbl hcl he
    rcases hget i b hi hbl with ⟨hi, hik⟩ | ⟨rfl, rfl⟩ <;> rcases hget j c hj hcl with ⟨hj, hjk⟩ | ⟨rfl, rfl⟩
    · rw [hold i b hi, hold j c hj] at he; exact h.inj i j b c hi hj hbl hcl he
    · rw [hold i b hi, Env.newO_a] at he; exact absurd he (hne i b hi hbl hik)
    · rw [hold j c hj, Env.newO_a] at he; exact absurd he.symm (hne j c hj hcl hjk)
    · rfl
  · intro i b hi hl hok
    rcases hget i b hi hl with ⟨hi, _⟩ | ⟨rfl, rfl⟩
    · rw [hold i b hi] at hok; exact h.nok i b hi hl hok
    · rw [Env.newO_a] at hok; have := h.okb _ hok; omega
  · intro i b hi hl c hc
    rw [hlen]
    rcases hget i b hi hl with ⟨hi, _⟩ | ⟨rfl, rfl⟩
    · exact Cell.V_le hle (Nat.le_succ _) (Nat.le_succ _) (RF_step hkeep) (h.cv i b hi hl c hc)
    · exact Cell.V_le hle (Nat.le_succ _) (Nat.le_succ _) (RF_step hkeep) (hv c hc)
  · exact h.okb
  · rw [hlen]; exact Nat.le_succ_of_le h.np
  · exact h.np0
  · exact hd_le hle (Nat.le_succ _) h.hd
  · intro i b hi hn
    rcases push_get hi with hi | ⟨rfl, rfl⟩
    · have hi' : i < hp.length := by have := idx_lt hi; rwa [dead_len] at this
      rw [hle.a i hi']
      exact h.low i hp[i] (List.getElem?_eq_getElem hi') hn
    · rw [dead_len, Env.newO_a]; exact hlow
  · exact hos.trans h.os
  · exact htape.trans h.tape
  · exact hout.trans h.output
  · exact Nat.le_trans h.size hsize
  · intro j hj hn
    rw [hsame j (Nat.lt_of_lt_of_le hj h.size) (by omega)]
    exact h.far j hj (fun i hi => by rw [h.np0] at hi; omega)
end
def sameT (s x : Operand) (t t' : Nat) : Option (Operand × Operand × Nat) :=
  match decide (t = t') with
  | true => some (s, x, t)
  | false => none
def appCall (c : Call) : Option (Operand × Operand × Nat) :=
  match c.callee, c.args.toList, c.argTypes.toList with
  | .builtin .append, [s, x], [t, t'] => sameT s x t t'
  | _, _, _ => none
def appArgs : Op → Option (Operand × Operand × Nat)
  | .call c => appCall c
  | _ => none
theorem appArgs_some {op : Op} {s x : Operand} {t : Nat} (h : appArgs op = some (s, x, t)) : ∃ c, op = .call c ∧ c.callee = .builtin .append ∧ c.args = #[s, x] ∧ c.argTypes = #[t, t] := by
  cases op
  case call c =>
    refine ⟨c, rfl, ?_⟩
    have h : appCall c = some (s, x, t) := h
    unfold appCall at h
    split at h
    · rename_i s' x' t1 t2 h1 h2 h3
      unfold sameT at h
      split at h
      · rename_i hd
        have := of_decide_eq_true hd
        subst this
        simp only [Option.some.injEq, Prod.mk.injEq] at h
        obtain ⟨rfl, rfl, rfl⟩ := h
        exact ⟨h1, Array.toList_inj.1 h2, Array.toList_inj.1 h3⟩
      · cases h
    · cases h
  all_goals cases h
def newsOf (hp : List Blk) (sz : Nat) : Slot → Option (Nat × Nat × List Cell)
  | .one (.c (.sl i m _)) => (hp[i]?).bind fun b => match decide (b.live = true ∧ b.cells.length = m * sz) with
    | true => some (i, m, b.cells)
    | false => none
  | _ => none
def ownOf (b : Blk) (j n i sz e : Nat) : Option (Nat × List Cell × Option (Nat × Blk)) :=
  match b.opn with
  | some (j', sz') => match decide (b.live = true ∧ j' = j ∧ sz' = sz ∧ b.elem = e ∧ b.cells.length = n * sz) with
    | true => some (n, b.cells, some (i, b))
    | false => none
  | none => none
def oldsOf (hp : List Blk) (sz e : Nat) : Slot → Option (Nat × List Cell × Option (Nat × Blk))
  | .one (.c (.v (.slice none 0 0))) => some (0, [], none)
  | .one (.c (.own j n i)) => (hp[i]?).bind fun b => ownOf b j n i sz e
  | _ => none
def chgOfK : Option (Nat × Blk) → Chg
  | none => []
  | some (i, b) => chgOf i 0 b.cells.length
def evApp (ts : Types) (fr : List Slot) (hp : List Blk) (ne : Nat) (o : Oper) : Option (Slot × List Blk × Chg) :=
  (appArgs o.op).bind fun q => (evO fr q.1).bind fun s => (evO fr q.2.1).bind fun x => (ts.lookup q.2.2).bind fun ti => (elemOf ti.d).bind fun e => (ts.lookup e).bind fun te => te.bytes.bind fun by_ =>
    (oldsOf hp te.size e s).bind fun r => (newsOf hp te.size x).bind fun v =>
      match decide (0 < te.size ∧ 0 < v.2.1 ∧ r.1 + v.2.1 ≤ 1000000 ∧ (r.1 + v.2.1) * by_ ≤ 140737488355328) with
      | true => some (.one (.c (.own ne (r.1 + v.2.1) hp.length)), dead hp r.2.2 ++ [⟨true, r.2.1 ++ v.2.2, e, some (ne, te.size)⟩], chgOfK r.2.2)
      | false => none
/-- As Runs; a slice more is told. -/
def RunsN (P : Program) (C : Ctx) (E : Env) (hp : List Blk) (ne : Nat) (w : World) (x : Sem Next) (s : Slot) (hp' : List Blk) (ne' : Nat) : Prop :=
  ∃ E' w', x.run P w = .ok (.value (s.den E')) w' ∧ Post C E hp ne w E' hp' ne' w' ∧ s.V E' hp'.length ne' (RF (fz C E' hp') w')
section
variable {P : Program} {ts : Types} {C : Ctx} {E : Env} {hp hp' : List Blk} {ne : Nat} {w w' : World} {fr : List Slot} {a : Act} {o : Oper}
theorem dead_agree {k : Option (Nat × Blk)} (hk : ∀ i b, k = some (i, b) → hp[i]? = some b ∧ b.live = true) : Agree hp (dead hp k) (chgOfK k) := fun j c hj hl m x hm hn => by
  cases k with
  | none => exact ⟨c, hj, hl, hm⟩
  | some q =>
    obtain ⟨i, b⟩ := q
    obtain ⟨h1, h2⟩ := hk i b rfl
    by_cases hij : i = j
    · subst hij
      rw [h1] at hj
      injection hj with hj
      subst hj
      have h3 := (List.getElem?_eq_some_iff.1 hm).1
      exact absurd (List.mem_map.2 ⟨m, by simpa using h3, by simp⟩) hn
    · exact ⟨c, by simp only [dead]; rw [List.getElem?_set_ne hij]; exact hj, hl, hm⟩
theorem newsOf_some {sz : Nat} {s : Slot} {v : Nat × Nat × List Cell} (h : newsOf hp sz s = some v) : ∃ c b, s = .one (.c (.sl v.1 v.2.1 c)) ∧ hp[v.1]? = some b ∧ b.live = true ∧ b.cells = v.2.2 ∧ v.2.2.length = v.2.1 * sz := by
  unfold newsOf at h
  split at h
  · rename_i i m c
    obtain ⟨b, hb, h2⟩ := Option.bind_eq_some_iff.1 h
    split at h2
    · rename_i hd
      obtain ⟨h3, h4⟩ := of_decide_eq_true hd
      injection h2 with h2
      subst h2
      exact ⟨c, b, rfl, hb, h3, rfl, h4⟩
    · cases h2
  · cases h
theorem oldsOf_some {sz e : Nat} {s : Slot} {r : Nat × List Cell × Option (Nat × Blk)} (h : oldsOf hp sz e s = some r) :
    (s = .one (.c (.v (.slice none 0 0))) ∧ r = (0, [], none)) ∨ ∃ j i b, s = .one (.c (.own j r.1 i)) ∧ hp[i]? = some b ∧ b.live = true ∧ b.opn = some (j, sz) ∧ b.elem = e ∧ b.cells.length = r.1 * sz ∧ r.2 = (b.cells, some (i, b)) := by
  unfold oldsOf at h
  split at h
  · exact .inl ⟨rfl, (Option.some.inj h).symm⟩
  · rename_i j n i
    obtain ⟨b, hb, h2⟩ := Option.bind_eq_some_iff.1 h
    unfold ownOf at h2
    split at h2
    · rename_i j' sz' ho
      split at h2
      · rename_i hd
        obtain ⟨h3, rfl, rfl, h4, h5⟩ := of_decide_eq_true hd
        injection h2 with h2
        subst h2
        exact .inr ⟨_, i, b, rfl, hb, h3, ho, h4, h5, rfl⟩
      · cases h2
    · cases h2
  · cases h
theorem app_parts {s : Slot} {chg : Chg} (h : evApp ts fr hp ne o = some (s, hp', chg)) : ∃ x y t ti e te by_ sx sy r v, appArgs o.op = some (x, y, t) ∧ evO fr x = some sx ∧ evO fr y = some sy ∧ ts.lookup t = some ti ∧ elemOf ti.d = some e ∧ ts.lookup e = some te ∧ te.bytes = some by_ ∧
    oldsOf hp te.size e sx = some r ∧ newsOf hp te.size sy = some v ∧ (0 < te.size ∧ 0 < v.2.1 ∧ r.1 + v.2.1 ≤ 1000000 ∧ (r.1 + v.2.1) * by_ ≤ 140737488355328) ∧ s = .one (.c (.own ne (r.1 + v.2.1) hp.length)) ∧ hp' = dead hp r.2.2 ++ [⟨true, r.2.1 ++ v.2.2, e, some (ne, te.size)⟩] ∧ chg = chgOfK r.2.2 := by
  unfold evApp at h
  obtain ⟨q, h1, h⟩ := Option.bind_eq_some_iff.1 h
  obtain ⟨sx, h2, h⟩ := Option.bind_eq_some_iff.1 h
  obtain ⟨sy, h3, h⟩ := Option.bind_eq_some_iff.1 h
  obtain ⟨ti, h4, h⟩ := Option.bind_eq_some_iff.1 h
  obtain ⟨e, h5, h⟩ := Option.bind_eq_some_iff.1 h
  obtain ⟨te, h6, h⟩ := Option.bind_eq_some_iff.1 h
  obtain ⟨by_, h7, h⟩ := Option.bind_eq_some_iff.1 h
  obtain ⟨r, h8, h⟩ := Option.bind_eq_some_iff.1 h
  obtain ⟨v, h9, h⟩ := Option.bind_eq_some_iff.1 h
  cases hd : decide (0 < te.size ∧ 0 < v.2.1 ∧ r.1 + v.2.1 ≤ 1000000 ∧ (r.1 + v.2.1) * by_ ≤ 140737488355328) with
  | false => rw [hd] at h; cases h
  | true =>
    rw [hd] at h
    simp only [Option.some.injEq, Prod.mk.injEq] at h
    obtain ⟨rfl, rfl, rfl⟩ := h
    exact ⟨q.1, q.2.1, q.2.2, ti, e, te, by_, sx, sy, r, v, h1, h2, h3, h4, h5, h6, h7, h8, h9, of_decide_eq_true hd, rfl, rfl, rfl⟩
theorem evApp_agree {s : Slot} {chg : Chg} (h : evApp ts fr hp ne o = some (s, hp', chg)) : Agree hp hp' chg := by
  obtain ⟨x, y, t, ti, e, te, by_, sx, sy, r, v, h1, h2, h3, h4, h5, h6, h7, h8, h9, h10, rfl, rfl, rfl⟩ := app_parts h
  have hk : ∀ i b, r.2.2 = some (i, b) → hp[i]? = some b ∧ b.live = true := fun i b hr => by
    rcases oldsOf_some h8 with ⟨_, rfl⟩ | ⟨j, i', b', _, h11, h12, _, _, _, h13⟩
    · cases hr
    · rw [h13] at hr; injection hr with hr; injection hr with hr1 hr2; subst hr1; subst hr2; exact ⟨h11, h12⟩
  have := (dead_agree hk).trans (Agree.push (dead hp r.2.2) ⟨true, r.2.1 ++ v.2.2, e, some (ne, te.size)⟩)
  rwa [List.append_nil] at this
theorem take_tail {cur : Array Value} {l : List Value} {n : Nat} (h : cur.toList.take n = l) (hl : l.length = n) : ∃ tl : Array Value, cur = l.toArray ++ tl ∧ l.length + tl.size = cur.size := by
  refine ⟨(cur.toList.drop n).toArray, ?_, ?_⟩
  · apply Array.toList_inj.1
    rw [Array.toList_append]
    simp only
    rw [← h, List.take_append_drop]
  · have h2 : n ≤ cur.size := by
      have := congrArg List.length h
      rw [List.length_take, Array.length_toList, hl] at this
      omega
    simp only [List.size_toArray, List.length_drop, Array.length_toList, hl]
    omega
theorem evApp_ok (hts : TypesOk P ts) (ha : a.tmps = (fr.map (Slot.den E)).toArray) (hfr : ∀ s, s ∈ fr → s.V E hp.length ne (RF (fz C E hp) w)) {s : Slot} {chg : Chg} (h : evApp ts fr hp ne o = some (s, hp', chg)) (hs : Hs C E hp ne w) :
    RunsN P C E hp ne w (execOp a.eval o) s hp' (ne + 1) := by
  obtain ⟨x, y, t, ti, e, te, by_, sx, sy, r, v, h1, h2, h3, h4, h5, h6, h7, h8, h9, ⟨h10, h11, h12, h13⟩, rfl, rfl, rfl⟩ := app_parts h
  obtain ⟨c, hop, hcal, hargs, htys⟩ := appArgs_some h1
  obtain ⟨e1, v1⟩ := evO_ok ha hfr h2
  obtain ⟨e2, v2⟩ := evO_ok ha hfr h3
  obtain ⟨c', b', rfl, hb', hl', hc', hn'⟩ := newsOf_some h9
  have hd := (hts _ _ h4).d
  rw [elem_some h5] at hd
  have hE := hts _ _ h6
  obtain ⟨j, z, hj, hsz, hz, hzc⟩ := hE.info
  have hby : j.bytes = by_ := by have := hE.by_ _ h7; rw [hj] at this; simpa using this
  have hzs : z.cells.size = te.size := by rw [hzc]; simpa using hE.n
  have hnews : ∀ (k : Nat) u, (v.2.2.map (Cell.den E))[k]? = some u → w.cell? ((⟨E.a v.1, 0, none⟩ : Addr).add k) = some u := fun k u hu => by
    rw [Addr.add_lit, Nat.zero_add, blk_cell (hs.blk _ _ hb' hl')]
    rw [List.getElem?_map] at hu
    obtain ⟨cl, hcl, rfl⟩ := Option.map_eq_some_iff.1 hu
    rw [← hc'] at hcl
    rw [cellsT_get hcl]
  have hone : ∀ u, u ∈ v.2.2.map (Cell.den E) → u.oneCell' = true := fun u hu => by
    obtain ⟨cl, hcl, rfl⟩ := List.mem_map.1 hu
    exact Cell.den_one (hs.cv _ _ hb' hl' cl (hc' ▸ hcl))
  have hlen : (v.2.2.map (Cell.den E)).length = v.2.1 * te.size := by simpa using hn'
  have hvn : ∀ c, c ∈ v.2.2 → c.V E hp.length ne (RF (fz C E hp) w) := fun c hc => hs.cv _ _ hb' hl' c (hc' ▸ hc)
  have hexec : ∀ {V V' : Value} {W : World}, a.eval x = V → (Builtin.append_ #[t, t] o.type #[V, .slice (some ⟨E.a v.1, 0, none⟩) v.2.1 c']).run P w = .ok V' W → (execOp a.eval o).run P w = .ok (.value V') W := fun {V V' W} hV hr => by
    have e2' : a.eval y = .slice (some ⟨E.a v.1, 0, none⟩) v.2.1 c' := e2
    simp [execOp, hop, resolve, hcal, hargs, htys, invoke, builtin, hV, e2', hr]
  have hmax : r.1 + v.2.1 ≤ maxLen := Nat.le_trans h12 (by simp only [maxLen]; omega)
  rcases oldsOf_some h8 with ⟨rfl, rfl⟩ | ⟨jj, i, b, rfl, hb, hl, hopn, hel, hbl, hr2⟩
  · obtain ⟨v', w', hrun, hown, hgr, hnil⟩ := run_append_own (P := P) w w.heap.size t o.type e j z te.size by_ hd hj hz hsz hby hzs h10 (.slice none 0 0) 0 [] (World.ownsRow_nil _ _ _ _) ⟨E.a v.1, 0, none⟩ v.2.1 c' _ hlen hnews hone hmax h13 (Nat.le_refl _)
    obtain ⟨ho1, ho2⟩ := hown
    rcases ho2 with ⟨_, h0⟩ | ⟨g, cap, cur, rfl, hg, hat, hcap, hcm, hcs, htk⟩
    · omega
    · obtain ⟨tl, rfl, htl⟩ := take_tail htk ho1
      have := app_post hs none (fun i b e => by cases e) ([] ++ v.2.2) (fun c hc => hvn c (by simpa using hc)) e te.size g (0 + v.2.1) cap tl (by simpa using hn') hcap hcm (by rw [← hcs, ← htl]; simp) (by rw [hat]; simp [cellsDen]) (.inl hg) (fun k hk _ => hgr.block k hk (by simp [Value.ownBlock])) hgr.os hgr.tape hgr.output hgr.size
      refine ⟨_, _, ?_, this, ?_⟩
      · rw [hexec e1 hrun]
        simp only [Slot.den, Part.den, Cell.den, Env.newO_h]
      · refine cell_V ⟨Nat.lt_succ_self _, by simp [dead_len], cap, ?_, hcap⟩
        rw [Env.newO_h, Env.newO_a]
  · have htl := hs.tl i b hb hl
    unfold TlOk at htl
    rw [hopn] at htl
    obtain ⟨hne, n0, cap, hhd, hb1, hb2, hb3, hb4⟩ := htl
    have hn0 : n0 = r.1 := Nat.eq_of_mul_eq_mul_right h10 (hb1.symm.trans hbl)
    subst hn0
    have hblk := hs.blk i b hb hl
    have e1' : a.eval x = .slice (some ⟨E.a i, 0, none⟩) r.1 cap := by rw [e1]; exact hhd
    have hcb : (cellsDen E b.cells).size = r.1 * te.size := by simpa [cellsDen] using hbl
    have hsum : ∀ l : List Value, (b.cells.map (Cell.den E) ++ l).toArray = cellsDen E b.cells ++ l.toArray := fun l => by simp [cellsDen]
    have hkk : ∀ i' b'', some (i, b) = some (i', b'') → hp[i']? = some b'' ∧ b''.live = true := fun i' b'' e => by injection e with e; injection e with ea eb; subst ea; subst eb; exact ⟨hb, hl⟩
    have hvo : ∀ c, c ∈ b.cells ++ v.2.2 → c.V E hp.length ne (RF (fz C E hp) w) := fun c hc => by
      rcases List.mem_append.1 hc with hc | hc
      · exact hs.cv i b hb hl c hc
      · exact hvn c hc
    have hln : (b.cells ++ v.2.2).length = (r.1 + v.2.1) * te.size := by rw [List.length_append, hbl, hn', Nat.add_mul]
    obtain ⟨rn, rc, rk⟩ := r
    simp only at *
    injection hr2 with hr3 hr4
    subst hr3
    subst hr4
    by_cases hroom : rn + v.2.1 ≤ cap
    · have howned : w.ownsRow 0 e te.size (.slice (some ⟨E.a i, 0, none⟩) rn cap) rn (b.cells.map (Cell.den E)) := by
        refine ⟨by simpa using hbl, .inr ⟨E.a i, cap, _, rfl, Nat.zero_le _, by rw [hblk, hel], hb2, hb3, ?_, ?_⟩⟩
        · rw [Array.size_append, hcb, ← hbl]; exact hb4
        · rw [Array.toList_append, List.take_append_of_le_length (by simp [cellsDen, hbl]), List.take_of_length_le (by simp [cellsDen, hbl])]; simp [cellsDen]
      obtain ⟨v', w', hrun, hown, hgr, _⟩ := run_append_own (P := P) w 0 t o.type e j z te.size by_ hd hj hz hsz hby hzs h10 _ rn _ howned ⟨E.a v.1, 0, none⟩ v.2.1 c' _ hlen hnews hone hmax h13 (Nat.zero_le _)
      have hrun2 := run_append_room_cells (P := P) w t o.type e j hd hj (E.a i) 0 rn cap ⟨E.a v.1, 0, none⟩ v.2.1 c' (v.2.2.map (Cell.den E)) (by rw [hsz]; exact hlen) hnews hone hroom (fun k hk => by
          rw [Nat.zero_add, hsz, blk_cell hblk, Array.getElem?_eq_getElem (by rw [Array.size_append, hcb]; simp only [List.length_map] at hk; have h20 : (rn + v.2.1) * te.size ≤ cap * te.size := Nat.mul_le_mul_right _ hroom; rw [Nat.add_mul] at h20; omega)]; rfl) (fun k hk => blk_frozen hblk _)
      have hinj := hrun.symm.trans hrun2
      injection hinj with hv' hw'
      obtain ⟨ho1, ho2⟩ := hown
      rcases ho2 with ⟨_, h0⟩ | ⟨g, cap', cur, hvv, hg, hat, hcap, hcm, hcs, htk⟩
      · omega
      · rw [hvv] at hv'
        injection hv' with hga hgn hgc
        injection hga with hga
        injection hga with hga
        subst hga
        subst hgc
        obtain ⟨tl, rfl, htl⟩ := take_tail htk ho1
        have := app_post hs (some (i, b)) hkk (b.cells ++ v.2.2) hvo e te.size (E.a i) (rn + v.2.1) cap' tl hln hcap hcm (by rw [← hcs, ← htl]; simp) (by rw [hat]; simp [cellsDen]) (.inr ⟨i, b, rfl, rfl⟩) (fun k hk hne => hgr.block k hk (by simp only [Value.ownBlock]; exact fun e => hne (Option.some.inj e))) hgr.os hgr.tape hgr.output hgr.size
        refine ⟨_, _, ?_, this, ?_⟩
        · rw [hexec e1' hrun, hvv]
          simp only [Slot.den, Part.den, Cell.den, Env.newO_h]
        · refine cell_V ⟨Nat.lt_succ_self _, by simp [dead_len], cap', ?_, hcap⟩
          rw [Env.newO_h, Env.newO_a]
    · obtain ⟨v', w', hrun, hown, hgr⟩ := run_append_arg_grows (P := P) w t o.type e j z te.size by_ hd hj hz hsz hby hzs h10 ⟨E.a i, 0, none⟩ rn cap (b.cells.map (Cell.den E)) (by simpa using hbl) (fun k u hu => by
          rw [Addr.add_lit, Nat.zero_add, blk_cell hblk]
          rw [List.getElem?_map] at hu
          obtain ⟨cl, hcl, rfl⟩ := Option.map_eq_some_iff.1 hu
          rw [cellsT_get hcl]) ⟨E.a v.1, 0, none⟩ v.2.1 c' _ hlen hnews (by omega) hmax h13
      obtain ⟨ho1, ho2⟩ := hown
      rcases ho2 with ⟨_, h0⟩ | ⟨g, cap', cur, rfl, hg, hat, hcap, hcm, hcs, htk⟩
      · omega
      · obtain ⟨tl, rfl, htl⟩ := take_tail htk ho1
        have := app_post hs (some (i, b)) hkk (b.cells ++ v.2.2) hvo e te.size g (rn + v.2.1) cap' tl hln hcap hcm (by rw [← hcs, ← htl]; simp) (by rw [hat]; simp [cellsDen]) (.inl hg) (fun k hk _ => hgr.block k hk (by simp)) hgr.os hgr.tape hgr.output hgr.size
        refine ⟨_, _, ?_, this, ?_⟩
        · rw [hexec e1' hrun]
          simp only [Slot.den, Part.den, Cell.den, Env.newO_h]
        · refine cell_V ⟨Nat.lt_succ_self _, by simp [dead_len], cap', ?_, hcap⟩
          rw [Env.newO_h, Env.newO_a]
end
end Ev
end Go.Proofs.Ytfbiahlogclkbaa.H
