/- The proof's texts EvG: what the statement leads to. No condition is added. -/
import Derived.Test.YtfbiahlogclkbaaEvF
import Derived.Laws.MakeOwn
set_option linter.unusedVariables false
set_option linter.unusedSimpArgs false
namespace Go.Proofs.Ytfbiahlogclkbaa.H
open Go.RowKit Go.Proofs.YtfbiahlogclkbaaW.PrintWords Go.Proofs.YtfbiahlogclkbaaW.PrintLast Go.Proofs.YtfbiahlogclkbaaW.PrintMore Go.Proofs.Ytfbiahlogclkbaa.P
namespace Ev

/-- Cells that may have changed: block, offset. -/
abbrev Chg := List (Nat × Nat)
def zerosC (z : List Value) (n : Nat) : List Cell := (List.range n).map fun i => .v (z[i % z.length]!)
def chgOf (i off : Nat) (n : Nat) : Chg := (List.range n).map fun k => (i, off + k)
def evSlice (ts : Types) (fr : List Slot) (hp : List Blk) (t n : Nat) (parts : List (Nat × Operand)) : Option (Slot × List Blk × Chg) :=
  (ts.lookup t).bind fun ti => (elemOf ti.d).bind fun e => (ts.lookup e).bind fun te =>
    match decide (n * te.size ≤ 16777216) with
    | false => none
    | true => (partsOf fr parts).bind fun ps =>
      (fillC (fun i => some (i * te.size, te.size)) (zerosC te.zero (n * te.size)) (ps.map fun q => (q.1, q.2.cells))).map fun cs =>
        (.one (.c (.sl hp.length n n)), hp ++ [⟨true, cs, e, none⟩], [])
def evStore (ts : Types) (fr : List Slot) (hp : List Blk) (t : Nat) (x y : Operand) : Option (Slot × List Blk × Chg) :=
  (ts.lookup t).bind fun ti => (evO fr x).bind fun s => (evO fr y).bind fun u =>
    match s, u with
    | .one (.c (.p i off)), .one p => (hp[i]?).bind fun b =>
      match decide (b.live = true ∧ p.cells.length = ti.size ∧ off + ti.size ≤ b.cells.length) with
      | true => some (.tup [], hp.set i { b with cells := splice b.cells off p.cells }, chgOf i off ti.size)
      | false => none
    | _, _ => none
def intV : Slot → Option Int
  | .one (.c (.v (.int .i64 n))) => some n
  | _ => none
theorem intV_some {s : Slot} {n : Int} (h : intV s = some n) : s = .one (.c (.v (.int .i64 n))) := by
  unfold intV at h
  split at h
  · rw [Option.some.inj h]
  · cases h
def evMake (ts : Types) (fr : List Slot) (hp : List Blk) (t : Nat) (x y : Operand) : Option (Slot × List Blk × Chg) :=
  (ts.lookup t).bind fun ti => (elemOf ti.d).bind fun e => (ts.lookup e).bind fun te => te.bytes.bind fun by_ => ((evO fr x).bind intV).bind fun l => ((evO fr y).bind intV).bind fun c =>
    match decide (0 ≤ l ∧ l ≤ c ∧ (by_ : Int) * c ≤ 281474976710656 ∧ c ≤ 9223372036854775807) with
    | true => some (.one (.c (.sl hp.length l.toNat c.toNat)), hp ++ [⟨true, zerosC te.zero (c.toNat * te.size), e, none⟩], [])
    | false => none
def evE (ts : Types) (fr : List Slot) (hp : List Blk) (o : Oper) : Option (Slot × List Blk × Chg) :=
  match o.op with
  | .alloc t => (ts.lookup t).map fun ti => (.one (.c (.p hp.length 0)), hp ++ [⟨true, ti.zero.map .v, t, none⟩], [])
  | .box t x => (evO fr x).bind fun s => match s with
    | .one p => some (.one (.c (.p hp.length 0)), hp ++ [⟨true, p.cells, t, none⟩], [])
    | .tup _ => none
  | .buildSlice t n parts => evSlice ts fr hp t n parts.toList
  | .makeSlice t x y => evMake ts fr hp t x y
  | .store t x y => evStore ts fr hp t x y
  | _ => none
/-- All but the cells told is as it was. -/
def Agree (hp hp' : List Blk) (chg : Chg) : Prop := ∀ (i : Nat) (b : Blk), hp[i]? = some b → b.live = true → ∀ (j : Nat) (c : Cell), b.cells[j]? = some c → (i, j) ∉ chg → ∃ b', hp'[i]? = some b' ∧ b'.live = true ∧ b'.cells[j]? = some c
theorem Agree.refl (hp : List Blk) : Agree hp hp [] := fun i b hi hl j c hj _ => ⟨b, hi, hl, hj⟩
theorem Agree.trans {hp hp' hp'' : List Blk} {x y : Chg} (h : Agree hp hp' x) (h' : Agree hp' hp'' y) : Agree hp hp'' (x ++ y) := fun i b hi hl j c hj hn => by
  obtain ⟨b', h1, h2, h3⟩ := h i b hi hl j c hj (fun e => hn (List.mem_append_left _ e))
  exact h' i b' h1 h2 j c h3 (fun e => hn (List.mem_append_right _ e))
theorem Agree.push (hp : List Blk) (x : Blk) : Agree hp (hp ++ [x]) [] := fun i b hi hl j c hj _ => ⟨b, by rw [List.getElem?_append_left (idx_lt hi)]; exact hi, hl, hj⟩
section
variable {P : Program} {ts : Types} {C : Ctx} {E : Env} {hp hp' : List Blk} {ne : Nat} {w : World} {fr : List Slot} {a : Act} {o : Oper}
theorem Agree.store {i off : Nat} {b : Blk} (hi : hp[i]? = some b) (vs : List Cell) : Agree hp (hp.set i { b with cells := splice b.cells off vs }) (chgOf i off vs.length) := fun j c hj hl k x hk hn => by
  by_cases hij : i = j
  · subst hij
    rw [hi] at hj
    injection hj with hj
    subst hj
    refine ⟨{ b with cells := splice b.cells off vs }, by rw [List.getElem?_set_self (idx_lt hi)], hl, ?_⟩
    rw [splice_far _ _ _ _ ?_]
    · exact hk
    · by_cases h1 : k < off
      · exact .inl h1
      · by_cases h2 : off + vs.length ≤ k
        · exact .inr h2
        · exact absurd (List.mem_map.2 ⟨k - off, by simp; omega, by simp; omega⟩) hn
  · exact ⟨c, by rw [List.getElem?_set_ne hij]; exact hj, hl, hk⟩
/-- The operation runs: its value, and what it leaves. -/
def Runs (P : Program) (C : Ctx) (E : Env) (hp : List Blk) (ne : Nat) (w : World) (x : Sem Next) (s : Slot) (hp' : List Blk) : Prop :=
  ∃ E' w', (x.run P w = .ok (.value (s.den E')) w' ∨ (x.run P w = .ok .skip w' ∧ s = .tup [])) ∧ Post C E hp ne w E' hp' ne w' ∧ s.V E' hp'.length ne (RF (fz C E' hp') w')
theorem runs_push {x : Sem Next} {cells : List Cell} {T : Nat} {s : Slot} (h : Hs C E hp ne w) (hv : ∀ c, c ∈ cells → c.V E hp.length ne (RF (fz C E hp) w)) (hs : s.V (E.newA hp.length w.heap.size) (hp.length + 1) ne (fun _ _ => False))
    (hx : x.run P w = .ok (.value (s.den (E.newA hp.length w.heap.size))) (w.alloc (.cells (cellsDen E cells) T))) : Runs P C E hp ne w x s (hp ++ [⟨true, cells, T, none⟩]) :=
  ⟨_, _, .inl hx, push_post h cells T hv, by
    have := Slot.V_le (Env.Le.refl _ _ _) (Nat.le_refl _) (Nat.le_refl _) (q' := RF (fz C (E.newA hp.length w.heap.size) (hp ++ [⟨true, cells, T, none⟩])) (w.alloc (.cells (cellsDen E cells) T))) (fun r A h => h.elim) hs
    simpa using this⟩
theorem newRow_run (w : World) (T : Nat) (cells : Array Value) : (newRow T cells).run P w = .ok ⟨w.heap.size, 0, none⟩ (w.alloc (.cells cells T)) := by
  simp only [newRow, Sem.run_bind, run_newObj, Result.andThen_ok, Sem.run_pure]
  rfl
theorem zerosC_den (E : Env) (z : List Value) (n : Nat) : cellsDen E (zerosC z n) = (Array.range n).map fun i => z.toArray[i % z.toArray.size]! := by
  apply Array.toList_inj.1
  simp [cellsDen, zerosC, Function.comp_def, Cell.den]
theorem evSlice_ok (hts : TypesOk P ts) (ha : a.tmps = (fr.map (Slot.den E)).toArray) (hfr : ∀ s, s ∈ fr → s.V E hp.length ne (RF (fz C E hp) w)) {t n : Nat} {parts : Array (Nat × Operand)} {s : Slot} {chg : Chg} (h : evSlice ts fr hp t n parts.toList = some (s, hp', chg)) (hs : Hs C E hp ne w) :
    Runs P C E hp ne w (do pure (.value (← Instr.buildSlice t n (parts.map fun (i, x) => (i, a.eval x))))) s hp' ∧ Agree hp hp' chg := by
  unfold evSlice at h
  obtain ⟨ti, hti, h2⟩ := Option.bind_eq_some_iff.1 h
  obtain ⟨e, he, h3⟩ := Option.bind_eq_some_iff.1 h2
  obtain ⟨te, hte, h4⟩ := Option.bind_eq_some_iff.1 h3
  clear h h2 h3
  cases hd0 : decide (n * te.size ≤ 16777216) with
  | false => rw [hd0] at h4; cases h4
  | true =>
    rw [hd0] at h4
    have hn := of_decide_eq_true hd0
    obtain ⟨ps, hps, h5⟩ := Option.bind_eq_some_iff.1 h4
    obtain ⟨cs, hcs, h6⟩ := Option.map_eq_some_iff.1 h5
    simp only [Prod.mk.injEq] at h6
    obtain ⟨rfl, rfl, rfl⟩ := h6
    clear h4 h5
    have hT := hts _ _ hti
    have hd := hT.d
    rw [elem_some he] at hd
    have hE := hts _ _ hte
    obtain ⟨z, hz1, hz2⟩ := hE.zeroValue
    obtain ⟨hq1, hq2⟩ := partsOf_ok ha hfr hps
    have hf := fill_ok E _ hq1 hcs
    refine ⟨runs_push hs ?_ ?_ ?_, Agree.push _ _⟩
    · intro c hc
      rcases fillC_mem hcs hc with h6 | ⟨y, hy, h6⟩
      · obtain ⟨i, hi, rfl⟩ := List.mem_map.1 h6
        have hi := List.mem_range.1 hi
        have h7 : 0 < te.size := Nat.pos_of_ne_zero (fun h0 => by rw [h0, Nat.mul_zero] at hi; omega)
        have h8 : i % te.zero.length < te.zero.length := Nat.mod_lt _ (by rw [hE.n]; exact h7)
        refine hE.one _ ?_
        rw [getElem!_pos te.zero _ h8]
        exact List.getElem_mem _
      · obtain ⟨y', hy', rfl⟩ := List.mem_map.1 hy
        exact hq2 y' hy' c h6
    · exact cell_V (show hp.length < hp.length + 1 by omega)
    · have h9 : ¬ n * te.size > 2 ^ 24 := by simp only [Nat.reducePow]; omega
      simp only [Instr.buildSlice, Sem.run_bind, run_underlying hd w, Result.andThen_ok, hE.sizeOf w, Sem.run_ite, if_neg h9, Sem.run_pure, Array.toList_map]
      by_cases h0 : n * te.size = 0
      · have h8 : ((Array.range (n * te.size)).map fun i => (#[] : Array Value)[i % (#[] : Array Value).size]!) = cellsDen E (zerosC te.zero (n * te.size)) := by
          rw [zerosC_den, h0]
          simp
        rw [if_pos h0]
        simp only [h8, hf, Sem.run_bind, newRow_run, Result.andThen_ok, Sem.run_pure, Slot.den, Part.den, Cell.den, Env.newA_at]
      · rw [if_neg h0]
        simp only [hz2 w, Result.andThen_ok, hz1, ← zerosC_den E, hf, Sem.run_bind, newRow_run, Sem.run_pure, Slot.den, Part.den, Cell.den, Env.newA_at]
theorem evStore_ok (hts : TypesOk P ts) (ha : a.tmps = (fr.map (Slot.den E)).toArray) (hfr : ∀ s, s ∈ fr → s.V E hp.length ne (RF (fz C E hp) w)) {t : Nat} {x y : Operand} {s : Slot} {chg : Chg} (h : evStore ts fr hp t x y = some (s, hp', chg)) (hs : Hs C E hp ne w) :
    Runs P C E hp ne w (do Instr.storeAt t (a.eval x) (a.eval y); pure .skip) s hp' ∧ Agree hp hp' chg := by
  unfold evStore at h
  obtain ⟨ti, hti, h2⟩ := Option.bind_eq_some_iff.1 h
  obtain ⟨s1, hs1, h3⟩ := Option.bind_eq_some_iff.1 h2
  obtain ⟨s2, hs2, h4⟩ := Option.bind_eq_some_iff.1 h3
  clear h h2 h3
  obtain ⟨e1, v1⟩ := evO_ok ha hfr hs1
  obtain ⟨e2, v2⟩ := evO_ok ha hfr hs2
  split at h4
  · rename_i i off p
    obtain ⟨b, hb, h5⟩ := Option.bind_eq_some_iff.1 h4
    split at h5
    · rename_i hc
      obtain ⟨hl, hc1, hc2⟩ := of_decide_eq_true hc
      simp only [Option.some.injEq, Prod.mk.injEq] at h5
      obtain ⟨rfl, rfl, rfl⟩ := h5
      have hcells : (Part.den E p).cells = cellsDen E p.cells := Part.den_cells v2
      refine ⟨⟨E, _, .inr ⟨?_, rfl⟩, store_post hs hb hl off p.cells (by omega) v2, fun q hq => by simp at hq⟩, by rw [← hc1]; exact Agree.store hb p.cells⟩
      have hblk := hs.blk i b hb hl
      have hst := run_storeCells_cells (P := P) (E.a i) off (p.cells.map (Cell.den E)) 0 w (fun j hj => by
          rw [Nat.add_zero, blk_cell hblk]
          simp only [List.length_map] at hj
          rw [cellsT_get (List.getElem?_eq_getElem (show off + j < b.cells.length by omega))]
          rfl) (fun j hj => blk_frozen hblk _) (fun v hv => by
          obtain ⟨c, hc, rfl⟩ := List.mem_map.1 hv
          exact Cell.den_one (v2 c hc))
      have e1' : a.eval x = .pointer (some ⟨E.a i, off, none⟩) := e1
      simp only [Instr.storeAt, e1', e2, Slot.den, Instr.sureAddr, storeVar, Sem.run_bind, Sem.run_pure, Result.andThen_ok, (hts _ _ hti).sizeOf w, hcells, cellsDen, List.size_toArray, List.length_map, hc1, ne_eq, not_true_eq_false, if_false, hst, Nat.add_zero]
    · cases h5
  · cases h4
theorem make_parts {t : Nat} {x y : Operand} {s : Slot} {chg : Chg} (h : evMake ts fr hp t x y = some (s, hp', chg)) : ∃ ti e te by_ l c, ts.lookup t = some ti ∧ elemOf ti.d = some e ∧ ts.lookup e = some te ∧ te.bytes = some by_ ∧ evO fr x = some (.one (.c (.v (.int .i64 l)))) ∧ evO fr y = some (.one (.c (.v (.int .i64 c)))) ∧
    (0 ≤ l ∧ l ≤ c ∧ (by_ : Int) * c ≤ 281474976710656 ∧ c ≤ 9223372036854775807) ∧ s = .one (.c (.sl hp.length l.toNat c.toNat)) ∧ hp' = hp ++ [⟨true, zerosC te.zero (c.toNat * te.size), e, none⟩] ∧ chg = [] := by
  unfold evMake at h
  obtain ⟨ti, h1, h⟩ := Option.bind_eq_some_iff.1 h
  obtain ⟨e, h2, h⟩ := Option.bind_eq_some_iff.1 h
  obtain ⟨te, h3, h⟩ := Option.bind_eq_some_iff.1 h
  obtain ⟨by_, h4, h⟩ := Option.bind_eq_some_iff.1 h
  obtain ⟨l, h5, h⟩ := Option.bind_eq_some_iff.1 h
  obtain ⟨c, h6, h⟩ := Option.bind_eq_some_iff.1 h
  obtain ⟨sx, h5, h7⟩ := Option.bind_eq_some_iff.1 h5
  obtain ⟨sy, h6, h8⟩ := Option.bind_eq_some_iff.1 h6
  have := intV_some h7
  subst this
  have := intV_some h8
  subst this
  split at h
  · rename_i hd
    simp only [Option.some.injEq, Prod.mk.injEq] at h
    obtain ⟨rfl, rfl, rfl⟩ := h
    exact ⟨ti, e, te, by_, l, c, h1, h2, h3, h4, h5, h6, of_decide_eq_true hd, rfl, rfl, rfl⟩
  · cases h
theorem evMake_ok (hts : TypesOk P ts) (ha : a.tmps = (fr.map (Slot.den E)).toArray) (hfr : ∀ s, s ∈ fr → s.V E hp.length ne (RF (fz C E hp) w)) {t : Nat} {x y : Operand} {s : Slot} {chg : Chg} (h : evMake ts fr hp t x y = some (s, hp', chg)) (hs : Hs C E hp ne w) :
    Runs P C E hp ne w (do pure (.value (← Instr.makeSlice t (a.eval x) (a.eval y)))) s hp' ∧ Agree hp hp' chg := by
  obtain ⟨ti, e, te, by_, l, c, h1, h2, h3, h4, h5, h6, ⟨h7, h8, h9, h10⟩, rfl, rfl, rfl⟩ := make_parts h
  obtain ⟨e1, _⟩ := evO_ok ha hfr h5
  obtain ⟨e2, _⟩ := evO_ok ha hfr h6
  have hd := (hts _ _ h1).d
  rw [elem_some h2] at hd
  have hE := hts _ _ h3
  obtain ⟨j, z, hj, hsz, hz, hzc⟩ := hE.info
  have hby : j.bytes = by_ := by have := hE.by_ _ h4; rw [hj] at this; simpa using this
  refine ⟨runs_push hs ?_ ?_ ?_, Agree.push _ _⟩
  · intro x hx
    obtain ⟨i, hi, rfl⟩ := List.mem_map.1 hx
    have hi := List.mem_range.1 hi
    have h11 : 0 < te.size := Nat.pos_of_ne_zero (fun h0 => by rw [h0, Nat.mul_zero] at hi; omega)
    have h12 : i % te.zero.length < te.zero.length := Nat.mod_lt _ (by rw [hE.n]; exact h11)
    refine hE.one _ ?_
    rw [getElem!_pos te.zero _ h12]
    exact List.getElem_mem _
  · exact cell_V (show hp.length < hp.length + 1 by omega)
  · have hr := run_make (P := P) w t e j z hd hj hz .i64 .i64 l c h7 h8 (by rw [hby]; exact h9) h10
    have e1' : a.eval x = .int .i64 l := e1
    have e2' : a.eval y = .int .i64 c := e2
    rw [zerosC_den, ← hzc, ← hsz]
    simp only [Sem.run_bind, e1', e2', hr, Result.andThen_ok, Sem.run_pure, Slot.den, Part.den, Cell.den, Env.newA_at]
    rfl
theorem evE_ok (hts : TypesOk P ts) (ha : a.tmps = (fr.map (Slot.den E)).toArray) (hfr : ∀ s, s ∈ fr → s.V E hp.length ne (RF (fz C E hp) w)) {s : Slot} {chg : Chg} (h : evE ts fr hp o = some (s, hp', chg)) (hs : Hs C E hp ne w) :
    Runs P C E hp ne w (execOp a.eval o) s hp' ∧ Agree hp hp' chg := by
  obtain ⟨dst, op, type, pos, after, guard⟩ := o
  cases op
  case alloc t =>
    obtain ⟨ti, hti, h2⟩ := Option.map_eq_some_iff.1 h
    simp only [Prod.mk.injEq] at h2
    obtain ⟨rfl, rfl, rfl⟩ := h2
    have hT := hts _ _ hti
    obtain ⟨z, hz1, hz2⟩ := hT.zeroValue
    refine ⟨runs_push hs ?_ ?_ ?_, Agree.push _ _⟩
    · intro c hc
      obtain ⟨x, hx, rfl⟩ := List.mem_map.1 hc
      exact hT.one x hx
    · exact cell_V (show hp.length < hp.length + 1 by omega)
    · simp only [execOp, Instr.alloc, Sem.run_bind, hz2 w, Result.andThen_ok, newVar, newRow_run, hz1, zero_den, Sem.run_pure, Slot.den, Part.den, Cell.den, Env.newA_at]
  case box t x =>
    obtain ⟨s1, hs1, h2⟩ := Option.bind_eq_some_iff.1 h
    obtain ⟨e1, v1⟩ := evO_ok ha hfr hs1
    split at h2
    · rename_i p
      simp only [Option.some.injEq, Prod.mk.injEq] at h2
      obtain ⟨rfl, rfl, rfl⟩ := h2
      refine ⟨runs_push hs v1 ?_ ?_, Agree.push _ _⟩
      · exact cell_V (show hp.length < hp.length + 1 by omega)
      · have hcells : (Part.den E p).cells = cellsDen E p.cells := Part.den_cells v1
        simp only [execOp, Instr.box, Sem.run_bind, Result.andThen_ok, newVar, newRow_run, e1, Slot.den, hcells, Sem.run_pure]
        simp only [Part.den, Cell.den, Env.newA_at]
    · cases h2
  case buildSlice t n parts => exact evSlice_ok hts ha hfr h hs
  case makeSlice t x y => exact evMake_ok hts ha hfr h hs
  case store t x y => exact evStore_ok hts ha hfr h hs
  all_goals cases h
end
end Ev
end Go.Proofs.Ytfbiahlogclkbaa.H
