/- The proof's texts EvC EvD EvE: what the statement leads to. No condition is added. -/
import Derived.Test.YtfbiahlogclkbaaEvB
import Derived.Deep.Slices
set_option linter.unusedVariables false
set_option linter.unusedSimpArgs false
namespace Go.Proofs.Ytfbiahlogclkbaa.H
open Go.RowKit Go.Proofs.YtfbiahlogclkbaaW.PrintWords Go.Proofs.YtfbiahlogclkbaaW.PrintLast Go.Proofs.YtfbiahlogclkbaaW.PrintMore Go.Proofs.Ytfbiahlogclkbaa.P
namespace Ev

/-- What the program tells of a type. -/
structure TIOk (P : Program) (t : Nat) (ti : TI) : Prop where
  d : P.underlying t = some ti.d
  i : (P.info? t).map (fun j => (j.size, j.zero.map Value.cells)) = some (ti.size, some ti.zero.toArray)
  n : ti.zero.length = ti.size
  one : ∀ v, v ∈ ti.zero → v.oneCell' = true
  by_ : ∀ n, ti.bytes = some n → (P.info? t).map (·.bytes) = some n
def TypesOk (P : Program) (ts : Types) : Prop := ∀ t ti, ts.lookup t = some ti → TIOk P t ti
theorem TIOk.info {P : Program} {t : Nat} {ti : TI} (h : TIOk P t ti) : ∃ j z, P.info? t = some j ∧ j.size = ti.size ∧ j.zero = some z ∧ z.cells = ti.zero.toArray := by
  have := h.i
  cases hj : P.info? t with
  | none => rw [hj] at this; simp at this
  | some j =>
    rw [hj] at this
    simp only [Option.map_some, Option.some.injEq, Prod.mk.injEq] at this
    obtain ⟨h1, h2⟩ := this
    obtain ⟨z, hz, h3⟩ := Option.map_eq_some_iff.1 h2
    exact ⟨j, z, rfl, h1, hz, h3⟩
theorem TIOk.sizeOf {P : Program} {t : Nat} {ti : TI} (h : TIOk P t ti) (w : World) : (sizeOf t).run P w = .ok ti.size w := by
  obtain ⟨j, z, h1, h2, _⟩ := h.info
  simp [Go.sizeOf, typeInfo, h1, h2]
theorem TIOk.isAgg {P : Program} {t : Nat} {ti : TI} (h : TIOk P t ti) (w : World) : (isAgg t).run P w = .ok ti.d.isRow w := by
  unfold Go.isAgg
  rw [Sem.run_bind, run_underlying h.d w]
  cases ti.d <;> rfl
theorem TIOk.zeroValue {P : Program} {t : Nat} {ti : TI} (h : TIOk P t ti) : ∃ z, z.cells = ti.zero.toArray ∧ ∀ w, (zeroValue t).run P w = .ok z w := by
  obtain ⟨j, z, h1, h2, h3, h4⟩ := h.info
  exact ⟨z, h4, fun w => by simp [Go.zeroValue, typeInfo, h1, h3]⟩
theorem loadVar_row {P : Program} {t : Nat} {ti : TI} (h : TIOk P t ti) (hr : ti.d.isRow = true) {w : World} {a : Addr} {cs : List Value} (hc : ∀ (j : Nat) v, cs[j]? = some v → w.cell? (a.add j) = some v) (hl : cs.length = ti.size) : (loadVar t a).run P w = .ok (.agg cs.toArray) w := by
  unfold loadVar
  rw [Sem.run_bind, h.isAgg w, hr]
  simp only [Result.andThen_ok, if_true, Sem.run_bind, h.sizeOf w, ← hl, run_loadCells_list (P := P) w a cs hc, Result.andThen_ok, Sem.run_pure]
theorem loadVar_one {P : Program} {t : Nat} {ti : TI} (h : TIOk P t ti) (hr : ti.d.isRow = false) {w : World} {a : Addr} {v : Value} (hc : w.cell? a = some v) : (loadVar t a).run P w = .ok v w := by
  unfold loadVar
  rw [Sem.run_bind, h.isAgg w, hr]
  simp [hc]
theorem allSome_get {α : Type} : ∀ {l : List (Option α)} {r : List α}, allSome l = some r → r.length = l.length ∧ ∀ (j : Nat) x, r[j]? = some x → l[j]? = some (some x)
  | [], r, h => by simp only [allSome, Option.some.injEq] at h; subst h; exact ⟨rfl, fun j x hx => by simp at hx⟩
  | x :: l, r, h => by
    simp only [allSome] at h
    obtain ⟨y, rfl, h2⟩ := Option.bind_eq_some_iff.1 h
    obtain ⟨q, hq, rfl⟩ := Option.map_eq_some_iff.1 h2
    obtain ⟨h3, h4⟩ := allSome_get hq
    refine ⟨by simp [h3], fun j z hz => ?_⟩
    cases j with
    | zero => simpa using hz
    | succ j => exact h4 j z (by simpa using hz)
theorem cut_get {α : Type} {l r : List α} {off n : Nat} (h : cut l off n = some r) : r.length = n ∧ ∀ (j : Nat) x, r[j]? = some x → l[off + j]? = some x := by
  unfold cut at h
  cases hd : decide (((l.drop off).take n).length = n) with
  | false => rw [hd] at h; cases h
  | true =>
    rw [hd] at h
    simp only [Option.some.injEq] at h
    subst h
    refine ⟨of_decide_eq_true hd, fun j x hx => ?_⟩
    rw [List.getElem?_take] at hx
    split at hx
    · rwa [List.getElem?_drop] at hx
    · cases hx
theorem asOne_some {cs : List Cell} {p : Part} (h : asOne cs = some p) : ∃ c, cs = [c] ∧ p = .c c := by
  unfold asOne at h
  split at h
  · exact ⟨_, rfl, (Option.some.inj h).symm⟩
  · cases h
section
variable {P : Program} {ts : Types} {E : Env} {nb ne : Nat} {q : RowP} {Wd : World → Prop} {fz : Nat → Prop} {wr : World} {fr : List Slot} {a : Act} {o : Oper}

theorem evO_ok (ha : a.tmps = (fr.map (Slot.den E)).toArray) (hfr : ∀ s, s ∈ fr → s.V E nb ne q) {x : Operand} {s : Slot} (h : evO fr x = some s) : a.eval x = s.den E ∧ s.V E nb ne q := by
  cases x with
  | tmp t =>
    simp only [evO] at h
    refine ⟨?_, hfr s (List.mem_of_getElem? h)⟩
    simp [Act.eval, ha, h]
  | const x =>
    simp only [evO] at h
    cases hx : x.oneCell' with
    | false => rw [hx] at h; cases h
    | true =>
      rw [hx] at h
      simp only [Option.some.injEq] at h
      subst h
      refine ⟨rfl, fun c hc => ?_⟩
      simp only [Part.cells, List.mem_singleton] at hc
      subst hc
      exact hx
  | global g => simp [evO] at h
  | func f =>
    simp only [evO, Option.some.injEq] at h
    subst h
    refine ⟨rfl, fun c hc => ?_⟩
    simp only [Part.cells, List.mem_singleton] at hc
    subst hc
    exact ⟨fun t ht => by simp at ht, fun t ht => by simp at ht⟩
theorem purely_run {P : Program} : ∀ {s : Sem Next} {v : Value}, purely P s = some v → ∀ w, s.run P w = .ok (.value v) w
  | .pure (.value x), v, h, w => by simp only [purely, Option.some.injEq] at h; subst h; rfl
  | .program k, v, h, w => by
    simp only [purely] at h
    exact purely_run h w
theorem Slot.val_some {s : Slot} {x : Value} (h : s.val? = some x) : s = .one (.c (.v x)) := by
  unfold Slot.val? at h
  split at h
  · rw [Option.some.inj h]
  · cases h
theorem scal_ok (ha : a.tmps = (fr.map (Slot.den E)).toArray) (hfr : ∀ s, s ∈ fr → s.V E nb ne q) {v : Value} (h : scal P fr o = some v) : (∀ w, (execOp a.eval o).run P w = .ok (.value v) w) ∧ v.oneCell' = true := by
  have hs : ∀ cs b, o.op ≠ .select cs b := by
    intro cs b he
    unfold scal at h
    rw [he] at h
    cases h
  have h2 : (match o.op.operands.toList.all (closed fr) with | true => (match purely P (execOp (opV fr) o) with | some v => (match v.oneCell' with | true => some v | false => none) | none => none) | false => none) = some v := by
    unfold scal at h
    split at h
    · cases h
    · exact h
  cases hc : o.op.operands.toList.all (closed fr) with
  | false => rw [hc] at h2; cases h2
  | true =>
    rw [hc] at h2
    simp only at h2
    cases hp : purely P (execOp (opV fr) o) with
    | none => rw [hp] at h2; cases h2
    | some v' =>
      rw [hp] at h2
      simp only at h2
      cases h1 : v'.oneCell' with
      | false => rw [h1] at h2; cases h2
      | true =>
        rw [h1] at h2
        simp only [Option.some.injEq] at h2
        subst h2
        refine ⟨fun w => ?_, h1⟩
        rw [execOp_congr (ρ := a.eval) (ρ' := opV fr) o hs (fun x hx => ?_)]
        · exact purely_run hp w
        · have := List.all_eq_true.1 hc x (by simpa using hx)
          unfold closed at this
          obtain ⟨y, hy⟩ := Option.isSome_iff_exists.1 this
          obtain ⟨s, hs1, hs2⟩ := Option.bind_eq_some_iff.1 hy
          have hv := Slot.val_some hs2
          subst hv
          rw [(evO_ok ha hfr hs1).1]
          simp [opV, hs1, Slot.val?, Slot.den, Part.den, Cell.den]

/-- What a mask tells is so. -/
def MaskAt (E : Env) (m : Mask) (w : World) : Prop := ∀ (i j : Nat) (c : Cell), (m.getD i [])[j]? = some (some c) → w.cell? ⟨E.a i, j, none⟩ = some (c.den E)
def MaskV (E : Env) (nb ne : Nat) (q : RowP) (m : Mask) : Prop := ∀ (i : Nat) (c : Cell), some c ∈ m.getD i [] → c.V E nb ne q
def Alike (fz : Nat → Prop) (wr w : World) : Prop := ∀ k, fz k → k < wr.heap.size → w.heap[k]? = wr.heap[k]?
/-- In every world that is as told x comes to s. -/
def Gives (P : Program) (E : Env) (nb ne : Nat) (q : RowP) (Wd : World → Prop) (m : Mask) (x : Sem Value) (s : Slot) (dn : Nat) : Prop :=
  ∃ E', E.Le E' nb ne ∧ (E'.a = E.a ∧ E'.t = E.t) ∧ (dn = 0 → E' = E) ∧ s.V E' nb (ne + dn) q ∧ ∀ w, MaskAt E m w → Wd w → x.run P w = .ok (s.den E') w
theorem opart_get {ti : TI} {cs : List (Option Cell)} {off : Nat} {p : Part} (h : opart ti cs off = some p) :
    (ti.d.isRow = true ∧ ∃ l, p = .agg l ∧ l.length = ti.size ∧ ∀ (j : Nat) c, l[j]? = some c → cs[off + j]? = some (some c)) ∨ (ti.d.isRow = false ∧ ∃ c, p = .c c ∧ cs[off]? = some (some c)) := by
  unfold opart at h
  cases hr : ti.d.isRow with
  | true =>
    rw [hr] at h
    obtain ⟨l, h1, rfl⟩ := Option.map_eq_some_iff.1 h
    obtain ⟨r, h2, h3⟩ := Option.bind_eq_some_iff.1 h1
    obtain ⟨h4, h5⟩ := cut_get h2
    obtain ⟨h6, h7⟩ := allSome_get h3
    exact .inl ⟨rfl, l, rfl, by omega, fun j c hj => h5 j _ (h7 j c hj)⟩
  | false =>
    rw [hr] at h
    obtain ⟨l, h1, h8⟩ := Option.bind_eq_some_iff.1 h
    obtain ⟨r, h2, h3⟩ := Option.bind_eq_some_iff.1 h1
    obtain ⟨h4, h5⟩ := cut_get h2
    obtain ⟨h6, h7⟩ := allSome_get h3
    obtain ⟨c, rfl, rfl⟩ := asOne_some h8
    exact .inr ⟨rfl, c, rfl, by have := h5 0 _ (h7 0 c rfl); simpa using this⟩
theorem part_get {ti : TI} {cs : List Cell} {off : Nat} {p : Part} (h : part ti cs off = some p) :
    (ti.d.isRow = true ∧ ∃ l, p = .agg l ∧ l.length = ti.size ∧ l = (cs.drop off).take ti.size ∧ ∀ (j : Nat) c, l[j]? = some c → cs[off + j]? = some c) ∨ (ti.d.isRow = false ∧ ∃ c, p = .c c ∧ cs[off]? = some c) := by
  unfold part at h
  cases hr : ti.d.isRow with
  | true =>
    rw [hr] at h
    obtain ⟨l, h1, rfl⟩ := Option.map_eq_some_iff.1 h
    obtain ⟨h4, h5⟩ := cut_get h1
    refine .inl ⟨rfl, l, rfl, h4, ?_, h5⟩
    unfold cut at h1
    split at h1
    · exact (Option.some.inj h1).symm
    · cases h1
  | false =>
    rw [hr] at h
    obtain ⟨r, h2, h8⟩ := Option.bind_eq_some_iff.1 h
    obtain ⟨h4, h5⟩ := cut_get h2
    obtain ⟨c, rfl, rfl⟩ := asOne_some h8
    exact .inr ⟨rfl, c, rfl, by have := h5 0 c rfl; simpa using this⟩
theorem FB_open {W : World} {ok : Nat → Prop} {p : Bx} {cs : List Value} (h : Kd.FK k39 W ok p cs) : ∃ A c, cs = boxL p A c ∧ p.f6.length ≤ c ∧ Kd.F k49 W ok A p.f6.length p.f6 := by
  obtain ⟨A, c, rfl, hl, _⟩ := k39_open (Kd.FK_now h)
  refine ⟨A, c, rfl, hl, fun W' hW => ?_⟩
  obtain ⟨A', c', he, _, h8⟩ := k39_open (h W' hW)
  simp only [List.cons.injEq, Value.slice.injEq, true_and, and_true] at he
  rw [he.1]
  exact h8
/-- A slice more. -/
def Env.more (E : Env) (ne : Nat) (v : Value) : Env := ⟨E.a, fun k => if k = ne then v else E.h k, E.t⟩
theorem Env.more_le (E : Env) (nb ne : Nat) (v : Value) : E.Le (E.more ne v) nb ne := ⟨fun _ _ => rfl, fun j hj => by simp only [Env.more]; rw [if_neg (by omega)], fun _ _ => rfl⟩
theorem Env.more_at (E : Env) (ne : Nat) (v : Value) : (E.more ne v).h ne = v := by simp [Env.more]
theorem elem_ok {r : Row} {v : Value} {idx : Nat} {es : List Cell} (h : r.Ok v (RF fz wr)) (hi : idx < r.len) (he : r.elem idx ne = some es) :
    ∃ ad n c u, v = .slice (some ad) n c ∧ es.length = r.sz ∧ (∀ x, x ∈ es → x.V (E.more ne u) nb (ne + 1) (RF fz wr)) ∧ (∀ (j : Nat) x, es[j]? = some x → wr.cell? (ad.add (idx * r.sz + j)) = some (x.den (E.more ne u))) ∧ fz ad.block := by
  obtain ⟨A, c, rfl, hc, hF⟩ := h
  cases r with
  | ints l =>
    obtain ⟨x, hx, rfl⟩ := Option.map_eq_some_iff.1 he
    obtain ⟨ad, cs, rfl, _, hK, hcc, hin⟩ := Kd.F_get hF 0 (idx : Int) (by omega) (by have : idx < l.length := hi; omega)
    obtain rfl : cs = [Value.int .i64 (l.getD (idx : Int).toNat 0)] := Kd.FK_now hK
    refine ⟨ad, _, c, undef, rfl, rfl, fun y hy => ?_, fun j y hy => ?_, hin (by decide)⟩
    · simp only [List.mem_singleton] at hy
      subst hy
      rfl
    · have h0 := hcc 0 _ rfl
      cases j with
      | zero =>
        simp only [List.getElem?_cons_zero, Option.some.injEq] at hy
        subst hy
        simpa [Row.sz, Kd.int, Kd.scalar, Cell.den, List.getD_eq_getElem?_getD, hx] using h0
      | succ j => simp at hy
  | kids l =>
    obtain ⟨x, hx, rfl⟩ := Option.map_eq_some_iff.1 he
    obtain ⟨ad, cs, rfl, _, hK, hcc, hin⟩ := Kd.F_get hF z49 (idx : Int) (by omega) (by have : idx < l.length := hi; omega)
    rw [Int.toNat_natCast, List.getD_eq_getElem?_getD, hx, Option.getD_some] at hK
    obtain ⟨A8, c8, rfl, l8, g8⟩ := FK_open hK
    refine ⟨ad, _, c, .slice A8 x.f2.f6.length c8, rfl, rfl, fun y hy => ?_, fun j y hy => ?_, hin (show 0 < 9 by decide)⟩
    · simp only [List.mem_cons, List.not_mem_nil, or_false] at hy
      rcases hy with rfl | rfl | rfl | rfl | rfl | rfl | rfl | rfl | rfl
      all_goals first | rfl | exact ⟨by omega, A8, c8, by rw [Env.more_at]; rfl, l8, g8⟩
    · have h1 : (kidL x A8 c8)[j]? = some (y.den (E.more ne (.slice A8 x.f2.f6.length c8))) := by
        match j with
        | 0 | 1 | 2 | 3 | 4 | 5 | 6 | 7 => simp at hy; subst hy; rfl
        | 8 => simp at hy; subst hy; simp [Cell.den, Env.more_at]
        | j + 9 => simp at hy
      have h2 := hcc j _ h1
      rwa [Int.toNat_natCast] at h2
  | boxes l =>
    obtain ⟨x, hx, rfl⟩ := Option.map_eq_some_iff.1 he
    obtain ⟨ad, cs, rfl, _, hK, hcc, hin⟩ := Kd.F_get hF z39 (idx : Int) (by omega) (by have : idx < l.length := hi; omega)
    rw [Int.toNat_natCast, List.getD_eq_getElem?_getD, hx, Option.getD_some] at hK
    obtain ⟨A8, c8, rfl, l8, g8⟩ := FB_open hK
    refine ⟨ad, _, c, .slice A8 x.f6.length c8, rfl, rfl, fun y hy => ?_, fun j y hy => ?_, hin (show 0 < 7 by decide)⟩
    · simp only [List.mem_cons, List.not_mem_nil, or_false] at hy
      rcases hy with rfl | rfl | rfl | rfl | rfl | rfl | rfl
      all_goals first | rfl | exact ⟨by omega, A8, c8, by rw [Env.more_at]; rfl, l8, g8⟩
    · have h1 : (boxL x A8 c8)[j]? = some (y.den (E.more ne (.slice A8 x.f6.length c8))) := by
        match j with
        | 0 | 1 | 2 | 3 | 4 | 5 => simp at hy; subst hy; rfl
        | 6 => simp at hy; subst hy; simp [Cell.den, Env.more_at]
        | j + 7 => simp at hy
      have h2 := hcc j _ h1
      rwa [Int.toNat_natCast] at h2
end
end Ev
end Go.Proofs.Ytfbiahlogclkbaa.H

set_option linter.unusedVariables false
set_option linter.unusedSimpArgs false
namespace Go.Proofs.Ytfbiahlogclkbaa.H
open Go.RowKit Go.Proofs.YtfbiahlogclkbaaW.PrintWords Go.Proofs.YtfbiahlogclkbaaW.PrintLast Go.Proofs.YtfbiahlogclkbaaW.PrintMore Go.Proofs.Ytfbiahlogclkbaa.P
namespace Ev
section
variable {P : Program} {ts : Types} {E : Env} {nb ne : Nat} {q : RowP} {Wd : World → Prop} {fz : Nat → Prop} {wr : World} {fr : List Slot} {a : Act} {o : Oper} {m : Mask} {rp : Bool}

theorem mask_mem {i j : Nat} {c : Cell} (h : (m.getD i [])[j]? = some (some c)) : some c ∈ m.getD i [] := List.mem_of_getElem? h
theorem add_add' (ad : Addr) (x y : Nat) : (ad.add x).add y = ad.add (x + y) := Go.Deep.add_add ad x y
theorem load_p {t i off : Nat} {p : Part} {ti : TI} (hti : TIOk P t ti) (hm : MaskV E nb ne q m) (h : opart ti (m.getD i []) off = some p) :
    Gives P E nb ne q Wd m (Instr.loadAt t (.pointer (some ⟨E.a i, off, none⟩))) (.one p) 0 := by
  refine ⟨E, Env.Le.refl _ _ _, ⟨rfl, rfl⟩, fun _ => rfl, ?_, fun w hw _ => ?_⟩
  · intro c hc
    rcases opart_get h with ⟨_, l, rfl, _, h3⟩ | ⟨_, c', rfl, h3⟩
    · obtain ⟨j, hj⟩ := List.getElem?_of_mem hc
      exact hm i c (mask_mem (h3 j c hj))
    · simp only [Part.cells, List.mem_singleton] at hc
      subst hc
      exact hm i c (mask_mem h3)
  · simp only [Instr.loadAt, Instr.sureAddr, Sem.run_bind, Sem.run_pure, Result.andThen_ok, Slot.den]
    rcases opart_get h with ⟨hr, l, rfl, hl, h3⟩ | ⟨hr, c', rfl, h3⟩
    · refine loadVar_row hti hr (cs := l.map (Cell.den E)) (fun j v hv => ?_) (by rw [List.length_map]; exact hl)
      rw [List.getElem?_map] at hv
      obtain ⟨c, hc, rfl⟩ := Option.map_eq_some_iff.1 hv
      rw [Addr.add_mid]
      exact hw i (off + j) c (h3 j c hc)
    · exact loadVar_one hti hr (hw i off c' h3)
theorem load_rp {t j idx off : Nat} {r : Row} {es : List Cell} {p : Part} {ti : TI} (hti : TIOk P t ti) (hok : r.Ok (E.h j) (RF fz wr)) (hi : idx < r.len) (he : r.elem idx ne = some es) (h : part ti es off = some p) :
    Gives P E nb ne (RF fz wr) (Alike fz wr) m (Instr.loadAt t (.pointer (some ((ptrOf (E.h j)).add (idx * r.sz + off))))) (.one p) 1 := by
  obtain ⟨ad, n, c, u, hv, hl, hV, hcell, hin⟩ := elem_ok (nb := nb) hok hi he
  rw [hv]
  have hat : ∀ w, Alike fz wr w → ∀ (k : Nat) x, es[k]? = some x → w.cell? (ad.add (idx * r.sz + k)) = some (x.den (E.more ne u)) := fun w hw k x hx => by
    have h1 := hcell k x hx
    have h2 := World.block_lt_of_cell? wr _ h1
    rw [add_block] at h2
    have h3 := hw ad.block hin h2
    rw [← h1]
    simp [World.cell?, add_block, h3]
  refine ⟨E.more ne u, Env.more_le _ _ _ _, ⟨rfl, rfl⟩, fun h => absurd h (by decide), ?_, fun w _ hw => ?_⟩
  · intro x hx
    rcases part_get h with ⟨_, l, rfl, _, _, h3⟩ | ⟨_, c', rfl, h3⟩
    · obtain ⟨k, hk⟩ := List.getElem?_of_mem hx
      exact hV x (List.mem_of_getElem? (h3 k x hk))
    · simp only [Part.cells, List.mem_singleton] at hx
      subst hx
      exact hV x (List.mem_of_getElem? h3)
  · simp only [Instr.loadAt, Instr.sureAddr, Sem.run_bind, Sem.run_pure, Result.andThen_ok, Slot.den, ptrOf]
    rcases part_get h with ⟨hr, l, rfl, hl2, _, h3⟩ | ⟨hr, c', rfl, h3⟩
    · refine loadVar_row hti hr (cs := l.map (Cell.den (E.more ne u))) (fun k v hv' => ?_) (by rw [List.length_map]; exact hl2)
      rw [List.getElem?_map] at hv'
      obtain ⟨x, hx, rfl⟩ := Option.map_eq_some_iff.1 hv'
      rw [add_add', Nat.add_assoc]
      exact hat w hw (off + k) x (h3 k x hx)
    · exact loadVar_one hti hr (hat w hw off c' h3)
theorem one_V {c : Cell} (h : (Slot.one (.c c)).V E nb ne q) : c.V E nb ne q := h c (by simp [Part.cells])
/-- Loads out of rows that are only read, where they are let in. -/
def RpOk (P : Program) (E : Env) (nb ne : Nat) (q : RowP) (Wd : World → Prop) (m : Mask) : Prop := ∀ (t j idx off : Nat) (r : Row) (es : List Cell) (p : Part) (ti : TI), TIOk P t ti → r.Ok (E.h j) q → idx < r.len → r.elem idx ne = some es → part ti es off = some p → Gives P E nb ne q Wd m (Instr.loadAt t (.pointer (some ((ptrOf (E.h j)).add (idx * r.sz + off))))) (.one p) 1
theorem rp_read : RpOk P E nb ne (RF fz wr) (Alike fz wr) m := fun t j idx off r es p ti h1 h2 h3 h4 h5 => load_rp h1 h2 h3 h4 h5
theorem evLoad_ok (hts : TypesOk P ts) (hrp : rp = true → RpOk P E nb ne q Wd m) (hm : MaskV E nb ne q m) {t : Nat} {s s' : Slot} {dn : Nat} (hs : s.V E nb ne q) (h : evLoad rp ts m ne t s = some (s', dn)) : Gives P E nb ne q Wd m (Instr.loadAt t (s.den E)) s' dn := by
  unfold evLoad at h
  split at h
  · obtain ⟨ti, hti, h2⟩ := Option.bind_eq_some_iff.1 h
    obtain ⟨p, hp, h3⟩ := Option.map_eq_some_iff.1 h2
    obtain ⟨rfl, rfl⟩ := Prod.mk.inj h3
    exact load_p (hts _ _ hti) hm hp
  · cases hb : rp with
    | false => rw [hb] at h; cases h
    | true =>
      rw [hb] at h
      obtain ⟨ti, hti, h2⟩ := Option.bind_eq_some_iff.1 h
      obtain ⟨es, hes, h3⟩ := Option.bind_eq_some_iff.1 h2
      obtain ⟨p, hp, h4⟩ := Option.map_eq_some_iff.1 h3
      obtain ⟨rfl, rfl⟩ := Prod.mk.inj h4
      have hv := one_V hs
      exact hrp hb _ _ _ _ _ _ _ _ (hts _ _ hti) hv.2.1 hv.2.2 hes hp
  · cases h
/-- What comes to s whatever the world, and tells no slice more. -/
theorem Gives.of {x : Sem Value} {s : Slot} (hV : s.V E nb ne q) (h : ∀ w, MaskAt E m w → Wd w → x.run P w = .ok (s.den E) w) : Gives P E nb ne q Wd m x s 0 := ⟨E, Env.Le.refl _ _ _, ⟨rfl, rfl⟩, fun _ => rfl, hV, h⟩
theorem cell_V {c : Cell} (h : c.V E nb ne q) : (Slot.one (.c c)).V E nb ne q := fun x hx => by
  simp only [Part.cells, List.mem_singleton] at hx
  subst hx
  exact h
theorem fields_some {d : TypeDesc} {fs : Array Field} (h : fieldsOf d = some fs) : d = .struct fs := by
  unfold fieldsOf at h
  split at h
  · rw [Option.some.inj h]
  · cases h
theorem elem_some {d : TypeDesc} {e : Nat} (h : elemOf d = some e) : d = .slice e := by
  unfold elemOf at h
  split at h
  · rw [Option.some.inj h]
  · cases h
theorem fieldAddr_ok (hts : TypesOk P ts) {t k : Nat} {s s' : Slot} (hs : s.V E nb ne q) (h : evFieldAddr ts t k s = some s') : Gives P E nb ne q Wd m (Instr.fieldAt t (s.den E) k) s' 0 := by
  unfold evFieldAddr at h
  obtain ⟨ti, hti, h2⟩ := Option.bind_eq_some_iff.1 h
  obtain ⟨fs, hfs, h3⟩ := Option.bind_eq_some_iff.1 h2
  obtain ⟨f, hf, h4⟩ := Option.bind_eq_some_iff.1 h3
  obtain ⟨tf, htf, h5⟩ := Option.bind_eq_some_iff.1 h4
  clear h h2 h3 h4
  have hd := (hts _ _ hti).d
  rw [fields_some hfs] at hd
  cases h0 : decide (tf.size = 0) with
  | true => rw [h0] at h5; cases h5
  | false =>
    rw [h0] at h5
    simp only at h5
    have hz : ¬ tf.size = 0 := of_decide_eq_false h0
    split at h5
    · injection h5 with h5
      subst h5
      have hv := one_V hs
      refine Gives.of (cell_V hv) fun w _ _ => ?_
      simp only [Instr.fieldAt, Instr.sureAddr, fieldPlace, Sem.run_bind, run_underlying hd w, Result.andThen_ok, hf, Sem.run_pure, Slot.den, Part.den, Cell.den, (hts _ _ htf).sizeOf w, Sem.run_ite, if_neg hz, Addr.add_mid]
    · injection h5 with h5
      subst h5
      have hv := one_V hs
      refine Gives.of (cell_V hv) fun w _ _ => ?_
      simp only [Instr.fieldAt, Instr.sureAddr, fieldPlace, Sem.run_bind, run_underlying hd w, Result.andThen_ok, hf, Sem.run_pure, Slot.den, Part.den, Cell.den, (hts _ _ htf).sizeOf w, Sem.run_ite, if_neg hz, add_add', Nat.add_assoc]
    · cases h5
theorem cellsDen_get (E : Env) (l : List Cell) (j : Nat) : (cellsDen E l)[j]? = (l[j]?).map (Cell.den E) := by simp [cellsDen]
theorem field_ok (hts : TypesOk P ts) {t k : Nat} {s s' : Slot} (hs : s.V E nb ne q) (h : evField ts t k s = some s') : Gives P E nb ne q Wd m (Instr.field t (s.den E) k) s' 0 := by
  unfold evField at h
  split at h
  · rename_i l
    obtain ⟨ti, hti, h2⟩ := Option.bind_eq_some_iff.1 h
    obtain ⟨fs, hfs, h3⟩ := Option.bind_eq_some_iff.1 h2
    obtain ⟨f, hf, h4⟩ := Option.bind_eq_some_iff.1 h3
    obtain ⟨tf, htf, h5⟩ := Option.bind_eq_some_iff.1 h4
    obtain ⟨p, hp, rfl⟩ := Option.map_eq_some_iff.1 h5
    clear h h2 h3 h4 h5
    have hd := (hts _ _ hti).d
    rw [fields_some hfs] at hd
    refine Gives.of ?_ fun w _ _ => ?_
    · intro x hx
      rcases part_get hp with ⟨_, l', rfl, _, _, h3⟩ | ⟨_, c', rfl, h3⟩
      · obtain ⟨k, hk⟩ := List.getElem?_of_mem hx
        exact hs x (List.mem_of_getElem? (h3 k x hk))
      · simp only [Part.cells, List.mem_singleton] at hx
        subst hx
        exact hs x (List.mem_of_getElem? h3)
    · simp only [Instr.field, Sem.run_bind, run_underlying hd w, Result.andThen_ok, hf, Sem.run_pure, Slot.den, Part.den, asAgg, Go.part, (hts _ _ htf).isAgg w]
      rcases part_get hp with ⟨hr, l', rfl, hl, he, _⟩ | ⟨hr, c', rfl, h3⟩
      · simp only [hr, if_true, Sem.run_bind, (hts _ _ htf).sizeOf w, Result.andThen_ok, Sem.run_pure, Part.den]
        rw [he]
        simp [cellsDen, List.extract_eq_take_drop]
      · simp only [hr, Bool.false_eq_true, if_false, cellsDen_get, h3, Option.map_some, Sem.run_pure, Part.den]
  · cases h
theorem Row.Ok.addr (hq : ∀ r A, q r A → RA r A) {r : Row} {v : Value} (h : r.Ok v q) (hn : 0 < r.len) : ∃ ad c, v = .slice (some ad) r.len c := by
  obtain ⟨A, c, rfl, _, hF⟩ := h
  obtain ⟨ad, rfl⟩ := hq _ _ hF hn
  exact ⟨ad, c, rfl⟩
theorem indexAddr_ok (hq : ∀ r A, q r A → RA r A) (hts : TypesOk P ts) {t : Nat} {s x s' : Slot} (hs : s.V E nb ne q) (h : evIndexAddr ts t s x = some s') : Gives P E nb ne q Wd m (Instr.indexAt t (s.den E) (x.den E)) s' 0 := by
  unfold evIndexAddr at h
  obtain ⟨ti, hti, h2⟩ := Option.bind_eq_some_iff.1 h
  obtain ⟨e, he, h3⟩ := Option.bind_eq_some_iff.1 h2
  obtain ⟨te, hte, h4⟩ := Option.bind_eq_some_iff.1 h3
  clear h h2 h3
  have hd := (hts _ _ hti).d
  rw [elem_some he] at hd
  split at h4
  · rename_i k i
    split at h4
    · rename_i b n c
      split at h4
      · rename_i hc
        have hc := of_decide_eq_true hc
        injection h4 with h4
        subst h4
        have hb := one_V hs
        have hb' : b < nb := hb
        refine Gives.of (cell_V hb') fun w _ _ => ?_
        simp only [Instr.indexAt, asIntOf, Sem.run_bind, Sem.run_pure, Result.andThen_ok, run_underlying hd w, Slot.den, Part.den, Cell.den, Bool.and_false, Sem.run_ite, if_pos hc, (hts _ _ hte).sizeOf w, Addr.add_mid, Nat.zero_add]
      · cases h4
    · rename_i j r
      split at h4
      · rename_i hc
        obtain ⟨hc1, hc2, hc3⟩ := of_decide_eq_true hc
        injection h4 with h4
        subst h4
        have hv := one_V hs
        obtain ⟨ad, c, had⟩ := Row.Ok.addr hq hv.2 (by omega)
        refine Gives.of (cell_V ⟨hv.1, hv.2, by omega⟩) fun w _ _ => ?_
        simp only [Instr.indexAt, asIntOf, Sem.run_bind, Sem.run_pure, Result.andThen_ok, run_underlying hd w, Slot.den, Part.den, Cell.den, had, Bool.and_false, Sem.run_ite, if_pos (And.intro hc1 hc2), (hts _ _ hte).sizeOf w, ptrOf, hc3, Nat.add_zero]
      · cases h4
    · rename_i j n b
      split at h4
      · rename_i hc
        have hc := of_decide_eq_true hc
        injection h4 with h4
        subst h4
        obtain ⟨_, hb', cap, had, _⟩ := one_V hs
        refine Gives.of (cell_V hb') fun w _ _ => ?_
        simp only [Instr.indexAt, asIntOf, Sem.run_bind, Sem.run_pure, Result.andThen_ok, run_underlying hd w, Slot.den, Part.den, Cell.den, had, Bool.and_false, Sem.run_ite, if_pos hc, (hts _ _ hte).sizeOf w, Addr.add_mid, Nat.zero_add]
      · cases h4
    · cases h4
  · cases h4
theorem places_ok (hts : TypesOk P ts) : ∀ {l : List Field} {pl : List (Nat × Nat)}, placesOf ts l = some pl → l.mapM (fun f => (P.info? f.type).map fun i => (f.offset, i.size)) = some pl
  | [], pl, h => by simp only [placesOf, Option.some.injEq] at h; subst h; rfl
  | f :: l, pl, h => by
    simp only [placesOf] at h
    obtain ⟨tf, htf, h2⟩ := Option.bind_eq_some_iff.1 h
    obtain ⟨q, hq, rfl⟩ := Option.map_eq_some_iff.1 h2
    obtain ⟨j, z, h3, h4, _⟩ := (hts _ _ htf).info
    simp [List.mapM_cons, h3, h4, places_ok hts hq]
theorem foldl_den (E : Env) (off : Nat) : ∀ (l : List (Cell × Nat)) (cs : List Cell), (l.map (Prod.map (Cell.den E) id)).foldl (fun (cs : Array Value) (q : Value × Nat) => cs.setIfInBounds (off + q.2) q.1) (cellsDen E cs) = cellsDen E (l.foldl (fun cs q => cs.set (off + q.2) q.1) cs)
  | [], cs => rfl
  | q :: l, cs => by
    simp only [List.map_cons, List.foldl_cons]
    rw [← foldl_den E off l (cs.set (off + q.2) q.1)]
    congr 1
    simp [cellsDen, List.map_set]
theorem fill_ok (E : Env) (place : Nat → Option (Nat × Nat)) : ∀ {parts : List (Nat × List Cell)} {vs : List (Nat × Value)} {cells cs : List Cell}, vs.map (fun q => (q.1, q.2.cells)) = parts.map (fun q => (q.1, cellsDen E q.2)) → fillC place cells parts = some cs → Instr.fill place (cellsDen E cells) vs = some (cellsDen E cs)
  | [], [], cells, cs, _, h => by simp only [fillC, Option.some.injEq] at h; subst h; rfl
  | [], _ :: _, cells, cs, he, h => by simp at he
  | _ :: _, [], cells, cs, he, h => by simp at he
  | (i, v) :: parts, (i', v') :: vs, cells, cs, he, h => by
    simp only [List.map_cons, List.cons.injEq, Prod.mk.injEq] at he
    obtain ⟨⟨rfl, hv⟩, he⟩ := he
    simp only [fillC] at h
    simp only [Instr.fill]
    cases hp : place i' with
    | none => rw [hp] at h; cases h
    | some q =>
      obtain ⟨off, size⟩ := q
      rw [hp] at h
      simp only at h ⊢
      cases hd : decide (v.length ≠ size ∨ off + v.length > cells.length) with
      | true => rw [hd] at h; cases h
      | false =>
        rw [hd] at h
        simp only at h
        have hn := of_decide_eq_false hd
        have h2 : ¬ (v'.cells.size ≠ size ∨ off + v'.cells.size > (cellsDen E cells).size) := by rw [hv]; simpa [cellsDen] using hn
        have h3 : (decide (v'.cells.size ≠ size) || decide (off + v'.cells.size > (cellsDen E cells).size)) = false := by simpa using h2
        have h4 : v'.cells.zipIdx.foldl (fun (cs : Array Value) (x : Value × Nat) => cs.setIfInBounds (off + x.2) x.1) (cellsDen E cells) = cellsDen E (v.zipIdx.foldl (fun cs q => cs.set (off + q.2) q.1) cells) := by
          rw [hv, ← foldl_den]
          simp [cellsDen, List.zipIdx_map]
        rw [if_neg (by simpa using h2)]
        have h5 := fill_ok E place he h
        rw [← h4] at h5
        exact h5
theorem partsOf_ok (ha : a.tmps = (fr.map (Slot.den E)).toArray) (hfr : ∀ s, s ∈ fr → s.V E nb ne q) : ∀ {l : List (Nat × Operand)} {ps : List (Nat × Part)}, partsOf fr l = some ps →
    (l.map fun q => (q.1, a.eval q.2)).map (fun q => (q.1, q.2.cells)) = (ps.map fun q => (q.1, q.2.cells)).map (fun q => (q.1, cellsDen E q.2)) ∧ ∀ y, y ∈ ps → y.2.V E nb ne q
  | [], ps, h => by simp only [partsOf, Option.some.injEq] at h; subst h; exact ⟨rfl, fun y hy => by simp at hy⟩
  | (i, x) :: l, ps, h => by
    simp only [partsOf] at h
    obtain ⟨s, hs, h2⟩ := Option.bind_eq_some_iff.1 h
    split at h2
    · rename_i p
      obtain ⟨q', hq', rfl⟩ := Option.map_eq_some_iff.1 h2
      obtain ⟨h3, h4⟩ := evO_ok ha hfr hs
      obtain ⟨h5, h6⟩ := partsOf_ok ha hfr hq'
      refine ⟨?_, fun z hz => ?_⟩
      · simp only [List.map_cons, List.cons.injEq, Prod.mk.injEq, true_and]
        refine ⟨?_, h5⟩
        rw [h3]
        exact Part.den_cells h4
      · rcases List.mem_cons.1 hz with rfl | hz
        · exact h4
        · exact h6 z hz
    · cases h2
theorem fillC_mem {place : Nat → Option (Nat × Nat)} : ∀ {parts : List (Nat × List Cell)} {cells cs : List Cell} {c : Cell}, fillC place cells parts = some cs → c ∈ cs → c ∈ cells ∨ ∃ q, q ∈ parts ∧ c ∈ q.2
  | [], cells, cs, c, h, hc => by simp only [fillC, Option.some.injEq] at h; subst h; exact .inl hc
  | (i, v) :: parts, cells, cs, c, h, hc => by
    simp only [fillC] at h
    cases hp : place i with
    | none => rw [hp] at h; cases h
    | some q =>
      obtain ⟨off, size⟩ := q
      rw [hp] at h
      simp only at h
      cases hd : decide (v.length ≠ size ∨ off + v.length > cells.length) with
      | true => rw [hd] at h; cases h
      | false =>
        rw [hd] at h
        simp only at h
        rcases fillC_mem h hc with h2 | ⟨q, hq, h2⟩
        · have key : ∀ (l : List (Cell × Nat)) (cs : List Cell), c ∈ l.foldl (fun cs q => cs.set (off + q.2) q.1) cs → c ∈ cs ∨ ∃ q, q ∈ l ∧ c = q.1 := by
            intro l
            induction l with
            | nil => intro cs h; exact .inl h
            | cons q l ih =>
              intro cs h
              simp only [List.foldl_cons] at h
              rcases ih _ h with h | ⟨q', hq', rfl⟩
              · rcases List.mem_or_eq_of_mem_set h with h | h
                · exact .inl h
                · exact .inr ⟨q, by simp, h⟩
              · exact .inr ⟨q', by simp [hq'], rfl⟩
          rcases key _ _ h2 with h3 | ⟨q, hq, rfl⟩
          · exact .inl h3
          · exact .inr ⟨(i, v), by simp, by
              obtain ⟨q1, q2⟩ := q
              have := List.mem_zipIdx hq
              exact List.mem_of_getElem? (i := q2 - 0) (by simpa using (List.getElem?_eq_some_iff.2 ⟨by have := this.2.1; omega, this.2.2.symm⟩))⟩
        · exact .inr ⟨q, by simp [hq], h2⟩
theorem zero_den (E : Env) (z : List Value) : cellsDen E (z.map .v) = z.toArray := by
  unfold cellsDen
  rw [List.map_map]
  congr 1
  exact (List.map_congr_left (fun x _ => rfl)).trans (List.map_id z)
theorem build_ok (hts : TypesOk P ts) (ha : a.tmps = (fr.map (Slot.den E)).toArray) (hfr : ∀ s, s ∈ fr → s.V E nb ne q) {t : Nat} {parts : Array (Nat × Operand)} {s' : Slot} (h : evBuild ts fr t parts.toList = some s') :
    Gives P E nb ne q Wd m (Instr.build t (parts.map fun (i, x) => (i, a.eval x))) s' 0 := by
  unfold evBuild at h
  obtain ⟨ti, hti, h2⟩ := Option.bind_eq_some_iff.1 h
  obtain ⟨fs, hfs, h3⟩ := Option.bind_eq_some_iff.1 h2
  obtain ⟨pl, hpl, h4⟩ := Option.bind_eq_some_iff.1 h3
  obtain ⟨ps, hps, h5⟩ := Option.bind_eq_some_iff.1 h4
  obtain ⟨cs, hcs, rfl⟩ := Option.map_eq_some_iff.1 h5
  clear h h2 h3 h4 h5
  have hT := hts _ _ hti
  have hd := hT.d
  rw [fields_some hfs] at hd
  obtain ⟨j, z, hj, _, hz, hzc⟩ := hT.info
  obtain ⟨hq1, hq2⟩ := partsOf_ok ha hfr hps
  have hf := fill_ok E _ hq1 hcs
  rw [zero_den, ← hzc] at hf
  refine Gives.of ?_ fun w _ _ => ?_
  · intro c hc
    rcases fillC_mem hcs hc with h6 | ⟨y, hy, h6⟩
    · obtain ⟨x, hx, rfl⟩ := List.mem_map.1 h6
      exact hT.one x hx
    · obtain ⟨y', hy', rfl⟩ := List.mem_map.1 hy
      exact hq2 y' hy' c h6
  · refine run_build w t _ _ ?_
    unfold Program.built
    simp only [hj, hd, hz, places_ok hts hpl, List.getElem?_toArray]
    rw [Array.toList_map]
    exact hf
end
end Ev
end Go.Proofs.Ytfbiahlogclkbaa.H

set_option linter.unusedVariables false
set_option linter.unusedSimpArgs false
namespace Go.Proofs.Ytfbiahlogclkbaa.H
open Go.RowKit Go.Proofs.YtfbiahlogclkbaaW.PrintWords Go.Proofs.YtfbiahlogclkbaaW.PrintLast Go.Proofs.YtfbiahlogclkbaaW.PrintMore Go.Proofs.Ytfbiahlogclkbaa.P
namespace Ev
section
variable {P : Program} {ts : Types} {E : Env} {nb ne : Nat} {q : RowP} {Wd : World → Prop} {fr : List Slot} {a : Act} {o : Oper} {m : Mask} {rp : Bool}
/-- As Gives, of a whole operation. -/
def GivesN (P : Program) (E : Env) (nb ne : Nat) (q : RowP) (Wd : World → Prop) (m : Mask) (x : Sem Next) (s : Slot) (dn : Nat) : Prop :=
  ∃ E', E.Le E' nb ne ∧ (E'.a = E.a ∧ E'.t = E.t) ∧ (dn = 0 → E' = E) ∧ s.V E' nb (ne + dn) q ∧ ∀ w, MaskAt E m w → Wd w → x.run P w = .ok (.value (s.den E')) w
theorem Gives.next {x : Sem Value} {s : Slot} {dn : Nat} (h : Gives P E nb ne q Wd m x s dn) : GivesN P E nb ne q Wd m (do pure (.value (← x))) s dn := by
  obtain ⟨E', h1, h2, h0, h3, h4⟩ := h
  exact ⟨E', h1, h2, h0, h3, fun w hw hk => by rw [Sem.run_bind, h4 w hw hk]; rfl⟩
theorem GivesN.of {x : Sem Next} {s : Slot} (hV : s.V E nb ne q) (h : ∀ w, x.run P w = .ok (.value (s.den E)) w) : GivesN P E nb ne q Wd m x s 0 := ⟨E, Env.Le.refl _ _ _, ⟨rfl, rfl⟩, fun _ => rfl, hV, fun w _ _ => h w⟩
theorem atomOf_ok {s : Slot} {t : Atom} (hs : s.V E nb ne q) (h : atomOf s = some t) : s.den E = t.den E ∧ t.V nb := by
  unfold atomOf at h
  split at h
  · injection h with h; subst h; exact ⟨rfl, one_V hs⟩
  · injection h with h; subst h; exact ⟨rfl, one_V hs⟩
  · cases h
theorem atomsOf_ok (ha : a.tmps = (fr.map (Slot.den E)).toArray) (hfr : ∀ s, s ∈ fr → s.V E nb ne q) : ∀ {l : List Operand} {ps : List Atom}, atomsOf fr l = some ps → l.map a.eval = ps.map (Atom.den E) ∧ ∀ t, t ∈ ps → t.V nb
  | [], ps, h => by simp only [atomsOf, Option.some.injEq] at h; subst h; exact ⟨rfl, fun t ht => by simp at ht⟩
  | x :: l, ps, h => by
    simp only [atomsOf] at h
    obtain ⟨t, h1, h2⟩ := Option.bind_eq_some_iff.1 h
    obtain ⟨s, h3, h4⟩ := Option.bind_eq_some_iff.1 h1
    obtain ⟨q, h5, rfl⟩ := Option.map_eq_some_iff.1 h2
    obtain ⟨h6, h7⟩ := evO_ok ha hfr h3
    obtain ⟨h8, h9⟩ := atomOf_ok h7 h4
    obtain ⟨h10, h11⟩ := atomsOf_ok ha hfr h5
    refine ⟨by simp only [List.map_cons, h10, h6, h8], fun z hz => ?_⟩
    rcases List.mem_cons.1 hz with rfl | hz
    · exact h9
    · exact h11 z hz
theorem evLen_ok (hts : TypesOk P ts) {t : Nat} {s s' : Slot} {ty : TypeId} (hs : s.V E nb ne q) (h : evLen ts t s = some s') : s'.V E nb ne q ∧ ∀ w, (Builtin.len_ #[t] ty #[s.den E]).run P w = .ok (s'.den E) w := by
  unfold evLen at h
  split at h
  · obtain ⟨ti, hti, h2⟩ := Option.bind_eq_some_iff.1 h
    obtain ⟨e, he, rfl⟩ := Option.map_eq_some_iff.1 h2
    have hd := (hts _ _ hti).d
    rw [elem_some he] at hd
    obtain ⟨_, A, c, hv, _⟩ := one_V hs
    refine ⟨cell_V rfl, fun w => ?_⟩
    simp only [Slot.den, Part.den, Cell.den, hv]
    simp [Builtin.len_, run_underlying hd w, goInt]
  · obtain ⟨ti, hti, h2⟩ := Option.bind_eq_some_iff.1 h
    obtain ⟨e, he, rfl⟩ := Option.map_eq_some_iff.1 h2
    have hd := (hts _ _ hti).d
    rw [elem_some he] at hd
    refine ⟨cell_V rfl, fun w => ?_⟩
    simp only [Slot.den, Part.den, Cell.den]
    simp [Builtin.len_, run_underlying hd w, goInt]
  · obtain ⟨ti, hti, h2⟩ := Option.bind_eq_some_iff.1 h
    obtain ⟨e, he, rfl⟩ := Option.map_eq_some_iff.1 h2
    have hd := (hts _ _ hti).d
    rw [elem_some he] at hd
    obtain ⟨_, _, cap, hv, _⟩ := one_V hs
    refine ⟨cell_V rfl, fun w => ?_⟩
    simp only [Slot.den, Part.den, Cell.den, hv]
    simp [Builtin.len_, run_underlying hd w, goInt]
  · obtain ⟨ti, hti, h2⟩ := Option.bind_eq_some_iff.1 h
    obtain ⟨e, he, rfl⟩ := Option.map_eq_some_iff.1 h2
    have hd := (hts _ _ hti).d
    rw [elem_some he] at hd
    refine ⟨cell_V rfl, fun w => ?_⟩
    simp only [Slot.den, Part.den, Cell.den]
    simp [Builtin.len_, run_underlying hd w, goInt]
  · cases h
theorem scal_gives (ha : a.tmps = (fr.map (Slot.den E)).toArray) (hfr : ∀ s, s ∈ fr → s.V E nb ne q) {s : Slot} {dn : Nat} (h : ((scal P fr o).map fun v => ((Slot.one (.c (.v v)), 0) : Slot × Nat)) = some (s, dn)) : GivesN P E nb ne q Wd m (execOp a.eval o) s dn := by
  obtain ⟨v, hv, he⟩ := Option.map_eq_some_iff.1 h
  obtain ⟨rfl, rfl⟩ := Prod.mk.inj he
  obtain ⟨h1, h2⟩ := scal_ok ha hfr hv
  exact GivesN.of (cell_V h2) h1
theorem evP_ok (hq : ∀ r A, q r A → RA r A) (hrp : rp = true → RpOk P E nb ne q Wd m) (hts : TypesOk P ts) (ha : a.tmps = (fr.map (Slot.den E)).toArray) (hfr : ∀ s, s ∈ fr → s.V E nb ne q) (hm : MaskV E nb ne q m) {s : Slot} {dn : Nat} (h : evP rp P ts m fr ne o = some (s, dn)) : GivesN P E nb ne q Wd m (execOp a.eval o) s dn := by
  obtain ⟨dst, op, type, pos, after, guard⟩ := o
  cases op
  case move x =>
    obtain ⟨s', hs, he⟩ := Option.map_eq_some_iff.1 h
    obtain ⟨rfl, rfl⟩ := Prod.mk.inj he
    obtain ⟨h1, h2⟩ := evO_ok ha hfr hs
    exact GivesN.of h2 (fun w => by simp [execOp, h1])
  case assign x =>
    obtain ⟨s', hs, he⟩ := Option.map_eq_some_iff.1 h
    obtain ⟨rfl, rfl⟩ := Prod.mk.inj he
    obtain ⟨h1, h2⟩ := evO_ok ha hfr hs
    exact GivesN.of h2 (fun w => by simp [execOp, h1])
  case pick c x y =>
    obtain ⟨b, hb, he⟩ := Option.bind_eq_some_iff.1 h
    obtain ⟨sc, hc, hb2⟩ := Option.bind_eq_some_iff.1 hb
    have hsc : sc = .one (.c (.v (.bool b))) := by
      unfold bool0 at hb2
      split at hb2
      · injection hb2 with hb2; subst hb2; rfl
      · cases hb2
    subst hsc
    obtain ⟨e1, _⟩ := evO_ok ha hfr hc
    have e1' : a.eval c = .bool b := e1
    obtain ⟨s', hs, he⟩ := Option.map_eq_some_iff.1 he
    obtain ⟨rfl, rfl⟩ := Prod.mk.inj he
    obtain ⟨h1, h2⟩ := evO_ok ha hfr hs
    refine GivesN.of h2 (fun w => ?_)
    cases b
    · simp only [execOp, e1', asBool, Sem.run_bind, Sem.run_pure, Result.andThen_ok, Bool.false_eq_true, if_false, h1]
    · simp only [execOp, e1', asBool, Sem.run_bind, Sem.run_pure, Result.andThen_ok, if_true, h1]
  case nilCheck x =>
    obtain ⟨s', hs, he⟩ := Option.bind_eq_some_iff.1 h
    obtain ⟨h1, h2⟩ := evO_ok ha hfr hs
    split at he
    · injection he with he
      obtain ⟨rfl, rfl⟩ := Prod.mk.inj he
      exact GivesN.of h2 (fun w => by simp only [execOp, h1]; rfl)
    · cases he
  case extract x k =>
    obtain ⟨s', hs, he⟩ := Option.bind_eq_some_iff.1 h
    obtain ⟨h1, h2⟩ := evO_ok ha hfr hs
    split at he
    · rename_i l
      obtain ⟨p, hp, h3⟩ := Option.map_eq_some_iff.1 he
      obtain ⟨rfl, rfl⟩ := Prod.mk.inj h3
      exact GivesN.of (h2 p (List.mem_of_getElem? hp)) (fun w => by simp [execOp, h1, Instr.extract, Slot.den, hp])
    · cases he
  case load t x =>
    obtain ⟨s', hs, he⟩ := Option.bind_eq_some_iff.1 h
    obtain ⟨h1, h2⟩ := evO_ok ha hfr hs
    have := (evLoad_ok hts hrp hm h2 he).next
    rw [← h1] at this
    exact this
  case fieldAddr t x k =>
    obtain ⟨s', hs, he⟩ := Option.bind_eq_some_iff.1 h
    obtain ⟨h1, h2⟩ := evO_ok ha hfr hs
    obtain ⟨q, hq, h3⟩ := Option.map_eq_some_iff.1 he
    obtain ⟨rfl, rfl⟩ := Prod.mk.inj h3
    have := (fieldAddr_ok (Wd := Wd) (m := m) hts h2 hq).next
    rw [← h1] at this
    exact this
  case field t x k =>
    obtain ⟨s', hs, he⟩ := Option.bind_eq_some_iff.1 h
    obtain ⟨h1, h2⟩ := evO_ok ha hfr hs
    obtain ⟨q, hq, h3⟩ := Option.map_eq_some_iff.1 he
    obtain ⟨rfl, rfl⟩ := Prod.mk.inj h3
    have := (field_ok (Wd := Wd) (m := m) hts h2 hq).next
    rw [← h1] at this
    exact this
  case indexAddr t x i =>
    obtain ⟨s', hs, he⟩ := Option.bind_eq_some_iff.1 h
    obtain ⟨y, hy, he⟩ := Option.bind_eq_some_iff.1 he
    obtain ⟨h1, h2⟩ := evO_ok ha hfr hs
    obtain ⟨h1', h2'⟩ := evO_ok ha hfr hy
    obtain ⟨q', hq', h3⟩ := Option.map_eq_some_iff.1 he
    obtain ⟨rfl, rfl⟩ := Prod.mk.inj h3
    have := (indexAddr_ok (Wd := Wd) (m := m) hq hts h2 hq').next
    rw [← h1, ← h1'] at this
    exact this
  case build t parts =>
    obtain ⟨q, hq, h3⟩ := Option.map_eq_some_iff.1 h
    obtain ⟨rfl, rfl⟩ := Prod.mk.inj h3
    exact (build_ok (Wd := Wd) (m := m) hts ha hfr hq).next
  case makeFunc fn first cap =>
    cases fn
    case func f =>
      obtain ⟨x, hx, h2⟩ := Option.bind_eq_some_iff.1 h
      obtain ⟨y, hy, h3⟩ := Option.map_eq_some_iff.1 h2
      obtain ⟨rfl, rfl⟩ := Prod.mk.inj h3
      obtain ⟨h4, h5⟩ := atomsOf_ok ha hfr hx
      obtain ⟨h6, h7⟩ := atomsOf_ok ha hfr hy
      refine GivesN.of (cell_V ⟨h5, h7⟩) (fun w => ?_)
      simp only [execOp, Instr.makeFunc, Sem.run_bind, Sem.run_pure, Result.andThen_ok, Slot.den, Part.den, Cell.den]
      rw [← h4, ← h6]
      cases first
      cases cap
      simp
    all_goals exact scal_gives ha hfr h
  case call c =>
    cases hc : evCallP ts fr c with
    | none =>
      simp only [evP, hc] at h
      exact scal_gives ha hfr h
    | some s' =>
      simp only [evP, hc, Option.some.injEq] at h
      obtain ⟨rfl, rfl⟩ := Prod.mk.inj h
      obtain ⟨callee, args, argTypes⟩ := c
      unfold evCallP at hc
      simp only at hc
      split at hc
      · rename_i x t hargs htys
        obtain ⟨s0, hs0, hl⟩ := Option.bind_eq_some_iff.1 hc
        obtain ⟨h1, h2⟩ := evO_ok ha hfr hs0
        obtain rfl : args = #[x] := by cases args; simpa using hargs
        obtain rfl : argTypes = #[t] := by cases argTypes; simpa using htys
        refine GivesN.of (evLen_ok (ty := type) hts h2 hl).1 (fun w => ?_)
        have h3 := (evLen_ok (ty := type) hts h2 hl).2 w
        simp only [execOp, resolve, invoke, Go.builtin, Sem.run_bind, Sem.run_pure, Result.andThen_ok, List.map_toArray, List.map_cons, List.map_nil, h1, h3]
      · cases hc
  all_goals exact scal_gives ha hfr h
end
end Ev
end Go.Proofs.Ytfbiahlogclkbaa.H
