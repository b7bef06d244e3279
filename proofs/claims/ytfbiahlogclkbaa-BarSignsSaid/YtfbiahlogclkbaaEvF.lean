/- The proof's texts EvF: what the statement leads to. No condition is added. -/
import Derived.Test.YtfbiahlogclkbaaEvE
import Derived.Laws.IdiomCopy
set_option linter.unusedVariables false
set_option linter.unusedSimpArgs false
namespace Go.Proofs.Ytfbiahlogclkbaa.H
open Go.RowKit Go.Proofs.YtfbiahlogclkbaaW.PrintWords Go.Proofs.YtfbiahlogclkbaaW.PrintLast Go.Proofs.YtfbiahlogclkbaaW.PrintMore Go.Proofs.Ytfbiahlogclkbaa.P
namespace Ev

/-- Where a call began: its world, the blocks that may be read, how many told blocks came in. -/
structure Ctx where
  w0 : World
  ok : Nat → Prop
  np : Nat
  nh : Nat
  h : Nat → Value
/-- The blocks that nobody writes from here on. -/
def fz (C : Ctx) (E : Env) (hp : List Blk) (k : Nat) : Prop := C.ok k ∨ (C.w0.heap.size ≤ k ∧ ∀ (i : Nat) (b : Blk), hp[i]? = some b → b.live = true → E.a i ≠ k)
/-- Behind a block's cells is nothing, or what a slice's room is. -/
def TlOk (E : Env) (ne i : Nat) (b : Blk) : Prop :=
  match b.opn with
  | none => E.t i = #[]
  | some (j, size) => j < ne ∧ ∃ n cap, E.h j = .slice (some ⟨E.a i, 0, none⟩) n cap ∧ b.cells.length = n * size ∧ n ≤ cap ∧ cap ≤ maxLen ∧ b.cells.length + (E.t i).size = cap * size
theorem TlOk.le {E E' : Env} {nb ne ne' i : Nat} {b : Blk} (hE : E.Le E' nb ne) (he : ne ≤ ne') (hi : i < nb) (h : TlOk E ne i b) : TlOk E' ne' i b := by
  unfold TlOk at h ⊢
  split at h
  · rw [hE.t i hi]; exact h
  · obtain ⟨h1, h2⟩ := h
    exact ⟨Nat.lt_of_lt_of_le h1 he, by rw [hE.h _ h1, hE.a i hi, hE.t i hi]; exact h2⟩
/-- The world is as told. -/
structure Hs (C : Ctx) (E : Env) (hp : List Blk) (ne : Nat) (w : World) : Prop where
  blk : ∀ (i : Nat) (b : Blk), hp[i]? = some b → b.live = true → w.heap[E.a i]? = some (.cells (cellsDen E b.cells ++ E.t i) b.elem (0, 0))
  tl : ∀ (i : Nat) (b : Blk), hp[i]? = some b → b.live = true → TlOk E ne i b
  inj : ∀ (i j : Nat) (b c : Blk), hp[i]? = some b → hp[j]? = some c → b.live = true → c.live = true → E.a i = E.a j → i = j
  nok : ∀ (i : Nat) (b : Blk), hp[i]? = some b → b.live = true → ¬ C.ok (E.a i)
  cv : ∀ (i : Nat) (b : Blk), hp[i]? = some b → b.live = true → ∀ c, c ∈ b.cells → c.V E hp.length ne (RF (fz C E hp) w)
  okb : ∀ k, C.ok k → k < C.w0.heap.size
  np : C.np ≤ hp.length
  np0 : C.np = 0
  hd : C.nh ≤ ne ∧ ∀ j, j < C.nh → E.h j = C.h j
  low : ∀ (i : Nat) (b : Blk), hp[i]? = some b → C.np ≤ i → C.w0.heap.size ≤ E.a i
  os : w.os = C.w0.os
  tape : w.tape = C.w0.tape
  output : w.output = C.w0.output
  size : C.w0.heap.size ≤ w.heap.size
  far : ∀ k, k < C.w0.heap.size → (∀ i, i < C.np → E.a i ≠ k) → w.heap[k]? = C.w0.heap[k]?
theorem hd_le {C : Ctx} {E E' : Env} {nb ne ne' : Nat} (hE : E.Le E' nb ne) (he : ne ≤ ne') (h : C.nh ≤ ne ∧ ∀ j, j < C.nh → E.h j = C.h j) : C.nh ≤ ne' ∧ ∀ j, j < C.nh → E'.h j = C.h j :=
  ⟨Nat.le_trans h.1 he, fun j hj => (hE.h j (Nat.lt_of_lt_of_le hj h.1)).trans (h.2 j hj)⟩
/-- What a stretch of code leaves. -/
structure Post (C : Ctx) (E : Env) (hp : List Blk) (ne : Nat) (w : World) (E' : Env) (hp' : List Blk) (ne' : Nat) (w' : World) : Prop where
  le : E.Le E' hp.length ne
  hb : hp.length ≤ hp'.length
  he : ne ≤ ne'
  hs : Hs C E' hp' ne' w'
  keep : ∀ k, fz C E hp k → k < w.heap.size → w'.heap[k]? = w.heap[k]? ∧ fz C E' hp' k
section
variable {P : Program} {ts : Types} {C : Ctx} {E E' E'' : Env} {hp hp' hp'' : List Blk} {ne ne' ne'' : Nat} {w w' w'' : World} {fr : List Slot} {a : Act} {o : Oper}
theorem cellsT_get {l : List Cell} {tl : Array Value} {j : Nat} {c : Cell} (h : l[j]? = some c) : (cellsDen E l ++ tl)[j]? = some (c.den E) := by
  have hj := (List.getElem?_eq_some_iff.1 h).1
  rw [Array.getElem?_append_left (by simpa [cellsDen] using hj), cellsDen_get, h]
  rfl
theorem get_lt {k : Nat} {x : Obj} (h : w.heap[k]? = some x) : k < w.heap.size := (Array.getElem?_eq_some_iff.1 h).1
theorem Post.refl (h : Hs C E hp ne w) : Post C E hp ne w E hp ne w := ⟨Env.Le.refl _ _ _, Nat.le_refl _, Nat.le_refl _, h, fun k hk _ => ⟨rfl, hk⟩⟩
theorem Post.trans (h : Post C E hp ne w E' hp' ne' w') (h' : Post C E' hp' ne' w' E'' hp'' ne'' w'') : Post C E hp ne w E'' hp'' ne'' w'' :=
  ⟨h.le.trans h'.le h.hb h.he, Nat.le_trans h.hb h'.hb, Nat.le_trans h.he h'.he, h'.hs, fun k hk hlt => by
    obtain ⟨h1, h2⟩ := h.keep k hk hlt
    have h3 : k < w'.heap.size := by
      have h4 : w.heap[k]? = some w.heap[k] := Array.getElem?_eq_getElem hlt
      exact get_lt (h1.trans h4)
    obtain ⟨h5, h6⟩ := h'.keep k h2 h3
    exact ⟨h5.trans h1, h6⟩⟩
theorem Post.slot (h : Post C E hp ne w E' hp' ne' w') {s : Slot} (hs : s.V E hp.length ne (RF (fz C E hp) w)) : s.V E' hp'.length ne' (RF (fz C E' hp') w') ∧ s.den E' = s.den E :=
  ⟨Slot.V_le h.le h.hb h.he (RF_step h.keep) hs, Slot.den_le h.le hs⟩
theorem Hs.lt (h : Hs C E hp ne w) {i : Nat} {b : Blk} (hi : hp[i]? = some b) (hl : b.live = true) : E.a i < w.heap.size := get_lt (h.blk i b hi hl)
theorem Hs.blk0 (h : Hs C E hp ne w) {i : Nat} {b : Blk} (hi : hp[i]? = some b) (hl : b.live = true) (ho : b.opn.isNone = true) : w.heap[E.a i]? = some (.cells (cellsDen E b.cells) b.elem (0, 0)) := by
  have h1 := h.blk i b hi hl
  have h2 := h.tl i b hi hl
  unfold TlOk at h2
  rw [Option.isNone_iff_eq_none.1 ho] at h2
  rw [h2, Array.append_empty] at h1
  exact h1
theorem idx_lt {i : Nat} {b : Blk} (h : hp[i]? = some b) : i < hp.length := (List.getElem?_eq_some_iff.1 h).1

/-- A block more. -/
def Env.newA (E : Env) (n g : Nat) : Env := ⟨fun i => if i = n then g else E.a i, E.h, fun i => if i = n then #[] else E.t i⟩
theorem Env.newA_le (E : Env) (n g ne : Nat) : E.Le (E.newA n g) n ne := ⟨fun i hi => by simp only [Env.newA]; rw [if_neg (by omega)], fun _ _ => rfl, fun i hi => by simp only [Env.newA]; rw [if_neg (by omega)]⟩
theorem Env.newA_tl (E : Env) (n g : Nat) : (E.newA n g).t n = #[] := by simp [Env.newA]
theorem Env.newA_at (E : Env) (n g : Nat) : (E.newA n g).a n = g := by simp [Env.newA]
theorem push_get {i : Nat} {b x : Blk} (h : (hp ++ [x])[i]? = some b) : hp[i]? = some b ∨ (i = hp.length ∧ b = x) := by
  rcases Nat.lt_trichotomy i hp.length with hi | hi | hi
  · rw [List.getElem?_append_left hi] at h; exact .inl h
  · subst hi; simp at h; exact .inr ⟨rfl, h.symm⟩
  · rw [List.getElem?_eq_none (by simp; omega)] at h; cases h
theorem push_post (h : Hs C E hp ne w) (cells : List Cell) (T : Nat) (hv : ∀ c, c ∈ cells → c.V E hp.length ne (RF (fz C E hp) w)) :
    Post C E hp ne w (E.newA hp.length w.heap.size) (hp ++ [⟨true, cells, T, none⟩]) ne (w.alloc (.cells (cellsDen E cells) T)) := by
  have hle := Env.newA_le E hp.length w.heap.size ne
  have hat : ∀ k, k < w.heap.size → (w.alloc (.cells (cellsDen E cells) T)).heap[k]? = w.heap[k]? := fun k hk => by
    simp only [World.alloc]
    rw [Array.getElem?_push]
    simp [Nat.ne_of_lt hk]
  have hold : ∀ i b, hp[i]? = some b → (E.newA hp.length w.heap.size).a i = E.a i := fun i b hi => hle.a i (idx_lt hi)
  have hkeep : ∀ k, fz C E hp k → k < w.heap.size → (w.alloc (.cells (cellsDen E cells) T)).heap[k]? = w.heap[k]? ∧ fz C (E.newA hp.length w.heap.size) (hp ++ [⟨true, cells, T, none⟩]) k := fun k hk hlt => by
    refine ⟨hat k hlt, ?_⟩
    rcases hk with hk | ⟨h1, h2⟩
    · exact .inl hk
    · refine .inr ⟨h1, fun i b hi hl => ?_⟩
      rcases push_get hi with hi | ⟨rfl, rfl⟩
      · rw [hold i b hi]; exact h2 i b hi hl
      · rw [Env.newA_at]; omega
  have hlen : hp.length ≤ (hp ++ [(⟨true, cells, T, none⟩ : Blk)]).length := by simp
  refine ⟨hle, hlen, Nat.le_refl _, ?_, hkeep⟩
  constructor
  · intro i b hi hl
    rcases push_get hi with hi | ⟨rfl, rfl⟩
    · rw [hold i b hi, hat _ (h.lt hi hl), h.blk i b hi hl, cellsDen_le hle (h.cv i b hi hl), hle.t i (idx_lt hi)]
    · rw [Env.newA_at, Env.newA_tl, cellsDen_le hle hv]
      simp only [Array.append_empty]
      exact blk_new w _
  · intro i b hi hl
    rcases push_get hi with hi | ⟨rfl, rfl⟩
    · exact TlOk.le hle (Nat.le_refl _) (idx_lt hi) (h.tl i b hi hl)
    · exact Env.newA_tl _ _ _
  · intro i j b c hi hj hbl hcl he
    rcases push_get hi with hi | ⟨rfl, rfl⟩ <;> rcases push_get hj with hj | ⟨rfl, rfl⟩
    · rw [hold i b hi, hold j c hj] at he; exact h.inj i j b c hi hj hbl hcl he
    · rw [hold i b hi, Env.newA_at] at he; have := h.lt hi hbl; omega
    · rw [hold j c hj, Env.newA_at] at he; have := h.lt hj hcl; omega
    · rfl
  · intro i b hi hl hok
    rcases push_get hi with hi | ⟨rfl, rfl⟩
    · rw [hold i b hi] at hok; exact h.nok i b hi hl hok
    · rw [Env.newA_at] at hok; have := h.okb _ hok; have := h.size; omega
  · intro i b hi hl c hc
    rcases push_get hi with hi | ⟨rfl, rfl⟩
    · exact Cell.V_le hle hlen (Nat.le_refl _) (RF_step hkeep) (h.cv i b hi hl c hc)
    · exact Cell.V_le hle hlen (Nat.le_refl _) (RF_step hkeep) (hv c hc)
  · exact h.okb
  · exact Nat.le_trans h.np hlen
  · exact h.np0
  · exact hd_le hle (Nat.le_refl _) h.hd
  · intro i b hi hn
    rcases push_get hi with hi | ⟨rfl, rfl⟩
    · rw [hold i b hi]; exact h.low i b hi hn
    · rw [Env.newA_at]; exact h.size
  · exact h.os
  · exact h.tape
  · exact h.output
  · have := h.size; simp; omega
  · intro k hk hne
    rw [hat k (by have := h.size; omega)]
    exact h.far k hk (fun i hi => by have := hne i hi; rwa [hle.a i (by have := h.np; omega)] at this)

/-- Cells laid from an offset on. -/
def splice (cs : List Cell) (off : Nat) : List Cell → List Cell
  | [] => cs
  | v :: vs => splice (cs.set off v) (off + 1) vs
theorem splice_length : ∀ (vs cs : List Cell) (off : Nat), (splice cs off vs).length = cs.length
  | [], cs, off => rfl
  | v :: vs, cs, off => by simp [splice, splice_length vs]
theorem splice_mem {c : Cell} : ∀ (vs cs : List Cell) (off : Nat), c ∈ splice cs off vs → c ∈ cs ∨ c ∈ vs
  | [], cs, off, h => .inl h
  | v :: vs, cs, off, h => by
    rcases splice_mem vs _ _ h with h | h
    · rcases List.mem_or_eq_of_mem_set h with h | h
      · exact .inl h
      · exact .inr (by simp [h])
    · exact .inr (by simp [h])
theorem splice_far : ∀ (vs cs : List Cell) (off j : Nat), (j < off ∨ off + vs.length ≤ j) → (splice cs off vs)[j]? = cs[j]?
  | [], cs, off, j, h => rfl
  | v :: vs, cs, off, j, h => by
    simp only [List.length_cons] at h
    rw [splice, splice_far vs _ _ j (by omega), List.getElem?_set_ne (by omega)]
theorem setCells_splice (E : Env) {b T : Nat} {tl : Array Value} : ∀ (vs cs : List Cell) (off : Nat) (w : World), off + vs.length ≤ cs.length → w.heap[b]? = some (.cells (cellsDen E cs ++ tl) T (0, 0)) →
    (w.setCells b off (vs.map (Cell.den E))).heap[b]? = some (.cells (cellsDen E (splice cs off vs) ++ tl) T (0, 0)) ∧ (∀ k, k ≠ b → (w.setCells b off (vs.map (Cell.den E))).heap[k]? = w.heap[k]?) ∧ w.grownBy (w.setCells b off (vs.map (Cell.den E))) (some b)
  | [], cs, off, w, hlen, h => ⟨h, fun _ _ => rfl, grown_refl _ _⟩
  | v :: vs, cs, off, w, hlen, h => by
    simp only [List.length_cons] at hlen
    have h1 : (w.setCell ⟨b, off, none⟩ (v.den E)).heap[b]? = some (.cells (cellsDen E (cs.set off v) ++ tl) T (0, 0)) := blk_put h off (v.den E) (by simp [cellsDen, List.map_set, Array.setIfInBounds_append, show off < cs.length by omega])
    obtain ⟨h2, h3, h4⟩ := setCells_splice E vs (cs.set off v) (off + 1) _ (by simp; omega) h1
    refine ⟨h2, fun k hk => (h3 k hk).trans (Below.heap_setCell w _ _ k hk), ?_⟩
    exact grown_trans (grown_set w b off (v.den E)) h4
theorem set_get {i j : Nat} {b x : Blk} (h : (hp.set i x)[j]? = some b) : (j = i ∧ b = x) ∨ (j ≠ i ∧ hp[j]? = some b) := by
  by_cases hij : i = j
  · subst hij
    rw [List.getElem?_set_self' ] at h
    cases hh : hp[i]? with
    | none => rw [hh] at h; simp at h
    | some y => rw [hh] at h; simp at h; exact .inl ⟨rfl, h.symm⟩
  · rw [List.getElem?_set_ne hij] at h; exact .inr ⟨fun e => hij e.symm, h⟩
theorem store_post (h : Hs C E hp ne w) {i : Nat} {b : Blk} (hi : hp[i]? = some b) (hl : b.live = true) (off : Nat) (vs : List Cell) (hin : off + vs.length ≤ b.cells.length) (hv : ∀ c, c ∈ vs → c.V E hp.length ne (RF (fz C E hp) w)) :
    Post C E hp ne w E (hp.set i { b with cells := splice b.cells off vs }) ne (w.setCells (E.a i) off (vs.map (Cell.den E))) := by
  obtain ⟨h1, h2, h3⟩ := setCells_splice E vs b.cells off w hin (h.blk i b hi hl)
  have hlen : (hp.set i { b with cells := splice b.cells off vs }).length = hp.length := by simp
  have hkeep : ∀ k, fz C E hp k → k < w.heap.size → (w.setCells (E.a i) off (vs.map (Cell.den E))).heap[k]? = w.heap[k]? ∧ fz C E (hp.set i { b with cells := splice b.cells off vs }) k := fun k hk hlt => by
    refine ⟨h2 k (fun e => ?_), ?_⟩
    · subst e
      rcases hk with hk | ⟨_, hk⟩
      · exact h.nok i b hi hl hk
      · exact hk i b hi hl rfl
    · rcases hk with hk | ⟨h4, h5⟩
      · exact .inl hk
      · refine .inr ⟨h4, fun j c hj hcl => ?_⟩
        rcases set_get hj with ⟨rfl, rfl⟩ | ⟨_, hj⟩
        · exact h5 j b hi hl
        · exact h5 j c hj hcl
  refine ⟨Env.Le.refl _ _ _, by rw [hlen]; exact Nat.le_refl _, Nat.le_refl _, ?_, hkeep⟩
  constructor
  · intro j c hj hcl
    rcases set_get hj with ⟨rfl, rfl⟩ | ⟨hne, hj⟩
    · exact h1
    · rw [h2 _ (fun e => hne (h.inj j i c b hj hi hcl hl e))]; exact h.blk j c hj hcl
  · intro j c hj hcl
    rcases set_get hj with ⟨rfl, rfl⟩ | ⟨hne, hj⟩
    · have := h.tl _ b hi hl
      unfold TlOk at this ⊢
      simp only [splice_length]
      exact this
    · exact h.tl j c hj hcl
  · intro j k c d hj hk hcl hdl he
    rcases set_get hj with ⟨rfl, rfl⟩ | ⟨_, hj1⟩ <;> rcases set_get hk with ⟨h8, h9⟩ | ⟨_, hk1⟩
    · exact h8.symm
    · exact h.inj _ _ b d hi hk1 hl hdl he
    · rw [h8] at he ⊢
      exact h.inj _ _ c b hj1 hi hcl hl he
    · exact h.inj _ _ c d hj1 hk1 hcl hdl he
  · intro j c hj hcl
    rcases set_get hj with ⟨rfl, rfl⟩ | ⟨_, hj⟩
    · exact h.nok _ b hi hl
    · exact h.nok _ c hj hcl
  · intro j c hj hcl x hx
    rw [hlen]
    refine Cell.V_le (Env.Le.refl _ _ _) (Nat.le_refl _) (Nat.le_refl _) (RF_step hkeep) ?_
    rcases set_get hj with ⟨rfl, rfl⟩ | ⟨_, hj⟩
    · rcases splice_mem vs _ _ hx with hx | hx
      · exact h.cv _ b hi hl x hx
      · exact hv x hx
    · exact h.cv _ c hj hcl x hx
  · exact h.okb
  · rw [hlen]; exact h.np
  · exact h.np0
  · exact h.hd
  · intro j c hj hn
    rcases set_get hj with ⟨rfl, rfl⟩ | ⟨_, hj⟩
    · exact h.low _ b hi hn
    · exact h.low _ c hj hn
  · exact h3.os.trans h.os
  · exact h3.tape.trans h.tape
  · exact h3.output.trans h.output
  · exact Nat.le_trans h.size h3.size
  · intro k hk hne
    rw [h2 k (fun e => ?_)]
    · exact h.far k hk hne
    · subst e
      rcases Nat.lt_or_ge i C.np with hn | hn
      · exact hne i hn rfl
      · have := h.low i b hi hn; omega
/-- The tape is asked. -/
theorem drew_post (h : Hs C E hp ne w) : Post C E hp ne w E hp ne w.drew := by
  refine ⟨Env.Le.refl _ _ _, Nat.le_refl _, Nat.le_refl _, ?_, fun k hk _ => ⟨rfl, hk⟩⟩
  exact ⟨h.blk, h.tl, h.inj, h.nok, fun i b hi hl c hc => Cell.V_le (Env.Le.refl _ _ _) (Nat.le_refl _) (Nat.le_refl _) (RF_step (fun k hk _ => ⟨rfl, hk⟩)) (h.cv i b hi hl c hc), h.okb, h.np, h.np0, h.hd, h.low, h.os, h.tape, h.output, h.size, h.far⟩
end
end Ev
end Go.Proofs.Ytfbiahlogclkbaa.H
