/- The proof's texts RowA RowC RowD: what the statement leads to. No condition is added. -/
import Derived.Test.YtfbiahlogclkbaaStkA
import Derived.Deep.Slices
import Derived.Test.YtfbiahlogclkbaaSetA
import Derived.Test.YtfbiahlogclkbaaFewA
set_option linter.unusedVariables false
set_option linter.unusedSimpArgs false
namespace Go.Proofs.Ytfbiahlogclkbaa.H
open Go.RowKit Go.ChangeShapes Go.WideShapes Go.Proofs.YtfbiahlogclkbaaW.PrintWords Go.Proofs.YtfbiahlogclkbaaW.PrintLast Go.Proofs.YtfbiahlogclkbaaW.PrintMore Go.Proofs.Ytfbiahlogclkbaa.P
section
variable {H : Type} {enc : TypeId × Value → H} {P : Program} {w : World} {spare : Nat → Bool} {held : Bool}
/-- What reads as type t (n deep) has a value of kind d. -/
def Opens (enc : TypeId × Value → H) (P : Program) (w : World) (spare : Nat → Bool) (held : Bool) {α : Type} (d : Kd α) (t : TypeId) (n : Nat) : Prop := ∀ cs x, DataW.trod enc P w 0 spare held n t cs = some x → ∃ v : α, d.K w v cs
theorem op_int {k : IntKind} {t : TypeId} (n : Nat) (ht : P.underlying t = some (.int k)) : Opens enc P w spare held (Kd.int k) t n := fun cs x h => by
  obtain ⟨i, rfl, _⟩ := DataW.trod_int ht h
  exact ⟨i, rfl⟩
theorem op_bool {t : TypeId} (n : Nat) (ht : P.underlying t = some .bool) : Opens enc P w spare held Kd.bool t n := fun cs x h => by
  obtain ⟨i, rfl, _⟩ := DataW.trod_bool ht h
  exact ⟨i, rfl⟩
theorem op_slice {α : Type} {d : Kd α} (T : Nat) {t e : TypeId} (n : Nat) (ht : P.underlying t = some (.slice e)) (hs : P.cellsOf e = d.sz) (hd : ∀ m, m < n → Opens enc P w spare held d e m) : Opens enc P w spare held (Kd.slice T d) t n := by
  intro cs x h
  rcases DataW.trod_slice ht h with ⟨rfl, _⟩ | ⟨a, len, cap, elems, rest, m, rfl, rfl, _, _, hl, hm, hlen, hel, _⟩
  · exact ⟨[], none, 0, rfl, Nat.le_refl _, rfl, by simp, fun h => absurd h (by simp)⟩
  · have hV : ∀ i, i < len → ∃ v : α, ∃ c : List Value, c.length = d.sz ∧ d.K w v c ∧ ∀ j u, c[j]? = some u → w.cell? (a.add (i * d.sz + j)) = some u := by
      intro i hi
      have h1 := hel i hi
      rw [List.getElem?_eq_getElem (by omega)] at h1
      obtain ⟨cs', h2, h3⟩ := Option.bind_eq_some_iff.1 h1
      obtain ⟨v, hv⟩ := hd m (Nat.lt_succ_self m) cs' _ h3
      obtain ⟨_, hl2, hcell⟩ := World.cells?_some h2
      rw [hs] at hl2 hcell
      refine ⟨v, cs', hl2, hv, fun j u hj => ?_⟩
      have hjl : j < d.sz := by rw [← hl2]; exact (List.getElem?_eq_some_iff.1 hj).1
      have h4 := hcell j hjl
      rw [Go.Deep.add_add, hj] at h4
      exact h4
    refine ⟨List.ofFn fun i : Fin len => Classical.choose (hV i i.2), some a, cap, by simp, by simpa using hl, by simp, ?_, fun _ => ⟨a, rfl, fun j p hj => ?_⟩⟩
    · simp only [List.length_ofFn]
      simp only [maxLen] at hm
      omega
    · rw [List.getElem?_ofFn] at hj
      split at hj
      · injection hj with hj
        subst hj
        exact Classical.choose_spec (hV j (by assumption))
      · cases hj
theorem op_fields {t : TypeId} {fs : Array Field} {n N : Nat} {cs : List Value} {x : DataW H × List MemPlace} (ht : P.underlying t = some (.struct fs)) (hC : P.cellsOf t = N) (h : DataW.trod enc P w 0 spare held n t cs = some x) :
    ∃ m, n = m + 1 ∧ cs.length = N ∧ ∀ (i : Nat) (f : Field), fs[i]? = some f → ∃ y, DataW.trod enc P w 0 spare held m f.type ((cs.drop f.offset).take (P.cellsOf f.type)) = some y := by
  obtain ⟨xs, m, hm, _, hl, hx, hf⟩ := DataW.trod_struct ht h
  refine ⟨m, hm, hl.trans hC, fun i f hi => ?_⟩
  have hlt : i < fs.size := (Array.getElem?_eq_some_iff.1 hi).1
  have := hf i f hi
  rw [List.getElem?_eq_getElem (by omega)] at this
  exact ⟨_, this⟩
end
end Go.Proofs.Ytfbiahlogclkbaa.H

set_option linter.unusedVariables false
set_option linter.unusedSimpArgs false
namespace Go.Proofs.Ytfbiahlogclkbaa.H
open Go.RowKit Go.ChangeShapes Go.WideShapes Go.Proofs.YtfbiahlogclkbaaW.PrintWords Go.Proofs.YtfbiahlogclkbaaW.PrintLast Go.Proofs.YtfbiahlogclkbaaW.PrintMore Go.Proofs.Ytfbiahlogclkbaa.P
section
set_option maxRecDepth 200000
variable {H : Type} {enc : TypeId × Value → H} {w : World} {spare : Nat → Bool} {held : Bool}
theorem op_at {P : Program} {fs : Array Field} {m : Nat} {cs : List Value} (hf : ∀ (i : Nat) (f : Field), fs[i]? = some f → ∃ y, DataW.trod enc P w 0 spare held m f.type ((cs.drop f.offset).take (P.cellsOf f.type)) = some y) (i : Nat) {T : TypeId} {off n : Nat} (hi : (fs[i]?).map (fun f => (f.type, f.offset)) = some (T, off)) (hn : P.cellsOf T = n) : ∃ y, DataW.trod enc P w 0 spare held m T ((cs.drop off).take n) = some y := by
  obtain ⟨f, h1, h2⟩ := Option.map_eq_some_iff.1 hi
  obtain ⟨rfl, rfl⟩ := Prod.mk.inj h2
  subst hn
  exact hf i f h1
theorem op_api_Head (n : Nat) : Opens enc Try.prog w spare held k23 23 n := by
  intro cs x h
  obtain ⟨m, rfl, hl, hf⟩ := op_fields (N := 6) Try.underlying23 (by kernel_rfl) h
  match cs, hl with
  | [c0, c1, c2, c3, c4, c5], _ =>
    obtain ⟨y0, t0⟩ := op_at hf 0 (T := 3) (off := 0) (n := 1) (by kernel_rfl) (by kernel_rfl)
    obtain ⟨v0, h0⟩ := (op_int m Try.underlying3) [c0] _ t0
    obtain ⟨y1, t1⟩ := op_at hf 1 (T := 3) (off := 1) (n := 1) (by kernel_rfl) (by kernel_rfl)
    obtain ⟨v1, h1⟩ := (op_int m Try.underlying3) [c1] _ t1
    obtain ⟨y2, t2⟩ := op_at hf 2 (T := 3) (off := 2) (n := 1) (by kernel_rfl) (by kernel_rfl)
    obtain ⟨v2, h2⟩ := (op_int m Try.underlying3) [c2] _ t2
    obtain ⟨y3, t3⟩ := op_at hf 3 (T := 3) (off := 3) (n := 1) (by kernel_rfl) (by kernel_rfl)
    obtain ⟨v3, h3⟩ := (op_int m Try.underlying3) [c3] _ t3
    obtain ⟨y4, t4⟩ := op_at hf 4 (T := 3) (off := 4) (n := 1) (by kernel_rfl) (by kernel_rfl)
    obtain ⟨v4, h4⟩ := (op_int m Try.underlying3) [c4] _ t4
    obtain ⟨y5, t5⟩ := op_at hf 5 (T := 4) (off := 5) (n := 1) (by kernel_rfl) (by kernel_rfl)
    obtain ⟨v5, h5⟩ := (op_bool m Try.underlying4) [c5] _ t5
    exact ⟨⟨v0, v1, v2, v3, v4, v5⟩, ⟨[c0], [c1, c2, c3, c4, c5], rfl, h0, ⟨[c1], [c2, c3, c4, c5], rfl, h1, ⟨[c2], [c3, c4, c5], rfl, h2, ⟨[c3], [c4, c5], rfl, h3, ⟨[c4], [c5], rfl, h4, h5⟩⟩⟩⟩⟩⟩
theorem op_api_Metric (n : Nat) : Opens enc Try.prog w spare held k165 165 n := by
  intro cs x h
  obtain ⟨m, rfl, hl, hf⟩ := op_fields (N := 2) Try.underlying165 (by kernel_rfl) h
  match cs, hl with
  | [c0, c1], _ =>
    obtain ⟨y0, t0⟩ := op_at hf 0 (T := 3) (off := 0) (n := 1) (by kernel_rfl) (by kernel_rfl)
    obtain ⟨v0, h0⟩ := (op_int m Try.underlying3) [c0] _ t0
    obtain ⟨y1, t1⟩ := op_at hf 1 (T := 3) (off := 1) (n := 1) (by kernel_rfl) (by kernel_rfl)
    obtain ⟨v1, h1⟩ := (op_int m Try.underlying3) [c1] _ t1
    exact ⟨⟨v0, v1⟩, ⟨[c0], [c1], rfl, h0, h1⟩⟩
theorem op_api_Extent (n : Nat) : Opens enc Try.prog w spare held k167 167 n := by
  intro cs x h
  obtain ⟨m, rfl, hl, hf⟩ := op_fields (N := 5) Try.underlying167 (by kernel_rfl) h
  match cs, hl with
  | [c0, c1, c2, c3, c4], _ =>
    obtain ⟨y0, t0⟩ := op_at hf 0 (T := 4) (off := 0) (n := 1) (by kernel_rfl) (by kernel_rfl)
    obtain ⟨v0, h0⟩ := (op_bool m Try.underlying4) [c0] _ t0
    obtain ⟨y1, t1⟩ := op_at hf 1 (T := 3) (off := 1) (n := 1) (by kernel_rfl) (by kernel_rfl)
    obtain ⟨v1, h1⟩ := (op_int m Try.underlying3) [c1] _ t1
    obtain ⟨y2, t2⟩ := op_at hf 2 (T := 3) (off := 2) (n := 1) (by kernel_rfl) (by kernel_rfl)
    obtain ⟨v2, h2⟩ := (op_int m Try.underlying3) [c2] _ t2
    obtain ⟨y3, t3⟩ := op_at hf 3 (T := 3) (off := 3) (n := 1) (by kernel_rfl) (by kernel_rfl)
    obtain ⟨v3, h3⟩ := (op_int m Try.underlying3) [c3] _ t3
    obtain ⟨y4, t4⟩ := op_at hf 4 (T := 3) (off := 4) (n := 1) (by kernel_rfl) (by kernel_rfl)
    obtain ⟨v4, h4⟩ := (op_int m Try.underlying3) [c4] _ t4
    exact ⟨⟨v0, v1, v2, v3, v4⟩, ⟨[c0], [c1, c2, c3, c4], rfl, h0, ⟨[c1], [c2, c3, c4], rfl, h1, ⟨[c2], [c3, c4], rfl, h2, ⟨[c3], [c4], rfl, h3, h4⟩⟩⟩⟩⟩
theorem op_api_Span (n : Nat) : Opens enc Try.prog w spare held k123 123 n := by
  intro cs x h
  obtain ⟨m, rfl, hl, hf⟩ := op_fields (N := 4) Try.underlying123 (by kernel_rfl) h
  match cs, hl with
  | [c0, c1, c2, c3], _ =>
    obtain ⟨y0, t0⟩ := op_at hf 0 (T := 3) (off := 0) (n := 1) (by kernel_rfl) (by kernel_rfl)
    obtain ⟨v0, h0⟩ := (op_int m Try.underlying3) [c0] _ t0
    obtain ⟨y1, t1⟩ := op_at hf 1 (T := 3) (off := 1) (n := 1) (by kernel_rfl) (by kernel_rfl)
    obtain ⟨v1, h1⟩ := (op_int m Try.underlying3) [c1] _ t1
    obtain ⟨y2, t2⟩ := op_at hf 2 (T := 3) (off := 2) (n := 1) (by kernel_rfl) (by kernel_rfl)
    obtain ⟨v2, h2⟩ := (op_int m Try.underlying3) [c2] _ t2
    obtain ⟨y3, t3⟩ := op_at hf 3 (T := 3) (off := 3) (n := 1) (by kernel_rfl) (by kernel_rfl)
    obtain ⟨v3, h3⟩ := (op_int m Try.underlying3) [c3] _ t3
    exact ⟨⟨v0, v1, v2, v3⟩, ⟨[c0], [c1, c2, c3], rfl, h0, ⟨[c1], [c2, c3], rfl, h1, ⟨[c2], [c3], rfl, h2, h3⟩⟩⟩⟩
theorem op_api_Pair (n : Nat) : Opens enc Try.prog w spare held k169 169 n := by
  intro cs x h
  obtain ⟨m, rfl, hl, hf⟩ := op_fields (N := 2) Try.underlying169 (by kernel_rfl) h
  match cs, hl with
  | [c0, c1], _ =>
    obtain ⟨y0, t0⟩ := op_at hf 0 (T := 3) (off := 0) (n := 1) (by kernel_rfl) (by kernel_rfl)
    obtain ⟨v0, h0⟩ := (op_int m Try.underlying3) [c0] _ t0
    obtain ⟨y1, t1⟩ := op_at hf 1 (T := 3) (off := 1) (n := 1) (by kernel_rfl) (by kernel_rfl)
    obtain ⟨v1, h1⟩ := (op_int m Try.underlying3) [c1] _ t1
    exact ⟨⟨v0, v1⟩, ⟨[c0], [c1], rfl, h0, h1⟩⟩
theorem op_api_Stair (n : Nat) : Opens enc Try.prog w spare held k128 128 n := by
  intro cs x h
  obtain ⟨m, rfl, hl, hf⟩ := op_fields (N := 2) Try.underlying128 (by kernel_rfl) h
  match cs, hl with
  | [c0, c1], _ =>
    obtain ⟨y0, t0⟩ := op_at hf 0 (T := 27) (off := 0) (n := 1) (by kernel_rfl) (by kernel_rfl)
    obtain ⟨v0, h0⟩ := (op_slice 3 m Try.underlying27 (by kernel_rfl) (fun k _ => (op_int k Try.underlying3))) [c0] _ t0
    obtain ⟨y1, t1⟩ := op_at hf 1 (T := 27) (off := 1) (n := 1) (by kernel_rfl) (by kernel_rfl)
    obtain ⟨v1, h1⟩ := (op_slice 3 m Try.underlying27 (by kernel_rfl) (fun k _ => (op_int k Try.underlying3))) [c1] _ t1
    exact ⟨⟨v0, v1⟩, ⟨[c0], [c1], rfl, h0, h1⟩⟩
theorem op_api_Kern (n : Nat) : Opens enc Try.prog w spare held k126 126 n := by
  intro cs x h
  obtain ⟨m, rfl, hl, hf⟩ := op_fields (N := 2) Try.underlying126 (by kernel_rfl) h
  match cs, hl with
  | [c0, c1], _ =>
    obtain ⟨y0, t0⟩ := op_at hf 0 (T := 3) (off := 0) (n := 1) (by kernel_rfl) (by kernel_rfl)
    obtain ⟨v0, h0⟩ := (op_int m Try.underlying3) [c0] _ t0
    obtain ⟨y1, t1⟩ := op_at hf 1 (T := 124) (off := 1) (n := 1) (by kernel_rfl) (by kernel_rfl)
    obtain ⟨v1, h1⟩ := (op_slice 128 m Try.underlying124 (by kernel_rfl) (fun k _ => (op_api_Stair k))) [c1] _ t1
    exact ⟨⟨v0, v1⟩, ⟨[c0], [c1], rfl, h0, h1⟩⟩
theorem op_api_Variant (n : Nat) : Opens enc Try.prog w spare held k171 171 n := by
  intro cs x h
  obtain ⟨m, rfl, hl, hf⟩ := op_fields (N := 2) Try.underlying171 (by kernel_rfl) h
  match cs, hl with
  | [c0, c1], _ =>
    obtain ⟨y0, t0⟩ := op_at hf 0 (T := 3) (off := 0) (n := 1) (by kernel_rfl) (by kernel_rfl)
    obtain ⟨v0, h0⟩ := (op_int m Try.underlying3) [c0] _ t0
    obtain ⟨y1, t1⟩ := op_at hf 1 (T := 3) (off := 1) (n := 1) (by kernel_rfl) (by kernel_rfl)
    obtain ⟨v1, h1⟩ := (op_int m Try.underlying3) [c1] _ t1
    exact ⟨⟨v0, v1⟩, ⟨[c0], [c1], rfl, h0, h1⟩⟩
theorem op_api_Part (n : Nat) : Opens enc Try.prog w spare held k173 173 n := by
  intro cs x h
  obtain ⟨m, rfl, hl, hf⟩ := op_fields (N := 5) Try.underlying173 (by kernel_rfl) h
  match cs, hl with
  | [c0, c1, c2, c3, c4], _ =>
    obtain ⟨y0, t0⟩ := op_at hf 0 (T := 3) (off := 0) (n := 1) (by kernel_rfl) (by kernel_rfl)
    obtain ⟨v0, h0⟩ := (op_int m Try.underlying3) [c0] _ t0
    obtain ⟨y1, t1⟩ := op_at hf 1 (T := 3) (off := 1) (n := 1) (by kernel_rfl) (by kernel_rfl)
    obtain ⟨v1, h1⟩ := (op_int m Try.underlying3) [c1] _ t1
    obtain ⟨y2, t2⟩ := op_at hf 2 (T := 3) (off := 2) (n := 1) (by kernel_rfl) (by kernel_rfl)
    obtain ⟨v2, h2⟩ := (op_int m Try.underlying3) [c2] _ t2
    obtain ⟨y3, t3⟩ := op_at hf 3 (T := 3) (off := 3) (n := 1) (by kernel_rfl) (by kernel_rfl)
    obtain ⟨v3, h3⟩ := (op_int m Try.underlying3) [c3] _ t3
    obtain ⟨y4, t4⟩ := op_at hf 4 (T := 4) (off := 4) (n := 1) (by kernel_rfl) (by kernel_rfl)
    obtain ⟨v4, h4⟩ := (op_bool m Try.underlying4) [c4] _ t4
    exact ⟨⟨v0, v1, v2, v3, v4⟩, ⟨[c0], [c1, c2, c3, c4], rfl, h0, ⟨[c1], [c2, c3, c4], rfl, h1, ⟨[c2], [c3, c4], rfl, h2, ⟨[c3], [c4], rfl, h3, h4⟩⟩⟩⟩⟩
theorem op_api_Grow (n : Nat) : Opens enc Try.prog w spare held k138 138 n := by
  intro cs x h
  obtain ⟨m, rfl, hl, hf⟩ := op_fields (N := 4) Try.underlying138 (by kernel_rfl) h
  match cs, hl with
  | [c0, c1, c2, c3], _ =>
    obtain ⟨y0, t0⟩ := op_at hf 0 (T := 3) (off := 0) (n := 1) (by kernel_rfl) (by kernel_rfl)
    obtain ⟨v0, h0⟩ := (op_int m Try.underlying3) [c0] _ t0
    obtain ⟨y1, t1⟩ := op_at hf 1 (T := 135) (off := 1) (n := 1) (by kernel_rfl) (by kernel_rfl)
    obtain ⟨v1, h1⟩ := (op_slice 171 m Try.underlying135 (by kernel_rfl) (fun k _ => (op_api_Variant k))) [c1] _ t1
    obtain ⟨y2, t2⟩ := op_at hf 2 (T := 3) (off := 2) (n := 1) (by kernel_rfl) (by kernel_rfl)
    obtain ⟨v2, h2⟩ := (op_int m Try.underlying3) [c2] _ t2
    obtain ⟨y3, t3⟩ := op_at hf 3 (T := 136) (off := 3) (n := 1) (by kernel_rfl) (by kernel_rfl)
    obtain ⟨v3, h3⟩ := (op_slice 173 m Try.underlying136 (by kernel_rfl) (fun k _ => (op_api_Part k))) [c3] _ t3
    exact ⟨⟨v0, v1, v2, v3⟩, ⟨[c0], [c1, c2, c3], rfl, h0, ⟨[c1], [c2, c3], rfl, h1, ⟨[c2], [c3], rfl, h2, h3⟩⟩⟩⟩
theorem op_api_Growth (n : Nat) : Opens enc Try.prog w spare held k32 32 n := by
  intro cs x h
  obtain ⟨m, rfl, hl, hf⟩ := op_fields (N := 3) Try.underlying32 (by kernel_rfl) h
  match cs, hl with
  | [c0, c1, c2], _ =>
    obtain ⟨y0, t0⟩ := op_at hf 0 (T := 3) (off := 0) (n := 1) (by kernel_rfl) (by kernel_rfl)
    obtain ⟨v0, h0⟩ := (op_int m Try.underlying3) [c0] _ t0
    obtain ⟨y1, t1⟩ := op_at hf 1 (T := 30) (off := 1) (n := 1) (by kernel_rfl) (by kernel_rfl)
    obtain ⟨v1, h1⟩ := (op_slice 138 m Try.underlying30 (by kernel_rfl) (fun k _ => (op_api_Grow k))) [c1] _ t1
    obtain ⟨y2, t2⟩ := op_at hf 2 (T := 30) (off := 2) (n := 1) (by kernel_rfl) (by kernel_rfl)
    obtain ⟨v2, h2⟩ := (op_slice 138 m Try.underlying30 (by kernel_rfl) (fun k _ => (op_api_Grow k))) [c2] _ t2
    exact ⟨⟨v0, v1, v2⟩, ⟨[c0], [c1, c2], rfl, h0, ⟨[c1], [c2], rfl, h1, h2⟩⟩⟩
theorem op_api_Math (n : Nat) : Opens enc Try.prog w spare held k34 34 n := by
  intro cs x h
  obtain ⟨m, rfl, hl, hf⟩ := op_fields (N := 8) Try.underlying34 (by kernel_rfl) h
  match cs, hl with
  | [c0, c1, c2, c3, c4, c5, c6, c7], _ =>
    obtain ⟨y0, t0⟩ := op_at hf 0 (T := 27) (off := 0) (n := 1) (by kernel_rfl) (by kernel_rfl)
    obtain ⟨v0, h0⟩ := (op_slice 3 m Try.underlying27 (by kernel_rfl) (fun k _ => (op_int k Try.underlying3))) [c0] _ t0
    obtain ⟨y1, t1⟩ := op_at hf 1 (T := 28) (off := 1) (n := 1) (by kernel_rfl) (by kernel_rfl)
    obtain ⟨v1, h1⟩ := (op_slice 169 m Try.underlying28 (by kernel_rfl) (fun k _ => (op_api_Pair k))) [c1] _ t1
    obtain ⟨y2, t2⟩ := op_at hf 2 (T := 28) (off := 2) (n := 1) (by kernel_rfl) (by kernel_rfl)
    obtain ⟨v2, h2⟩ := (op_slice 169 m Try.underlying28 (by kernel_rfl) (fun k _ => (op_api_Pair k))) [c2] _ t2
    obtain ⟨y3, t3⟩ := op_at hf 3 (T := 27) (off := 3) (n := 1) (by kernel_rfl) (by kernel_rfl)
    obtain ⟨v3, h3⟩ := (op_slice 3 m Try.underlying27 (by kernel_rfl) (fun k _ => (op_int k Try.underlying3))) [c3] _ t3
    obtain ⟨y4, t4⟩ := op_at hf 4 (T := 29) (off := 4) (n := 1) (by kernel_rfl) (by kernel_rfl)
    obtain ⟨v4, h4⟩ := (op_slice 126 m Try.underlying29 (by kernel_rfl) (fun k _ => (op_api_Kern k))) [c4] _ t4
    obtain ⟨y5, t5⟩ := op_at hf 5 (T := 32) (off := 5) (n := 3) (by kernel_rfl) (by kernel_rfl)
    obtain ⟨v5, h5⟩ := (op_api_Growth m) [c5, c6, c7] _ t5
    exact ⟨⟨v0, v1, v2, v3, v4, v5⟩, ⟨[c0], [c1, c2, c3, c4, c5, c6, c7], rfl, h0, ⟨[c1], [c2, c3, c4, c5, c6, c7], rfl, h1, ⟨[c2], [c3, c4, c5, c6, c7], rfl, h2, ⟨[c3], [c4, c5, c6, c7], rfl, h3, ⟨[c4], [c5, c6, c7], rfl, h4, h5⟩⟩⟩⟩⟩⟩
theorem op_api_Font (n : Nat) : Opens enc Try.prog w spare held k36 36 n := by
  intro cs x h
  obtain ⟨m, rfl, hl, hf⟩ := op_fields (N := 17) Try.underlying36 (by kernel_rfl) h
  match cs, hl with
  | [c0, c1, c2, c3, c4, c5, c6, c7, c8, c9, c10, c11, c12, c13, c14, c15, c16], _ =>
    obtain ⟨y0, t0⟩ := op_at hf 0 (T := 23) (off := 0) (n := 6) (by kernel_rfl) (by kernel_rfl)
    obtain ⟨v0, h0⟩ := (op_api_Head m) [c0, c1, c2, c3, c4, c5] _ t0
    obtain ⟨y1, t1⟩ := op_at hf 1 (T := 24) (off := 6) (n := 1) (by kernel_rfl) (by kernel_rfl)
    obtain ⟨v1, h1⟩ := (op_slice 165 m Try.underlying24 (by kernel_rfl) (fun k _ => (op_api_Metric k))) [c6] _ t1
    obtain ⟨y2, t2⟩ := op_at hf 2 (T := 25) (off := 7) (n := 1) (by kernel_rfl) (by kernel_rfl)
    obtain ⟨v2, h2⟩ := (op_slice 167 m Try.underlying25 (by kernel_rfl) (fun k _ => (op_api_Extent k))) [c7] _ t2
    obtain ⟨y3, t3⟩ := op_at hf 3 (T := 26) (off := 8) (n := 1) (by kernel_rfl) (by kernel_rfl)
    obtain ⟨v3, h3⟩ := (op_slice 123 m Try.underlying26 (by kernel_rfl) (fun k _ => (op_api_Span k))) [c8] _ t3
    obtain ⟨y4, t4⟩ := op_at hf 4 (T := 34) (off := 9) (n := 8) (by kernel_rfl) (by kernel_rfl)
    obtain ⟨v4, h4⟩ := (op_api_Math m) [c9, c10, c11, c12, c13, c14, c15, c16] _ t4
    exact ⟨⟨v0, v1, v2, v3, v4⟩, ⟨[c0, c1, c2, c3, c4, c5], [c6, c7, c8, c9, c10, c11, c12, c13, c14, c15, c16], rfl, h0, ⟨[c6], [c7, c8, c9, c10, c11, c12, c13, c14, c15, c16], rfl, h1, ⟨[c7], [c8, c9, c10, c11, c12, c13, c14, c15, c16], rfl, h2, ⟨[c8], [c9, c10, c11, c12, c13, c14, c15, c16], rfl, h3, h4⟩⟩⟩⟩⟩
theorem op_box_of (n : Nat) (hk : ∀ m, m < n → Opens enc Try.prog w spare held k49 49 m) : Opens enc Try.prog w spare held k39 39 n := by
  intro cs x h
  obtain ⟨m, rfl, hl, hf⟩ := op_fields (N := 7) Try.underlying39 (by kernel_rfl) h
  match cs, hl with
  | [c0, c1, c2, c3, c4, c5, c6], _ =>
    obtain ⟨y0, t0⟩ := op_at hf 0 (T := 3) (off := 0) (n := 1) (by kernel_rfl) (by kernel_rfl)
    obtain ⟨v0, h0⟩ := (op_int m Try.underlying3) [c0] _ t0
    obtain ⟨y1, t1⟩ := op_at hf 1 (T := 3) (off := 1) (n := 1) (by kernel_rfl) (by kernel_rfl)
    obtain ⟨v1, h1⟩ := (op_int m Try.underlying3) [c1] _ t1
    obtain ⟨y2, t2⟩ := op_at hf 2 (T := 3) (off := 2) (n := 1) (by kernel_rfl) (by kernel_rfl)
    obtain ⟨v2, h2⟩ := (op_int m Try.underlying3) [c2] _ t2
    obtain ⟨y3, t3⟩ := op_at hf 3 (T := 3) (off := 3) (n := 1) (by kernel_rfl) (by kernel_rfl)
    obtain ⟨v3, h3⟩ := (op_int m Try.underlying3) [c3] _ t3
    obtain ⟨y4, t4⟩ := op_at hf 4 (T := 3) (off := 4) (n := 1) (by kernel_rfl) (by kernel_rfl)
    obtain ⟨v4, h4⟩ := (op_int m Try.underlying3) [c4] _ t4
    obtain ⟨y5, t5⟩ := op_at hf 5 (T := 3) (off := 5) (n := 1) (by kernel_rfl) (by kernel_rfl)
    obtain ⟨v5, h5⟩ := (op_int m Try.underlying3) [c5] _ t5
    obtain ⟨y6, t6⟩ := op_at hf 6 (T := 37) (off := 6) (n := 1) (by kernel_rfl) (by kernel_rfl)
    obtain ⟨v6, h6⟩ := (op_slice 49 m Try.underlying37 (by kernel_rfl) (fun k hk' => hk k (by omega))) [c6] _ t6
    exact ⟨⟨v0, v1, v2, v3, v4, v5, v6⟩, ⟨[c0], [c1, c2, c3, c4, c5, c6], rfl, h0, ⟨[c1], [c2, c3, c4, c5, c6], rfl, h1, ⟨[c2], [c3, c4, c5, c6], rfl, h2, ⟨[c3], [c4, c5, c6], rfl, h3, ⟨[c4], [c5, c6], rfl, h4, ⟨[c5], [c6], rfl, h5, h6⟩⟩⟩⟩⟩⟩⟩
theorem box_cells_of {x : Bx} {cs : List Value} (h : (k39).K w x cs) : ∃ A c, cs = boxL x A c ∧ x.f6.length ≤ c ∧ (k49).C w A x.f6.length x.f6 := by
  obtain ⟨_, _, rfl, rfl, _, _, rfl, rfl, _, _, rfl, rfl, _, _, rfl, rfl, _, _, rfl, rfl, _, _, rfl, rfl, A, c, rfl, hl, hC⟩ := h
  exact ⟨A, c, rfl, hl, hC⟩
theorem op_api_Kid (n : Nat) : Opens enc Try.prog w spare held k49 49 n := by
  induction n using Nat.strongRecOn with
  | _ n ih =>
    intro cs x h
    obtain ⟨m, rfl, hl, hf⟩ := op_fields (N := 9) Try.underlying49 (by kernel_rfl) h
    match cs, hl with
    | [c0, c1, c2, c3, c4, c5, c6, c7, c8], _ =>
      obtain ⟨y0, t0⟩ := op_at hf 0 (T := 3) (off := 0) (n := 1) (by kernel_rfl) (by kernel_rfl)
      obtain ⟨v0, h0⟩ := (op_int m Try.underlying3) [c0] _ t0
      obtain ⟨y1, t1⟩ := op_at hf 1 (T := 3) (off := 1) (n := 1) (by kernel_rfl) (by kernel_rfl)
      obtain ⟨v1, h1⟩ := (op_int m Try.underlying3) [c1] _ t1
      obtain ⟨y2, t2⟩ := op_at hf 2 (T := 39) (off := 2) (n := 7) (by kernel_rfl) (by kernel_rfl)
      obtain ⟨v2, h2⟩ := (op_box_of m (fun j hj => ih j (by omega))) [c2, c3, c4, c5, c6, c7, c8] _ t2
      obtain ⟨A, c, he, hc, hC⟩ := box_cells_of h2
      refine ⟨⟨v0, v1, v2⟩, ?_⟩
      have e0 : [c0] = [Value.int .i64 v0] := h0
      have e1 : [c1] = [Value.int .i64 v1] := h1
      have e2 : [c0, c1, c2, c3, c4, c5, c6, c7, c8] = kidL ⟨v0, v1, v2⟩ A c := by
        show [c0] ++ ([c1] ++ [c2, c3, c4, c5, c6, c7, c8]) = _
        rw [e0, e1, he]
        rfl
      rw [e2]
      exact k49_mk w ⟨v0, v1, v2⟩ hc hC
theorem op_api_Box (n : Nat) : Opens enc Try.prog w spare held k39 39 n := op_box_of n (fun m _ => op_api_Kid m)
end
end Go.Proofs.Ytfbiahlogclkbaa.H

set_option linter.unusedVariables false
set_option linter.unusedSimpArgs false
namespace Go.Proofs.Ytfbiahlogclkbaa.H
open Go.RowKit Go.Proofs.YtfbiahlogclkbaaW.PrintWords Go.Proofs.YtfbiahlogclkbaaW.PrintLast Go.Proofs.YtfbiahlogclkbaaW.PrintMore Go.Proofs.Ytfbiahlogclkbaa.P
theorem font_of {w : World} {x : S36} {cs : List Value} (h : (k36).K w x cs) : ∃ f : FV, cs = f.cells.toList ∧ FontAt w f := by
  obtain ⟨A6, c6, A7, c7, A8, c8, A9, c9, A10, c10, A11, c11, A12, c12, A13, c13, A15, c15, A16, c16, rfl, l6, g6, l7, g7, l8, g8, l9, g9, l10, g10, l11, g11, l12, g12, l13, g13, l15, g15, l16, g16⟩ := k36_open h
  exact ⟨⟨x.f0, x.f4.f5.f0, ⟨A6, _, c6⟩, ⟨A7, _, c7⟩, ⟨A8, _, c8⟩, ⟨A9, _, c9⟩, ⟨A10, _, c10⟩, ⟨A11, _, c11⟩, ⟨A12, _, c12⟩, ⟨A13, _, c13⟩, ⟨A15, _, c15⟩, ⟨A16, _, c16⟩⟩, rfl, ⟨⟨_, rfl, g6, l6⟩, ⟨_, rfl, g7, l7⟩, ⟨_, rfl, g8, l8⟩, ⟨_, rfl, g9, l9⟩, ⟨_, rfl, g10, l10⟩, ⟨_, rfl, g11, l11⟩, ⟨_, rfl, g12, l12⟩, ⟨_, rfl, g13, l13⟩, ⟨_, rfl, g15, l15⟩, ⟨_, rfl, g16, l16⟩⟩⟩
end Go.Proofs.Ytfbiahlogclkbaa.H
