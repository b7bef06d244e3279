/- A store of a whole struct into a block. No condition is added. -/
import Derived.Test.YtfbiahlogclkbaaSetA
import Derived.Deep.MidRow
set_option linter.unusedVariables false
set_option linter.unusedSimpArgs false
namespace Go.Proofs.Ytfbiahlogclkbaa.H
open Go.RowKit Go.Proofs.YtfbiahlogclkbaaW.PrintWords Go.Proofs.YtfbiahlogclkbaaW.PrintLast Go.Proofs.YtfbiahlogclkbaaW.PrintMore Go.Proofs.Ytfbiahlogclkbaa.P

theorem g_load {ops : Array Oper} {rest : List Oper} {o : Oper} {a : Act} {Q : Exit → Act → World → Prop} {W : World} {T : TypeId} (p : Operand) (ho : o.op = .load T p) (h : wpList Try.prog ops Q (o :: rest) a W) : wpList Try.prog ops Q (o :: rest) a W := h
theorem g_build {ops : Array Oper} {rest : List Oper} {o : Oper} {a : Act} {Q : Exit → Act → World → Prop} {W : World} {T : TypeId} {fs : Array (Nat × Operand)} (ho : o.op = .build T fs) (h : wpList Try.prog ops Q (o :: rest) a W) : wpList Try.prog ops Q (o :: rest) a W := h
theorem g_lit {ops : Array Oper} {rest : List Oper} {o : Oper} {a : Act} {Q : Exit → Act → World → Prop} {W : World} {T : TypeId} {n : Nat} {fs : Array (Nat × Operand)} (ho : o.op = .buildSlice T n fs) (h : wpList Try.prog ops Q (o :: rest) a W) : wpList Try.prog ops Q (o :: rest) a W := h
theorem g_store {ops : Array Oper} {rest : List Oper} {o : Oper} {a : Act} {Q : Exit → Act → World → Prop} {W : World} {T : TypeId} {v : Operand} (p : Operand) (ho : o.op = .store T p v) (h : wpList Try.prog ops Q (o :: rest) a W) : wpList Try.prog ops Q (o :: rest) a W := h
theorem setCells_blk {b : Nat} {T : TypeId} : ∀ (vs old pre : List Value) (W : World), old.length = vs.length → W.heap[b]? = some (.cells (pre ++ old).toArray T (0, 0)) →
    (W.setCells b pre.length vs).heap[b]? = some (.cells (pre ++ vs).toArray T (0, 0)) ∧ (∀ k, k ≠ b → (W.setCells b pre.length vs).heap[k]? = W.heap[k]?) ∧ W.grownBy (W.setCells b pre.length vs) (some b)
  | [], old, pre, W, hl, h => by
    have : old = [] := List.length_eq_zero_iff.1 (by simpa using hl)
    subst this
    exact ⟨h, fun _ _ => rfl, grown_refl _ _⟩
  | v :: vs, [], pre, W, hl, h => by simp at hl
  | v :: vs, x :: old, pre, W, hl, h => by
    have h1 : (W.setCell ⟨b, pre.length, none⟩ v).heap[b]? = some (.cells ((pre ++ [v]) ++ old).toArray T (0, 0)) := blk_put h pre.length v (by simp)
    have h2 := setCells_blk vs old (pre ++ [v]) (W.setCell ⟨b, pre.length, none⟩ v) (by simpa using hl) h1
    have hn : (pre ++ [v]).length = pre.length + 1 := by simp
    rw [hn] at h2
    refine ⟨?_, fun k hk => ?_, ?_⟩
    · have := h2.1
      simpa [World.setCells] using this
    · have := h2.2.1 k hk
      rw [World.setCells, this]
      exact Below.heap_setCell W _ v k hk
    · rw [World.setCells]
      exact grown_trans (grown_set W b pre.length v) h2.2.2
theorem store_blk {ops : Array Oper} {rest : List Oper} {o : Oper} {a : Act} {Q : Exit → Act → World → Prop} {W : World} {b : Nat} {cs old : Array Value} {T T' : TypeId} (hgd : o.guard = none) (p v : Operand)
    (ho : o.op = .store T p v) (hp : a.eval p = .pointer (some ⟨b, 0, none⟩)) (hv : a.eval v = .agg cs) (hi : (Try.prog.info? T).map (·.size) = some cs.size) (h1 : cs.all (·.oneCell') = true) (hd : o.dst = none)
    (hb : W.heap[b]? = some (.cells old T' (0, 0))) (hs : old.size = cs.size)
    (h : ∀ W', W'.heap[b]? = some (.cells cs T' (0, 0)) → (∀ k, k ≠ b → W'.heap[k]? = W.heap[k]?) → W.grownBy W' (some b) → wpList Try.prog ops Q rest a W') : wpList Try.prog ops Q (o :: rest) a W := by
  have h2 := setCells_blk (b := b) (T := T') cs.toList old.toList [] W (by simpa using hs) (by simpa using hb)
  refine wpList_store_mid hgd T p v ho b 0 cs hp hv (fun j hj => ?_) hi h1 ?_
  · refine ⟨?_, ?_⟩
    · rw [Nat.zero_add, blk_cell hb j]
      simp [hs, hj]
    · rw [Nat.zero_add]
      exact blk_frozen hb j
  · rw [hd]
    exact h _ (by simpa using h2.1) h2.2.1 h2.2.2
theorem load_blk {ops : Array Oper} {rest : List Oper} {o : Oper} {a : Act} {Q : Exit → Act → World → Prop} {W : World} {b : Nat} {cs : Array Value} {T T' : TypeId} {d : TypeDesc} (hgd : o.guard = none) (p : Operand)
    (ho : o.op = .load T p) (hp : a.eval p = .pointer (some ⟨b, 0, none⟩)) (hu : Try.prog.underlying T = some d) (hd : d.isRow = true) (hi : (Try.prog.info? T).map (·.size) = some cs.size)
    (hb : W.heap[b]? = some (.cells cs T' (0, 0))) (h : wpList Try.prog ops Q rest (a.put o.dst (.agg cs)) W) : wpList Try.prog ops Q (o :: rest) a W := by
  refine wpList_load_mid hgd T p ho b 0 hp cs.toList d (fun j v hv => ?_) hu hd (by simpa using hi) ?_
  · rw [Nat.zero_add, blk_cell hb j]
    simpa using hv
  · simpa using h
theorem store_below {W W' : World} {o : Obj} (h : (W.alloc o).grownBy W' (some W.heap.size)) : Below W.heap.size W W' :=
  (below_alloc (Below.refl _ _) o).grown h (by simp) (by rintro k ⟨⟩; omega)
theorem build_kid012 {ops : Array Oper} {rest : List Oper} {o : Oper} {a : Act} {Q : Exit → Act → World → Prop} {W : World} {i j : Int} {p : Bx} {A : Option Addr} {c : Nat} (hgd : o.guard = none) (x y z : Operand)
    (ho : o.op = .build 49 #[(0, x), (1, y), (2, z)]) (hx : a.eval x = .int .i64 i) (hy : a.eval y = .int .i64 j) (hz : a.eval z = boxV p A c)
    (h : wpList Try.prog ops Q rest (a.put o.dst (kidV ⟨i, j, p⟩ A c)) W) : wpList Try.prog ops Q (o :: rest) a W := by
  refine wpList_plain hgd fun K hK => ?_
  have hh := hK _ _ h
  clear hK h
  unfold Oper.wp execOp
  obtain ⟨ev, hev⟩ : ∃ ev, ev = a.eval := ⟨_, rfl⟩
  rw [← hev] at hx hy hz ⊢
  clear hev
  simp only [ho]
  go_simp
  exact hh
theorem build_kid2 {ops : Array Oper} {rest : List Oper} {o : Oper} {a : Act} {Q : Exit → Act → World → Prop} {W : World} {p : Bx} {A : Option Addr} {c : Nat} (hgd : o.guard = none) (z : Operand)
    (ho : o.op = .build 49 #[(2, z)]) (hz : a.eval z = boxV p A c)
    (h : wpList Try.prog ops Q rest (a.put o.dst (kidV ⟨0, 0, p⟩ A c)) W) : wpList Try.prog ops Q (o :: rest) a W := by
  refine wpList_plain hgd fun K hK => ?_
  have hh := hK _ _ h
  clear hK h
  unfold Oper.wp execOp
  obtain ⟨ev, hev⟩ : ∃ ev, ev = a.eval := ⟨_, rfl⟩
  rw [← hev] at hz ⊢
  clear hev
  simp only [ho]
  go_simp
  exact hh
theorem lit_kid3 {ops : Array Oper} {rest : List Oper} {o : Oper} {a : Act} {Q : Exit → Act → World → Prop} {W : World} {p q r : Kx} {A A' A'' : Option Addr} {c c' c'' : Nat} (hgd : o.guard = none) (x y z : Operand)
    (ho : o.op = .buildSlice 37 3 #[(0, x), (1, y), (2, z)]) (hx : a.eval x = kidV p A c) (hy : a.eval y = kidV q A' c') (hz : a.eval z = kidV r A'' c'')
    (h : wpList Try.prog ops Q rest (a.put o.dst (.slice (some ⟨W.heap.size, 0, none⟩) 3 3)) (W.alloc (.cells (kidL p A c ++ (kidL q A' c' ++ kidL r A'' c'')).toArray 49))) : wpList Try.prog ops Q (o :: rest) a W := by
  refine wpList_plain hgd fun K hK => ?_
  have hh := hK _ _ h
  clear hK h
  unfold Oper.wp execOp
  obtain ⟨ev, hev⟩ : ∃ ev, ev = a.eval := ⟨_, rfl⟩
  rw [← hev] at hx hy hz ⊢
  clear hev
  simp only [ho]
  go_simp
  exact hh
theorem build_list {ops : Array Oper} {rest : List Oper} {o : Oper} {a : Act} {Q : Exit → Act → World → Prop} {W : World} {i j k : Int} {A : Option Addr} {m c : Nat} (hgd : o.guard = none) (x y z s : Operand)
    (ho : o.op = .build 39 #[(0, x), (1, y), (2, z), (6, s)]) (hx : a.eval x = .int .i64 i) (hy : a.eval y = .int .i64 j) (hz : a.eval z = .int .i64 k) (hs : a.eval s = .slice A m c)
    (h : wpList Try.prog ops Q rest (a.put o.dst (.agg #[.int .i64 i, .int .i64 j, .int .i64 k, .int .i64 0, .int .i64 0, .int .i64 0, .slice A m c])) W) : wpList Try.prog ops Q (o :: rest) a W := by
  refine wpList_plain hgd fun K hK => ?_
  have hh := hK _ _ h
  clear hK h
  unfold Oper.wp execOp
  obtain ⟨ev, hev⟩ : ∃ ev, ev = a.eval := ⟨_, rfl⟩
  rw [← hev] at hx hy hz hs ⊢
  clear hev
  simp only [ho]
  go_simp
  exact hh
theorem build_kid012v {ops : Array Oper} {rest : List Oper} {o : Oper} {a : Act} {Q : Exit → Act → World → Prop} {W : World} {i j : Int} {p : Bx} {A : Option Addr} {c : Nat} (hgd : o.guard = none) (x y z : Operand)
    (ho : o.op = .build 49 #[(0, x), (1, y), (2, z)]) (hx : a.eval x = .int .i64 i) (hy : a.eval y = .int .i64 j) (hz : a.eval z = boxV p A c)
    (h : ∀ v, v = kidV ⟨i, j, p⟩ A c → wpList Try.prog ops Q rest (a.put o.dst v) W) : wpList Try.prog ops Q (o :: rest) a W := build_kid012 hgd x y z ho hx hy hz (h _ rfl)
theorem build_kid2v {ops : Array Oper} {rest : List Oper} {o : Oper} {a : Act} {Q : Exit → Act → World → Prop} {W : World} {p : Bx} {A : Option Addr} {c : Nat} (hgd : o.guard = none) (z : Operand)
    (ho : o.op = .build 49 #[(2, z)]) (hz : a.eval z = boxV p A c)
    (h : ∀ v, v = kidV ⟨0, 0, p⟩ A c → wpList Try.prog ops Q rest (a.put o.dst v) W) : wpList Try.prog ops Q (o :: rest) a W := build_kid2 hgd z ho hz (h _ rfl)
theorem store_below' {W W' : World} {o : Obj} {b : Nat} (h : (W.alloc o).grownBy W' (some b)) (hb : W.heap.size = b) : Below W.heap.size W W' := by
  subst hb
  exact store_below h
theorem blk_new2 {W : World} {o : Obj} {b : Nat} (h : W.heap.size = b) : (W.alloc o).heap[b]? = some o := by subst h; exact blk_new W o
end Go.Proofs.Ytfbiahlogclkbaa.H
