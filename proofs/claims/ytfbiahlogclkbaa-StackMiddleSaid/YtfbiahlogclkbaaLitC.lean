/- Literal rows of boxes, laid for a call. A box stored into a block of its kind. Rows of kids laid for a call; what a ledger's block bears. No condition is added. -/
import Derived.Test.YtfbiahlogclkbaaSetA
import Derived.Test.YtfbiahlogclkbaaStkD
set_option linter.unusedVariables false
set_option linter.unusedSimpArgs false
namespace Go.Proofs.Ytfbiahlogclkbaa.H
open Go.RowKit Go.Proofs.YtfbiahlogclkbaaW.PrintWords Go.Proofs.YtfbiahlogclkbaaW.PrintLast Go.Proofs.YtfbiahlogclkbaaW.PrintMore Go.Proofs.Ytfbiahlogclkbaa.P

theorem lit_box1 {ops : Array Oper} {rest : List Oper} {o : Oper} {a : Act} {Q : Exit → Act → World → Prop} {W : World} {p : Bx} {A : Option Addr} {c : Nat} (hgd : o.guard = none) (x : Operand)
    (ho : o.op = .buildSlice 54 1 #[(0, x)]) (hx : a.eval x = boxV p A c)
    (h : wpList Try.prog ops Q rest (a.put o.dst (.slice (some ⟨W.heap.size, 0, none⟩) 1 1)) (W.alloc (.cells (boxL p A c).toArray 39))) : wpList Try.prog ops Q (o :: rest) a W := by
  refine wpList_plain hgd fun K hK => ?_
  have hh := hK _ _ h
  clear hK h
  unfold Oper.wp execOp
  obtain ⟨ev, hev⟩ : ∃ ev, ev = a.eval := ⟨_, rfl⟩
  rw [← hev] at hx ⊢
  clear hev
  simp only [ho]
  go_simp
  exact hh
theorem lit_box2 {ops : Array Oper} {rest : List Oper} {o : Oper} {a : Act} {Q : Exit → Act → World → Prop} {W : World} {p q : Bx} {A A' : Option Addr} {c c' : Nat} (hgd : o.guard = none) (x y : Operand)
    (ho : o.op = .buildSlice 54 2 #[(0, x), (1, y)]) (hx : a.eval x = boxV p A c) (hy : a.eval y = boxV q A' c')
    (h : wpList Try.prog ops Q rest (a.put o.dst (.slice (some ⟨W.heap.size, 0, none⟩) 2 2)) (W.alloc (.cells (boxL p A c ++ boxL q A' c').toArray 39))) : wpList Try.prog ops Q (o :: rest) a W := by
  refine wpList_plain hgd fun K hK => ?_
  have hh := hK _ _ h
  clear hK h
  unfold Oper.wp execOp
  obtain ⟨ev, hev⟩ : ∃ ev, ev = a.eval := ⟨_, rfl⟩
  rw [← hev] at hx hy ⊢
  clear hev
  simp only [ho]
  go_simp
  exact hh
theorem build_kid12 {ops : Array Oper} {rest : List Oper} {o : Oper} {a : Act} {Q : Exit → Act → World → Prop} {W : World} {i : Int} {p : Bx} {A : Option Addr} {c : Nat} (hgd : o.guard = none) (x y : Operand)
    (ho : o.op = .build 49 #[(1, x), (2, y)]) (hx : a.eval x = .int .i64 i) (hy : a.eval y = boxV p A c)
    (h : wpList Try.prog ops Q rest (a.put o.dst (kidV ⟨0, i, p⟩ A c)) W) : wpList Try.prog ops Q (o :: rest) a W := by
  refine wpList_plain hgd fun K hK => ?_
  have hh := hK _ _ h
  clear hK h
  unfold Oper.wp execOp
  obtain ⟨ev, hev⟩ : ∃ ev, ev = a.eval := ⟨_, rfl⟩
  rw [← hev] at hx hy ⊢
  clear hev
  simp only [ho]
  go_simp
  exact hh
end Go.Proofs.Ytfbiahlogclkbaa.H

set_option linter.unusedVariables false
set_option linter.unusedSimpArgs false
namespace Go.Proofs.Ytfbiahlogclkbaa.H
open Go.RowKit Go.Proofs.YtfbiahlogclkbaaW.PrintWords Go.Proofs.YtfbiahlogclkbaaW.PrintLast Go.Proofs.YtfbiahlogclkbaaW.PrintMore Go.Proofs.Ytfbiahlogclkbaa.P
set_option maxHeartbeats 2000000 in
theorem store_box {ops : Array Oper} {rest : List Oper} {o : Oper} {a : Act} {Q : Exit → Act → World → Prop} {W : World} {b : Nat} {x : Bx} {A : Option Addr} {c : Nat} {a0 a1 a2 a3 a4 a5 a6 : Value} {T : TypeId} (hgd : o.guard = none) (p v : Operand)
    (ho : o.op = .store 39 p v) (hp : a.eval p = .pointer (some ⟨b, 0, none⟩)) (hv : a.eval v = boxV x A c) (hd : o.dst = none)
    (hb : W.heap[b]? = some (.cells #[a0, a1, a2, a3, a4, a5, a6] T (0, 0)))
    (h : ∀ W', W'.heap[b]? = some (.cells #[.int .i64 x.f0, .int .i64 x.f1, .int .i64 x.f2, .int .i64 x.f3, .int .i64 x.f4, .int .i64 x.f5, .slice A x.f6.length c] T (0, 0)) → (∀ k, k ≠ b → W'.heap[k]? = W.heap[k]?) → W.grownBy W' (some b) → wpList Try.prog ops Q rest a W') : wpList Try.prog ops Q (o :: rest) a W := by
  refine wpList_plain hgd fun K hK => ?_
  have hh0 := fun W1 h1 h2 h3 => hK a W1 (h W1 h1 h2 h3)
  have h7 := set7 (.int .i64 x.f0) (.int .i64 x.f1) (.int .i64 x.f2) (.int .i64 x.f3) (.int .i64 x.f4) (.int .i64 x.f5) (.slice A x.f6.length c) hb (Below.refl b W) (Nat.le_refl _)
  obtain ⟨⟨e0, e1, e2, e3, e4, e5, e6⟩, f0, f1, f2, f3, f4, f5, f6⟩ := blk7 hb
  have g0 := grown_set W b 0 (.int .i64 x.f0)
  have g1 := grown_trans g0 (grown_set _ b 1 (.int .i64 x.f1))
  have g2 := grown_trans g1 (grown_set _ b 2 (.int .i64 x.f2))
  have g3 := grown_trans g2 (grown_set _ b 3 (.int .i64 x.f3))
  have g4 := grown_trans g3 (grown_set _ b 4 (.int .i64 x.f4))
  have g5 := grown_trans g4 (grown_set _ b 5 (.int .i64 x.f5))
  have g6 := grown_trans g5 (grown_set _ b 6 (.slice A x.f6.length c))
  have hk : ∀ k, k ≠ b → (((((((W.setCell ⟨b, 0, none⟩ (.int .i64 x.f0)).setCell ⟨b, 1, none⟩ (.int .i64 x.f1)).setCell ⟨b, 2, none⟩ (.int .i64 x.f2)).setCell ⟨b, 3, none⟩ (.int .i64 x.f3)).setCell ⟨b, 4, none⟩ (.int .i64 x.f4)).setCell ⟨b, 5, none⟩ (.int .i64 x.f5)).setCell ⟨b, 6, none⟩ (.slice A x.f6.length c)).heap[k]? = W.heap[k]? := fun k hk => by
    rw [Below.heap_setCell _ _ _ k hk, Below.heap_setCell _ _ _ k hk, Below.heap_setCell _ _ _ k hk, Below.heap_setCell _ _ _ k hk, Below.heap_setCell _ _ _ k hk, Below.heap_setCell _ _ _ k hk, Below.heap_setCell _ _ _ k hk]
  have hh := hh0 _ h7.1 hk g6
  clear hh0 hK h h7 hb hk g0 g1 g2 g3 g4 g5 g6
  unfold Oper.wp execOp
  obtain ⟨ev, hev⟩ : ∃ ev, ev = a.eval := ⟨_, rfl⟩
  rw [← hev] at hp hv ⊢
  clear hev
  simp only [ho, hd]
  go_simp
  exact hh
end Go.Proofs.Ytfbiahlogclkbaa.H

set_option linter.unusedVariables false
set_option linter.unusedSimpArgs false
namespace Go.Proofs.Ytfbiahlogclkbaa.H
open Go.RowKit Go.Proofs.YtfbiahlogclkbaaW.PrintWords Go.Proofs.YtfbiahlogclkbaaW.PrintLast Go.Proofs.YtfbiahlogclkbaaW.PrintMore Go.Proofs.Ytfbiahlogclkbaa.P

theorem grown_alloc {w W : World} {row : Option Nat} (h : w.grownBy W row) (o : Obj) : w.grownBy (W.alloc o) row := grown_trans h (grown_of_below (below_alloc (Below.refl _ _) _) _)
theorem grown_drew {w W : World} {row : Option Nat} (h : w.grownBy W row) : w.grownBy W.drew row := grown_trans h (grown_of_below (Below.refl _ _).drew _)
theorem stk_alloc {W : World} {g : Nat} {f : FV} {c z e : Int} (h : stk_B W g f c z e) (o : Obj) : stk_B (W.alloc o) g f c z e := blk_alloc h o
theorem stk_drew {W : World} {g : Nat} {f : FV} {c z e : Int} (h : stk_B W g f c z e) : stk_B W.drew g f c z e := blk_drew h
theorem mk_below {w W0 W : World} {g : Nat} (hb0 : Below w.heap.size w W0) (hg : w.heap.size ≤ g) (hG : W0.grownBy W (some g)) : Below w.heap.size w W := hb0.grown hG hb0.size (by rintro k ⟨⟩; exact hg)
theorem blk_new' {W : World} {o : Obj} {b : Nat} (h : W.heap.size = b) : (W.alloc o).heap[b]? = some o := by subst h; exact blk_new W o
/-- A row of numbers of a block. -/
theorem C_at {W : World} {T : TypeId} {l : List Int} {b : Nat} {cs : Array Value} (h : W.heap[b]? = some (.cells cs T (0, 0))) (hcs : cs = (nums .i64 l).toArray) (hm : l.length ≤ 9223372036854775807) : (Kd.int .i64).C W (some ⟨b, 0, none⟩) l.length l := by
  subst hcs
  refine C_block h ⟨by simp [nums, Kd.int, Kd.scalar], fun j p hj => ?_⟩ hm
  have hlt : j < l.length := (List.getElem?_eq_some_iff.1 hj).1
  have hp : l[j] = p := (List.getElem?_eq_some_iff.1 hj).2
  show List.take 1 ((nums .i64 l).drop (j * 1)) = [.int .i64 p]
  rw [Nat.mul_one, List.drop_eq_getElem_cons (by simpa [nums] using hlt)]
  simp [nums, hp]
theorem F_fit {α : Type} {d : Kd α} {W W' : World} {ok : Nat → Prop} {A : Option Addr} {n : Nat} {l : List α} (h : Kd.F d W ok A n l) (hw : ∀ k : Nat, W'.heap[k]? = W.heap[k]?) : Kd.F d W' ok A n l := Kd.F_step h (fun k _ _ => hw k)
theorem ok_lt {ok : Nat → Prop} {w WB W : World} {k : Nat} (hok : ∀ k, ok k → k < w.heap.size) (hb : Below w.heap.size w WB) (hW : WB.heap.size < W.heap.size) (h : ok k ∨ k = WB.heap.size) : k < W.heap.size := by
  have := hb.size
  rcases h with h | h
  · have := hok k h
    omega
  · omega
theorem blk_far1 {W : World} {b : Nat} {p : Addr} {u : Value} {o : Array Value} {T : TypeId} (hne : b ≠ p.block) (h : W.heap[b]? = some (.cells o T (0, 0))) : (W.setCell p u).heap[b]? = some (.cells o T (0, 0)) := (Below.heap_setCell W p u b hne).trans h
theorem lit_kid2 {ops : Array Oper} {rest : List Oper} {o : Oper} {a : Act} {Q : Exit → Act → World → Prop} {W : World} {p q : Kx} {A A' : Option Addr} {c c' : Nat} (hgd : o.guard = none) (x y : Operand)
    (ho : o.op = .buildSlice 37 2 #[(0, x), (1, y)]) (hx : a.eval x = kidV p A c) (hy : a.eval y = kidV q A' c')
    (h : wpList Try.prog ops Q rest (a.put o.dst (.slice (some ⟨W.heap.size, 0, none⟩) 2 2)) (W.alloc (.cells (kidL p A c ++ kidL q A' c').toArray 49))) : wpList Try.prog ops Q (o :: rest) a W := by
  refine wpList_plain hgd fun K hK => ?_
  have hh := hK _ _ h
  clear hK h
  unfold Oper.wp execOp
  obtain ⟨ev, hev⟩ : ∃ ev, ev = a.eval := ⟨_, rfl⟩
  rw [← hev] at hx hy ⊢
  clear hev
  simp only [ho]
  go_simp
  exact hh
end Go.Proofs.Ytfbiahlogclkbaa.H
