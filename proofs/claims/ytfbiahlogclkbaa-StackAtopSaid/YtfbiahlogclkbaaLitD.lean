/- Steps of a region by laws. No condition is added. -/
import Derived.Test.YtfbiahlogclkbaaLitC
import Derived.Deep.RegionHeld3
set_option linter.unusedVariables false
set_option linter.unusedSimpArgs false
namespace Go.Proofs.Ytfbiahlogclkbaa.H
open Go.RowKit Go.Proofs.YtfbiahlogclkbaaW.PrintWords Go.Proofs.YtfbiahlogclkbaaW.PrintLast Go.Proofs.YtfbiahlogclkbaaW.PrintMore Go.Proofs.Ytfbiahlogclkbaa.P

theorem lit_kid2_step {o : Oper} {a : Act} {K : Act → World → Prop} {Q : Exit → Act → World → Prop} {W : World} {p q : Kx} {A A' : Option Addr} {c c' : Nat} (x y : Operand)
    (ho : o.op = .buildSlice 37 2 #[(0, x), (1, y)]) (hx : a.eval x = kidV p A c) (hy : a.eval y = kidV q A' c')
    (h : K (a.put o.dst (.slice (some ⟨W.heap.size, 0, none⟩) 2 2)) (W.alloc (.cells (kidL p A c ++ kidL q A' c').toArray 49))) : Oper.wp Try.prog o a W K Q := by
  unfold Oper.wp execOp
  obtain ⟨ev, hev⟩ : ∃ ev, ev = a.eval := ⟨_, rfl⟩
  rw [← hev] at hx hy ⊢
  clear hev
  simp only [ho]
  go_simp
  exact h
theorem lit_kid3_step {o : Oper} {a : Act} {K : Act → World → Prop} {Q : Exit → Act → World → Prop} {W : World} {p q r : Kx} {A A' A'' : Option Addr} {c c' c'' : Nat} (x y z : Operand)
    (ho : o.op = .buildSlice 37 3 #[(0, x), (1, y), (2, z)]) (hx : a.eval x = kidV p A c) (hy : a.eval y = kidV q A' c') (hz : a.eval z = kidV r A'' c'')
    (h : K (a.put o.dst (.slice (some ⟨W.heap.size, 0, none⟩) 3 3)) (W.alloc (.cells (kidL p A c ++ (kidL q A' c' ++ kidL r A'' c'')).toArray 49))) : Oper.wp Try.prog o a W K Q := by
  unfold Oper.wp execOp
  obtain ⟨ev, hev⟩ : ∃ ev, ev = a.eval := ⟨_, rfl⟩
  rw [← hev] at hx hy hz ⊢
  clear hev
  simp only [ho]
  go_simp
  exact h
set_option maxHeartbeats 2000000 in
theorem store_box_step {o : Oper} {a : Act} {K : Act → World → Prop} {Q : Exit → Act → World → Prop} {W : World} {b : Nat} {x : Bx} {A : Option Addr} {c : Nat} {a0 a1 a2 a3 a4 a5 a6 : Value} {T : TypeId} (p v : Operand)
    (ho : o.op = .store 39 p v) (hp : a.eval p = .pointer (some ⟨b, 0, none⟩)) (hv : a.eval v = boxV x A c) (hd : o.dst = none)
    (hb : W.heap[b]? = some (.cells #[a0, a1, a2, a3, a4, a5, a6] T (0, 0)))
    (h : ∀ W', W'.heap[b]? = some (.cells #[.int .i64 x.f0, .int .i64 x.f1, .int .i64 x.f2, .int .i64 x.f3, .int .i64 x.f4, .int .i64 x.f5, .slice A x.f6.length c] T (0, 0)) → (∀ k, k ≠ b → W'.heap[k]? = W.heap[k]?) → W.grownBy W' (some b) → K a W') : Oper.wp Try.prog o a W K Q := by
  have hh0 := h
  have h7 := set7 (.int .i64 x.f0) (.int .i64 x.f1) (.int .i64 x.f2) (.int .i64 x.f3) (.int .i64 x.f4) (.int .i64 x.f5) (.slice A x.f6.length c) hb (Below.refl b W) (Nat.le_refl _)
  obtain ⟨⟨e0, e1, e2, e3, e4, e5, e6⟩, f0, f1, f2, f3, f4, f5, f6⟩ := blk7 hb
  have g0 := grown_set W b 0 (.int .i64 x.f0)
  have g1 := grown_trans g0 (grown_set _ b 1 (.int .i64 x.f1))
  have g2 := grown_trans g1 (grown_set _ b 2 (.int .i64 x.f2))
  have g3 := grown_trans g2 (grown_set _ b 3 (.int .i64 x.f3))
  have g4 := grown_trans g3 (grown_set _ b 4 (.int .i64 x.f4))
  have g5 := grown_trans g4 (grown_set _ b 5 (.int .i64 x.f5))
  have g6 := grown_trans g5 (grown_set _ b 6 (.slice A x.f6.length c))
  have hk : ∀ k, k ≠ b → (((((((W.setCell ⟨b, 0, none⟩ (.int .i64 x.f0)).setCell ⟨b, 1, none⟩ (.int .i64 x.f1)).setCell ⟨b, 2, none⟩ (.int .i64 x.f2)).setCell ⟨b, 3, none⟩ (.int .i64 x.f3)).setCell ⟨b, 4, none⟩ (.int .i64 x.f4)).setCell ⟨b, 5, none⟩ (.int .i64 x.f5)).setCell ⟨b, 6, none⟩ (.slice A x.f6.length c)).heap[k]? = W.heap[k]? := fun k hk => by
    rw [Below.heap_setCell _ _ _ k hk, Below.heap_setCell _ _ _ k hk, Below.heap_setCell _ _ _ k hk, Below.heap_setCell _ _ _ k hk, Below.heap_setCell _ _ _ k hk, Below.heap_setCell _ _ _ k hk, Below.heap_setCell _ _ _ k hk]
  have hh := hh0 _ h7.1 hk g6
  clear hh0 h h7 hb hk g0 g1 g2 g3 g4 g5 g6
  unfold Oper.wp execOp
  obtain ⟨ev, hev⟩ : ∃ ev, ev = a.eval := ⟨_, rfl⟩
  rw [← hev] at hp hv ⊢
  clear hev
  simp only [ho, hd]
  go_simp
  exact hh
theorem load_box_yields {ops : Array Oper} {S : World → Prop} {o : Oper} {a : Act} {b : Nat} {x : Bx} {A : Option Addr} {c : Nat} {T : TypeId} (p : Operand) (ho : o.op = .load 39 p) (hp : a.eval p = .pointer (some ⟨b, 0, none⟩))
    (hw : Region.wanted o (yielded ops a.tmps) = true)
    (hS : ∀ w, S w → w.heap[b]? = some (.cells #[.int .i64 x.f0, .int .i64 x.f1, .int .i64 x.f2, .int .i64 x.f3, .int .i64 x.f4, .int .i64 x.f5, .slice A x.f6.length c] T (0, 0))) : YieldsIf Try.prog ops S o (boxV x A c) a := by
  refine Or.inl ⟨hw, fun w hSw => ?_⟩
  obtain ⟨⟨e0, e1, e2, e3, e4, e5, e6⟩, _⟩ := blk7 (hS w hSw)
  clear hS hSw
  unfold execOp
  obtain ⟨ev, hev⟩ : ∃ ev, ev = a.eval := ⟨_, rfl⟩
  rw [← hev] at hp ⊢
  clear hev
  simp only [ho]
  go_simp
theorem build_kid2_yields {ops : Array Oper} {S : World → Prop} {o : Oper} {a : Act} {x : Bx} {A : Option Addr} {c : Nat} (p : Operand) (ho : o.op = .build 49 #[(2, p)]) (hp : a.eval p = boxV x A c)
    (hw : Region.wanted o (yielded ops a.tmps) = true) : YieldsIf Try.prog ops S o (kidV ⟨0, 0, x⟩ A c) a := by
  refine Or.inl ⟨hw, fun w hSw => ?_⟩
  clear hSw
  unfold execOp
  obtain ⟨ev, hev⟩ : ∃ ev, ev = a.eval := ⟨_, rfl⟩
  rw [← hev] at hp ⊢
  clear hev
  simp only [ho]
  go_simp
/-- A rule's box. -/
def ruleB (wd top neg : Int) : Bx := ⟨2, wd, top, neg, 0, 0, []⟩
theorem build_rule {ops : Array Oper} {rest : List Oper} {o : Oper} {a : Act} {Q : Exit → Act → World → Prop} {W : World} {i j k : Int} (hgd : o.guard = none) (x y z : Operand)
    (ho : o.op = .build 39 #[(0, .const (.int .i64 2)), (1, x), (2, y), (3, z)]) (hx : a.eval x = .int .i64 i) (hy : a.eval y = .int .i64 j) (hz : a.eval z = .int .i64 k)
    (h : wpList Try.prog ops Q rest (a.put o.dst (boxV (ruleB i j k) none 0)) W) : wpList Try.prog ops Q (o :: rest) a W := by
  refine wpList_plain hgd fun K hK => ?_
  have hh := hK _ _ h
  clear hK h
  unfold Oper.wp execOp
  have h2 : a.eval (.const (.int .i64 2)) = .int .i64 2 := rfl
  obtain ⟨ev, hev⟩ : ∃ ev, ev = a.eval := ⟨_, rfl⟩
  rw [← hev] at hx hy hz h2 ⊢
  clear hev
  simp only [ho]
  go_simp
  exact hh
theorem wpAnyH_one {P : Program} {ops : Array Oper} {Q : Exit → Act → World → Prop} {md : Region.Mode} {S : World → Prop} {i : Nat} {o : Oper} {fuel : Nat} {listed : Array Bool} {a : Act} {w : World} (ho : ops[i]? = some o) (hr : Region.ready md ops listed = [i]) (hw : Region.wanted o (yielded ops a.tmps) = true)
    (h : ∀ K' : Act → World → Prop, Shut (∀ a w, S w → (S w → wpAnyH P md ops Q S fuel (listed.setIfInBounds i true) a w) → K' a w) → Oper.wp P o a w K' Q) : wpAnyH P md ops Q S (fuel + 1) listed a w :=
  wpAnyH_ready hr (by simp) (AllReadyH.cons ho (fun K hK => by rw [if_pos hw]; exact h K hK) AllReadyH.nil)
end Go.Proofs.Ytfbiahlogclkbaa.H
