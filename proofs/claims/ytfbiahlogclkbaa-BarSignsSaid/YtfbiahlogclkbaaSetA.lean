/- The proof's texts SetA: what the statement leads to. No condition is added. -/
import Derived.Test.YtfbiahlogclkbaaStkA
import Derived.BigRegion
set_option linter.unusedVariables false
set_option linter.unusedSimpArgs false
namespace Go.Proofs.Ytfbiahlogclkbaa.H
open Go.RowKit Go.Proofs.YtfbiahlogclkbaaW.PrintWords Go.Proofs.YtfbiahlogclkbaaW.PrintLast Go.Proofs.YtfbiahlogclkbaaW.PrintMore Go.Proofs.Ytfbiahlogclkbaa.P
attribute [local go_sem] max2_int min2_int

theorem heapKid : Kd.Heap k49 := Kd.heap_fix (fun d hd => Kd.heap_iso _ (Kd.heap_pair (Kd.heap_int _) (Kd.heap_pair (Kd.heap_int _) (Kd.heap_iso _ (Kd.heap_pair (Kd.heap_int _) (Kd.heap_pair (Kd.heap_int _) (Kd.heap_pair (Kd.heap_int _) (Kd.heap_pair (Kd.heap_int _) (Kd.heap_pair (Kd.heap_int _) (Kd.heap_pair (Kd.heap_int _) (Kd.heap_slice 49 hd)))))))))))
theorem FK_open {W : World} {ok : Nat → Prop} {p : Kx} {cs : List Value} (h : Kd.FK k49 W ok p cs) : ∃ A c, cs = kidL p A c ∧ p.f2.f6.length ≤ c ∧ Kd.F k49 W ok A p.f2.f6.length p.f2.f6 := by
  obtain ⟨A, c, rfl, hl, _⟩ := k49_open (Kd.FK_now h)
  refine ⟨A, c, rfl, hl, fun W' hW => ?_⟩
  obtain ⟨A', c', he, _, h8⟩ := k49_open (h W' hW)
  simp only [List.cons.injEq, Value.slice.injEq, true_and, and_true] at he
  rw [he.1]
  exact h8
theorem kid_cells {w : World} {ok : Nat → Prop} {A : Option Addr} {l : List Kx} (h : Kd.F k49 w ok A l.length l) (i : Nat) (hi : i < l.length) : ∃ ad A8 c8, A = some ad ∧ w.cell? (ad.add (i * 9)) = some (.int .i64 (rd_T49 l i).f0) ∧ w.cell? ⟨(ad.add (i * 9)).block, (ad.add (i * 9)).off + 1, none⟩ = some (.int .i64 (rd_T49 l i).f1) ∧ w.cell? ⟨(ad.add (i * 9)).block, (ad.add (i * 9)).off + 2, none⟩ = some (.int .i64 (rd_T49 l i).f2.f0) ∧ w.cell? ⟨(ad.add (i * 9)).block, (ad.add (i * 9)).off + 3, none⟩ = some (.int .i64 (rd_T49 l i).f2.f1) ∧ w.cell? ⟨(ad.add (i * 9)).block, (ad.add (i * 9)).off + 4, none⟩ = some (.int .i64 (rd_T49 l i).f2.f2) ∧ w.cell? ⟨(ad.add (i * 9)).block, (ad.add (i * 9)).off + 5, none⟩ = some (.int .i64 (rd_T49 l i).f2.f3) ∧ w.cell? ⟨(ad.add (i * 9)).block, (ad.add (i * 9)).off + 6, none⟩ = some (.int .i64 (rd_T49 l i).f2.f4) ∧ w.cell? ⟨(ad.add (i * 9)).block, (ad.add (i * 9)).off + 7, none⟩ = some (.int .i64 (rd_T49 l i).f2.f5) ∧ w.cell? ⟨(ad.add (i * 9)).block, (ad.add (i * 9)).off + 8, none⟩ = some (.slice A8 (rd_T49 l i).f2.f6.length c8) ∧ (rd_T49 l i).f2.f6.length ≤ c8 ∧ Kd.F k49 w ok A8 (rd_T49 l i).f2.f6.length (rd_T49 l i).f2.f6 := by
  obtain ⟨ad, cs, e, _, hK, hc0, _⟩ := Kd.F_get h z49 (i : Int) (by omega) (by omega)
  obtain ⟨A8, c8, rfl, l8, g8⟩ := FK_open hK
  have hc : ∀ j u, (kidL (rd_T49 l i) A8 c8)[j]? = some u → w.cell? (ad.add (i * 9 + j)) = some u := hc0
  exact ⟨ad, A8, c8, e, hc 0 _ rfl, by rw [← add_field _ _ 1 (by omega)]; exact hc 1 _ rfl, by rw [← add_field _ _ 2 (by omega)]; exact hc 2 _ rfl, by rw [← add_field _ _ 3 (by omega)]; exact hc 3 _ rfl, by rw [← add_field _ _ 4 (by omega)]; exact hc 4 _ rfl, by rw [← add_field _ _ 5 (by omega)]; exact hc 5 _ rfl, by rw [← add_field _ _ 6 (by omega)]; exact hc 6 _ rfl, by rw [← add_field _ _ 7 (by omega)]; exact hc 7 _ rfl, by rw [← add_field _ _ 8 (by omega)]; exact hc 8 _ rfl, l8, g8⟩
theorem kid_take (l : List Kx) (i : Nat) (hi : i < l.length) : l.take (i + 1) = l.take i ++ [rd_T49 l i] := by
  rw [List.take_add_one, List.getElem?_eq_getElem hi]
  simp [rd_T49, hi]

/-- P23.3. -/
def kidLens (k : Kx) : Bool := allLen [k.f0, k.f1, k.f2.f1, k.f2.f2, k.f2.f3]
def setH (l : List Kx) : Int := l.foldl (fun m k => max m (k.f1 + k.f2.f2)) 0
def setD (l : List Kx) : Int := l.foldl (fun m k => max m (k.f2.f3 - k.f1)) 0
def setR (w : Int) (l : List Kx) : Bx × Int :=
  if l.all kidLens = true then
    if Len w then if Len (setH l) ∧ Len (setD l) then (⟨3, w, setH l, setD l, 0, 0, l⟩, 0) else (z39, 2)
    else (z39, 1)
  else (z39, 1)
/-- A box with an error, handed back. -/
def BoxPost (r : Bx × Int) (ok : Nat → Prop) (w : World) (e : Ending) (w' : World) : Prop := ∃ A c, e = .returned (.tuple #[boxV r.1 A c, .int .i64 r.2]) ∧ BoxAt w' (fun k => ok k ∨ w.heap.size ≤ k) r.1 A c ∧ Below w.heap.size w w'
def okN (ok : Nat → Prop) (w0 : World) (k : Nat) : Prop := ok k ∨ w0.heap.size + 2 ≤ k
theorem okN_ne {ok : Nat → Prop} {w : World} (hok : ∀ k, ok k → k < w.heap.size) {k : Nat} (h : okN ok w k) : k ≠ w.heap.size ∧ k ≠ w.heap.size + 1 := by
  rcases h with h | h
  · have := hok k h; omega
  · omega
def SetI (ok : Nat → Prop) (w : World) (x : Int) (l : List Kx) (H D : Int) (W : World) : Prop :=
  Below w.heap.size w W ∧ W.heap[w.heap.size]? = some (.cells #[.int .i64 0, .int .i64 0, .int .i64 0, .int .i64 0, .int .i64 0, .int .i64 0, .slice none 0 0] 39 (0, 0)) ∧
  ∃ v, W.heap[w.heap.size + 1]? = some (.cells #[.int .i64 3, .int .i64 x, .int .i64 H, .int .i64 D, .int .i64 0, .int .i64 0, v] 39 (0, 0)) ∧ Kd.N k49 49 W w.heap.size (okN ok w) v l
abbrev kid0 : Value := .agg #[.int .i64 0, .int .i64 0, .int .i64 0, .int .i64 0, .int .i64 0, .int .i64 0, .int .i64 0, .int .i64 0, .slice none 0 0]
theorem infoKid : (Try.prog.info? 49).map (fun i => (i.zero, i.size, i.bytes)) = some (some kid0, k49.sz, 88) := by
  show _ = some (some kid0, 9, 88)
  kernel_rfl
theorem FK_kid {W : World} {ok : Nat → Prop} {p : Kx} {A : Option Addr} {c : Nat} (hC : Kd.F k49 W ok A p.f2.f6.length p.f2.f6) (hc : p.f2.f6.length ≤ c) : Kd.FK k49 W ok p (kidL p A c) :=
  fun W' hW => k49_mk W' p hc (hC W' hW)
theorem lit_kid {ops : Array Oper} {rest : List Oper} {o : Oper} {a : Act} {Q : Exit → Act → World → Prop} {W : World} {p : Kx} {A : Option Addr} {c : Nat} (hgd : o.guard = none) (x : Operand)
    (ho : o.op = .buildSlice 37 1 #[(0, x)]) (hx : a.eval x = kidV p A c)
    (h : wpList Try.prog ops Q rest (a.put o.dst (.slice (some ⟨W.heap.size, 0, none⟩) 1 1)) (W.alloc (.cells (kidL p A c).toArray 49))) : wpList Try.prog ops Q (o :: rest) a W := by
  refine wpList_plain hgd fun K hK => ?_
  have hh := hK _ _ h
  clear hK h
  unfold Oper.wp execOp
  obtain ⟨ev, hev⟩ : ∃ ev, ev = a.eval := ⟨_, rfl⟩
  rw [← hev] at hx ⊢
  clear hev
  simp only [ho]
  go_simp
  exact hh
/-- Behind append(row, kid): the row, and what is left alone. -/
structure KidDone (ok : Nat → Prop) (w W : World) (p : Kx) (xs : List Kx) (A1 : Option Addr) (c1 n1 : Nat) (w1 : World) : Prop where
  n : n1 = (xs ++ [p]).length
  row : Kd.N k49 49 w1 w.heap.size (okN ok w) (.slice A1 n1 c1) (xs ++ [p])
  below : Below w.heap.size w w1
  far : ∀ k o, (k = w.heap.size ∨ k = w.heap.size + 1) → W.heap[k]? = some o → w1.heap[k]? = some o
theorem kid_append {ops : Array Oper} {rest : List Oper} {o : Oper} {a : Act} {Q : Exit → Act → World → Prop} {ok : Nat → Prop} {w W : World} {v : Value} {xs : List Kx} {p : Kx} {A8 : Option Addr} {c8 : Nat} (hok : ∀ k, ok k → k < w.heap.size)
    (hn : Kd.N k49 49 W w.heap.size (okN ok w) v xs) (hB : Below w.heap.size w W) (hsz : w.heap.size + 1 < W.heap.size) (hC : Kd.F k49 W ok A8 p.f2.f6.length p.f2.f6) (hc : p.f2.f6.length ≤ c8) (hl : xs.length ≤ 100000)
    (hgd : o.guard = none) (s x : Operand) (ho : o.op = .call { callee := .builtin .append, args := #[s, x], argTypes := #[37, 37] }) (hs : a.eval s = v) (hx : a.eval x = .slice (some ⟨W.heap.size, 0, none⟩) 1 1)
    (h : ∀ A1 c1 n1 w1, KidDone ok w W p xs A1 c1 n1 w1 → wpList Try.prog ops Q rest (a.put o.dst (.slice A1 n1 c1)) w1) :
    wpList Try.prog ops Q (o :: rest) a (W.alloc (.cells (kidL p A8 c8).toArray 49)) := by
  refine Kd.N_append k49 (w0 := w) w.heap.size hgd s x 37 49 kid0 88 ho Try.underlying37 infoKid rfl (by decide) (by decide) v xs p (kidL p A8 c8) (okN ok w) ok hs hx (FK_kid hC hc) (fun q hq => ⟨.inl hq, fun he => by have := Kd.N_base hn q he.symm; have := hok q hq; omega⟩) (fun q hq => .inr (by omega)) hn hB hB.size (by omega) ?_
  intro v1 w1 hN1 hB1 hg1 hat1
  obtain ⟨A1, c1, rfl⟩ := Kd.N_slice hN1
  refine h A1 c1 _ w1 ⟨rfl, hN1, hB1, fun k ob hk ho => blk_grown ho hg1 (Kd.N_away hn (fun q hq => ?_))⟩
  rcases hk with rfl | rfl
  · exact (okN_ne hok hq).1
  · exact (okN_ne hok hq).2
/-- A block of a box's cells: they can be read and written. -/
theorem blk7 {W : World} {b : Nat} {a0 a1 a2 a3 a4 a5 a6 : Value} {T : TypeId} (h : W.heap[b]? = some (.cells #[a0, a1, a2, a3, a4, a5, a6] T (0, 0))) :
    (W.cell? ⟨b, 0, none⟩ = some a0 ∧ W.cell? ⟨b, 1, none⟩ = some a1 ∧ W.cell? ⟨b, 2, none⟩ = some a2 ∧ W.cell? ⟨b, 3, none⟩ = some a3 ∧ W.cell? ⟨b, 4, none⟩ = some a4 ∧ W.cell? ⟨b, 5, none⟩ = some a5 ∧ W.cell? ⟨b, 6, none⟩ = some a6) ∧
    W.frozen? ⟨b, 0, none⟩ = false ∧ W.frozen? ⟨b, 1, none⟩ = false ∧ W.frozen? ⟨b, 2, none⟩ = false ∧ W.frozen? ⟨b, 3, none⟩ = false ∧ W.frozen? ⟨b, 4, none⟩ = false ∧ W.frozen? ⟨b, 5, none⟩ = false ∧ W.frozen? ⟨b, 6, none⟩ = false :=
  ⟨⟨blk_cell h 0, blk_cell h 1, blk_cell h 2, blk_cell h 3, blk_cell h 4, blk_cell h 5, blk_cell h 6⟩, blk_frozen h 0, blk_frozen h 1, blk_frozen h 2, blk_frozen h 3, blk_frozen h 4, blk_frozen h 5, blk_frozen h 6⟩
theorem set7 {W W0 : World} {B b : Nat} {a0 a1 a2 a3 a4 a5 a6 : Value} {T : TypeId} (u0 u1 u2 u3 u4 u5 u6 : Value) (h : W.heap[b]? = some (.cells #[a0, a1, a2, a3, a4, a5, a6] T (0, 0))) (hB : Below B W0 W) (hb : B ≤ b) :
    (((((((W.setCell ⟨b, 0, none⟩ u0).setCell ⟨b, 1, none⟩ u1).setCell ⟨b, 2, none⟩ u2).setCell ⟨b, 3, none⟩ u3).setCell ⟨b, 4, none⟩ u4).setCell ⟨b, 5, none⟩ u5).setCell ⟨b, 6, none⟩ u6).heap[b]? = some (.cells #[u0, u1, u2, u3, u4, u5, u6] T (0, 0)) ∧
    Below B W0 (((((((W.setCell ⟨b, 0, none⟩ u0).setCell ⟨b, 1, none⟩ u1).setCell ⟨b, 2, none⟩ u2).setCell ⟨b, 3, none⟩ u3).setCell ⟨b, 4, none⟩ u4).setCell ⟨b, 5, none⟩ u5).setCell ⟨b, 6, none⟩ u6) := by
  have h0 := blk_put (cs' := #[u0, a1, a2, a3, a4, a5, a6]) h 0 u0 rfl
  have h1 := blk_put (cs' := #[u0, u1, a2, a3, a4, a5, a6]) h0 1 u1 rfl
  have h2 := blk_put (cs' := #[u0, u1, u2, a3, a4, a5, a6]) h1 2 u2 rfl
  have h3 := blk_put (cs' := #[u0, u1, u2, u3, a4, a5, a6]) h2 3 u3 rfl
  have h4 := blk_put (cs' := #[u0, u1, u2, u3, u4, a5, a6]) h3 4 u4 rfl
  have h5 := blk_put (cs' := #[u0, u1, u2, u3, u4, u5, a6]) h4 5 u5 rfl
  have h6 := blk_put (cs' := #[u0, u1, u2, u3, u4, u5, u6]) h5 6 u6 rfl
  exact ⟨h6, below_own (below_own (below_own (below_own (below_own (below_own (below_own hB b 0 hb u0) b 1 hb u1) b 2 hb u2) b 3 hb u3) b 4 hb u4) b 5 hb u5) b 6 hb u6⟩
theorem kidLens_all {l : List Kx} (h : l.all kidLens = true) (i : Nat) (hi : i < l.length) : kidLens (rd_T49 l i) = true := by
  rw [List.all_eq_true] at h
  refine h _ ?_
  simp [rd_T49, hi]
theorem setH_succ (l : List Kx) (i : Nat) (hi : i < l.length) : setH (l.take (i + 1)) = max (setH (l.take i)) ((rd_T49 l i).f1 + (rd_T49 l i).f2.f2) := by
  rw [kid_take l i hi, setH, List.foldl_append]
  rfl
theorem setD_succ (l : List Kx) (i : Nat) (hi : i < l.length) : setD (l.take (i + 1)) = max (setD (l.take i)) ((rd_T49 l i).f2.f3 - (rd_T49 l i).f1) := by
  rw [kid_take l i hi, setD, List.foldl_append]
  rfl

set_option maxHeartbeats 8000000 in
set_option maxRecDepth 100000 in
theorem Set_any (ok : Nat → Prop) (A : Option Addr) (c n : Nat) (x : Int) (l : List Kx) (w : World) (hn : n = l.length) (hr : Kd.F k49 w ok A l.length l) (hok : ∀ k, ok k → k < w.heap.size) (hc : n ≤ c) (hmany : l.length ≤ 100000) :
    Calls Try.prog 75 #[.int .i64 x, .slice A n c] w (BoxPost (setR x l) ok w) := by
  subst hn
  have HR := Aside0.mk hr
  have HOK := Aside0.mk hok
  clear hr hok
  go_enter Try.func75, Try.ntmps75
  go_wp2_with fail
  go_loopw [13] (fun q W => ∃ (k : Nat), k ≤ l.length ∧ q = .int .i64 k ∧ Aside0 ((l.take k).all kidLens = true) ∧ ∃ H D, Aside0 (H = setH (l.take k)) ∧ Aside0 (D = setD (l.take k)) ∧ SetI ok w x (l.take k) H D W) (fun q _ => l.length - (intOf q).toNat)
  case atStart =>
    refine ⟨0, by omega, rfl, ⟨rfl⟩, 0, 0, ⟨rfl⟩, ⟨rfl⟩, below_alloc (below_alloc (Below.refl _ _) _) _, ?_, .slice none 0 0, ?_, Kd.N_nil _ _ _ _ _⟩
    · exact blk_alloc (blk_new _ _) _
    · have := blk_new (w.alloc (.cells #[.int .i64 0, .int .i64 0, .int .i64 0, .int .i64 0, .int .i64 0, .int .i64 0, .slice none 0 0] 39)) (.cells #[.int .i64 3, .int .i64 x, .int .i64 0, .int .i64 0, .int .i64 0, .int .i64 0, .slice none 0 0] 39)
      rwa [World.size_alloc] at this
  case round =>
    obtain ⟨k, hk, rfl, HAL, H, D, HH, HD, HW, HZ, v, HV, HN⟩ := hrel
    by_cases hlt : k < l.length
    · obtain ⟨ad, A8, c8, hA, d0, d1, d2, d3, d4, d5, d6, d7, d8, hc8, hC8⟩ := kid_cells HR.out k hlt
      subst hA
      replace d0 := pw_cell_below HW d0
      replace d1 := pw_cell_below HW d1
      replace d2 := pw_cell_below HW d2
      replace d3 := pw_cell_below HW d3
      replace d4 := pw_cell_below HW d4
      replace d5 := pw_cell_below HW d5
      replace d6 := pw_cell_below HW d6
      replace d7 := pw_cell_below HW d7
      replace d8 := pw_cell_below HW d8
      obtain ⟨p, hp⟩ : ∃ p, p = rd_T49 l k := ⟨_, rfl⟩
      rw [← hp] at d0 d1 d2 d3 d4 d5 d6 d7 d8 hc8 hC8
      have HP := Aside0.mk hp
      have HC8 := Aside0.mk hC8
      have HBW := Aside0.mk HW
      have HZ' := Aside0.mk HZ
      have HV' := Aside0.mk HV
      have HN' := Aside0.mk HN
      have hz0 : w.heap.size < wr.heap.size := blk_lt HZ
      clear hp hC8 HW HZ HV HN
      cases hk1 : kidLens p with
      | false =>
        have HAF : Aside0 (allLen [p.f0, p.f1, p.f2.f1, p.f2.f2, p.f2.f3] = false) := ⟨hk1⟩
        have HS : Aside0 (setR x l = (z39, 1)) := ⟨by
          unfold setR
          rw [if_neg]
          intro h
          have := kidLens_all h k hlt
          rw [← HP.out, hk1] at this
          cases this⟩
        clear hk1
        go_wp2_with (go_at_call 23; refine (Is_any _ 5 [p.f0, p.f1, p.f2.f1, p.f2.f2, p.f2.f3] _ (C_lit _ _ [p.f0, p.f1, p.f2.f1, p.f2.f2, p.f2.f3] _ _ (by simp) rfl (by simp)) (by simp)).mono ?_; rintro e w3 ⟨rfl, hb3⟩; rw [HAF.out]; have hz3 := blk_below (blk_alloc (blk_alloc HZ'.out _) _) hb3; obtain ⟨⟨e0, e1, e2, e3, e4, e5, e6⟩, f0, f1, f2, f3, f4, f5, f6⟩ := blk7 hz3; have HZ3 := Aside0.mk hz3; clear hz3; have HB3 := Aside0.mk (below_next HBW.out (below2 _ _ hb3)); clear hb3)
        refine bodyPost_ret (results_ct rfl _ _ w.heap.size 39 #[.int .i64 0, .int .i64 0, .int .i64 0, .int .i64 0, .int .i64 0, .int .i64 0, .slice none 0 0] (0, 0) _ rfl (set7 _ _ _ _ _ _ _ HZ3.out HB3.out (Nat.le_refl _)).1 Try.underlying39 rfl (by kernel_rfl)) rfl ?_
        exact ⟨none, 0, by rw [HS.out]; rfl, by rw [HS.out]; exact BoxAt.nil _ _ _ rfl, (set7 _ _ _ _ _ _ _ HZ3.out HB3.out (Nat.le_refl _)).2⟩
      | true =>
        have HAF : Aside0 (allLen [p.f0, p.f1, p.f2.f1, p.f2.f2, p.f2.f3] = true) := ⟨hk1⟩
        have L1 := allLen_rd _ HAF.out 1 (by simp)
        have L3 := allLen_rd _ HAF.out 3 (by simp)
        have L4 := allLen_rd _ HAF.out 4 (by simp)
        obtain ⟨l1a, l1b⟩ : -1073741823 ≤ p.f1 ∧ p.f1 ≤ 1073741823 := L1
        obtain ⟨l3a, l3b⟩ : -1073741823 ≤ p.f2.f2 ∧ p.f2.f2 ≤ 1073741823 := L3
        obtain ⟨l4a, l4b⟩ : -1073741823 ≤ p.f2.f3 ∧ p.f2.f3 ≤ 1073741823 := L4
        have HAL2 : Aside0 ((l.take (k + 1)).all kidLens = true) := ⟨by
          rw [kid_take l k hlt, List.all_append, HAL.out, ← HP.out]
          simp [hk1]⟩
        clear hk1
        have hne : (w.heap.size + 1 : Nat) ≠ wr.heap.size := by have := blk_lt HV'.out; omega
        go_wp2_with (go_at_call 23; refine (Is_any _ 5 [p.f0, p.f1, p.f2.f1, p.f2.f2, p.f2.f3] _ (C_lit _ _ [p.f0, p.f1, p.f2.f1, p.f2.f2, p.f2.f3] _ _ (by simp) rfl (by simp)) (by simp)).mono ?_; rintro e w3 ⟨rfl, hb3⟩; rw [HAF.out]; have hz3 := blk_below (blk_alloc (blk_alloc HZ'.out _) _) hb3; have hv3 := blk_below (blk_alloc (blk_alloc HV'.out _) _) hb3; have hp3 := blk_below (blk_alloc (blk_new wr _) _) hb3; have HZ3 := Aside0.mk hz3; have HV3 := Aside0.mk hv3; have HP3 := Aside0.mk hp3; have HN3 := Aside0.mk (Kd.N_below (Kd.N_alloc (Kd.N_alloc HN'.out _) _) hb3); have HB3 := Aside0.mk (below_next HBW.out (below2 _ _ hb3)); obtain ⟨⟨e0, e1, e2, e3, e4, e5, e6⟩, f0, f1, f2, f3, f4, f5, f6⟩ := blk7 hv3; have g1 := blk_cell hp3 1; have g4 := blk_cell hp3 4; have g5 := blk_cell hp3 5; simp only [List.getElem?_toArray, List.getElem?_cons_succ, List.getElem?_cons_zero] at g1 g4 g5; clear hb3 hz3 hv3 hp3)
        clear e0 e1 e4 e5 e6 f0 f1 f4 f5 f6 d0 d1 d2 d3 d4 d5 d6 d7 d8
        go_region
        as_aux_lemma =>
          obtain ⟨H', hH'⟩ : ∃ H', H' = max H (p.f1 + p.f2.f2) := ⟨_, rfl⟩
          obtain ⟨D', hD'⟩ : ∃ D', D' = max D (p.f2.f3 - p.f1) := ⟨_, rfl⟩
          rw [← hH', ← hD']
          obtain ⟨W4, hW4⟩ : ∃ W4 : World, W4 = ((w3.setCell ⟨w.heap.size + 1, 2, none⟩ (.int .i64 H')).setCell ⟨w.heap.size + 1, 3, none⟩ (.int .i64 D')).drew := ⟨_, rfl⟩
          have hv4 : W4.heap[w.heap.size + 1]? = some (.cells #[.int .i64 3, .int .i64 x, .int .i64 H', .int .i64 D', .int .i64 0, .int .i64 0, v] 39 (0, 0)) := by
            rw [hW4]
            have h2 := blk_put (cs' := #[.int .i64 3, .int .i64 x, .int .i64 H', .int .i64 D, .int .i64 0, .int .i64 0, v]) HV3.out 2 (.int .i64 H') rfl
            exact blk_put (cs' := #[.int .i64 3, .int .i64 x, .int .i64 H', .int .i64 D', .int .i64 0, .int .i64 0, v]) h2 3 (.int .i64 D') rfl
          have HZ4 : Aside0 (W4.heap[w.heap.size]? = some (.cells #[.int .i64 0, .int .i64 0, .int .i64 0, .int .i64 0, .int .i64 0, .int .i64 0, .slice none 0 0] 39 (0, 0))) := ⟨by
            rw [hW4]
            exact blk_far (blk_far HZ3.out (by show w.heap.size ≠ w.heap.size + 1; omega) _) (by show w.heap.size ≠ w.heap.size + 1; omega) _⟩
          have hp4 : W4.heap[wr.heap.size]? = some (.cells #[.int .i64 p.f0, .int .i64 p.f1, .int .i64 p.f2.f0, .int .i64 p.f2.f1, .int .i64 p.f2.f2, .int .i64 p.f2.f3, .int .i64 p.f2.f4, .int .i64 p.f2.f5, .slice A8 p.f2.f6.length c8] 49 (0, 0)) := by
            rw [hW4]
            exact blk_far (blk_far HP3.out hne.symm _) hne.symm _
          have hn4 : Kd.N k49 49 W4 w.heap.size (okN ok w) v (l.take k) := by
            rw [hW4]
            exact Kd.N_drew (Kd.N_far (Kd.N_far HN3.out (fun k hk => (okN_ne HOK.out hk).2) _) (fun k hk => (okN_ne HOK.out hk).2) _)
          have hB4 : Below w.heap.size w W4 := by
            rw [hW4]
            exact (below_own (below_own HB3.out _ _ (by omega) _) _ _ (by omega) _).drew
          rw [← hW4]
          have HH' : Aside0 (H' = setH (l.take (k + 1))) := ⟨by rw [setH_succ l k hlt, ← HH.out, ← HP.out, hH']⟩
          have HD' : Aside0 (D' = setD (l.take (k + 1))) := ⟨by rw [setD_succ l k hlt, ← HD.out, ← HP.out, hD']⟩
          have HX : Aside0 (l.take (k + 1) = l.take k ++ [p]) := ⟨by rw [kid_take l k hlt, HP.out]⟩
          have c6 : W4.cell? ⟨w.heap.size + 1, 6, none⟩ = some v := blk_cell hv4 6
          have k0 := blk_cell hp4 0
          have k1 := blk_cell hp4 1
          have k2 := blk_cell hp4 2
          have k3 := blk_cell hp4 3
          have k4 := blk_cell hp4 4
          have k5 := blk_cell hp4 5
          have k6 := blk_cell hp4 6
          have k7 := blk_cell hp4 7
          have k8 := blk_cell hp4 8
          simp only [List.getElem?_toArray, List.getElem?_cons_succ, List.getElem?_cons_zero] at k0 k1 k2 k3 k4 k5 k6 k7 k8
          have HV4 := Aside0.mk hv4
          have HN4 := Aside0.mk hn4
          have HB4 := Aside0.mk hB4
          have HSZ := Aside0.mk (blk_lt hv4)
          have hvne : ∀ q, v.ownBlock = some q → w.heap.size ≤ q := Kd.N_base hn4
          have HVN := Aside0.mk hvne
          clear hW4 hv4 hp4 hn4 hB4 hH' hD' e2 e3 f2 f3 g1 g4 g5 l1a l1b l3a l3b l4a l4b hvne
          have hlen9 : (l.take k).length ≤ 100000 := by have := List.length_take_le k l; omega
          go_wp2_with first | (refine lit_kid rfl (.tmp 56) rfl rfl ?_) | (at_builtin; refine kid_append HOK.out HN4.out HB4.out HSZ.out (Kd.F_below HC8.out HB4.out) hc8 hlen9 rfl (.tmp 55) (.tmp 57) rfl rfl rfl ?_; intro A1 c1 n1 w1 hd1; have HD1 := Aside0.mk hd1; have hv1 := hd1.far _ _ (.inr rfl) HV4.out; have HV1 := Aside0.mk hv1; have HZ1 := Aside0.mk (hd1.far _ _ (.inl rfl) HZ4.out); have cv1 : w1.cell? ⟨w.heap.size + 1, 6, none⟩ = some v := blk_cell hv1 6; have fv1 := blk_frozen hv1 6; clear hv1 hd1)
          go_roundw
          case rel =>
            refine ⟨k + 1, by omega, by go_num, HAL2, H', D', HH', HD', below_own HD1.out.below _ _ (by omega) _, blk_far HZ1.out (by show w.heap.size ≠ w.heap.size + 1; omega) _, .slice A1 n1 c1, ?_, ?_⟩
            · exact blk_put (cs' := #[.int .i64 3, .int .i64 x, .int .i64 H', .int .i64 D', .int .i64 0, .int .i64 0, .slice A1 n1 c1]) HV1.out 6 _ rfl
            · rw [HX.out]
              exact Kd.N_far HD1.out.row (fun q hq => (okN_ne HOK.out hq).2) _
          case measure => simp [intOf]; omega
    · have hkl : k = l.length := by omega
      subst hkl
      rw [List.take_length] at HAL HH HD HN
      obtain ⟨Av, cv, rfl, hcv, hCv⟩ := Kd.N_reads HN
      have HFV := Aside0.mk (Kd.N_F HN)
      have HBW := Aside0.mk HW
      have HZ' := Aside0.mk HZ
      have HV' := Aside0.mk HV
      clear HN hCv HW HZ HV
      by_cases hx : Len x
      rotate_left
      · have HAF : Aside0 (allLen [x] = false) := ⟨by simp [allLen, hx]⟩
        have HS : Aside0 (setR x l = (z39, 1)) := ⟨by unfold setR; rw [if_pos HAL.out, if_neg hx]⟩
        clear hx
        go_wp2_with (go_at_call 23; refine (Is_any _ 1 [x] _ (C_lit _ _ [x] _ _ (by simp) rfl (by simp)) (by simp)).mono ?_; rintro e w3 ⟨rfl, hb3⟩; rw [HAF.out]; have hz3 := blk_below (blk_alloc HZ'.out _) hb3; obtain ⟨⟨e0, e1, e2, e3, e4, e5, e6⟩, f0, f1, f2, f3, f4, f5, f6⟩ := blk7 hz3; have HZ3 := Aside0.mk hz3; have HB3 := Aside0.mk (below_next HBW.out (below1 _ hb3)); clear hz3 hb3)
        refine bodyPost_ret (results_ct rfl _ _ w.heap.size 39 #[.int .i64 0, .int .i64 0, .int .i64 0, .int .i64 0, .int .i64 0, .int .i64 0, .slice none 0 0] (0, 0) _ rfl (set7 _ _ _ _ _ _ _ HZ3.out HB3.out (Nat.le_refl _)).1 Try.underlying39 rfl (by kernel_rfl)) rfl ?_
        exact ⟨none, 0, by rw [HS.out]; rfl, by rw [HS.out]; exact BoxAt.nil _ _ _ rfl, (set7 _ _ _ _ _ _ _ HZ3.out HB3.out (Nat.le_refl _)).2⟩
      have HAF : Aside0 (allLen [x] = true) := ⟨by simp [allLen, hx]⟩
      by_cases hhd : Len (setH l) ∧ Len (setD l)
      rotate_left
      · have HAG : Aside0 (allLen [H, D] = false) := ⟨by rw [HH.out, HD.out]; simpa [allLen] using hhd⟩
        have HS : Aside0 (setR x l = (z39, 2)) := ⟨by unfold setR; rw [if_pos HAL.out, if_pos hx, if_neg hhd]⟩
        clear hx hhd
        go_wp2_with fail
        refine (Is_any _ 1 [x] _ (C_lit _ _ [x] _ _ (by simp) rfl (by simp)) (by simp)).mono ?_
        rintro e w3 ⟨rfl, hb3⟩
        rw [HAF.out]
        have hv3 := blk_below (blk_alloc HV'.out _) hb3
        obtain ⟨⟨h0, h1, h2, h3, h4, h5, h6⟩, _⟩ := blk7 hv3
        have hz3 := blk_below (blk_alloc HZ'.out _) hb3
        have HV3 := Aside0.mk hv3
        have HZ3 := Aside0.mk hz3
        have HB3 := Aside0.mk (below_next HBW.out (below1 _ hb3))
        clear hz3 hv3 hb3
        go_wp2_with fail
        refine (Is_any _ 2 [H, D] _ (C_lit _ _ [H, D] _ _ (by simp) rfl (by simp)) (by simp)).mono ?_
        rintro e w4 ⟨rfl, hb4⟩
        rw [HAG.out]
        have hv4 := blk_below (blk_alloc HV3.out _) hb4
        have hz4 := blk_below (blk_alloc HZ3.out _) hb4
        obtain ⟨⟨i0, i1, i2, i3, i4, i5, i6⟩, _⟩ := blk7 hv4
        obtain ⟨⟨e0, e1, e2, e3, e4, e5, e6⟩, f0, f1, f2, f3, f4, f5, f6⟩ := blk7 hz4
        have HZ4 := Aside0.mk hz4
        have HB4 := Aside0.mk (below_next HB3.out (below1 _ hb4))
        clear hz4 hv4 hb4
        go_wp2
        refine bodyPost_ret (results_ct rfl _ _ w.heap.size 39 #[.int .i64 0, .int .i64 0, .int .i64 0, .int .i64 0, .int .i64 0, .int .i64 0, .slice none 0 0] (0, 0) _ rfl (set7 _ _ _ _ _ _ _ HZ4.out HB4.out (Nat.le_refl _)).1 Try.underlying39 rfl (by kernel_rfl)) rfl ?_
        exact ⟨none, 0, by rw [HS.out]; rfl, by rw [HS.out]; exact BoxAt.nil _ _ _ rfl, (set7 _ _ _ _ _ _ _ HZ4.out HB4.out (Nat.le_refl _)).2⟩
      have HAG : Aside0 (allLen [H, D] = true) := ⟨by rw [HH.out, HD.out]; simpa [allLen] using hhd⟩
      have HS : Aside0 (setR x l = (⟨3, x, H, D, 0, 0, l⟩, 0)) := ⟨by unfold setR; rw [if_pos HAL.out, if_pos hx, if_pos hhd, HH.out, HD.out]⟩
      clear hx hhd
      go_wp2_with fail
      refine (Is_any _ 1 [x] _ (C_lit _ _ [x] _ _ (by simp) rfl (by simp)) (by simp)).mono ?_
      rintro e w3 ⟨rfl, hb3⟩
      rw [HAF.out]
      have hv3 := blk_below (blk_alloc HV'.out _) hb3
      obtain ⟨⟨h0, h1, h2, h3, h4, h5, h6⟩, _⟩ := blk7 hv3
      have hz3 := blk_below (blk_alloc HZ'.out _) hb3
      have HV3 := Aside0.mk hv3
      have HZ3 := Aside0.mk hz3
      have HB3 := Aside0.mk (below_next HBW.out (below1 _ hb3))
      have HBR3 := Aside0.mk (below1 _ hb3)
      clear hz3 hv3 hb3
      go_wp2_with fail
      refine (Is_any _ 2 [H, D] _ (C_lit _ _ [H, D] _ _ (by simp) rfl (by simp)) (by simp)).mono ?_
      rintro e w4 ⟨rfl, hb4⟩
      rw [HAG.out]
      have hv4 := blk_below (blk_alloc HV3.out _) hb4
      have hz4 := blk_below (blk_alloc HZ3.out _) hb4
      obtain ⟨⟨i0, i1, i2, i3, i4, i5, i6⟩, _⟩ := blk7 hv4
      obtain ⟨⟨e0, e1, e2, e3, e4, e5, e6⟩, f0, f1, f2, f3, f4, f5, f6⟩ := blk7 hz4
      have HZ4 := Aside0.mk hz4
      have HB4 := Aside0.mk (below_next HB3.out (below1 _ hb4))
      have HBR4 := Aside0.mk (below_next HBR3.out (below1 _ hb4))
      clear hz4 hv4 hb4
      go_wp2
      refine bodyPost_ret (results_ct rfl _ _ w.heap.size 39 #[.int .i64 3, .int .i64 x, .int .i64 H, .int .i64 D, .int .i64 0, .int .i64 0, .slice Av l.length cv] (0, 0) _ rfl (set7 _ _ _ _ _ _ _ HZ4.out HB4.out (Nat.le_refl _)).1 Try.underlying39 rfl (by kernel_rfl)) rfl ?_
      refine ⟨Av, cv, by rw [HS.out]; rfl, ?_, (set7 _ _ _ _ _ _ _ HZ4.out HB4.out (Nat.le_refl _)).2⟩
      rw [HS.out]
      have hF4 := Kd.F_below HFV.out HBR4.out
      exact ⟨Kd.F_mono (Kd.F_far (Kd.F_far (Kd.F_far (Kd.F_far (Kd.F_far (Kd.F_far (Kd.F_far hF4 (fun k hk => (okN_ne HOK.out hk).1) _) (fun k hk => (okN_ne HOK.out hk).1) _) (fun k hk => (okN_ne HOK.out hk).1) _) (fun k hk => (okN_ne HOK.out hk).1) _) (fun k hk => (okN_ne HOK.out hk).1) _) (fun k hk => (okN_ne HOK.out hk).1) _) (fun k hk => (okN_ne HOK.out hk).1) _) (fun k hk => hk.imp id (fun h => by omega)), hcv⟩
end Go.Proofs.Ytfbiahlogclkbaa.H
