/- The proof's texts Aid FixA FixB: what the statement leads to. No condition is added. -/
import Derived.Test.YtfbiahlogclkbaaPx7
import Derived.Defers
import Derived.Recover
import Derived.Laws.Pointers
import Derived.WalkLawsBesides
import Derived.Test.YtfbiahlogclkbaaPx
set_option linter.unusedVariables false
set_option linter.unusedSimpArgs false
namespace Go.Proofs.Ytfbiahlogclkbaa.H
open Go.RowKit Go.Proofs.YtfbiahlogclkbaaW.PrintWords Go.Proofs.YtfbiahlogclkbaaW.PrintLast Go.Proofs.Ytfbiahlogclkbaa.P

/-- A block's cells, read as a row. -/
theorem C_block {α : Type} {d : Kd α} {W : World} {g : Nat} {T : TypeId} {cs : List Value} {xs : List α} (h : W.heap[g]? = some (.cells cs.toArray T (0, 0))) (hr : Reps (d.K W) d.sz xs cs) (hm : xs.length ≤ 9223372036854775807) :
    d.C W (some ⟨g, 0, none⟩) xs.length xs := by
  refine ⟨rfl, hm, fun _ => ⟨⟨g, 0, none⟩, rfl, fun j p hj => ⟨(cs.drop (j * d.sz)).take d.sz, ?_, hr.2 j p hj, fun i u hu => ?_⟩⟩⟩
  · have hjl := (List.getElem?_eq_some_iff.1 hj).1
    have h1 : j * d.sz + d.sz ≤ cs.length := by rw [hr.1, ← Nat.succ_mul]; exact Nat.mul_le_mul_right _ hjl
    rw [List.length_take, List.length_drop]
    omega
  · rw [add_plain, blk_cell h]
    rw [List.getElem?_take] at hu
    split at hu
    · rw [List.getElem?_drop] at hu
      simpa using hu
    · cases hu
theorem reps_nums (k : IntKind) (W : World) (l : List Int) : Reps ((Kd.int k).K W) (Kd.int k).sz l (nums k l) := by
  refine ⟨by simp [nums, Kd.int, Kd.scalar], fun j p hj => ?_⟩
  show _ = [_]
  have hl := (List.getElem?_eq_some_iff.1 hj).1
  have hp := (List.getElem?_eq_some_iff.1 hj).2
  rw [show (Kd.int k).sz = 1 from rfl, Nat.mul_one]
  unfold nums
  rw [← List.map_drop, ← List.map_take, List.drop_eq_getElem_cons hl, hp]
  rfl
theorem C_ints {W : World} {g : Nat} {T : TypeId} (l : List Int) (h : W.heap[g]? = some (.cells (nums .i64 l).toArray T (0, 0))) (hm : l.length ≤ 9223372036854775807) : (Kd.int .i64).C W (some ⟨g, 0, none⟩) l.length l :=
  C_block h (reps_nums _ _ _) hm

/-- .. of a literal's whole numbers. -/
theorem C_lit (W : World) (T : TypeId) (l : List Int) (b : Nat) (cs : Array Value) (hb : W.heap.size = b) (hcs : cs = (nums .i64 l).toArray) (hm : l.length ≤ 9223372036854775807) : (Kd.int .i64).C (W.alloc (.cells cs T)) (some ⟨b, 0, none⟩) l.length l := by
  subst hb hcs
  exact C_ints l (blk_new W _) hm

theorem below2 {w w1 : World} (o o' : Obj) (h : Below ((w.alloc o).alloc o').heap.size ((w.alloc o).alloc o') w1) : Below w.heap.size w w1 :=
  below_then (below_alloc (below_alloc (Below.refl _ _) _) _) (by simp; omega) h
theorem below1 {w w1 : World} (o : Obj) (h : Below (w.alloc o).heap.size (w.alloc o) w1) : Below w.heap.size w w1 :=
  below_then (below_alloc (Below.refl _ _) _) (by simp) h
theorem below_next {w w1 w2 : World} (h : Below w.heap.size w w1) (k : Below w1.heap.size w1 w2) : Below w.heap.size w w2 := below_then h h.size k
/-- A cell of a block of the call's own is written. -/
theorem below_own {B : Nat} {w W : World} (h : Below B w W) (b i : Nat) (hb : B ≤ b) (v : Value) : Below B w (W.setCell ⟨b, i, none⟩ v) := h.setCell (p := ⟨b, i, none⟩) hb v
end Go.Proofs.Ytfbiahlogclkbaa.H

set_option linter.unusedVariables false
set_option linter.unusedSimpArgs false
namespace Go.Proofs.Ytfbiahlogclkbaa.H
open Go.RowKit Go.Proofs.YtfbiahlogclkbaaW.PrintWords Go.Proofs.YtfbiahlogclkbaaW.PrintLast Go.Proofs.Ytfbiahlogclkbaa.P

/-- A number is a length. -/
def Len (x : Int) : Prop := -1073741823 ≤ x ∧ x ≤ 1073741823
instance (x : Int) : Decidable (Len x) := by unfold Len; infer_instance
def allLen (l : List Int) : Bool := l.all fun x => decide (Len x)
theorem allLen_cons (x : Int) (l : List Int) : allLen (x :: l) = (decide (Len x) && allLen l) := rfl

theorem drop_cons (l : List Int) (i : Nat) (h : i < l.length) : l.drop i = rd l i :: l.drop (i + 1) := by
  rw [List.drop_eq_getElem_cons h]
  congr 1
  unfold rd
  simp [List.getD_eq_getElem?_getD, List.getElem?_eq_getElem h]
theorem wrap_one (i n : Nat) (h : i < n) (hn : n ≤ 9223372036854775807) : wrap64 ((i : Int) + 1) = ((i + 1 : Nat) : Int) := by
  unfold wrap64
  omega

theorem fixed_Is_l0 (l : List Int) (hl : l.length ≤ 9223372036854775807) (d : Nat) : ∀ (k i : Nat), i ≤ l.length → l.length - i = d → d < k → fixed_Is.l0 k l (l.length : Int) i = some (allLen (l.drop i)) := by
  induction d with
  | zero =>
    intro k i h0 hd hk
    obtain ⟨k, rfl⟩ : ∃ m, k = m + 1 := ⟨k - 1, by omega⟩
    simp only [fixed_Is.l0]
    rw [if_neg (by omega), List.drop_eq_nil_of_le (by omega)]
    rfl
  | succ d ih =>
    intro k i h0 hd hk
    obtain ⟨k, rfl⟩ : ∃ m, k = m + 1 := ⟨k - 1, by omega⟩
    have hlt : i < l.length := by omega
    have ih' := ih k (i + 1) (by omega) (by omega) (by omega)
    rw [drop_cons l i hlt, allLen_cons]
    simp only [fixed_Is.l0]
    rw [if_pos (by omega), if_pos (by omega), if_pos (by omega), wrap_one i l.length hlt hl, ih']
    by_cases h1 : rd l i < -1073741823
    · rw [if_pos h1, decide_eq_false (by unfold Len; omega), Bool.false_and]
    · rw [if_neg h1]
      by_cases h2 : rd l i > 1073741823
      · rw [if_pos h2, decide_eq_false (by unfold Len; omega), Bool.false_and]
      · rw [if_neg h2, decide_eq_true (by unfold Len; omega), Bool.true_and]

theorem Is_any (A : Option Addr) (c : Nat) (l : List Int) (w : World) (hr : Kd.C (Kd.int .i64) w A l.length l) (hc : l.length ≤ c) :
    Calls Try.prog 23 #[.slice A l.length c] w fun e w' => e = .returned (.bool (allLen l)) ∧ Below w.heap.size w w' :=
  (fixed_Is.calls (l.length + 1) A c l (allLen l) w hr hc (by
    have h := fixed_Is_l0 l hr.2.1 l.length (l.length + 1) 0 (by omega) (by omega) (by omega)
    simpa [fixed_Is.f] using h)).mono fun e w' h => ⟨h.1, h.2.below⟩

theorem need_ok (e : Int) (A : Option Addr) (c : Nat) (l : List Int) (w : World) (hr : Kd.C (Kd.int .i64) w A l.length l) (hc : l.length ≤ c) (h : allLen l = true) :
    Calls Try.prog 87 #[.int .i64 e, .slice A l.length c] w fun en w' => en = .returned (.tuple #[]) ∧ Below w.heap.size w w' := by
  have HR := Aside0.mk hr
  clear hr
  go_enter Try.func87, Try.ntmps87
  go_wp2_with (go_at_call 23; refine (Is_any _ _ _ _ HR.out hc).mono ?_; rintro e w' ⟨rfl, hb⟩; rw [h])
  go_end0
  exact ⟨rfl, by assumption⟩

theorem need_no (e : Int) (A : Option Addr) (c : Nat) (l : List Int) (w : World) (hr : Kd.C (Kd.int .i64) w A l.length l) (hc : l.length ≤ c) (h : allLen l = false) :
    Calls Try.prog 87 #[.int .i64 e, .slice A l.length c] w fun en w' => en = .panicked [{ v := .iface 41 (.int .i64 e), recovered := false }] ∧ Below w.heap.size w w' := by
  have HR := Aside0.mk hr
  clear hr
  go_enter Try.func87, Try.ntmps87
  go_wp2_with (go_at_call 23; refine (Is_any _ _ _ _ HR.out hc).mono ?_; rintro e w' ⟨rfl, hb⟩; rw [h])
  exact ⟨rfl, rfl, by assumption⟩

set_option maxRecDepth 100000 in
/-- What is deferred, in a frame that panics: the panic's number is told. -/
theorem catch_panicking (b b' : Nat) (hbb : b ≠ b') (x y k : Int) (older : List PanicEntry) (w : World) (hn : w.cell? ⟨b, 0, none⟩ = some (.int .i64 x)) (he : w.cell? ⟨b', 0, none⟩ = some (.int .i64 y)) (fn : w.frozen? ⟨b, 0, none⟩ = false) (fe : w.frozen? ⟨b', 0, none⟩ = false) :
    CallsD Try.prog 109 #[.pointer (some ⟨b, 0, none⟩), .pointer (some ⟨b', 0, none⟩)] (.panicking ({ v := .iface 41 (.int .i64 k), recovered := false } :: older)) w fun en u' w' =>
      en = .returned (.tuple #[]) ∧ u' = .panicking ({ v := .iface 41 (.int .i64 k), recovered := true } :: older) ∧ w' = ((w.setCell ⟨b, 0, none⟩ (.int .i64 0)).setCell ⟨b', 0, none⟩ (.int .i64 k)).drew := by
  have hta : ∀ (v : Value) (W : World), (Instr.typeAssert (.iface 41 v) 20 41 false).run Try.prog W = .ok v W := fun v W => by rfl
  refine callsD_of_wpS Try.func109 rfl fun c₀ cs hu => ?_
  apply wpS_seq
  apply wpS_region
  simp [wpOpsS, go_sem, recoverD, hu, Try.ntmps109, Exit.thenS]
  refine wpS_of_wp ?_
  rw [show (#[Value.pointer (some { block := b, off := 0 }), Value.pointer (some { block := b', off := 0 })] ++
          ((Array.replicate 6 undef).setIfInBounds 1 (Value.iface 41 (Value.int IntKind.i64 k))).setIfInBounds 0
            (Value.iface 41 (Value.int IntKind.i64 k))) = #[Value.pointer (some { block := b, off := 0 }), Value.pointer (some { block := b', off := 0 }), .iface 41 (.int .i64 k), .iface 41 (.int .i64 k), undef, undef, undef, undef] from rfl]
  go_wp2
  go_region
  change bodyPostS Try.prog Try.f109 c₀ cs _ _ _ _ _
  cases c₀
  simp_all [bodyPostS, results, Try.results109]

set_option maxRecDepth 100000 in
/-- .. in a frame that returns: nothing is done. -/
theorem catch_idle (b b' : Nat) (w : World) :
    CallsD Try.prog 109 #[.pointer (some ⟨b, 0, none⟩), .pointer (some ⟨b', 0, none⟩)] .returning w fun en u' w' =>
      en = .returned (.tuple #[]) ∧ u' = .returning ∧ w' = w := by
  refine callsD_of_wpS Try.func109 rfl fun c₀ cs hu => ?_
  apply wpS_seq
  apply wpS_region
  simp [wpOpsS, go_sem, recoverD, hu, Try.ntmps109, Exit.thenS]
  refine wpS_of_wp ?_
  rw [show (#[Value.pointer (some { block := b, off := 0 }), Value.pointer (some { block := b', off := 0 })] ++
          ((Array.replicate 6 undef).setIfInBounds 1 Value.nilIface).setIfInBounds 0 Value.nilIface) = #[Value.pointer (some { block := b, off := 0 }), Value.pointer (some { block := b', off := 0 }), .nilIface, .nilIface, undef, undef, undef, undef] from rfl]
  go_wp2
  change bodyPostS Try.prog Try.f109 c₀ cs _ _ _ _ _
  cases c₀
  simp_all [bodyPostS, results, Try.results109]

set_option maxRecDepth 100000 in
theorem caught_ret (g : Nat) (lb : Array Value) (n : Int) (w : World) (hent : ∀ w, (callFunc g lb).run Try.prog w = .ok (.enter g lb) w) (hdo : ∀ W, Below w.heap.size w W → Calls Try.prog g lb W fun e W' => e = .returned (.int .i64 n) ∧ Below W.heap.size W W') (hn : Len n) :
    Calls Try.prog 85 #[.func (.func g) #[] lb] w fun e w' => e = .returned (.tuple #[.int .i64 n, .int .i64 0]) ∧ Below w.heap.size w w' := by
  have hmf : ∀ (fn : Fn) (first cap : Array Value) (w : World), (Instr.makeFunc fn first cap).run Try.prog w = .ok (.func fn first cap) w := fun _ _ _ _ => rfl
  have HD := Aside0.mk hdo
  clear hdo
  go_enter_defers Try.func85, Try.ntmps85
  go_wp2_with fail
  refine (HD.out _ (below_alloc (below_alloc (Below.refl _ _) _) _)).mono ?_
  rintro e w1 ⟨rfl, hb⟩
  have h0 := blk_below (blk_alloc (blk_new w (Obj.cells #[Value.int IntKind.i64 0] 3)) (Obj.cells #[Value.int IntKind.i64 0] 41)) hb
  have h1 := blk_below (blk_new (w.alloc (Obj.cells #[Value.int IntKind.i64 0] 3)) (Obj.cells #[Value.int IntKind.i64 0] 41)) hb
  rw [World.size_alloc] at h1
  have hB := below2 _ _ hb
  clear hb
  have c0 : w1.cell? ⟨w.heap.size, 0, none⟩ = some (.int .i64 0) := blk_cell h0 0
  have f0 := blk_frozen h0 0
  go_wp2_with fail
  refine (need_ok 2 _ 1 [n] _ (C_lit _ _ [n] _ _ (by simp) rfl (by simp)) (by simp) (by simp [allLen, hn])).mono ?_
  rintro e w2 ⟨rfl, hb⟩
  have g0 := blk_below (blk_alloc (blk_set h0 0 (.int .i64 n)) (Obj.cells #[.int .i64 n] 3)) hb
  have g1 := blk_below (blk_alloc (blk_far h1 (p := ⟨w.heap.size, 0, none⟩) (by simp) (.int .i64 n)) (Obj.cells #[.int .i64 n] 3)) hb
  have hB2 : Below w.heap.size w w2 := below_then (((below_own hB _ _ (Nat.le_refl _) _)).alloc (by have := hB.size; simpa using this) _) (by have := hB.size; simp; omega) hb
  clear hb h0 h1 c0 f0 hB
  have c0 : w2.cell? ⟨w.heap.size, 0, none⟩ = some (.int .i64 n) := blk_cell g0 0
  have f0 := blk_frozen g0 0
  have c1 : w2.cell? ⟨w.heap.size + 1, 0, none⟩ = some (.int .i64 0) := blk_cell g1 0
  have f1 := blk_frozen g1 0
  go_wp2
  refine leaves_cons (f := 109) (args := #[.pointer (some ⟨w.heap.size, 0, none⟩), .pointer (some ⟨w.heap.size + 1, 0, none⟩)]) (by simp) (by simp [go_sem]) ?_
  refine (catch_idle _ _ _).mono ?_
  rintro e u' w'' ⟨rfl, rfl, rfl⟩
  have hB3 := below_own (below_own hB2 w.heap.size 0 (Nat.le_refl _) (.int .i64 n)) (w.heap.size + 1) 0 (by omega) (.int .i64 0)
  simp [Leaves, settle, results, Try.results85, go_sem, c0, c1]
  exact hB3

set_option maxRecDepth 100000 in
theorem caught_over (g : Nat) (lb : Array Value) (n : Int) (w : World) (hent : ∀ w, (callFunc g lb).run Try.prog w = .ok (.enter g lb) w) (hdo : ∀ W, Below w.heap.size w W → Calls Try.prog g lb W fun e W' => e = .returned (.int .i64 n) ∧ Below W.heap.size W W') (hn : ¬ Len n) :
    Calls Try.prog 85 #[.func (.func g) #[] lb] w fun e w' => e = .returned (.tuple #[.int .i64 0, .int .i64 2]) ∧ Below w.heap.size w w' := by
  have hmf : ∀ (fn : Fn) (first cap : Array Value) (w : World), (Instr.makeFunc fn first cap).run Try.prog w = .ok (.func fn first cap) w := fun _ _ _ _ => rfl
  have HD := Aside0.mk hdo
  clear hdo
  go_enter_defers Try.func85, Try.ntmps85
  go_wp2_with fail
  refine (HD.out _ (below_alloc (below_alloc (Below.refl _ _) _) _)).mono ?_
  rintro e w1 ⟨rfl, hb⟩
  have h0 := blk_below (blk_alloc (blk_new w (Obj.cells #[Value.int IntKind.i64 0] 3)) (Obj.cells #[Value.int IntKind.i64 0] 41)) hb
  have h1 := blk_below (blk_new (w.alloc (Obj.cells #[Value.int IntKind.i64 0] 3)) (Obj.cells #[Value.int IntKind.i64 0] 41)) hb
  rw [World.size_alloc] at h1
  have hB := below2 _ _ hb
  clear hb
  have c0 : w1.cell? ⟨w.heap.size, 0, none⟩ = some (.int .i64 0) := blk_cell h0 0
  have f0 := blk_frozen h0 0
  go_wp2_with fail
  refine (need_no 2 _ 1 [n] _ (C_lit _ _ [n] _ _ (by simp) rfl (by simp)) (by simp) (by simp [allLen, hn])).mono ?_
  rintro e w2 ⟨rfl, hb⟩
  have g0 := blk_below (blk_alloc (blk_set h0 0 (.int .i64 n)) (Obj.cells #[.int .i64 n] 3)) hb
  have g1 := blk_below (blk_alloc (blk_far h1 (p := ⟨w.heap.size, 0, none⟩) (by simp) (.int .i64 n)) (Obj.cells #[.int .i64 n] 3)) hb
  have hB2 : Below w.heap.size w w2 := below_then (((below_own hB _ _ (Nat.le_refl _) _)).alloc (by have := hB.size; simpa using this) _) (by have := hB.size; simp; omega) hb
  clear hb h0 h1 c0 f0 hB
  have c0 : w2.cell? ⟨w.heap.size, 0, none⟩ = some (.int .i64 n) := blk_cell g0 0
  have f0 := blk_frozen g0 0
  have c1 : w2.cell? ⟨w.heap.size + 1, 0, none⟩ = some (.int .i64 0) := blk_cell g1 0
  have f1 := blk_frozen g1 0
  go_wp2
  refine leaves_cons (f := 109) (args := #[.pointer (some ⟨w.heap.size, 0, none⟩), .pointer (some ⟨w.heap.size + 1, 0, none⟩)]) (by simp) (by simp [go_sem]) ?_
  refine (catch_panicking w.heap.size (w.heap.size + 1) (by omega) _ _ 2 [] w2 c0 c1 f0 f1).mono ?_
  rintro e u' w'' ⟨rfl, rfl, rfl⟩
  have hB3 := below_drew (below_own (below_own hB2 w.heap.size 0 (Nat.le_refl _) (.int .i64 0)) (w.heap.size + 1) 0 (by omega) (.int .i64 2))
  simp [Leaves, settle, results, Try.results85, go_sem, c0, c1]
  exact hB3

set_option maxRecDepth 100000 in
theorem caught_pan (g : Nat) (lb : Array Value) (k : Int) (w : World) (hent : ∀ w, (callFunc g lb).run Try.prog w = .ok (.enter g lb) w) (hdo : ∀ W, Below w.heap.size w W → Calls Try.prog g lb W fun e W' => e = .panicked [{ v := .iface 41 (.int .i64 k), recovered := false }] ∧ Below W.heap.size W W') :
    Calls Try.prog 85 #[.func (.func g) #[] lb] w fun e w' => e = .returned (.tuple #[.int .i64 0, .int .i64 k]) ∧ Below w.heap.size w w' := by
  have hmf : ∀ (fn : Fn) (first cap : Array Value) (w : World), (Instr.makeFunc fn first cap).run Try.prog w = .ok (.func fn first cap) w := fun _ _ _ _ => rfl
  have HD := Aside0.mk hdo
  clear hdo
  go_enter_defers Try.func85, Try.ntmps85
  go_wp2_with fail
  refine (HD.out _ (below_alloc (below_alloc (Below.refl _ _) _) _)).mono ?_
  rintro e w1 ⟨rfl, hb⟩
  have h0 := blk_below (blk_alloc (blk_new w (Obj.cells #[Value.int IntKind.i64 0] 3)) (Obj.cells #[Value.int IntKind.i64 0] 41)) hb
  have h1 := blk_below (blk_new (w.alloc (Obj.cells #[Value.int IntKind.i64 0] 3)) (Obj.cells #[Value.int IntKind.i64 0] 41)) hb
  rw [World.size_alloc] at h1
  have hB := below2 _ _ hb
  clear hb
  have c0 : w1.cell? ⟨w.heap.size, 0, none⟩ = some (.int .i64 0) := blk_cell h0 0
  have f0 := blk_frozen h0 0
  have c1 : w1.cell? ⟨w.heap.size + 1, 0, none⟩ = some (.int .i64 0) := blk_cell h1 0
  have f1 := blk_frozen h1 0
  go_wp2
  refine leaves_cons (f := 109) (args := #[.pointer (some ⟨w.heap.size, 0, none⟩), .pointer (some ⟨w.heap.size + 1, 0, none⟩)]) (by simp) (by simp [go_sem]) ?_
  refine (catch_panicking w.heap.size (w.heap.size + 1) (by omega) _ _ k [] w1 c0 c1 f0 f1).mono ?_
  rintro e u' w'' ⟨rfl, rfl, rfl⟩
  have hB3 := below_drew (below_own (below_own hB w.heap.size 0 (Nat.le_refl _) (.int .i64 0)) (w.heap.size + 1) 0 (by omega) (.int .i64 k))
  simp [Leaves, settle, results, Try.results85, go_sem, c0, c1]
  exact hB3

/-- What a function that may throw a number comes to. -/
inductive Out where
  | ret (n : Int)
  | pan (k : Int)
def Out.ending : Out → Ending
  | .ret n => .returned (.int .i64 n)
  | .pan k => .panicked [{ v := .iface 41 (.int .i64 k), recovered := false }]
/-- .. and, caught, a length with an error. -/
def Out.res : Out → Int × Int
  | .ret n => if Len n then (n, 0) else (0, 2)
  | .pan k => (0, k)
theorem caught_any (r : Out) (g : Nat) (lb : Array Value) (w : World) (hent : ∀ w, (callFunc g lb).run Try.prog w = .ok (.enter g lb) w) (hdo : ∀ W, Below w.heap.size w W → Calls Try.prog g lb W fun e W' => e = r.ending ∧ Below W.heap.size W W') :
    Calls Try.prog 85 #[.func (.func g) #[] lb] w fun e w' => e = .returned (.tuple #[.int .i64 r.res.1, .int .i64 r.res.2]) ∧ Below w.heap.size w w' := by
  cases r with
  | ret n =>
    by_cases hn : Len n
    · simp only [Out.res, if_pos hn]; exact caught_ret g lb n w hent hdo hn
    · simp only [Out.res, if_neg hn]; exact caught_over g lb n w hent hdo hn
  | pan k => exact caught_pan g lb k w hent hdo

end Go.Proofs.Ytfbiahlogclkbaa.H

set_option linter.unusedVariables false
set_option linter.unusedSimpArgs false
namespace Go.Proofs.Ytfbiahlogclkbaa.H
open Go.RowKit Go.Proofs.YtfbiahlogclkbaaW.PrintWords Go.Proofs.YtfbiahlogclkbaaW.PrintLast Go.Proofs.YtfbiahlogclkbaaW.PrintMore Go.Proofs.Ytfbiahlogclkbaa.P
attribute [local go_sem] max2_int min2_int

/-- Sums, from a number on. -/
def sumGo (n : Int) : List Int → Out
  | [] => .ret n
  | a :: l => if Len (n + a) then sumGo (n + a) l else .pan 2
def sumOut (l : List Int) : Out := if allLen l = true then sumGo 0 l else .pan 1
theorem allLen_rd (l : List Int) (h : allLen l = true) (i : Nat) (hi : i < l.length) : Len (rd l i) := by
  have h2 := List.all_eq_true.1 h (l[i]) (List.getElem_mem hi)
  unfold rd
  simpa [List.getD_eq_getElem?_getD, List.getElem?_eq_getElem hi] using h2
theorem Kd_int_at {w : World} {A : Option Addr} {l : List Int} (h : (Kd.int .i64).C w A l.length l) (i : Nat) (hi : i < l.length) : ∃ ad, A = some ad ∧ w.cell? (ad.add i) = some (.int .i64 (rd l i)) := by
  obtain ⟨ad, c, e, _, hK, hc⟩ := Kd.C_get h 0 (i : Int) (by omega) (by omega)
  obtain rfl : c = [Value.int .i64 (l.getD (i : Int).toNat 0)] := hK
  refine ⟨ad, e, ?_⟩
  have := hc 0 _ rfl
  rw [show (Kd.int .i64).sz = 1 from rfl] at this
  simpa [rd] using this

set_option maxRecDepth 100000 in
set_option maxHeartbeats 400000 in
theorem Sum1_any (b : Nat) (A : Option Addr) (c : Nat) (l : List Int) (w : World) (hb : w.heap[b]? = some (.cells #[.slice A l.length c] 27 (0, 0))) (hr : (Kd.int .i64).C w A l.length l) (hc : l.length ≤ c) :
    Calls Try.prog 99 #[.pointer (some ⟨b, 0, none⟩)] w fun e w' => e = (sumOut l).ending ∧ Below w.heap.size w w' := by
  have hm := hr.2.1
  have HR := Aside0.mk hr
  clear hr
  have HB := Aside0.mk hb
  have c0 : w.cell? ⟨b, 0, none⟩ = some (.slice A l.length c) := blk_cell hb 0
  clear hb
  cases hall : allLen l with
  | false =>
    have HS : Aside0 (sumOut l = .pan 1) := ⟨by simp [sumOut, hall]⟩
    go_enter Try.func99, Try.ntmps99
    go_wp2_with (go_at_call 87; refine (need_no 1 _ _ l _ HR.out hc hall).mono ?_; rintro e w' ⟨rfl, hb⟩)
    exact ⟨rfl, by rw [HS.out]; rfl, by assumption⟩
  | true =>
    have HS : Aside0 (sumOut l = sumGo 0 l) := ⟨by simp [sumOut, hall]⟩
    have HA : Aside0 (allLen l = true) := ⟨hall⟩
    clear hall
    go_enter Try.func99, Try.ntmps99
    go_wp2_with (go_at_call 87; refine (need_ok 1 _ _ l _ HR.out hc HA.out).mono ?_; rintro e w1 ⟨rfl, hb1⟩; have c1 := (blk_cell (blk_below HB.out hb1) 0); simp only [List.getElem?_toArray, List.getElem?_cons_zero] at c1)
    go_loopw [2, 9] (fun n i wr => ∃ (k : Nat) (s : Int), k ≤ l.length ∧ i = .int .i64 k ∧ n = .int .i64 s ∧ -1073741823 ≤ s ∧ s ≤ 1073741823 ∧ Aside0 (sumGo 0 l = sumGo s (l.drop k)) ∧ Below w.heap.size w wr) (fun _ i _ => l.length - (intOf i).toNat)
    case atStart => exact ⟨0, 0, Nat.zero_le _, rfl, rfl, by omega, by omega, ⟨rfl⟩, by assumption⟩
    case round =>
      obtain ⟨k, s, hk, rfl, rfl, hs1, hs2, HG, HW⟩ := hrel
      by_cases hlt : k < l.length
      · obtain ⟨ad, hA, hcell⟩ := Kd_int_at (Kd.C_below HR.out HW) k hlt
        subst hA
        have hL := allLen_rd l HA.out k hlt
        have hL1 := hL.1
        have hL2 := hL.2
        clear hL
        have HG2 : Aside0 (sumGo 0 l = if Len (s + rd l k) then sumGo (s + rd l k) (l.drop (k + 1)) else .pan 2) := ⟨by rw [HG.out, drop_cons l k hlt]; rfl⟩
        clear HG
        by_cases hN : Len (s + rd l k)
        · have HG3 : Aside0 (sumGo 0 l = sumGo (s + rd l k) (l.drop (k + 1))) := ⟨by rw [HG2.out, if_pos hN]⟩
          have hN1 := hN.1
          have hN2 := hN.2
          have HN := Aside0.mk hN
          clear HG2 hN
          go_wp2_with (go_at_call 87; refine (need_ok 2 _ 1 [s + rd l k] _ (C_lit _ _ [s + rd l k] _ _ (by simp) rfl (by simp)) (by simp) (by simp [allLen, HN.out])).mono ?_; rintro e w2 ⟨rfl, hb2⟩)
          go_roundw
          case rel => exact ⟨k + 1, s + rd l k, by omega, by go_num, rfl, hN1, hN2, HG3, below_next HW (below1 _ hb2)⟩
          case measure => simp [intOf]; omega
        · have HG3 : Aside0 (sumGo 0 l = .pan 2) := ⟨by rw [HG2.out, if_neg hN]⟩
          have HN := Aside0.mk hN
          clear HG2 hN
          go_wp2_with (go_at_call 87; refine (need_no 2 _ 1 [s + rd l k] _ (C_lit _ _ [s + rd l k] _ _ (by simp) rfl (by simp)) (by simp) (by simp [allLen, HN.out])).mono ?_; rintro e w2 ⟨rfl, hb2⟩)
          exact ⟨rfl, by rw [HS.out, HG3.out]; rfl, below_next HW (below1 _ hb2)⟩
      · have hkl : k = l.length := by omega
        have HG3 : Aside0 (sumGo 0 l = .ret s) := ⟨by rw [HG.out, hkl, List.drop_length]; rfl⟩
        clear HG hkl
        go_wp2
        go_ret
        exact ⟨by rw [HS.out, HG3.out]; rfl, HW⟩

/-- Sum: P1.2. -/
def sumR (l : List Int) : Int × Int := (sumOut l).res
set_option maxRecDepth 100000 in
theorem Sum_any (A : Option Addr) (c : Nat) (l : List Int) (w : World) (hr : (Kd.int .i64).C w A l.length l) (hc : l.length ≤ c) :
    Calls Try.prog 74 #[.slice A l.length c] w fun e w' => e = .returned (.tuple #[.int .i64 (sumR l).1, .int .i64 (sumR l).2]) ∧ Below w.heap.size w w' := by
  have hmf : ∀ (fn : Fn) (first cap : Array Value) (w : World), (Instr.makeFunc fn first cap).run Try.prog w = .ok (.func fn first cap) w := fun _ _ _ _ => rfl
  have HR := Aside0.mk hr
  clear hr
  go_enter Try.func74, Try.ntmps74
  go_wp2_with (go_at_call 85; refine (caught_any (sumOut l) 99 _ _ (fun w => by kernel_rfl) (fun W hW => Sum1_any _ A c l W (blk_below (blk_new _ _) hW) (Kd.C_below (Kd.C_alloc HR.out _) hW) hc)).mono ?_; rintro e w2 ⟨rfl, hb2⟩)
  go_ret2
  exact ⟨rfl, below1 _ (by assumption)⟩

def halfOut (a : Int) : Out := if Len a then .ret (a / 2) else .pan 1
def halfR (a : Int) : Int × Int := (halfOut a).res
set_option maxRecDepth 100000 in
theorem Half1_any (b : Nat) (a : Int) (w : World) (hb : w.heap[b]? = some (.cells #[.int .i64 a] 3 (0, 0))) :
    Calls Try.prog 86 #[.pointer (some ⟨b, 0, none⟩)] w fun e w' => e = (halfOut a).ending ∧ Below w.heap.size w w' := by
  have HB := Aside0.mk hb
  have c0 : w.cell? ⟨b, 0, none⟩ = some (.int .i64 a) := blk_cell hb 0
  clear hb
  by_cases ha : Len a
  · have HS : Aside0 (halfOut a = .ret (a / 2)) := ⟨by simp [halfOut, ha]⟩
    have h1 := ha.1
    have h2 := ha.2
    have HA := Aside0.mk ha
    clear ha
    go_enter Try.func86, Try.ntmps86
    go_wp2_with (go_at_call 87; refine (need_ok 1 _ 1 [a] _ (C_lit _ _ [a] _ _ (by simp) rfl (by simp)) (by simp) (by simp [allLen, HA.out])).mono ?_; rintro e w2 ⟨rfl, hb2⟩; have c1 : w2.cell? ⟨b, 0, none⟩ = some (.int .i64 a) := (blk_cell (blk_below (blk_alloc HB.out _) hb2) 0))
    go_ret
    exact ⟨by rw [HS.out]; rfl, below1 _ (by assumption)⟩
  · have HS : Aside0 (halfOut a = .pan 1) := ⟨by simp [halfOut, ha]⟩
    have HA := Aside0.mk ha
    clear ha
    go_enter Try.func86, Try.ntmps86
    go_wp2_with (go_at_call 87; refine (need_no 1 _ 1 [a] _ (C_lit _ _ [a] _ _ (by simp) rfl (by simp)) (by simp) (by simp [allLen, HA.out])).mono ?_; rintro e w2 ⟨rfl, hb2⟩)
    exact ⟨rfl, by rw [HS.out]; rfl, below1 _ (by assumption)⟩
set_option maxRecDepth 100000 in
theorem Half_any (a : Int) (w : World) :
    Calls Try.prog 60 #[.int .i64 a] w fun e w' => e = .returned (.tuple #[.int .i64 (halfR a).1, .int .i64 (halfR a).2]) ∧ Below w.heap.size w w' := by
  have hmf : ∀ (fn : Fn) (first cap : Array Value) (w : World), (Instr.makeFunc fn first cap).run Try.prog w = .ok (.func fn first cap) w := fun _ _ _ _ => rfl
  go_enter Try.func60, Try.ntmps60
  go_wp2_with (go_at_call 85; refine (caught_any (halfOut a) 86 _ _ (fun w => by kernel_rfl) (fun W hW => Half1_any _ a W (blk_below (blk_new _ _) hW))).mono ?_; rintro e w2 ⟨rfl, hb2⟩)
  go_ret2
  exact ⟨rfl, below1 _ (by assumption)⟩

/-- p by c, rounded to the nearest, away from 0. -/
def mulDivQ (p c : Int) : Int := if (if c < -c then -c else c) ≤ 2 * (if p.tmod c < -p.tmod c then -p.tmod c else p.tmod c) then (if (decide (p < 0) == decide (c < 0)) = true then p.tdiv c + 1 else p.tdiv c - 1) else p.tdiv c
def mulDivOut (a b c : Int) : Out := if Len a ∧ Len b ∧ Len c ∧ c ≠ 0 then .ret (mulDivQ (a * b) c) else .pan 1
def mulDivR (a b c : Int) : Int × Int := (mulDivOut a b c).res
theorem mul_bound {a b : Int} (ha : Len a) (hb : Len b) : -1152921502459363329 ≤ a * b ∧ a * b ≤ 1152921502459363329 := by
  obtain ⟨a1, a2⟩ := ha
  obtain ⟨b1, b2⟩ := hb
  have hx : (a * b).natAbs ≤ 1073741823 * 1073741823 := by
    rw [Int.natAbs_mul]
    exact Nat.mul_le_mul (by omega) (by omega)
  omega
theorem tdiv_bound (p c : Int) : -(p.natAbs : Int) ≤ p.tdiv c ∧ p.tdiv c ≤ p.natAbs := by
  have h := Int.natAbs_tdiv_le_natAbs p c
  omega
theorem tmod_bound (p c : Int) (hc : c ≠ 0) : -(c.natAbs : Int) ≤ p.tmod c ∧ p.tmod c ≤ c.natAbs := by
  have h : (p.tmod c).natAbs = p.natAbs % c.natAbs := Int.natAbs_tmod p c
  have h2 := Nat.mod_lt p.natAbs (show 0 < c.natAbs by omega)
  omega

set_option maxRecDepth 100000 in
set_option maxHeartbeats 1000000 in
theorem MulDiv1_any (b0 b1 b2 : Nat) (a b c : Int) (w : World) (h0 : w.heap[b0]? = some (.cells #[.int .i64 a] 3 (0, 0))) (h1 : w.heap[b1]? = some (.cells #[.int .i64 b] 3 (0, 0))) (h2 : w.heap[b2]? = some (.cells #[.int .i64 c] 3 (0, 0))) :
    Calls Try.prog 88 #[.pointer (some ⟨b0, 0, none⟩), .pointer (some ⟨b1, 0, none⟩), .pointer (some ⟨b2, 0, none⟩)] w fun e w' => e = (mulDivOut a b c).ending ∧ Below w.heap.size w w' := by
  have H0 := Aside0.mk h0
  have H1 := Aside0.mk h1
  have H2 := Aside0.mk h2
  have c0 : w.cell? ⟨b0, 0, none⟩ = some (.int .i64 a) := blk_cell h0 0
  have c1 : w.cell? ⟨b1, 0, none⟩ = some (.int .i64 b) := blk_cell h1 0
  have c2 : w.cell? ⟨b2, 0, none⟩ = some (.int .i64 c) := blk_cell h2 0
  clear h0 h1 h2
  by_cases hall : Len a ∧ Len b ∧ Len c
  · have HA : Aside0 (allLen [a, b, c] = true) := ⟨by simp [allLen, hall]⟩
    obtain ⟨ha, hb, hc⟩ := hall
    have hp := mul_bound ha hb
    have hc1 := hc.1
    have hc2 := hc.2
    have HALL : Aside0 (Len a ∧ Len b ∧ Len c) := ⟨ha, hb, hc⟩
    clear ha hb hc
    by_cases hz : c = 0
    · subst hz
      have HS : Aside0 (mulDivOut a b 0 = .pan 1) := ⟨by simp [mulDivOut]⟩
      clear hp hc1 hc2
      go_enter Try.func88, Try.ntmps88
      go_wp2_with (go_at_call 87; refine (need_ok 1 _ 3 [a, b, 0] _ (C_lit _ _ [a, b, 0] _ _ (by simp) rfl (by simp)) (by simp) HA.out).mono ?_; rintro e w2 ⟨rfl, hb2⟩; have d2 : w2.cell? ⟨b2, 0, none⟩ = some (.int .i64 0) := (blk_cell (blk_below (blk_alloc H2.out _) hb2) 0))
      exact ⟨rfl, by rw [HS.out]; rfl, below1 _ (by assumption)⟩
    · have HS : Aside0 (mulDivOut a b c = .ret (mulDivQ (a * b) c)) := ⟨by simp [mulDivOut, HALL.out, hz]⟩
      have hq := tdiv_bound (a * b) c
      have hr := tmod_bound (a * b) c hz
      obtain ⟨hp1, hp2⟩ := hp
      have hq1 : -1152921502459363329 ≤ (a * b).tdiv c := by omega
      have hq2 : (a * b).tdiv c ≤ 1152921502459363329 := by omega
      have hr1 : -1073741823 ≤ (a * b).tmod c := by omega
      have hr2 : (a * b).tmod c ≤ 1073741823 := by omega
      clear hq hr
      have hz0 : (c == 0) = false := beq_eq_false_iff_ne.2 hz
      go_enter Try.func88, Try.ntmps88
      go_wp2_with (go_at_call 87; refine (need_ok 1 _ 3 [a, b, c] _ (C_lit _ _ [a, b, c] _ _ (by simp) rfl (by simp)) (by simp) HA.out).mono ?_; rintro e w2 ⟨rfl, hb2⟩; have d0 : w2.cell? ⟨b0, 0, none⟩ = some (.int .i64 a) := (blk_cell (blk_below (blk_alloc H0.out _) hb2) 0); have d1 : w2.cell? ⟨b1, 0, none⟩ = some (.int .i64 b) := (blk_cell (blk_below (blk_alloc H1.out _) hb2) 0); have d2 : w2.cell? ⟨b2, 0, none⟩ = some (.int .i64 c) := (blk_cell (blk_below (blk_alloc H2.out _) hb2) 0))
      go_region
      all_goals go_wp2
      all_goals first
        | (have t1 : (if c < -c then -c else c) ≤ 2 * (if (a * b).tmod c < -(a * b).tmod c then -(a * b).tmod c else (a * b).tmod c) := by assumption
           have t2 : (decide (a * b < 0) == decide (c < 0)) = true := by assumption
           go_ret
           exact ⟨by rw [HS.out, mulDivQ, if_pos t1, if_pos t2]; rfl, below_drew (below1 _ hb2)⟩)
        | (have t1 : (if c < -c then -c else c) ≤ 2 * (if (a * b).tmod c < -(a * b).tmod c then -(a * b).tmod c else (a * b).tmod c) := by assumption
           have t2 : (decide (a * b < 0) == decide (c < 0)) = false := by assumption
           go_ret
           exact ⟨by rw [HS.out, mulDivQ, if_pos t1, if_neg (by rw [t2]; simp)]; rfl, below_drew (below1 _ hb2)⟩)
        | (have t1 : (2 * if (a * b).tmod c < -(a * b).tmod c then -(a * b).tmod c else (a * b).tmod c) < if c < -c then -c else c := by assumption
           go_ret
           exact ⟨by rw [HS.out, mulDivQ, if_neg (Int.not_le.2 t1)]; rfl, below_drew (below1 _ hb2)⟩)
  · have HS : Aside0 (mulDivOut a b c = .pan 1) := ⟨by unfold mulDivOut; rw [if_neg (fun h => hall ⟨h.1, h.2.1, h.2.2.1⟩)]⟩
    have HA : Aside0 (allLen [a, b, c] = false) := ⟨by simp only [allLen, List.all_cons, List.all_nil, Bool.and_true]; simpa using hall⟩
    clear hall
    go_enter Try.func88, Try.ntmps88
    go_wp2_with (go_at_call 87; refine (need_no 1 _ 3 [a, b, c] _ (C_lit _ _ [a, b, c] _ _ (by simp) rfl (by simp)) (by simp) HA.out).mono ?_; rintro e w2 ⟨rfl, hb2⟩)
    exact ⟨rfl, by rw [HS.out]; rfl, below1 _ (by assumption)⟩
set_option maxRecDepth 100000 in
theorem MulDiv_any (a b c : Int) (w : World) :
    Calls Try.prog 61 #[.int .i64 a, .int .i64 b, .int .i64 c] w fun e w' => e = .returned (.tuple #[.int .i64 (mulDivR a b c).1, .int .i64 (mulDivR a b c).2]) ∧ Below w.heap.size w w' := by
  have hmf : ∀ (fn : Fn) (first cap : Array Value) (w : World), (Instr.makeFunc fn first cap).run Try.prog w = .ok (.func fn first cap) w := fun _ _ _ _ => rfl
  go_enter Try.func61, Try.ntmps61
  go_wp2_with fail
  have e0 := blk_alloc (blk_alloc (blk_new w (.cells #[.int .i64 a] 3)) (.cells #[.int .i64 b] 3)) (.cells #[.int .i64 c] 3)
  have e1 := blk_alloc (blk_new (w.alloc (.cells #[.int .i64 a] 3)) (.cells #[.int .i64 b] 3)) (.cells #[.int .i64 c] 3)
  have e2 := blk_new ((w.alloc (.cells #[.int .i64 a] 3)).alloc (.cells #[.int .i64 b] 3)) (.cells #[.int .i64 c] 3)
  simp only [World.size_alloc] at e1 e2
  refine (caught_any (mulDivOut a b c) 88 _ _ (fun w => by kernel_rfl) (fun W hW => MulDiv1_any _ _ _ a b c W (blk_below e0 hW) (blk_below e1 hW) (blk_below e2 hW))).mono ?_
  rintro e w2 ⟨rfl, hb2⟩
  have hB := below_then (below_alloc (below_alloc (below_alloc (Below.refl w.heap.size w) (.cells #[.int .i64 a] 3)) (.cells #[.int .i64 b] 3)) (.cells #[.int .i64 c] 3)) (by simp; omega) hb2
  clear hb2 e0 e1 e2
  go_wp2
  go_ret2
  exact ⟨rfl, hB⟩
end Go.Proofs.Ytfbiahlogclkbaa.H
