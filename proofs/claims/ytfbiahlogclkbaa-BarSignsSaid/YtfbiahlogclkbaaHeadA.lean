/- The proof's texts HeadA: what the statement leads to. No condition is added. -/
import Derived.Test.YtfbiahlogclkbaaFixB
import Derived.Laws.EntriesVeiled
set_option linter.unusedVariables false
set_option linter.unusedSimpArgs false
namespace Go.Proofs.Ytfbiahlogclkbaa.H
open Go.RowKit Go.Proofs.YtfbiahlogclkbaaW.PrintWords Go.Proofs.YtfbiahlogclkbaaW.PrintLast Go.Proofs.YtfbiahlogclkbaaW.PrintMore Go.Proofs.Ytfbiahlogclkbaa.P

def smallB (n : Int) : Bool := decide (-32768 ≤ n ∧ n < 32768)
def ck1 (u : Int) : Bool := decide (16 ≤ u ∧ u ≤ 16384)
def ck2 (g : Int) : Bool := decide (1 ≤ g ∧ g ≤ 65535)
def ck3 (g m : Int) : Bool := decide (1 ≤ m ∧ m ≤ g)
def ck4 (a d : Int) : Bool := smallB a && smallB d
/-- P5.1. -/
def headOk (h : S23) : Bool := ck1 h.f0 && (ck2 h.f1 && (ck3 h.f1 h.f2 && ck4 h.f3 h.f4))
abbrev headV (h : S23) : Value := .agg #[.int .i64 h.f0, .int .i64 h.f1, .int .i64 h.f2, .int .i64 h.f3, .int .i64 h.f4, .bool h.f5]

theorem small_any (n : Int) (w : World) : Calls Try.prog 104 #[.int .i64 n] w fun e w' => e = .returned (.bool (smallB n)) ∧ w = w' := by
  by_cases h1 : -32768 ≤ n
  · by_cases h2 : n < 32768
    · have HS : Aside0 (smallB n = true) := ⟨by simp [smallB, h1, h2]⟩
      go_enter Try.func104, Try.ntmps104
      go_wp2
      go_ret
      exact ⟨by rw [HS.out]; rfl, rfl⟩
    · have HS : Aside0 (smallB n = false) := ⟨by simp [smallB, h2]⟩
      go_enter Try.func104, Try.ntmps104
      go_wp2
      go_ret
      exact ⟨by rw [HS.out]; rfl, rfl⟩
  · have HS : Aside0 (smallB n = false) := ⟨by simp [smallB, h1]⟩
    go_enter Try.func104, Try.ntmps104
    go_wp2
    go_ret
    exact ⟨by rw [HS.out]; rfl, rfl⟩
theorem ck1_any (h : S23) (w : World) : Calls Try.prog 105 #[headV h] w fun e w' => e = .returned (.bool (ck1 h.f0)) ∧ Below w.heap.size w w' := by
  by_cases h1 : 16 ≤ h.f0
  · by_cases h2 : h.f0 ≤ 16384
    · have HS : Aside0 (ck1 h.f0 = true) := ⟨by simp [ck1, h1, h2]⟩
      go_enter Try.func105, Try.ntmps105
      go_wp2
      go_ret
      exact ⟨by rw [HS.out]; rfl, below_alloc (Below.refl _ _) _⟩
    · have HS : Aside0 (ck1 h.f0 = false) := ⟨by simp [ck1, h2]⟩
      go_enter Try.func105, Try.ntmps105
      go_wp2
      go_ret
      exact ⟨by rw [HS.out]; rfl, below_alloc (Below.refl _ _) _⟩
  · have HS : Aside0 (ck1 h.f0 = false) := ⟨by simp [ck1, h1]⟩
    go_enter Try.func105, Try.ntmps105
    go_wp2
    go_ret
    exact ⟨by rw [HS.out]; rfl, below_alloc (Below.refl _ _) _⟩
theorem ck2_any (h : S23) (w : World) : Calls Try.prog 106 #[headV h] w fun e w' => e = .returned (.bool (ck2 h.f1)) ∧ Below w.heap.size w w' := by
  by_cases h1 : 1 ≤ h.f1
  · by_cases h2 : h.f1 ≤ 65535
    · have HS : Aside0 (ck2 h.f1 = true) := ⟨by simp [ck2, h1, h2]⟩
      go_enter Try.func106, Try.ntmps106
      go_wp2
      go_ret
      exact ⟨by rw [HS.out]; rfl, below_alloc (Below.refl _ _) _⟩
    · have HS : Aside0 (ck2 h.f1 = false) := ⟨by simp [ck2, h2]⟩
      go_enter Try.func106, Try.ntmps106
      go_wp2
      go_ret
      exact ⟨by rw [HS.out]; rfl, below_alloc (Below.refl _ _) _⟩
  · have HS : Aside0 (ck2 h.f1 = false) := ⟨by simp [ck2, h1]⟩
    go_enter Try.func106, Try.ntmps106
    go_wp2
    go_ret
    exact ⟨by rw [HS.out]; rfl, below_alloc (Below.refl _ _) _⟩
theorem ck3_any (h : S23) (w : World) : Calls Try.prog 107 #[headV h] w fun e w' => e = .returned (.bool (ck3 h.f1 h.f2)) ∧ Below w.heap.size w w' := by
  by_cases h1 : 1 ≤ h.f2
  · by_cases h2 : h.f2 ≤ h.f1
    · have HS : Aside0 (ck3 h.f1 h.f2 = true) := ⟨by simp [ck3, h1, h2]⟩
      go_enter Try.func107, Try.ntmps107
      go_wp2
      go_ret
      exact ⟨by rw [HS.out]; rfl, below_alloc (Below.refl _ _) _⟩
    · have HS : Aside0 (ck3 h.f1 h.f2 = false) := ⟨by simp [ck3, h2]⟩
      go_enter Try.func107, Try.ntmps107
      go_wp2
      go_ret
      exact ⟨by rw [HS.out]; rfl, below_alloc (Below.refl _ _) _⟩
  · have HS : Aside0 (ck3 h.f1 h.f2 = false) := ⟨by simp [ck3, h1]⟩
    go_enter Try.func107, Try.ntmps107
    go_wp2
    go_ret
    exact ⟨by rw [HS.out]; rfl, below_alloc (Below.refl _ _) _⟩
theorem ck4_any (b : Nat) (h : S23) (w : World) (hb : w.heap[b]? = some (.cells #[.func (.func 104) #[] #[]] 103 (0, 0))) : Calls Try.prog 108 #[headV h, .pointer (some ⟨b, 0, none⟩)] w fun e w' => e = .returned (.bool (ck4 h.f3 h.f4)) ∧ Below w.heap.size w w' := by
  have hb2 := blk_cell (blk_alloc hb (.cells #[.int .i64 h.f0, .int .i64 h.f1, .int .i64 h.f2, .int .i64 h.f3, .int .i64 h.f4, .bool h.f5] 23)) 0
  clear hb
  simp only [List.getElem?_toArray, List.getElem?_cons_zero] at hb2
  cases h3 : smallB h.f3 with
  | true =>
    have HS : Aside0 (ck4 h.f3 h.f4 = smallB h.f4) := ⟨by simp [ck4, h3]⟩
    go_enter Try.func108, Try.ntmps108
    go_wp2_with (first | (go_at_call 104; refine (small_any _ _).mono ?_; rintro e w2 ⟨rfl, rfl⟩))
    go_ret
    exact ⟨by rw [HS.out]; rfl, below_alloc (Below.refl _ _) _⟩
  | false =>
    have HS : Aside0 (ck4 h.f3 h.f4 = false) := ⟨by simp [ck4, h3]⟩
    go_enter Try.func108, Try.ntmps108
    go_wp2_with (first | (go_at_call 104; refine (small_any _ _).mono ?_; rintro e w2 ⟨rfl, rfl⟩))
    go_ret
    exact ⟨by rw [HS.out]; rfl, below_alloc (Below.refl _ _) _⟩

def headFrom (h : S23) : Nat → Bool
  | 0 => headOk h
  | 1 => ck2 h.f1 && (ck3 h.f1 h.f2 && ck4 h.f3 h.f4)
  | 2 => ck3 h.f1 h.f2 && ck4 h.f3 h.f4
  | 3 => ck4 h.f3 h.f4
  | _ => true
theorem head_cells (h : S23) {W : World} {b : Nat} (hb : W.heap[b]? = some (.cells #[.int .i64 h.f0, .int .i64 h.f1, .int .i64 h.f2, .int .i64 h.f3, .int .i64 h.f4, .bool h.f5] 23 (0, 0))) :
    W.cell? ⟨b, 0, none⟩ = some (.int .i64 h.f0) ∧ W.cell? ⟨b, 1, none⟩ = some (.int .i64 h.f1) ∧ W.cell? ⟨b, 2, none⟩ = some (.int .i64 h.f2) ∧ W.cell? ⟨b, 3, none⟩ = some (.int .i64 h.f3) ∧ W.cell? ⟨b, 4, none⟩ = some (.int .i64 h.f4) ∧ W.cell? ⟨b, 5, none⟩ = some (.bool h.f5) :=
  ⟨blk_cell hb 0, blk_cell hb 1, blk_cell hb 2, blk_cell hb 3, blk_cell hb 4, blk_cell hb 5⟩

set_option maxRecDepth 100000 in
set_option maxHeartbeats 1000000 in
theorem headIs_any (h : S23) (w : World) : Calls Try.prog 84 #[headV h] w fun e w' => e = .returned (.bool (headOk h)) ∧ Below w.heap.size w w' := by
  have hmf : ∀ (fn : Fn) (first cap : Array Value) (w : World), (Instr.makeFunc fn first cap).run Try.prog w = .ok (.func fn first cap) w := fun _ _ _ _ => rfl
  have i0 : ∀ (w : World) (x0 x1 x2 x3 : Value), (Instr.index 119 (.agg #[x0, x1, x2, x3]) (.int .i64 0)).run Try.prog w = .ok (.agg #[x0]) w := fun _ _ _ _ _ => by kernel_rfl
  have i1 : ∀ (w : World) (x0 x1 x2 x3 : Value), (Instr.index 119 (.agg #[x0, x1, x2, x3]) (.int .i64 1)).run Try.prog w = .ok (.agg #[x1]) w := fun _ _ _ _ _ => by kernel_rfl
  have i2 : ∀ (w : World) (x0 x1 x2 x3 : Value), (Instr.index 119 (.agg #[x0, x1, x2, x3]) (.int .i64 2)).run Try.prog w = .ok (.agg #[x2]) w := fun _ _ _ _ _ => by kernel_rfl
  have i3 : ∀ (w : World) (x0 x1 x2 x3 : Value), (Instr.index 119 (.agg #[x0, x1, x2, x3]) (.int .i64 3)).run Try.prog w = .ok (.agg #[x3]) w := fun _ _ _ _ _ => by kernel_rfl
  go_enter Try.func84, Try.ntmps84
  go_wp2
  go_loopw [12] (fun i wr => ∃ k : Nat, k ≤ 4 ∧ i = .int .i64 k ∧ Aside0 (headOk h = headFrom h k) ∧ Aside0 (wr.heap[w.heap.size]? = some (.cells #[.int .i64 h.f0, .int .i64 h.f1, .int .i64 h.f2, .int .i64 h.f3, .int .i64 h.f4, .bool h.f5] 23 (0, 0))) ∧ Aside0 (wr.heap[w.heap.size + 1]? = some (.cells #[.func (.func 104) #[] #[]] 103 (0, 0))) ∧ Below w.heap.size w wr) (fun i _ => 4 - (intOf i).toNat)
  case atStart => exact ⟨0, by omega, rfl, ⟨rfl⟩, ⟨blk_alloc (blk_new w _) _⟩, ⟨by simpa using blk_new (w.alloc _) _⟩, below_alloc (below_alloc (Below.refl _ _) _) _⟩
  case round =>
    obtain ⟨k, hk, rfl, HO, H0, H1, HW⟩ := hrel
    obtain ⟨c0, c1, c2, c3, c4, c5⟩ := head_cells h H0.out
    have z0 := blk_lt H0.out
    have z1 := blk_lt H1.out
    obtain rfl | rfl | rfl | rfl | rfl : k = 0 ∨ k = 1 ∨ k = 2 ∨ k = 3 ∨ k = 4 := by omega
    · cases hc : ck1 h.f0 with
      | true =>
        go_wp2_with (go_at_call 105; refine (ck1_any _ _).mono ?_; rintro e w2 ⟨rfl, hb⟩; rw [hc])
        go_roundw
        case rel => exact ⟨1, by omega, rfl, ⟨by rw [HO.out]; simp [headFrom, headOk, hc]⟩, ⟨blk_below (blk_alloc H0.out _) hb⟩, ⟨blk_below (blk_alloc H1.out _) hb⟩, below_next HW (below1 _ hb)⟩
        case measure => simp [intOf]
      | false =>
        have HF : Aside0 (headOk h = false) := ⟨by rw [HO.out]; simp [headFrom, headOk, hc]⟩
        go_wp2_with (go_at_call 105; refine (ck1_any _ _).mono ?_; rintro e w2 ⟨rfl, hb⟩; rw [hc])
        go_ret
        exact ⟨by rw [HF.out]; rfl, below_next HW (below1 _ hb)⟩
    · cases hc : ck2 h.f1 with
      | true =>
        go_wp2_with (go_at_call 106; refine (ck2_any _ _).mono ?_; rintro e w2 ⟨rfl, hb⟩; rw [hc])
        go_roundw
        case rel => exact ⟨2, by omega, rfl, ⟨by rw [HO.out]; simp [headFrom, headOk, hc]⟩, ⟨blk_below (blk_alloc H0.out _) hb⟩, ⟨blk_below (blk_alloc H1.out _) hb⟩, below_next HW (below1 _ hb)⟩
        case measure => simp [intOf]
      | false =>
        have HF : Aside0 (headOk h = false) := ⟨by rw [HO.out]; simp [headFrom, headOk, hc]⟩
        go_wp2_with (go_at_call 106; refine (ck2_any _ _).mono ?_; rintro e w2 ⟨rfl, hb⟩; rw [hc])
        go_ret
        exact ⟨by rw [HF.out]; rfl, below_next HW (below1 _ hb)⟩
    · cases hc : ck3 h.f1 h.f2 with
      | true =>
        go_wp2_with (go_at_call 107; refine (ck3_any _ _).mono ?_; rintro e w2 ⟨rfl, hb⟩; rw [hc])
        go_roundw
        case rel => exact ⟨3, by omega, rfl, ⟨by rw [HO.out]; simp [headFrom, headOk, hc]⟩, ⟨blk_below (blk_alloc H0.out _) hb⟩, ⟨blk_below (blk_alloc H1.out _) hb⟩, below_next HW (below1 _ hb)⟩
        case measure => simp [intOf]
      | false =>
        have HF : Aside0 (headOk h = false) := ⟨by rw [HO.out]; simp [headFrom, headOk, hc]⟩
        go_wp2_with (go_at_call 107; refine (ck3_any _ _).mono ?_; rintro e w2 ⟨rfl, hb⟩; rw [hc])
        go_ret
        exact ⟨by rw [HF.out]; rfl, below_next HW (below1 _ hb)⟩
    · cases hc : ck4 h.f3 h.f4 with
      | true =>
        go_wp2_with (go_at_call 108; refine (ck4_any _ _ _ (blk_alloc H1.out _)).mono ?_; rintro e w2 ⟨rfl, hb⟩; rw [hc])
        go_roundw
        case rel => exact ⟨4, by omega, rfl, ⟨by rw [HO.out]; simp [headFrom, headOk, hc]⟩, ⟨blk_below (blk_alloc H0.out _) hb⟩, ⟨blk_below (blk_alloc H1.out _) hb⟩, below_next HW (below1 _ hb)⟩
        case measure => simp [intOf]
      | false =>
        have HF : Aside0 (headOk h = false) := ⟨by rw [HO.out]; simp [headFrom, headOk, hc]⟩
        go_wp2_with (go_at_call 108; refine (ck4_any _ _ _ (blk_alloc H1.out _)).mono ?_; rintro e w2 ⟨rfl, hb⟩; rw [hc])
        go_ret
        exact ⟨by rw [HF.out]; rfl, below_next HW (below1 _ hb)⟩
    · have HF : Aside0 (headOk h = true) := ⟨by rw [HO.out]; rfl⟩
      go_wp2
      go_ret
      exact ⟨by rw [HF.out]; rfl, HW⟩

/-- P5.4. -/
def unitsR (h : S23) (n size : Int) : Int × Int := if headOk h = true then mulDivR n size h.f0 else (0, 1)
set_option maxRecDepth 100000 in
theorem Units_any (h : S23) (n size : Int) (w : World) : Calls Try.prog 54 #[headV h, .int .i64 n, .int .i64 size] w fun e w' => e = .returned (.tuple #[.int .i64 (unitsR h n size).1, .int .i64 (unitsR h n size).2]) ∧ Below w.heap.size w w' := by
  cases hh : headOk h with
  | true =>
    have HS : Aside0 (unitsR h n size = mulDivR n size h.f0) := ⟨by simp [unitsR, hh]⟩
    go_enter Try.func54, Try.ntmps54
    go_wp2_with (go_at_call 84; refine (headIs_any h _).mono ?_; rintro e w2 ⟨rfl, hb⟩; rw [hh]; have c0 := (head_cells h (blk_below (blk_new w _) hb)).1)
    refine (MulDiv_any _ _ _ _).mono ?_
    rintro e w3 ⟨rfl, hb3⟩
    have hB := below_next (below1 _ hb) hb3
    clear hb hb3 c0
    go_wp2
    go_ret2
    exact ⟨by rw [HS.out]; rfl, hB⟩
  | false =>
    have HS : Aside0 (unitsR h n size = (0, 1)) := ⟨by simp [unitsR, hh]⟩
    go_enter Try.func54, Try.ntmps54
    go_wp2_with (go_at_call 84; refine (headIs_any h _).mono ?_; rintro e w2 ⟨rfl, hb⟩; rw [hh])
    go_ret2
    exact ⟨by rw [HS.out]; rfl, below1 _ hb⟩
end Go.Proofs.Ytfbiahlogclkbaa.H
