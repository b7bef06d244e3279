/- The proof's texts KonC: what the statement leads to. No condition is added. -/
import Derived.Test.YtfbiahlogclkbaaKonB
import Derived.Deep.RegionWith
import Derived.Deep.RegionHeld3
set_option linter.unusedVariables false
set_option linter.unusedSimpArgs false
namespace Go.Proofs.Ytfbiahlogclkbaa.H
open Go.RowKit Go.Proofs.YtfbiahlogclkbaaW.PrintWords Go.Proofs.YtfbiahlogclkbaaW.PrintLast Go.Proofs.YtfbiahlogclkbaaW.PrintMore Go.Proofs.Ytfbiahlogclkbaa.P

def sizesUpto (k : Nat) : List Int := (List.range k).flatMap fun i => if kmore i = true then [ksize i, 2] else [ksize i]
def allUpto (l : List Int) (k : Nat) : List Int := (List.range k).flatMap fun i => if kmore i = true then [rd l (i : Nat), 0] else [rd l (i : Nat)]
theorem sizesUpto_succ (k : Nat) : sizesUpto (k + 1) = sizesUpto k ++ (if kmore k = true then [ksize k, 2] else [ksize k]) := by simp [sizesUpto, List.range_succ]
theorem allUpto_succ (l : List Int) (k : Nat) : allUpto l (k + 1) = allUpto l k ++ (if kmore k = true then [rd l (k : Nat), 0] else [rd l (k : Nat)]) := by simp [allUpto, List.range_succ]
theorem len_upto (l : List Int) (k : Nat) : (allUpto l k).length = (sizesUpto k).length ∧ (sizesUpto k).length ≤ 2 * k := by
  induction k with
  | zero => simp [allUpto, sizesUpto]
  | succ k ih =>
    rw [allUpto_succ, sizesUpto_succ]
    by_cases h : kmore k = true
    · simp [h]; omega
    · simp [h]; omega
theorem twos_sizes (k : Nat) : twos (sizesUpto k) := by
  intro s hs
  simp only [sizesUpto, List.mem_flatMap] at hs
  obtain ⟨i, _, h⟩ := hs
  have hk : ksize i = -2 ∨ ksize i = 2 := by unfold ksize; split <;> simp
  by_cases hm : kmore i = true
  · rw [if_pos hm] at h
    simp at h
    rcases h with rfl | rfl
    · exact hk
    · exact .inr rfl
  · rw [if_neg hm] at h
    simp at h
    subst h
    exact hk
theorem held_C {W : World} {B b : Nat} {xs : List Int} (h : Held W B b xs) : ∃ A c, W.heap[b]? = some (.cells #[.slice A xs.length c] 27 (0, 0)) ∧ (Kd.int .i64).C W A xs.length xs ∧ xs.length ≤ c := by
  obtain ⟨_, v, hv, ho⟩ := h
  obtain ⟨A, c, rfl, hr⟩ := own_reads ho
  refine ⟨A, c, hv, Kd.C_of_reads (d := (0 : Int)) (h1 := fun _ => rfl) hr, ?_⟩
  rcases ho.2 with ⟨h1, h2⟩ | ⟨g, cap, cur, h1, _, _, h2, _⟩
  · omega
  · injection h1 with _ _ h3
    omega

def SlicePost (xs : List Int) (w : World) (e : Ending) (w' : World) : Prop := ∃ A c, e = .returned (.slice A xs.length c) ∧ (Kd.int .i64).C w' A xs.length xs ∧ xs.length ≤ c ∧ Below w.heap.size w w'
set_option maxRecDepth 100000 in
set_option maxHeartbeats 1000000 in
theorem sizes_any (w : World) : Calls Try.prog 119 #[] w (SlicePost (sizesUpto 56) w) := by
  have hmf : ∀ (fn : Fn) (first cap : Array Value) (w : World), (Instr.makeFunc fn first cap).run Try.prog w = .ok (.func fn first cap) w := fun _ _ _ _ => rfl
  go_enter Try.func119, Try.ntmps119
  go_wp2_with fail
  refine (row_any 128 _ (fun k W => Held W w.heap.size w.heap.size (sizesUpto k) ∧ w.heap.size ≤ W.heap.size ∧ Below w.heap.size w W) _ (fun _ _ _ _ => by kernel_rfl) ?_ ?_).mono ?_
  · rintro k hk W ⟨h1, h2, h3⟩
    refine (konstSizes1_any w.heap.size w.heap.size k (ksize k) (kmore k) (sizesUpto k) W h1 (by have := len_upto [] k; omega) h2).mono ?_
    rintro e W' ⟨rfl, h4, h5⟩
    exact ⟨rfl, by rw [sizesUpto_succ]; exact h4, Nat.le_trans h2 h5.size, h3.trans h5⟩
  · exact ⟨⟨Nat.le_refl _, .slice none 0 0, blk_new w _, own_nil _ _ _ _⟩, by simp, below_alloc (Below.refl _ _) _⟩
  · rintro e w1 ⟨rfl, h1, h2, h3⟩
    obtain ⟨A, c, hb, hC, hc⟩ := held_C h1
    have c0 : w1.cell? ⟨w.heap.size, 0, none⟩ = some (.slice A (sizesUpto 56).length c) := blk_cell hb 0
    have HC := Aside0.mk hC
    have HB := Aside0.mk h3
    clear hb hC h1 h3
    obtain ⟨n, hn⟩ : ∃ n, n = (sizesUpto 56).length := ⟨_, rfl⟩
    have HN := Aside0.mk hn
    rw [← hn] at c0
    clear hn
    go_wp2
    go_ret
    exact ⟨A, c, by rw [HN.out]; rfl, HC.out, hc, HB.out⟩

theorem Put_anyN (A A' : Option Addr) (c c' n n' : Nat) (ss vs : List Int) (w : World) (h2 : twos ss) (hn : n = ss.length) (hn' : n' = vs.length) (hlen : vs.length = ss.length) (hmany : ss.length ≤ 1048576) (hr : Kd.C (Kd.int .i64) w A ss.length ss) (hc : n ≤ c) (hr' : Kd.C (Kd.int .i64) w A' vs.length vs) (hc' : n' ≤ c') :
    Calls Try.prog 118 #[.slice A n c, .slice A' n' c'] w fun e w' => ∃ s, e = .returned (.tuple #[.string s, .int .i64 (putE ss vs)]) ∧ Below w.heap.size w w' := by
  subst hn
  subst hn'
  exact Put_any A A' c c' ss vs w h2 hlen hmany hr hc hr' hc'
/-- P13.1: constants are right. -/
def konstOk (l : List Int) : Bool := decide (l.length = 56) && fitsAll (sizesUpto 56) (allUpto l 56)
def KPost (l : List Int) (w : World) (e : Ending) (w' : World) : Prop := ∃ s, e = .returned (.tuple #[.string s, .int .i64 (if konstOk l = true then 0 else 1)]) ∧ Below w.heap.size w w'
set_option maxRecDepth 100000 in
set_option maxHeartbeats 1000000 in
theorem konstPut_any (A : Option Addr) (c : Nat) (l : List Int) (w : World) (hr : Kd.C (Kd.int .i64) w A l.length l) (hc : l.length ≤ c) (hlow : ∀ ad, A = some ad → 0 < l.length → ad.block < w.heap.size) :
    Calls Try.prog 103 #[.slice A l.length c] w (KPost l w) := by
  have hmf : ∀ (fn : Fn) (first cap : Array Value) (w : World), (Instr.makeFunc fn first cap).run Try.prog w = .ok (.func fn first cap) w := fun _ _ _ _ => rfl
  have HR := Aside0.mk hr
  clear hr
  by_cases hlen : l.length = 56
  · have hb0 : ((l.length : Int) != 56) = false := by rw [bne_eq_false_iff_eq]; omega
    have HLEN := Aside0.mk hlen
    have HK : Aside0 (konstOk l = fitsAll (sizesUpto 56) (allUpto l 56)) := ⟨by simp [konstOk, hlen]⟩
    have HLOW := Aside0.mk hlow
    clear hlow hlen
    go_enter Try.func103, Try.ntmps103
    go_wp2_with fail
    have e0 := blk_alloc (blk_new w (.cells #[.slice A l.length c] 27)) (.cells #[.slice none 0 0] 27)
    have e1 := blk_new (w.alloc (.cells #[.slice A l.length c] 27)) (.cells #[.slice none 0 0] 27)
    rw [World.size_alloc] at e1
    refine (row_any 117 _ (fun k W => Held W w.heap.size (w.heap.size + 1) (allUpto l k) ∧ w.heap.size ≤ W.heap.size ∧ Below w.heap.size w W ∧ W.heap[w.heap.size]? = some (.cells #[.slice A l.length c] 27 (0, 0))) _ (fun _ _ _ _ => by kernel_rfl) ?_ ?_).mono ?_
    · rintro k hk W ⟨h1, h2, h3, h4⟩
      refine (konstPut1_any w.heap.size (w.heap.size + 1) w.heap.size A c k (ksize k) (kmore k) l (allUpto l k) W h1 (by have := len_upto l k; omega) h2 h4 (by omega) (Kd.C_below HR.out h3) (by have := HLEN.out; omega) (fun ad h => HLOW.out ad h (by have := HLEN.out; omega)) (.inr trivial)).mono ?_
      rintro e W' ⟨rfl, h5, h6, h7⟩
      exact ⟨rfl, by rw [allUpto_succ]; exact h5, Nat.le_trans h2 h6.size, h3.trans h6, h7⟩
    · exact ⟨⟨by omega, .slice none 0 0, e1, own_nil _ _ _ _⟩, by simp; omega, below_alloc (below_alloc (Below.refl _ _) _) _, e0⟩
    · rintro e w1 ⟨rfl, h1, h2, h3, h4⟩
      obtain ⟨A1, c1, hb, hC, hc1⟩ := held_C h1
      have hb1 := Aside0.mk hb
      have HC := Aside0.mk hC
      have HB := Aside0.mk h3
      have c0 : w1.cell? ⟨w.heap.size + 1, 0, none⟩ = some (.slice A1 (allUpto l 56).length c1) := blk_cell hb 0
      obtain ⟨n, hn⟩ : ∃ n, n = (allUpto l 56).length := ⟨_, rfl⟩
      rw [← hn] at c0 hc1
      have HN := Aside0.mk hn
      have lb := blk_lt hb
      clear hb hC h1 h3 h4 e0 e1 hn
      go_wp2_with fail
      have hS0 : w1.cell? ⟨w.heap.size + 1, 0, none⟩ = some (.slice A1 n c1) ∧ Below w1.heap.size w1 w1 := ⟨c0, Below.refl _ _⟩
      go_region_held3 (fun W => W.cell? ⟨w.heap.size + 1, 0, none⟩ = some (.slice A1 n c1) ∧ Below w1.heap.size w1 W)
        (first | exact ⟨c0, (Below.refl _ _).drew⟩ | assumption)
        (first
          | (go_at_call 119
             refine (sizes_any _).mono ?_
             rintro e w2 ⟨A2, c2, rfl, hC2, hc2, hb2⟩
             have hS2 : w2.cell? ⟨w.heap.size + 1, 0, none⟩ = some (.slice A1 n c1) ∧ Below w1.heap.size w1 w2 := ⟨by rw [hb2.cell lb]; exact c0, (Below.refl _ w1).drew.trans hb2⟩)
          | (go_at_call 118
             refine (Put_anyN _ _ _ _ _ n (sizesUpto 56) (allUpto l 56) _ (twos_sizes 56) rfl HN.out (len_upto l 56).1 (by have := len_upto l 56; omega) hC2 hc2 (Kd.C_below HC.out hS2.2) hc1).mono ?_
             rintro e w3 ⟨s3, rfl, hb3⟩
             have hS3 : w3.cell? ⟨w.heap.size + 1, 0, none⟩ = some (.slice A1 n c1) ∧ Below w1.heap.size w1 w3 := ⟨by rw [hb3.cell (Nat.lt_of_lt_of_le lb hS2.2.size)]; exact hS2.1, hS2.2.trans (hb3.mono hS2.2.size)⟩))
      have HFIN : Aside0 (Below w.heap.size w w3) := ⟨HB.out.trans (hS3.2.mono h2)⟩
      clear hS0 hS2 hS3 hb2 hb3 hC2 hc2
      by_cases hf : fitsAll (sizesUpto 56) (allUpto l 56) = true
      · have hp : putE (sizesUpto 56) (allUpto l 56) = 0 := by simp [putE, hf]
        have HE : Aside0 (konstOk l = true) := ⟨by rw [HK.out]; exact hf⟩
        rw [hp]
        clear hp hf
        go_wp2
        go_ret2
        exact ⟨_, by rw [HE.out]; rfl, HFIN.out⟩
      · have hp : putE (sizesUpto 56) (allUpto l 56) = 2 := by simp [putE, hf]
        have HE : Aside0 (konstOk l = false) := ⟨by rw [HK.out]; simpa using hf⟩
        rw [hp]
        clear hp hf
        go_wp2
        go_ret2
        exact ⟨_, by rw [HE.out]; rfl, HFIN.out⟩
  · have hb0 : ((l.length : Int) != 56) = true := by rw [bne_iff_ne]; omega
    have HE : Aside0 (konstOk l = false) := ⟨by simp [konstOk, hlen]⟩
    clear hlow hlen
    go_enter Try.func103, Try.ntmps103
    go_wp2_with fail
    go_ret2
    exact ⟨_, by rw [HE.out]; rfl, below_alloc (Below.refl _ _) _⟩

set_option maxRecDepth 100000 in
theorem konstIs_any (A : Option Addr) (c : Nat) (l : List Int) (w : World) (hr : Kd.C (Kd.int .i64) w A l.length l) (hc : l.length ≤ c) (hlow : ∀ ad, A = some ad → 0 < l.length → ad.block < w.heap.size) :
    Calls Try.prog 83 #[.slice A l.length c] w (fun e w' => e = .returned (.bool (konstOk l)) ∧ Below w.heap.size w w') := by
  obtain ⟨k, hk⟩ : ∃ k, k = konstOk l := ⟨_, rfl⟩
  rw [← hk]
  go_enter Try.func83, Try.ntmps83
  go_wp2_with fail
  refine (konstPut_any A c l w hr hc hlow).mono ?_
  rintro e w1 ⟨s, rfl, hb⟩
  rw [← hk]
  have HB := Aside0.mk hb
  clear hb hk
  cases k
  · simp only [Bool.false_eq_true, if_false]
    go_wp2
    go_ret
    exact ⟨rfl, HB.out⟩
  · simp only [if_true]
    go_wp2
    go_ret
    exact ⟨rfl, HB.out⟩
end Go.Proofs.Ytfbiahlogclkbaa.H
