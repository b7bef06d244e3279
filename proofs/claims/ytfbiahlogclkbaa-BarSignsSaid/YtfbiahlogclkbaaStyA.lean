/- The proof's texts StyA: what the statement leads to. No condition is added. -/
import Derived.Test.YtfbiahlogclkbaaKonC
import Derived.Test.YtfbiahlogclkbaaHeadA
set_option linter.unusedVariables false
set_option linter.unusedSimpArgs false
namespace Go.Proofs.Ytfbiahlogclkbaa.H
open Go.RowKit Go.Proofs.YtfbiahlogclkbaaW.PrintWords Go.Proofs.YtfbiahlogclkbaaW.PrintLast Go.Proofs.YtfbiahlogclkbaaW.PrintMore Go.Proofs.Ytfbiahlogclkbaa.P

theorem C_low {w : World} {A : Option Addr} {l : List Int} (h : (Kd.int .i64).C w A l.length l) : ∀ ad, A = some ad → 0 < l.length → ad.block < w.heap.size := by
  intro ad ha hl
  obtain ⟨ad', h1, h2⟩ := Kd_int_at h 0 hl
  rw [ha] at h1
  injection h1 with h1
  subst h1
  exact World.block_lt_of_cell? _ _ h2

def styleB (c : Int) : Bool := decide (0 ≤ c) && decide (c < 8)
theorem styleIs_any (c : Int) (w : World) : Calls Try.prog 82 #[.int .i64 c] w fun e w' => e = .returned (.bool (styleB c)) ∧ Below w.heap.size w w' :=
  (style_Is.calls c (styleB c) w (by unfold style_Is.f styleB; by_cases h : c ≥ 0 <;> simp [h])).mono fun e w' h => ⟨h.1, h.2.below⟩

/-- P22.2. -/
def sizeR (l : List Int) (c z : Int) : Int × Int :=
  if styleB c = true ∧ Len z ∧ 0 ≤ z ∧ konstOk l = true then
    if c < 4 then (z, 0) else if (mulDivR z (rd l (if 6 ≤ c then 1 else 0)) 100).1 < 0 then (0, 1) else mulDivR z (rd l (if 6 ≤ c then 1 else 0)) 100
  else (0, 1)
def PairPost (r : Int × Int) (w : World) (e : Ending) (w' : World) : Prop := e = .returned (.tuple #[.int .i64 r.1, .int .i64 r.2]) ∧ Below w.heap.size w w'

set_option maxHeartbeats 4000000 in
set_option maxRecDepth 100000 in
theorem Size_any (A : Option Addr) (cap : Nat) (l : List Int) (c z : Int) (w : World) (hr : Kd.C (Kd.int .i64) w A l.length l) (hc : l.length ≤ cap) :
    Calls Try.prog 53 #[.slice A l.length cap, .int .i64 c, .int .i64 z] w (PairPost (sizeR l c z) w) := by
  have HR := Aside0.mk hr
  have hlow := C_low hr
  clear hr
  by_cases hs : styleB c = true
  rotate_left
  · have HS : Aside0 (sizeR l c z = (0, 1)) := ⟨by unfold sizeR; rw [if_neg (fun h => hs h.1)]⟩
    rw [Bool.not_eq_true] at hs
    go_enter Try.func53, Try.ntmps53
    go_wp2_with (go_at_call 82; refine (styleIs_any c _).mono ?_; rintro e w2 ⟨rfl, hb⟩; rw [hs])
    go_ret2
    exact ⟨by rw [HS.out]; rfl, hb⟩
  by_cases hz : Len z
  rotate_left
  · have HS : Aside0 (sizeR l c z = (0, 1)) := ⟨by unfold sizeR; rw [if_neg (fun h => hz h.2.1)]⟩
    have HA : Aside0 (allLen [z] = false) := ⟨by simp [allLen, hz]⟩
    clear hz
    go_enter Try.func53, Try.ntmps53
    go_wp2_with first
      | (go_at_call 82; refine (styleIs_any c _).mono ?_; rintro e w2 ⟨rfl, hb⟩; rw [hs])
      | (go_at_call 23; refine (Is_any _ 1 [z] _ (C_lit _ _ [z] _ _ (by simp) rfl (by simp)) (by simp)).mono ?_; rintro e w3 ⟨rfl, hb3⟩; rw [HA.out])
    go_ret2
    exact ⟨by rw [HS.out]; rfl, below_next hb (below1 _ hb3)⟩
  have HA : Aside0 (allLen [z] = true) := ⟨by simp [allLen, hz]⟩
  by_cases hn : z < 0
  · have HS : Aside0 (sizeR l c z = (0, 1)) := ⟨by unfold sizeR; rw [if_neg (fun h => by omega)]⟩
    clear hz
    go_enter Try.func53, Try.ntmps53
    go_wp2_with first
      | (go_at_call 82; refine (styleIs_any c _).mono ?_; rintro e w2 ⟨rfl, hb⟩; rw [hs])
      | (go_at_call 23; refine (Is_any _ 1 [z] _ (C_lit _ _ [z] _ _ (by simp) rfl (by simp)) (by simp)).mono ?_; rintro e w3 ⟨rfl, hb3⟩; rw [HA.out])
    go_ret2
    exact ⟨by rw [HS.out]; rfl, below_next hb (below1 _ hb3)⟩
  by_cases hk : konstOk l = true
  rotate_left
  · have HS : Aside0 (sizeR l c z = (0, 1)) := ⟨by unfold sizeR; rw [if_neg (fun h => hk h.2.2.2)]⟩
    rw [Bool.not_eq_true] at hk
    have HK := Aside0.mk hk
    have HLOW := Aside0.mk hlow
    clear hz hk hlow
    go_enter Try.func53, Try.ntmps53
    go_wp2_with first
      | (go_at_call 82; refine (styleIs_any c _).mono ?_; rintro e w2 ⟨rfl, hb⟩; rw [hs])
      | (go_at_call 23; refine (Is_any _ 1 [z] _ (C_lit _ _ [z] _ _ (by simp) rfl (by simp)) (by simp)).mono ?_; rintro e w3 ⟨rfl, hb3⟩; rw [HA.out])
      | (go_at_call 83; have hB3 := below_next hb (below1 _ hb3); clear hb hb3; refine (konstIs_any A cap l _ (Kd.C_below HR.out hB3) hc (fun ad h1 h2 => Nat.lt_of_lt_of_le (HLOW.out ad h1 h2) hB3.size)).mono ?_; rintro e w4 ⟨rfl, hb4⟩; rw [HK.out])
    go_ret2
    exact ⟨by rw [HS.out]; rfl, below_next hB3 hb4⟩
  have HK := Aside0.mk hk
  have HLOW := Aside0.mk hlow
  have hlen : l.length = 56 := by
    unfold konstOk at hk
    simp at hk
    exact hk.1
  obtain ⟨ad, hA, h0⟩ := Kd_int_at HR.out 0 (by omega)
  obtain ⟨ad', hA', h1⟩ := Kd_int_at HR.out 1 (by omega)
  have hE : ad' = ad := by rw [hA] at hA'; injection hA' with h; exact h.symm
  subst hE
  clear hA' hlow
  subst hA
  have h0' : w.cell? ad' = some (.int .i64 (rd l 0)) := by rwa [Addr.add_zero'] at h0
  have H0 := Aside0.mk h0'
  have h1' : w.cell? ⟨ad'.block, ad'.off + 1, none⟩ = some (.int .i64 (rd l 1)) := by simpa [Addr.add] using h1
  have H1 := Aside0.mk h1'
  clear h1'
  have g0 : Aside0 (ad'.block < w.heap.size) := ⟨World.block_lt_of_cell? _ _ h0⟩
  have HSZ : Aside0 (sizeR l c z = if c < 4 then (z, 0) else if (mulDivR z (rd l (if 6 ≤ c then 1 else 0)) 100).1 < 0 then (0, 1) else mulDivR z (rd l (if 6 ≤ c then 1 else 0)) 100) := ⟨by unfold sizeR; rw [if_pos ⟨hs, hz, by omega, hk⟩]⟩
  have hlz : (0 : Int) < (l.length : Int) := by omega
  have hlo : (1 : Int) < (l.length : Int) := by omega
  clear hk hz h0 h0' h1 hlen
  by_cases h4 : c < 4
  · go_enter Try.func53, Try.ntmps53
    go_wp2_with first
      | (go_at_call 82; refine (styleIs_any c _).mono ?_; rintro e w2 ⟨rfl, hb⟩; rw [hs])
      | (go_at_call 23; refine (Is_any _ 1 [z] _ (C_lit _ _ [z] _ _ (by simp) rfl (by simp)) (by simp)).mono ?_; rintro e w3 ⟨rfl, hb3⟩; rw [HA.out])
      | (go_at_call 83; have hB3 := below_next hb (below1 _ hb3); clear hb hb3; refine (konstIs_any (some ad') cap l _ (Kd.C_below HR.out hB3) hc (fun ad h1 h2 => Nat.lt_of_lt_of_le (HLOW.out ad h1 h2) hB3.size)).mono ?_; rintro e w4 ⟨rfl, hb4⟩; rw [HK.out]; have hB4 := below_next hB3 hb4; have e0 := (hB4.cell (p := ad') g0.out).trans H0.out)
    go_ret2
    exact ⟨by rw [HSZ.out, if_pos h4]; rfl, hB4⟩
  by_cases h6 : 6 ≤ c
  · obtain ⟨r, hr⟩ : ∃ r, r = mulDivR z (rd l 1) 100 := ⟨_, rfl⟩
    obtain ⟨r1, r2⟩ := r
    have HM : Aside0 (mulDivR z (rd l 1) 100 = (r1, r2)) := ⟨hr.symm⟩
    clear hr
    have HS2 : Aside0 (sizeR l c z = if r1 < 0 then (0, 1) else (r1, r2)) := ⟨by rw [HSZ.out, if_neg h4, if_pos h6, HM.out]⟩
    by_cases hneg : r1 < 0
    · have HS3 : Aside0 (sizeR l c z = (0, 1)) := ⟨by rw [HS2.out, if_pos hneg]⟩
      go_enter Try.func53, Try.ntmps53
      go_wp2_with first
        | (go_at_call 82; refine (styleIs_any c _).mono ?_; rintro e w2 ⟨rfl, hb⟩; rw [hs])
        | (go_at_call 23; refine (Is_any _ 1 [z] _ (C_lit _ _ [z] _ _ (by simp) rfl (by simp)) (by simp)).mono ?_; rintro e w3 ⟨rfl, hb3⟩; rw [HA.out])
        | (go_at_call 83; have hB3 := below_next hb (below1 _ hb3); clear hb hb3; refine (konstIs_any (some ad') cap l _ (Kd.C_below HR.out hB3) hc (fun ad h1 h2 => Nat.lt_of_lt_of_le (HLOW.out ad h1 h2) hB3.size)).mono ?_; rintro e w4 ⟨rfl, hb4⟩; rw [HK.out]; have hB4 := below_next hB3 hb4; clear hB3 hb4; have e0 := (hB4.cell (p := ad') g0.out).trans H0.out; have e1 := (hB4.cell (p := ⟨ad'.block, ad'.off + 1, none⟩) g0.out).trans H1.out)
        | (go_at_call 61; refine (MulDiv_any _ _ _ _).mono ?_; rintro e w5 ⟨rfl, hb5⟩; have hB5 := below_next hB4 hb5; rw [HM.out])
      go_ret2
      exact ⟨by rw [HS3.out]; rfl, hB5⟩
    · have HS3 : Aside0 (sizeR l c z = (r1, r2)) := ⟨by rw [HS2.out, if_neg hneg]⟩
      go_enter Try.func53, Try.ntmps53
      go_wp2_with first
        | (go_at_call 82; refine (styleIs_any c _).mono ?_; rintro e w2 ⟨rfl, hb⟩; rw [hs])
        | (go_at_call 23; refine (Is_any _ 1 [z] _ (C_lit _ _ [z] _ _ (by simp) rfl (by simp)) (by simp)).mono ?_; rintro e w3 ⟨rfl, hb3⟩; rw [HA.out])
        | (go_at_call 83; have hB3 := below_next hb (below1 _ hb3); clear hb hb3; refine (konstIs_any (some ad') cap l _ (Kd.C_below HR.out hB3) hc (fun ad h1 h2 => Nat.lt_of_lt_of_le (HLOW.out ad h1 h2) hB3.size)).mono ?_; rintro e w4 ⟨rfl, hb4⟩; rw [HK.out]; have hB4 := below_next hB3 hb4; clear hB3 hb4; have e0 := (hB4.cell (p := ad') g0.out).trans H0.out; have e1 := (hB4.cell (p := ⟨ad'.block, ad'.off + 1, none⟩) g0.out).trans H1.out)
        | (go_at_call 61; refine (MulDiv_any _ _ _ _).mono ?_; rintro e w5 ⟨rfl, hb5⟩; have hB5 := below_next hB4 hb5; rw [HM.out])
      go_ret2
      exact ⟨by rw [HS3.out]; rfl, hB5⟩
  · obtain ⟨r, hr⟩ : ∃ r, r = mulDivR z (rd l 0) 100 := ⟨_, rfl⟩
    obtain ⟨r1, r2⟩ := r
    have HM : Aside0 (mulDivR z (rd l 0) 100 = (r1, r2)) := ⟨hr.symm⟩
    clear hr
    have HS2 : Aside0 (sizeR l c z = if r1 < 0 then (0, 1) else (r1, r2)) := ⟨by rw [HSZ.out, if_neg h4, if_neg h6, HM.out]⟩
    have b6 : decide (6 ≤ c) = false := decide_eq_false h6
    clear h6
    by_cases hneg : r1 < 0
    · have HS3 : Aside0 (sizeR l c z = (0, 1)) := ⟨by rw [HS2.out, if_pos hneg]⟩
      go_enter Try.func53, Try.ntmps53
      go_wp2_with first
        | (go_at_call 82; refine (styleIs_any c _).mono ?_; rintro e w2 ⟨rfl, hb⟩; rw [hs])
        | (go_at_call 23; refine (Is_any _ 1 [z] _ (C_lit _ _ [z] _ _ (by simp) rfl (by simp)) (by simp)).mono ?_; rintro e w3 ⟨rfl, hb3⟩; rw [HA.out])
        | (go_at_call 83; have hB3 := below_next hb (below1 _ hb3); clear hb hb3; refine (konstIs_any (some ad') cap l _ (Kd.C_below HR.out hB3) hc (fun ad h1 h2 => Nat.lt_of_lt_of_le (HLOW.out ad h1 h2) hB3.size)).mono ?_; rintro e w4 ⟨rfl, hb4⟩; rw [HK.out]; have hB4 := below_next hB3 hb4; clear hB3 hb4; have e0 := (hB4.cell (p := ad') g0.out).trans H0.out; have e1 := (hB4.cell (p := ⟨ad'.block, ad'.off + 1, none⟩) g0.out).trans H1.out)
        | (go_at_call 61; refine (MulDiv_any _ _ _ _).mono ?_; rintro e w5 ⟨rfl, hb5⟩; have hB5 := below_next hB4 hb5; rw [HM.out])
      go_ret2
      exact ⟨by rw [HS3.out]; rfl, hB5⟩
    · have HS3 : Aside0 (sizeR l c z = (r1, r2)) := ⟨by rw [HS2.out, if_neg hneg]⟩
      go_enter Try.func53, Try.ntmps53
      go_wp2_with first
        | (go_at_call 82; refine (styleIs_any c _).mono ?_; rintro e w2 ⟨rfl, hb⟩; rw [hs])
        | (go_at_call 23; refine (Is_any _ 1 [z] _ (C_lit _ _ [z] _ _ (by simp) rfl (by simp)) (by simp)).mono ?_; rintro e w3 ⟨rfl, hb3⟩; rw [HA.out])
        | (go_at_call 83; have hB3 := below_next hb (below1 _ hb3); clear hb hb3; refine (konstIs_any (some ad') cap l _ (Kd.C_below HR.out hB3) hc (fun ad h1 h2 => Nat.lt_of_lt_of_le (HLOW.out ad h1 h2) hB3.size)).mono ?_; rintro e w4 ⟨rfl, hb4⟩; rw [HK.out]; have hB4 := below_next hB3 hb4; clear hB3 hb4; have e0 := (hB4.cell (p := ad') g0.out).trans H0.out; have e1 := (hB4.cell (p := ⟨ad'.block, ad'.off + 1, none⟩) g0.out).trans H1.out)
        | (go_at_call 61; refine (MulDiv_any _ _ _ _).mono ?_; rintro e w5 ⟨rfl, hb5⟩; have hB5 := below_next hB4 hb5; rw [HM.out])
      go_ret2
      exact ⟨by rw [HS3.out]; rfl, hB5⟩
end Go.Proofs.Ytfbiahlogclkbaa.H
