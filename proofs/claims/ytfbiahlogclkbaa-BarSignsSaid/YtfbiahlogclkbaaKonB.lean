/- The proof's texts KonB: what the statement leads to. No condition is added. -/
import Derived.Test.YtfbiahlogclkbaaKonA
set_option linter.unusedVariables false
set_option linter.unusedSimpArgs false
namespace Go.Proofs.Ytfbiahlogclkbaa.H
open Go.RowKit Go.Proofs.YtfbiahlogclkbaaW.PrintWords Go.Proofs.YtfbiahlogclkbaaW.PrintLast Go.Proofs.YtfbiahlogclkbaaW.PrintMore Go.Proofs.Ytfbiahlogclkbaa.P

set_option maxRecDepth 100000 in
set_option maxHeartbeats 3200000 in
theorem konstSizes1_any (B b : Nat) (k size : Int) (more : Bool) (xs : List Int) (w : World) (h0 : Held w B b xs) (hx : xs.length ≤ 1048576) (hBw : B ≤ w.heap.size) :
    Calls Try.prog 128 #[.int .i64 k, .int .i64 size, .bool more, .pointer (some ⟨b, 0, none⟩)] w fun e w' => e = .returned (.tuple #[]) ∧ Held w' B b (xs ++ (if more = true then [size, 2] else [size])) ∧ Below B w w' := by
  obtain ⟨hB, v, hv, hown⟩ := h0
  obtain ⟨i0, hi0, hz0, hz1, hz2⟩ := info_parts infoInt
  have hne := Held.ne hv hown
  have c0 : w.cell? ⟨b, 0, none⟩ = some v := blk_cell hv 0
  have f0 := blk_frozen hv 0
  have lb := blk_lt hv
  have HV := Aside0.mk hv
  have HOW := Aside0.mk hown
  clear hv hown
  obtain ⟨s0, n0, c0', rfl⟩ : ∃ s0 n0 c0', v = .slice s0 n0 c0' := by
    obtain ⟨A, c, h⟩ := own_slice HOW.out
    exact ⟨_, _, _, h⟩
  go_enter Try.func128, Try.ntmps128
  go_wp2_with (at_builtin; refine wpList_append_own _ rfl (.tmp 7) (.tmp 9) 27 rfl B 3 i0 (.int .i64 0) 1 8 Try.underlying27 hi0 hz0 hz1 hz2 rfl (by decide) _ _ _ rfl (HOW.out.alloc _) ⟨w.heap.size, 0, none⟩ 1 1 [.int .i64 size] rfl rfl ?c1 ?c2 ?c3 ?c4 ?c5 ?_)
  case c1 =>
    intro j u hj
    match j, hj with
    | 0, hj => simp at hj; subst hj; simp [Addr.add]
  case c2 => intro u hu; simp at hu; subst hu; rfl
  case c3 => unfold maxLen; omega
  case c4 => omega
  case c5 => simp; omega
  intro v' w1 hown1 hgrow _
  have d0 := blk_grown (blk_alloc HV.out (.cells #[.int .i64 size] 3)) hgrow (fun e => hne e.symm)
  have d1 : w1.cell? ⟨b, 0, none⟩ = some (.slice s0 n0 c0') := blk_cell d0 0
  have d2 := blk_frozen d0 0
  have hP := held_put (xs := xs ++ [size]) d0 (by rw [List.length_append, ← nums_snoc]; exact hown1)
  have hBel : Below B w (w1.setCell ⟨b, 0, none⟩ v') := below_own (((Below.refl B w).alloc hBw _).grown hgrow (by simp; omega) (fun q hq => own_base HOW.out q hq)) b 0 hB _
  have hsz : w.heap.size ≤ (w1.setCell ⟨b, 0, none⟩ v').heap.size := by have := hgrow.size; simp at this ⊢; omega
  obtain ⟨s1, n1, c1', rfl⟩ : ∃ s0 n0 c0', v' = .slice s0 n0 c0' := by
    obtain ⟨A, c, h⟩ := own_slice hP.2
    exact ⟨_, _, _, h⟩
  have HP := Aside0.mk hP
  have HBEL := Aside0.mk hBel
  have HSZ := Aside0.mk hsz
  clear hP hBel hown1 hgrow d0 HV HOW hne hsz
  cases more with
  | false =>
    go_wp2
    go_end0
    exact ⟨rfl, ⟨hB, _, HP.out.1, by simpa using HP.out.2⟩, HBEL.out⟩
  | true =>
    go_wp2_with (at_builtin; refine wpList_append_own _ rfl (.tmp 12) (.tmp 13) 27 rfl B 3 i0 (.int .i64 0) 1 8 Try.underlying27 hi0 hz0 hz1 hz2 rfl (by decide) _ _ _ rfl (HP.out.2.alloc _) ⟨w1.heap.size, 0, none⟩ 1 1 [.int .i64 2] rfl rfl ?c1 ?c2 ?c3 ?c4 ?c5 ?_)
    case c1 =>
      intro j u hj
      have h := World.news_of_block (heap_alloc_new (w1.setCell ⟨b, 0, none⟩ (.slice s1 n1 c1')) (.cells #[.int .i64 2] 3)) j u hj
      have hs : (w1.setCell ⟨b, 0, none⟩ (.slice s1 n1 c1')).heap.size = w1.heap.size := by simp
      rw [hs] at h
      exact h
    case c2 => intro u hu; simp at hu; subst hu; rfl
    case c3 => simp; unfold maxLen; omega
    case c4 => simp; omega
    case c5 => have := HSZ.out; simp at this ⊢; omega
    intro v' w3 hown' hgrow _
    have hne := Lib.ownBlock_ne HP.out.2 HP.out.1 (by decide)
    have d0 := blk_grown (blk_alloc HP.out.1 (.cells #[.int .i64 2] 3)) hgrow (fun e => hne e.symm)
    have d1 : w3.cell? ⟨b, 0, none⟩ = some (.slice s1 n1 c1') := blk_cell d0 0
    have d2 := blk_frozen d0 0
    have hP := held_put (xs := xs ++ [size, 2]) d0 (by have := hown'; simpa [nums] using this)
    have hBel : Below B w (w3.setCell ⟨b, 0, none⟩ v') := below_own ((HBEL.out.alloc (by have := HSZ.out; omega) _).grown hgrow (by have := HSZ.out; simp at this ⊢; omega) (fun q hq => own_base HP.out.2 q hq)) b 0 hB _
    have HP2 := Aside0.mk hP
    have HB2 := Aside0.mk hBel
    clear hP hBel hne hgrow hown' d0
    obtain ⟨s2, n2, c2', rfl⟩ : ∃ s0 n0 c0', v' = .slice s0 n0 c0' := by
      obtain ⟨A, c, h⟩ := own_slice HP2.out.2
      exact ⟨_, _, _, h⟩
    go_wp2
    go_end0
    exact ⟨rfl, ⟨hB, _, HP2.out.1, by simpa using HP2.out.2⟩, HB2.out⟩

/-- The size of a constant's number; does more stand behind it? -/
def ksize (k : Nat) : Int := if k = 2 ∨ k = 3 then 2 else -2
def kmore (k : Nat) : Bool := decide (4 ≤ k ∧ k < 55)

set_option maxRecDepth 100000 in
set_option maxHeartbeats 1000000 in
/-- konst.row: whatever is done with each constant's place, in order. -/
theorem row_any (g : Nat) (lb : Array Value) (I : Nat → World → Prop) (w : World) (hent : ∀ k s m w, (callFunc g (#[.int .i64 k, .int .i64 s, .bool m] ++ lb)).run Try.prog w = .ok (.enter g (#[.int .i64 k, .int .i64 s, .bool m] ++ lb)) w)
    (hdo : ∀ (k : Nat), k < 56 → ∀ W, I k W → Calls Try.prog g (#[.int .i64 k, .int .i64 (ksize k), .bool (kmore k)] ++ lb) W fun e W' => e = .returned (.tuple #[]) ∧ I (k + 1) W') (h0 : I 0 w) :
    Calls Try.prog 116 #[.func (.func g) #[] lb] w fun e w' => e = .returned (.tuple #[]) ∧ I 56 w' := by
  have HD := Aside0.mk hdo
  have H0 := Aside0.mk h0
  clear hdo h0
  go_enter Try.func116, Try.ntmps116
  go_wp2
  go_loopw [4] (fun i wr => ∃ k : Nat, k ≤ 56 ∧ i = .int .i64 k ∧ Aside0 (I k wr)) (fun i _ => 56 - (intOf i).toNat)
  case atStart => exact ⟨0, by omega, rfl, H0⟩
  case round =>
    obtain ⟨k, hk, rfl, HI⟩ := hrel
    by_cases hlt : k < 56
    · by_cases k2 : k = 2
      · subst k2
        have HC := Aside0.mk (HD.out 2 hlt wr HI.out)
        go_wp2_with fail
        refine HC.out.mono ?_
        rintro e w2 ⟨rfl, hI⟩
        go_wp2
        go_roundw
        case rel => exact ⟨3, by omega, by go_num, ⟨hI⟩⟩
        case measure => simp [intOf]
      · by_cases k3 : k = 3
        · subst k3
          have HC := Aside0.mk (HD.out 3 hlt wr HI.out)
          clear k2
          go_wp2_with fail
          refine HC.out.mono ?_
          rintro e w2 ⟨rfl, hI⟩
          go_wp2
          go_roundw
          case rel => exact ⟨4, by omega, by go_num, ⟨hI⟩⟩
          case measure => simp [intOf]
        · have HC0 := HD.out k hlt wr HI.out
          rw [show ksize k = -2 by unfold ksize; rw [if_neg (by omega)]] at HC0
          have q2 : ((k : Int) == 2) = false := beq_eq_false_iff_ne.2 (by omega)
          have q3 : ((k : Int) == 3) = false := beq_eq_false_iff_ne.2 (by omega)
          clear k2 k3
          by_cases k4 : 4 ≤ k
          · rw [show kmore k = decide ((k : Int) < 55) by unfold kmore; rw [decide_eq_decide]; omega] at HC0
            have HC := Aside0.mk HC0
            clear HC0
            go_wp2_with fail
            refine HC.out.mono ?_
            rintro e w2 ⟨rfl, hI⟩
            go_wp2
            go_roundw
            case rel => exact ⟨k + 1, by omega, by go_num, ⟨hI⟩⟩
            case measure => simp [intOf]; omega
          · rw [show kmore k = false by simp [kmore, k4]] at HC0
            have HC := Aside0.mk HC0
            clear HC0
            go_wp2_with fail
            refine HC.out.mono ?_
            rintro e w2 ⟨rfl, hI⟩
            go_wp2
            go_roundw
            case rel => exact ⟨k + 1, by omega, by go_num, ⟨hI⟩⟩
            case measure => simp [intOf]; omega
    · obtain rfl : k = 56 := by omega
      go_wp2
      go_end0
      exact ⟨rfl, HI.out⟩
end Go.Proofs.Ytfbiahlogclkbaa.H
