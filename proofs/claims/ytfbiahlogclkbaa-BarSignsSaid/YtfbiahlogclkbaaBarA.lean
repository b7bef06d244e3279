/- The proof's texts LedBar BarA: what the statement leads to. No condition is added. -/
import Derived.Test.YtfbiahlogclkbaaEvQ
import Derived.Test.YtfbiahlogclkbaaBarT
import Derived.Test.YtfbiahlogclkbaaStkD
set_option linter.unusedVariables false
set_option linter.unusedSimpArgs false
namespace Go.Proofs.Ytfbiahlogclkbaa.H
open Go.RowKit Go.Proofs.YtfbiahlogclkbaaW.PrintWords Go.Proofs.YtfbiahlogclkbaaW.PrintLast Go.Proofs.YtfbiahlogclkbaaW.PrintMore Go.Proofs.Ytfbiahlogclkbaa.P Ev
set_option maxRecDepth 100000 in
theorem keepBar : LedKeep 59 0 := fun g cs T e n e1 w hB he => by
  have HB := Aside0.mk hB
  have HE := Aside0.mk he
  have c19 : w.cell? ⟨g, 0, none⟩ = some (.int .i64 e) := (blk_cell hB 0).trans he
  have f19 : w.frozen? ⟨g, 0, none⟩ = false := blk_frozen hB 0
  clear hB he
  by_cases h0 : e = 0
  · subst h0
    by_cases h1 : e1 = 0
    · subst h1
      go_enter Try.func59, Try.ntmps59
      go_wp2
      go_ret
      exact ⟨rfl, grown_set w g 0 _, blk_put HB.out 0 _ rfl⟩
    · have b1 : (e1 != 0) = true := by rw [bne_iff_ne]; exact h1
      have HS : Aside0 (keptR 0 n e1 = (0, e1)) := ⟨by simp [keptR, h1]⟩
      clear h1
      go_enter Try.func59, Try.ntmps59
      go_wp2
      go_ret
      exact ⟨by rw [HS.out]; rfl, grown_set w g 0 _, by rw [HS.out]; exact blk_put HB.out 0 _ rfl⟩
  · have b0 : (e == 0) = false := by rw [beq_eq_false_iff_ne]; exact h0
    have b1 : (e != 0) = true := by rw [bne_iff_ne]; exact h0
    have HS : Aside0 (keptR e n e1 = (0, e)) := ⟨by simp [keptR, h0]⟩
    clear h0
    go_enter Try.func59, Try.ntmps59
    go_wp2
    go_ret
    exact ⟨by rw [HS.out]; rfl, ⟨rfl, rfl, rfl, Nat.le_refl _, fun _ _ _ => rfl⟩, by rw [HS.out, set_same HE.out]; exact HB.out⟩
set_option maxHeartbeats 4000000 in
set_option maxRecDepth 100000 in
theorem needBar : LedNeed 57 0 := fun g cs T e A cap n l w hB he hn hr hc hne => by
  subst hn
  have HB := Aside0.mk hB
  have HEO := Aside0.mk he
  have HR := Aside0.mk hr
  have HNE := Aside0.mk hne
  have hm := hr.2.1
  clear hB hr hne he
  go_enter Try.func57, Try.ntmps57
  go_wp2_with fail
  go_loopw [8] (fun q W => ∃ k : Nat, k ≤ l.length ∧ q = .int .i64 k ∧ ∃ e', Aside0 (e' = needE e (l.take k)) ∧ Aside0 (w.grownBy W (some g)) ∧ Aside0 (W.heap[g]? = some (.cells (cs.setIfInBounds 0 (.int .i64 e')) T (0, 0)))) (fun q _ => l.length - (intOf q).toNat)
  case atStart => exact ⟨0, by omega, rfl, e, ⟨rfl⟩, ⟨grown_refl _ _⟩, ⟨by rw [set_same HEO.out]; exact HB.out⟩⟩
  case round =>
    obtain ⟨k, hk, rfl, e', HE, HG, HBr⟩ := hrel
    by_cases hlt : k < l.length
    · obtain ⟨ad, A6, c6, hA, d0, d1, d2, d3, d4, d5, d6, hc6, hC6⟩ := box_cells HR.out k hlt
      subst hA
      have hadg : (ad.add (k * 7)).block ≠ g := by rw [add_block]; exact HNE.out (by omega) ad rfl
      have hgg : ∀ {a : Addr} {v : Value}, w.cell? a = some v → a.block ≠ g → wr.cell? a = some v := fun h1 h2 => cell_grown HG.out h1 (by simpa using h2)
      replace d0 := hgg d0 hadg
      replace d1 := hgg d1 hadg
      replace d2 := hgg d2 hadg
      replace d3 := hgg d3 hadg
      replace d4 := hgg d4 hadg
      replace d5 := hgg d5 hadg
      replace d6 := hgg d6 hadg
      have HTK := Aside0.mk (needE_take e l k hlt)
      obtain ⟨p, hp⟩ : ∃ p, p = rd_T39 l k := ⟨_, rfl⟩
      rw [← hp] at d0 d1 d2 d3 d4 d5 d6 HTK
      clear hgg hC6 hp hc6
      cases hlb : lensB p with
      | true =>
        have HAF : Aside0 (allLen [p.f1, p.f2, p.f3] = true) := ⟨hlb⟩
        have HE2 : Aside0 (e' = needE e (l.take (k + 1))) := ⟨by rw [HTK.out, if_pos hlb, HE.out]⟩
        clear hlb
        go_wp2_with (go_at_call 23; refine (Is_any _ 3 [p.f1, p.f2, p.f3] _ (C_lit _ _ [p.f1, p.f2, p.f3] _ _ (by simp) rfl (by simp)) (by simp)).mono ?_; rintro en w3 ⟨rfl, hb3⟩; rw [HAF.out]; have HB3 := Aside0.mk (below2 _ _ hb3); clear hb3)
        go_roundw
        case rel => exact ⟨k + 1, by omega, by go_num, e', HE2, ⟨grown_trans HG.out (grown_of_below HB3.out _)⟩, ⟨blk_below HBr.out HB3.out⟩⟩
        case measure => simp [intOf]; omega
      | false =>
        have HAF : Aside0 (allLen [p.f1, p.f2, p.f3] = false) := ⟨hlb⟩
        have HE2 : Aside0 ((keptR e' 0 1).2 = needE e (l.take (k + 1))) := ⟨by rw [HTK.out, if_neg (by rw [hlb]; simp), HE.out]⟩
        clear hlb
        go_wp2_with fail
        refine (Is_any _ 3 [p.f1, p.f2, p.f3] _ (C_lit _ _ [p.f1, p.f2, p.f3] _ _ (by simp) rfl (by simp)) (by simp)).mono ?_
        rintro en w3 ⟨rfl, hb3⟩
        rw [HAF.out]
        have HB3 := Aside0.mk (below2 _ _ hb3)
        clear hb3
        go_wp2_with fail
        refine (keepBar g _ T e' 0 1 _ (blk_below HBr.out HB3.out) (set_at HEO.out _)).mono ?_
        rintro en w4 ⟨rfl, hg4, hB4⟩
        rw [set_twice] at hB4
        have HG4 := Aside0.mk hg4
        have HB4 := Aside0.mk hB4
        clear hg4 hB4
        go_wp2
        go_roundw
        case rel => exact ⟨k + 1, by omega, by go_num, _, HE2, ⟨grown_trans HG.out (grown_below HB3.out HG4.out)⟩, ⟨HB4.out⟩⟩
        case measure => simp [intOf]; omega
    · have hkl : k = l.length := by omega
      subst hkl
      rw [List.take_length] at HE
      go_wp2
      refine bodyPost_ret (results_none rfl _ _ _) rfl ?_
      exact ⟨rfl, HG.out, by rw [← HE.out]; exact HBr.out⟩
end Go.Proofs.Ytfbiahlogclkbaa.H

set_option linter.unusedVariables false
set_option linter.unusedSimpArgs false
namespace Go.Proofs.Ytfbiahlogclkbaa.H
open Go.RowKit Go.Proofs.YtfbiahlogclkbaaW.PrintWords Go.Proofs.YtfbiahlogclkbaaW.PrintLast Go.Proofs.YtfbiahlogclkbaaW.PrintMore Go.Proofs.Ytfbiahlogclkbaa.P Ev

def barTy : Types := tyBase ++ tyBar
def barSp : List (Nat × SpecF) := [(23, spIs), (74, spSum), (60, spHalf), (61, spMulDiv), (22, spKonst), (75, spSet), (59, spKeep 0), (57, spNeed 0)]
noncomputable def barBo : List (Nat × Func) := [(56, Try.f56), (55, Try.f55), (58, Try.f58), (64, Try.f64), (62, Try.f62), (63, Try.f63)]
theorem barTab (w : World) (ok : Nat → Prop) (hs : List Value) : TabOk w ok hs barTy barSp barBo := by
  refine ⟨fun p hp => ?_, fun p hp => ?_, fun p hp => ?_⟩
  · rcases List.mem_append.1 hp with hp | hp
    · exact tyBase_ok p hp
    · exact tyBar_ok p hp
  · simp only [barSp, List.mem_cons, List.not_mem_nil, or_false] at hp
    rcases hp with rfl | rfl | rfl | rfl | rfl | rfl | rfl | rfl
    · exact ⟨enter_of Try.func23 rfl (by kernel_rfl), spIs_ok⟩
    · exact ⟨enter_of Try.func74 rfl (by kernel_rfl), spSum_ok⟩
    · exact ⟨enter_of Try.func60 rfl (by kernel_rfl), spHalf_ok⟩
    · exact ⟨enter_of Try.func61 rfl (by kernel_rfl), spMulDiv_ok⟩
    · exact ⟨enter_of Try.func22 rfl (by kernel_rfl), spKonst_ok⟩
    · exact ⟨enter_of Try.func75 rfl (by kernel_rfl), spSet_ok rfl⟩
    · exact ⟨enter_of Try.func59 rfl (by kernel_rfl), spKeep_ok keepBar⟩
    · exact ⟨enter_of Try.func57 rfl (by kernel_rfl), spNeed_ok needBar⟩
  · simp only [barBo, List.mem_cons, List.not_mem_nil, or_false] at hp
    rcases hp with rfl | rfl | rfl | rfl | rfl | rfl
    · exact ⟨enter_of Try.func56 rfl (by kernel_rfl), Try.func56⟩
    · exact ⟨enter_of Try.func55 rfl (by kernel_rfl), Try.func55⟩
    · exact ⟨enter_of Try.func58 rfl (by kernel_rfl), Try.func58⟩
    · exact ⟨enter_of Try.func64 rfl (by kernel_rfl), Try.func64⟩
    · exact ⟨enter_of Try.func62 rfl (by kernel_rfl), Try.func62⟩
    · exact ⟨enter_of Try.func63 rfl (by kernel_rfl), Try.func63⟩
end Go.Proofs.Ytfbiahlogclkbaa.H
