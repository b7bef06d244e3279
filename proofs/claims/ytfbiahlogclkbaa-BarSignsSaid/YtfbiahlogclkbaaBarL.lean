/- The proof's texts BarL: what the statement leads to. No condition is added. -/
import Derived.Test.YtfbiahlogclkbaaBarA
import Derived.Test.YtfbiahlogclkbaaEvQ
set_option linter.unusedVariables false
set_option linter.unusedSimpArgs false
namespace Go.Proofs.Ytfbiahlogclkbaa.H
open Go.RowKit Go.Proofs.YtfbiahlogclkbaaW.PrintWords Go.Proofs.YtfbiahlogclkbaaW.PrintLast Go.Proofs.YtfbiahlogclkbaaW.PrintMore Go.Proofs.Ytfbiahlogclkbaa.P Ev
noncomputable def bardSp : List (Nat × SpecF) := (21, spSameC) :: barSp
noncomputable def bardBo : List (Nat × Func) := (30, Try.f30) :: (29, Try.f29) :: (26, Try.f26) :: barBo
theorem bardTab (w : World) (ok : Nat → Prop) (hs : List Value) : TabOk w ok hs barTy bardSp bardBo := by
  have h := barTab w ok hs
  refine ⟨h.ts, fun p hp => ?_, fun p hp => ?_⟩
  · rcases List.mem_cons.1 hp with rfl | hp
    · exact ⟨enter_of Try.func21 rfl (by kernel_rfl), spSameC_ok⟩
    · exact h.sp p hp
  · rcases List.mem_cons.1 hp with rfl | hp
    · exact ⟨enter_of Try.func30 rfl (by kernel_rfl), Try.func30⟩
    · rcases List.mem_cons.1 hp with rfl | hp
      · exact ⟨enter_of Try.func29 rfl (by kernel_rfl), Try.func29⟩
      · rcases List.mem_cons.1 hp with rfl | hp
        · exact ⟨enter_of Try.func26 rfl (by kernel_rfl), Try.func26⟩
        · exact h.bo p hp
set_option maxHeartbeats 4000000 in
theorem barred_run : Runs1 (ev Try.prog barTy bardSp bardBo [] boolR 28 Try.f28 [] 0) true [] := ⟨by kernel_rfl⟩
theorem barred_any (w : World) : Calls Try.prog 28 #[] w fun e w' => e = .returned (.bool true) ∧ Below w.heap.size w w' :=
  ev_bool (hs := []) (bardTab w (fun _ => False) _) Try.func28 barred_run told_nil (fun _ h => h.elim) (Nat.le_refl _) (fun x hx => by simp at hx) rfl
end Go.Proofs.Ytfbiahlogclkbaa.H
