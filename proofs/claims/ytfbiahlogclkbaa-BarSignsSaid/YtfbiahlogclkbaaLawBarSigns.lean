/- The proof's texts LawBarSigns: what the statement leads to. No condition is added. -/
import Derived.Test.YtfbiahlogclkbaaRows
import Derived.Test.YtfbiahlogclkbaaBarSL
import Derived.Test.YtfbiahlogclkbaaRowD
import Derived.WalkKit
import Derived.ProofKit
import Derived.OpenShut
import Derived.ShutString
import Derived.ChangeOld
import Derived.Below
import Derived.SizedLaws
namespace Go.Proofs.Ytfbiahlogclkbaa.barSigns
open Go.ChangeShapes Go.WideShapes Go.ChangeAt Go.RowKit
set_option linter.unusedVariables false
theorem own : ownKnob Try.prog.godebug = none := by kernel_rfl
theorem laidOut : laidOutB Try.prog = true := by kernel_rfl
set_option maxRecDepth 100000 in
theorem lifted (os : Os) (started : os.Started) (H : Type) (enc : TypeId × Value → H) :
    ReturnsInHanded {} Try.checked os 8 .any (Rows.barSignsSpec.pre6 enc Try.prog Try.f8 Rows.barSignsRow.domain false) (Rows.barSignsSpec.post enc Try.prog Try.f8 false true false false) := by
  refine returnsInHanded_of_change_sized (C := Try.checked) own started (by kernel_rfl) Try.func8
    (ChangeSpec.witness6 (enc := enc) (C := Try.checked) false ⟨#[], #[.agg #[.int .i64 0, .int .i64 0, .int .i64 0, .int .i64 0, .int .i64 0, .bool false, .slice none 0 0, .slice none 0 0, .slice none 0 0, .slice none 0 0, .slice none 0 0, .slice none 0 0, .slice none 0 0, .slice none 0 0, .int .i64 0, .slice none 0 0, .slice none 0 0], .int .i64 0, .int .i64 0, .agg #[.int .i64 0, .int .i64 0, .int .i64 0, .int .i64 0, .int .i64 0, .int .i64 0, .slice none 0 0], .agg #[.int .i64 0, .int .i64 0, .int .i64 0, .int .i64 0, .int .i64 0, .int .i64 0, .slice none 0 0]], []⟩ 8 (by kernel_rfl) (by kernel_rfl) (by kernel_rfl) (by kernel_rfl)) ?_
  intro W base args ds gs before hval0 hW hcnd hsz0 _
  have hval : ∀ (j : Nat) t v, Try.f8.params[j]? = some t → args[j]? = some v → Value.okWide Try.prog W .any base t v := hval0
  have hW' := hW
  obtain ⟨p, q, hA0, hV, rfl, hfz, hnd⟩ := hW
  have hA : DataW.TrodAll enc Try.prog W 0 (fun _ => true) true Try.f8.params.toList args.toList ds p := hA0
  rw [Try.params8] at hA hval
  obtain ⟨v0, vs0, d0, ds0, p0, q0, hargs, rfl, rfl, h0, r0⟩ := trodAll_cons hA
  obtain ⟨v1, vs1, d1, ds1, p1, q1, rfl, rfl, rfl, h1, r1⟩ := trodAll_cons r0
  obtain ⟨v2, vs2, d2, ds2, p2, q2, rfl, rfl, rfl, h2, r2⟩ := trodAll_cons r1
  obtain ⟨v3, vs3, d3, ds3, p3, q3, rfl, rfl, rfl, h3, r3⟩ := trodAll_cons r2
  obtain ⟨v4, vs4, d4, ds4, p4, q4, rfl, rfl, rfl, h4, r4⟩ := trodAll_cons r3
  obtain ⟨rfl, rfl, rfl⟩ := trodAll_nil r4
  obtain rfl : args = #[v0, v1, v2, v3, v4] := by cases args; simp_all
  obtain ⟨rfl, rfl⟩ := trodVars_none hV
  obtain ⟨cs0, rfl, _⟩ := okWide_struct Try.underlying36 (hval 0 36 v0 rfl rfl)
  have k0 := h0
  have lt0 : ∀ x ∈ p0, x.block < W.heap.size := by obtain ⟨m, hm⟩ := k0; exact DataW.trod_lt m _ _ _ hm
  obtain ⟨f0, rfl, hf0⟩ : ∃ f : Go.Proofs.Ytfbiahlogclkbaa.H.FV, cs0 = f.cells ∧ Go.Proofs.Ytfbiahlogclkbaa.H.FontAt W f := by
    obtain ⟨fuel, hf⟩ := h0
    obtain ⟨v, hv⟩ := Go.Proofs.Ytfbiahlogclkbaa.H.op_api_Font fuel _ _ hf
    obtain ⟨f, he, hF⟩ := Go.Proofs.Ytfbiahlogclkbaa.H.font_of hv
    exact ⟨f, Array.toList_inj.1 he, hF⟩
  obtain ⟨a1, rfl, rfl, rfl, w1⟩ := open_int Try.underlying3 (hval 1 3 v1 rfl rfl) h1
  obtain ⟨a2, rfl, rfl, rfl, w2⟩ := open_int Try.underlying3 (hval 2 3 v2 rfl rfl) h2
  obtain ⟨cs3, rfl, _⟩ := okWide_struct Try.underlying39 (hval 3 39 v3 rfl rfl)
  have k3 := h3
  have lt3 : ∀ x ∈ p3, x.block < W.heap.size := by obtain ⟨m, hm⟩ := k3; exact DataW.trod_lt m _ _ _ hm
  obtain ⟨b3, A3, c3, rfl, hb3⟩ : ∃ b A c, cs3 = (Go.Proofs.Ytfbiahlogclkbaa.H.boxL b A c).toArray ∧ Go.Proofs.Ytfbiahlogclkbaa.H.BoxC W b A c := by
    obtain ⟨fuel, hf⟩ := h3
    obtain ⟨v, hv⟩ := Go.Proofs.Ytfbiahlogclkbaa.H.op_api_Box fuel _ _ hf
    obtain ⟨A, c, he, hl, hC⟩ := Go.Proofs.Ytfbiahlogclkbaa.H.box_cells_of hv
    exact ⟨v, A, c, Array.toList_inj.1 he, hC, hl⟩
  obtain ⟨cs4, rfl, _⟩ := okWide_struct Try.underlying39 (hval 4 39 v4 rfl rfl)
  have k4 := h4
  have lt4 : ∀ x ∈ p4, x.block < W.heap.size := by obtain ⟨m, hm⟩ := k4; exact DataW.trod_lt m _ _ _ hm
  obtain ⟨b4, A4, c4, rfl, hb4⟩ : ∃ b A c, cs4 = (Go.Proofs.Ytfbiahlogclkbaa.H.boxL b A c).toArray ∧ Go.Proofs.Ytfbiahlogclkbaa.H.BoxC W b A c := by
    obtain ⟨fuel, hf⟩ := h4
    obtain ⟨v, hv⟩ := Go.Proofs.Ytfbiahlogclkbaa.H.op_api_Box fuel _ _ hf
    obtain ⟨A, c, he, hl, hC⟩ := Go.Proofs.Ytfbiahlogclkbaa.H.box_cells_of hv
    exact ⟨v, A, c, Array.toList_inj.1 he, hC, hl⟩
  clear hA0 hval0 hsz0
  refine (Go.Proofs.Ytfbiahlogclkbaa.H.signs_any f0 a1 a2 b3 A3 c3 b4 A4 c4 W hf0 hb3 hb4).mono fun e W' ⟨he, bel⟩ => ?_
  subst he
  exact ⟨_, rfl, _, _, _, [], _, [], hW', trodAll_mk1 (shut_bool Try.underlying4 _), (trodAll_cons_mk (Below.trod laidOut (by kernel_rfl) (of_decide_eq_true (by kernel_rfl)) k0 bel lt0) (trodAll_cons_mk (shut_int Try.underlying3 w1) (trodAll_cons_mk (shut_int Try.underlying3 w2) (trodAll_cons_mk (Below.trod laidOut (by kernel_rfl) (of_decide_eq_true (by kernel_rfl)) k3 bel lt3) (trodAll_cons_mk (Below.trod laidOut (by kernel_rfl) (of_decide_eq_true (by kernel_rfl)) k4 bel lt4) trodAll_mk0))))), rfl, bel.frame _, fun h => by cases h⟩
theorem over : Rows.barSignsRow.holds Try.pinned (OpenSpec.ofChange Rows.barSignsSpec) :=
  OpenClaim.holds_of_wide 8 Try.f8 rfl rfl rfl rfl rfl rfl rfl ⟨rfl, rfl, rfl, rfl, rfl⟩ rfl rfl rfl rfl rfl (by kernel_rfl) Try.func8 (by kernel_rfl)
    (of_decide_eq_true (by kernel_rfl)) (by unfold Func.isWrapper; first | (rw [if_pos (by decide +kernel)]; kernel_rfl) | (rw [if_neg (by decide +kernel)]; exact ⟨rfl, rfl⟩))
    (fun os started H enc _ => lifted os started H enc)
theorem proved : Rows.BarSignsSaid := over
#print axioms proved
end Go.Proofs.Ytfbiahlogclkbaa.barSigns
namespace Go.Proofs.Ytfbiahlogclkbaa
/-- The row, under a short name, for the claim. -/
theorem barSigns_holds : Rows.BarSignsSaid := barSigns.proved
end Go.Proofs.Ytfbiahlogclkbaa
