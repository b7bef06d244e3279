/- The proof's texts BarD: what the statement leads to. No condition is added. -/
import Derived.Test.YtfbiahlogclkbaaBarA
set_option linter.unusedVariables false
set_option linter.unusedSimpArgs false
namespace Go.Proofs.Ytfbiahlogclkbaa.H
open Go.RowKit Go.Proofs.YtfbiahlogclkbaaW.PrintWords Go.Proofs.YtfbiahlogclkbaaW.PrintLast Go.Proofs.YtfbiahlogclkbaaW.PrintMore Go.Proofs.Ytfbiahlogclkbaa.P Ev

def rad_fa (f : FV) (fl : List Int) (c : Int) (z : Int) (b : Bx) (s : Bx) : (Bx × Int) × List (Bool × Bool) :=
  let v1 := konstR f.h fl 49 c z
  let v2 := kp 0 v1
  let v3 := konstR f.h fl 51 c z
  let v4 := kp v2.snd v3
  let v5 := konstR f.h fl 52 c z
  let v6 := kp v4.snd v5
  let v7 := needE v6.snd [b, s]
  let v8 := needE v7 []
  (({ f0 := 0, f1 := 0, f2 := 0, f3 := 0, f4 := 0, f5 := 0, f6 := [] }, v8), [(decide (c < 2), false), (v8 != 0, true)])
theorem rad_fa_run (f : FV) (fl : List Int) (c : Int) (z : Int) (b : Bx) (s : Bx) : Runs1 (ev Try.prog barTy barSp barBo [((55, 7), false), ((26, 71), true)] boxR 26 Try.f26 [.one (fontP f 0 fl), .one (intP c), .one (intP z), .one (boxP b 1), .one (boxP s 2), .one (.c (.v (.slice none 0 0)))] 3) (rad_fa f fl c z b s).1 (rad_fa f fl c z b s).2 := ⟨by kernel_rfl⟩
theorem rad_fa_any (f : FV) (fl : List Int) (c : Int) (z : Int) (b : Bx) (s : Bx) {Ab : Option Addr} {cb : Nat} {As : Option Addr} {cs : Nat} {w : World} {ok : Nat → Prop} (hf : FontF w ok f fl) (hb : BoxAt w ok b Ab cb) (hs : BoxAt w ok s As cs) (hok : ∀ k, ok k → k < w.heap.size) (hcs : Ev.Told (rad_fa f fl c z b s).2) :
    Calls Try.prog 26 #[f.v, .int .i64 c, .int .i64 z, boxV b Ab cb, boxV s As cs, .slice none 0 0] w (BoxPost (rad_fa f fl c z b s).1 ok w) :=
  ev_box (hs := [.slice f.s9.A f.s9.n f.s9.c, .slice Ab b.f6.length cb, .slice As s.f6.length cs]) (barTab w ok _) Try.func26 (rad_fa_run f fl c z b s) hcs hok (Nat.le_refl _) (fun x hx => by
    simp only [List.mem_cons, List.not_mem_nil, or_false] at hx
    rcases hx with rfl | rfl | rfl | rfl | rfl | rfl
    · exact fontP_V hf (by decide) rfl
    · exact intP_V _
    · exact intP_V _
    · exact boxP_V hb (by decide) rfl
    · exact boxP_V hs (by decide) rfl
    · exact cell_V rfl) rfl
def rad_fbtt (f : FV) (fl : List Int) (c : Int) (z : Int) (b : Bx) (s : Bx) : (Bx × Int) × List (Bool × Bool) :=
  let v1 := konstR f.h fl 49 c z
  let v2 := kp 0 v1
  let v3 := konstR f.h fl 51 c z
  let v4 := kp v2.snd v3
  let v5 := konstR f.h fl 52 c z
  let v6 := kp v4.snd v5
  let v7 := needE v6.snd [b, s]
  let v8 := needE v7 []
  let v9 := sumR [v2.fst, v4.fst, b.f2, b.f3]
  let v10 := kp v8 v9
  let v11 := sumR [s.f2, s.f3]
  let v12 := kp v10.snd v11
  let v13 := sumR [v12.fst, IntKind.i64.wrap (0 - v10.fst)]
  let v14 := kp v12.snd v13
  let v15 := halfR v14.fst
  let v16 := kp v14.snd v15
  let v17 := sumR [v2.fst, v16.fst]
  let v18 := kp v16.snd v17
  let v19 := sumR [b.f2, v18.fst, v4.fst]
  let v20 := kp v18.snd v19
  let v21 := sumR [v20.fst, IntKind.i64.wrap (0 - s.f2)]
  let v22 := kp v20.snd v21
  let v23 := sumR [0, s.f1]
  let v24 := kp v22.snd v23
  let v25 := sumR [v20.fst, IntKind.i64.wrap (0 - v4.fst)]
  let v26 := kp v24.snd v25
  let v27 := sumR [v20.fst, v6.fst]
  let v28 := kp v26.snd v27
  let v29 := sumR [v24.fst, b.f1]
  let v30 := kp v28.snd v29
  (({ f0 := 0, f1 := 0, f2 := 0, f3 := 0, f4 := 0, f5 := 0, f6 := [] }, v30.snd), [(decide (c < 2), false), (v8 != 0, false), (decide (v12.fst > v10.fst), true), (v30.snd != 0, true)])
theorem rad_fbtt_run (f : FV) (fl : List Int) (c : Int) (z : Int) (b : Bx) (s : Bx) : Runs1 (ev Try.prog barTy barSp barBo [((55, 7), false), ((26, 71), false), ((26, 100), true), ((64, 13), true)] boxR 26 Try.f26 [.one (fontP f 0 fl), .one (intP c), .one (intP z), .one (boxP b 1), .one (boxP s 2), .one (.c (.v (.slice none 0 0)))] 3) (rad_fbtt f fl c z b s).1 (rad_fbtt f fl c z b s).2 := ⟨by kernel_rfl⟩
theorem rad_fbtt_any (f : FV) (fl : List Int) (c : Int) (z : Int) (b : Bx) (s : Bx) {Ab : Option Addr} {cb : Nat} {As : Option Addr} {cs : Nat} {w : World} {ok : Nat → Prop} (hf : FontF w ok f fl) (hb : BoxAt w ok b Ab cb) (hs : BoxAt w ok s As cs) (hok : ∀ k, ok k → k < w.heap.size) (hcs : Ev.Told (rad_fbtt f fl c z b s).2) :
    Calls Try.prog 26 #[f.v, .int .i64 c, .int .i64 z, boxV b Ab cb, boxV s As cs, .slice none 0 0] w (BoxPost (rad_fbtt f fl c z b s).1 ok w) :=
  ev_box (hs := [.slice f.s9.A f.s9.n f.s9.c, .slice Ab b.f6.length cb, .slice As s.f6.length cs]) (barTab w ok _) Try.func26 (rad_fbtt_run f fl c z b s) hcs hok (Nat.le_refl _) (fun x hx => by
    simp only [List.mem_cons, List.not_mem_nil, or_false] at hx
    rcases hx with rfl | rfl | rfl | rfl | rfl | rfl
    · exact fontP_V hf (by decide) rfl
    · exact intP_V _
    · exact intP_V _
    · exact boxP_V hb (by decide) rfl
    · exact boxP_V hs (by decide) rfl
    · exact cell_V rfl) rfl
def rad_fbtf (f : FV) (fl : List Int) (c : Int) (z : Int) (b : Bx) (s : Bx) : (Bx × Int) × List (Bool × Bool) :=
  let v1 := konstR f.h fl 49 c z
  let v2 := kp 0 v1
  let v3 := konstR f.h fl 51 c z
  let v4 := kp v2.snd v3
  let v5 := konstR f.h fl 52 c z
  let v6 := kp v4.snd v5
  let v7 := needE v6.snd [b, s]
  let v8 := needE v7 []
  let v9 := sumR [v2.fst, v4.fst, b.f2, b.f3]
  let v10 := kp v8 v9
  let v11 := sumR [s.f2, s.f3]
  let v12 := kp v10.snd v11
  let v13 := sumR [v12.fst, IntKind.i64.wrap (0 - v10.fst)]
  let v14 := kp v12.snd v13
  let v15 := halfR v14.fst
  let v16 := kp v14.snd v15
  let v17 := sumR [v2.fst, v16.fst]
  let v18 := kp v16.snd v17
  let v19 := sumR [b.f2, v18.fst, v4.fst]
  let v20 := kp v18.snd v19
  let v21 := sumR [v20.fst, IntKind.i64.wrap (0 - s.f2)]
  let v22 := kp v20.snd v21
  let v23 := sumR [0, s.f1]
  let v24 := kp v22.snd v23
  let v25 := sumR [v20.fst, IntKind.i64.wrap (0 - v4.fst)]
  let v26 := kp v24.snd v25
  let v27 := sumR [v20.fst, v6.fst]
  let v28 := kp v26.snd v27
  let v29 := sumR [v24.fst, b.f1]
  let v30 := kp v28.snd v29
  let v31 := setR v30.fst [{ f0 := 0, f1 := v22.fst, f2 := s }, { f0 := v24.fst, f1 := v26.fst, f2 := { f0 := 2, f1 := b.f1, f2 := v4.fst, f3 := 0, f4 := 0, f5 := 0, f6 := [] } }, { f0 := v24.fst, f1 := 0, f2 := b }, { f0 := 0, f1 := 0, f2 := { f0 := 0, f1 := 0, f2 := v28.fst, f3 := 0, f4 := 0, f5 := 0, f6 := [] } }]
  (v31, [(decide (c < 2), false), (v8 != 0, false), (decide (v12.fst > v10.fst), true), (v30.snd != 0, false)])
theorem rad_fbtf_vars (f : FV) (fl : List Int) (c : Int) (z : Int) (b : Bx) (s : Bx) : ∃ v1, v1 = konstR f.h fl 49 c z ∧ ∃ v2, v2 = kp 0 v1 ∧ ∃ v3, v3 = konstR f.h fl 51 c z ∧ ∃ v4, v4 = kp v2.snd v3 ∧ ∃ v5, v5 = konstR f.h fl 52 c z ∧ ∃ v6, v6 = kp v4.snd v5 ∧ ∃ v7, v7 = needE v6.snd [b, s] ∧ ∃ v8, v8 = needE v7 [] ∧ ∃ v9, v9 = sumR [v2.fst, v4.fst, b.f2, b.f3] ∧ ∃ v10, v10 = kp v8 v9 ∧ ∃ v11, v11 = sumR [s.f2, s.f3] ∧ ∃ v12, v12 = kp v10.snd v11 ∧ ∃ v13, v13 = sumR [v12.fst, IntKind.i64.wrap (0 - v10.fst)] ∧ ∃ v14, v14 = kp v12.snd v13 ∧ ∃ v15, v15 = halfR v14.fst ∧ ∃ v16, v16 = kp v14.snd v15 ∧ ∃ v17, v17 = sumR [v2.fst, v16.fst] ∧ ∃ v18, v18 = kp v16.snd v17 ∧ ∃ v19, v19 = sumR [b.f2, v18.fst, v4.fst] ∧ ∃ v20, v20 = kp v18.snd v19 ∧ ∃ v21, v21 = sumR [v20.fst, IntKind.i64.wrap (0 - s.f2)] ∧ ∃ v22, v22 = kp v20.snd v21 ∧ ∃ v23, v23 = sumR [0, s.f1] ∧ ∃ v24, v24 = kp v22.snd v23 ∧ ∃ v25, v25 = sumR [v20.fst, IntKind.i64.wrap (0 - v4.fst)] ∧ ∃ v26, v26 = kp v24.snd v25 ∧ ∃ v27, v27 = sumR [v20.fst, v6.fst] ∧ ∃ v28, v28 = kp v26.snd v27 ∧ ∃ v29, v29 = sumR [v24.fst, b.f1] ∧ ∃ v30, v30 = kp v28.snd v29 ∧ ∃ v31, v31 = setR v30.fst [{ f0 := 0, f1 := v22.fst, f2 := s }, { f0 := v24.fst, f1 := v26.fst, f2 := { f0 := 2, f1 := b.f1, f2 := v4.fst, f3 := 0, f4 := 0, f5 := 0, f6 := [] } }, { f0 := v24.fst, f1 := 0, f2 := b }, { f0 := 0, f1 := 0, f2 := { f0 := 0, f1 := 0, f2 := v28.fst, f3 := 0, f4 := 0, f5 := 0, f6 := [] } }] ∧ rad_fbtf f fl c z b s = (v31, [(decide (c < 2), false), (v8 != 0, false), (decide (v12.fst > v10.fst), true), (v30.snd != 0, false)]) := ⟨_, rfl, _, rfl, _, rfl, _, rfl, _, rfl, _, rfl, _, rfl, _, rfl, _, rfl, _, rfl, _, rfl, _, rfl, _, rfl, _, rfl, _, rfl, _, rfl, _, rfl, _, rfl, _, rfl, _, rfl, _, rfl, _, rfl, _, rfl, _, rfl, _, rfl, _, rfl, _, rfl, _, rfl, _, rfl, _, rfl, _, rfl, by kernel_rfl⟩
theorem rad_fbtf_run (f : FV) (fl : List Int) (c : Int) (z : Int) (b : Bx) (s : Bx) : Runs1 (ev Try.prog barTy barSp barBo [((55, 7), false), ((26, 71), false), ((26, 100), true), ((64, 13), false)] boxR 26 Try.f26 [.one (fontP f 0 fl), .one (intP c), .one (intP z), .one (boxP b 1), .one (boxP s 2), .one (.c (.v (.slice none 0 0)))] 3) (rad_fbtf f fl c z b s).1 (rad_fbtf f fl c z b s).2 := ⟨by kernel_rfl⟩
theorem rad_fbtf_any (f : FV) (fl : List Int) (c : Int) (z : Int) (b : Bx) (s : Bx) {Ab : Option Addr} {cb : Nat} {As : Option Addr} {cs : Nat} {w : World} {ok : Nat → Prop} (hf : FontF w ok f fl) (hb : BoxAt w ok b Ab cb) (hs : BoxAt w ok s As cs) (hok : ∀ k, ok k → k < w.heap.size) (hcs : Ev.Told (rad_fbtf f fl c z b s).2) :
    Calls Try.prog 26 #[f.v, .int .i64 c, .int .i64 z, boxV b Ab cb, boxV s As cs, .slice none 0 0] w (BoxPost (rad_fbtf f fl c z b s).1 ok w) :=
  ev_box (hs := [.slice f.s9.A f.s9.n f.s9.c, .slice Ab b.f6.length cb, .slice As s.f6.length cs]) (barTab w ok _) Try.func26 (rad_fbtf_run f fl c z b s) hcs hok (Nat.le_refl _) (fun x hx => by
    simp only [List.mem_cons, List.not_mem_nil, or_false] at hx
    rcases hx with rfl | rfl | rfl | rfl | rfl | rfl
    · exact fontP_V hf (by decide) rfl
    · exact intP_V _
    · exact intP_V _
    · exact boxP_V hb (by decide) rfl
    · exact boxP_V hs (by decide) rfl
    · exact cell_V rfl) rfl
def rad_fbft (f : FV) (fl : List Int) (c : Int) (z : Int) (b : Bx) (s : Bx) : (Bx × Int) × List (Bool × Bool) :=
  let v1 := konstR f.h fl 49 c z
  let v2 := kp 0 v1
  let v3 := konstR f.h fl 51 c z
  let v4 := kp v2.snd v3
  let v5 := konstR f.h fl 52 c z
  let v6 := kp v4.snd v5
  let v7 := needE v6.snd [b, s]
  let v8 := needE v7 []
  let v9 := sumR [v2.fst, v4.fst, b.f2, b.f3]
  let v10 := kp v8 v9
  let v11 := sumR [s.f2, s.f3]
  let v12 := kp v10.snd v11
  let v13 := sumR [b.f2, v2.fst, v4.fst]
  let v14 := kp v12.snd v13
  let v15 := sumR [v14.fst, IntKind.i64.wrap (0 - s.f2)]
  let v16 := kp v14.snd v15
  let v17 := sumR [0, s.f1]
  let v18 := kp v16.snd v17
  let v19 := sumR [v14.fst, IntKind.i64.wrap (0 - v4.fst)]
  let v20 := kp v18.snd v19
  let v21 := sumR [v14.fst, v6.fst]
  let v22 := kp v20.snd v21
  let v23 := sumR [v18.fst, b.f1]
  let v24 := kp v22.snd v23
  (({ f0 := 0, f1 := 0, f2 := 0, f3 := 0, f4 := 0, f5 := 0, f6 := [] }, v24.snd), [(decide (c < 2), false), (v8 != 0, false), (decide (v12.fst > v10.fst), false), (v24.snd != 0, true)])
theorem rad_fbft_run (f : FV) (fl : List Int) (c : Int) (z : Int) (b : Bx) (s : Bx) : Runs1 (ev Try.prog barTy barSp barBo [((55, 7), false), ((26, 71), false), ((26, 100), false), ((64, 13), true)] boxR 26 Try.f26 [.one (fontP f 0 fl), .one (intP c), .one (intP z), .one (boxP b 1), .one (boxP s 2), .one (.c (.v (.slice none 0 0)))] 3) (rad_fbft f fl c z b s).1 (rad_fbft f fl c z b s).2 := ⟨by kernel_rfl⟩
theorem rad_fbft_any (f : FV) (fl : List Int) (c : Int) (z : Int) (b : Bx) (s : Bx) {Ab : Option Addr} {cb : Nat} {As : Option Addr} {cs : Nat} {w : World} {ok : Nat → Prop} (hf : FontF w ok f fl) (hb : BoxAt w ok b Ab cb) (hs : BoxAt w ok s As cs) (hok : ∀ k, ok k → k < w.heap.size) (hcs : Ev.Told (rad_fbft f fl c z b s).2) :
    Calls Try.prog 26 #[f.v, .int .i64 c, .int .i64 z, boxV b Ab cb, boxV s As cs, .slice none 0 0] w (BoxPost (rad_fbft f fl c z b s).1 ok w) :=
  ev_box (hs := [.slice f.s9.A f.s9.n f.s9.c, .slice Ab b.f6.length cb, .slice As s.f6.length cs]) (barTab w ok _) Try.func26 (rad_fbft_run f fl c z b s) hcs hok (Nat.le_refl _) (fun x hx => by
    simp only [List.mem_cons, List.not_mem_nil, or_false] at hx
    rcases hx with rfl | rfl | rfl | rfl | rfl | rfl
    · exact fontP_V hf (by decide) rfl
    · exact intP_V _
    · exact intP_V _
    · exact boxP_V hb (by decide) rfl
    · exact boxP_V hs (by decide) rfl
    · exact cell_V rfl) rfl
def rad_fbff (f : FV) (fl : List Int) (c : Int) (z : Int) (b : Bx) (s : Bx) : (Bx × Int) × List (Bool × Bool) :=
  let v1 := konstR f.h fl 49 c z
  let v2 := kp 0 v1
  let v3 := konstR f.h fl 51 c z
  let v4 := kp v2.snd v3
  let v5 := konstR f.h fl 52 c z
  let v6 := kp v4.snd v5
  let v7 := needE v6.snd [b, s]
  let v8 := needE v7 []
  let v9 := sumR [v2.fst, v4.fst, b.f2, b.f3]
  let v10 := kp v8 v9
  let v11 := sumR [s.f2, s.f3]
  let v12 := kp v10.snd v11
  let v13 := sumR [b.f2, v2.fst, v4.fst]
  let v14 := kp v12.snd v13
  let v15 := sumR [v14.fst, IntKind.i64.wrap (0 - s.f2)]
  let v16 := kp v14.snd v15
  let v17 := sumR [0, s.f1]
  let v18 := kp v16.snd v17
  let v19 := sumR [v14.fst, IntKind.i64.wrap (0 - v4.fst)]
  let v20 := kp v18.snd v19
  let v21 := sumR [v14.fst, v6.fst]
  let v22 := kp v20.snd v21
  let v23 := sumR [v18.fst, b.f1]
  let v24 := kp v22.snd v23
  let v25 := setR v24.fst [{ f0 := 0, f1 := v16.fst, f2 := s }, { f0 := v18.fst, f1 := v20.fst, f2 := { f0 := 2, f1 := b.f1, f2 := v4.fst, f3 := 0, f4 := 0, f5 := 0, f6 := [] } }, { f0 := v18.fst, f1 := 0, f2 := b }, { f0 := 0, f1 := 0, f2 := { f0 := 0, f1 := 0, f2 := v22.fst, f3 := 0, f4 := 0, f5 := 0, f6 := [] } }]
  (v25, [(decide (c < 2), false), (v8 != 0, false), (decide (v12.fst > v10.fst), false), (v24.snd != 0, false)])
theorem rad_fbff_vars (f : FV) (fl : List Int) (c : Int) (z : Int) (b : Bx) (s : Bx) : ∃ v1, v1 = konstR f.h fl 49 c z ∧ ∃ v2, v2 = kp 0 v1 ∧ ∃ v3, v3 = konstR f.h fl 51 c z ∧ ∃ v4, v4 = kp v2.snd v3 ∧ ∃ v5, v5 = konstR f.h fl 52 c z ∧ ∃ v6, v6 = kp v4.snd v5 ∧ ∃ v7, v7 = needE v6.snd [b, s] ∧ ∃ v8, v8 = needE v7 [] ∧ ∃ v9, v9 = sumR [v2.fst, v4.fst, b.f2, b.f3] ∧ ∃ v10, v10 = kp v8 v9 ∧ ∃ v11, v11 = sumR [s.f2, s.f3] ∧ ∃ v12, v12 = kp v10.snd v11 ∧ ∃ v13, v13 = sumR [b.f2, v2.fst, v4.fst] ∧ ∃ v14, v14 = kp v12.snd v13 ∧ ∃ v15, v15 = sumR [v14.fst, IntKind.i64.wrap (0 - s.f2)] ∧ ∃ v16, v16 = kp v14.snd v15 ∧ ∃ v17, v17 = sumR [0, s.f1] ∧ ∃ v18, v18 = kp v16.snd v17 ∧ ∃ v19, v19 = sumR [v14.fst, IntKind.i64.wrap (0 - v4.fst)] ∧ ∃ v20, v20 = kp v18.snd v19 ∧ ∃ v21, v21 = sumR [v14.fst, v6.fst] ∧ ∃ v22, v22 = kp v20.snd v21 ∧ ∃ v23, v23 = sumR [v18.fst, b.f1] ∧ ∃ v24, v24 = kp v22.snd v23 ∧ ∃ v25, v25 = setR v24.fst [{ f0 := 0, f1 := v16.fst, f2 := s }, { f0 := v18.fst, f1 := v20.fst, f2 := { f0 := 2, f1 := b.f1, f2 := v4.fst, f3 := 0, f4 := 0, f5 := 0, f6 := [] } }, { f0 := v18.fst, f1 := 0, f2 := b }, { f0 := 0, f1 := 0, f2 := { f0 := 0, f1 := 0, f2 := v22.fst, f3 := 0, f4 := 0, f5 := 0, f6 := [] } }] ∧ rad_fbff f fl c z b s = (v25, [(decide (c < 2), false), (v8 != 0, false), (decide (v12.fst > v10.fst), false), (v24.snd != 0, false)]) := ⟨_, rfl, _, rfl, _, rfl, _, rfl, _, rfl, _, rfl, _, rfl, _, rfl, _, rfl, _, rfl, _, rfl, _, rfl, _, rfl, _, rfl, _, rfl, _, rfl, _, rfl, _, rfl, _, rfl, _, rfl, _, rfl, _, rfl, _, rfl, _, rfl, _, rfl, by kernel_rfl⟩
theorem rad_fbff_run (f : FV) (fl : List Int) (c : Int) (z : Int) (b : Bx) (s : Bx) : Runs1 (ev Try.prog barTy barSp barBo [((55, 7), false), ((26, 71), false), ((26, 100), false), ((64, 13), false)] boxR 26 Try.f26 [.one (fontP f 0 fl), .one (intP c), .one (intP z), .one (boxP b 1), .one (boxP s 2), .one (.c (.v (.slice none 0 0)))] 3) (rad_fbff f fl c z b s).1 (rad_fbff f fl c z b s).2 := ⟨by kernel_rfl⟩
theorem rad_fbff_any (f : FV) (fl : List Int) (c : Int) (z : Int) (b : Bx) (s : Bx) {Ab : Option Addr} {cb : Nat} {As : Option Addr} {cs : Nat} {w : World} {ok : Nat → Prop} (hf : FontF w ok f fl) (hb : BoxAt w ok b Ab cb) (hs : BoxAt w ok s As cs) (hok : ∀ k, ok k → k < w.heap.size) (hcs : Ev.Told (rad_fbff f fl c z b s).2) :
    Calls Try.prog 26 #[f.v, .int .i64 c, .int .i64 z, boxV b Ab cb, boxV s As cs, .slice none 0 0] w (BoxPost (rad_fbff f fl c z b s).1 ok w) :=
  ev_box (hs := [.slice f.s9.A f.s9.n f.s9.c, .slice Ab b.f6.length cb, .slice As s.f6.length cs]) (barTab w ok _) Try.func26 (rad_fbff_run f fl c z b s) hcs hok (Nat.le_refl _) (fun x hx => by
    simp only [List.mem_cons, List.not_mem_nil, or_false] at hx
    rcases hx with rfl | rfl | rfl | rfl | rfl | rfl
    · exact fontP_V hf (by decide) rfl
    · exact intP_V _
    · exact intP_V _
    · exact boxP_V hb (by decide) rfl
    · exact boxP_V hs (by decide) rfl
    · exact cell_V rfl) rfl
end Go.Proofs.Ytfbiahlogclkbaa.H
