/- The proof's texts KonA: what the statement leads to. No condition is added. -/
import Derived.Test.YtfbiahlogclkbaaBinC
import Derived.StillTactics
import Derived.Deep.RegionHeld3
import Derived.Deep.AppendLies
import Derived.Deep.RegionLaw
import Derived.Deep.RegionHeldLaw
set_option linter.unusedVariables false
set_option linter.unusedSimpArgs false
namespace Go.Proofs.Ytfbiahlogclkbaa.H
open Go.RowKit Go.Proofs.YtfbiahlogclkbaaW.PrintWords Go.Proofs.YtfbiahlogclkbaaW.PrintLast Go.Proofs.YtfbiahlogclkbaaW.PrintMore Go.Proofs.Ytfbiahlogclkbaa.P

theorem infoInt : (Try.prog.info? 3).map (fun i => (i.zero, i.size, i.bytes)) = some (some (.int .i64 0), 1, 8) := by kernel_rfl

/-- A variable in a block of its own that holds a row of the call's own. -/
def Held (W : World) (B b : Nat) (xs : List Int) : Prop := B ≤ b ∧ ∃ v, W.heap[b]? = some (.cells #[v] 27 (0, 0)) ∧ W.ownsRow B 3 1 v xs.length (nums .i64 xs)
theorem Held.ne {W : World} {B b : Nat} {v : Value} {n : Nat} {xs : List Value} (hb : W.heap[b]? = some (.cells #[v] 27 (0, 0))) (ho : W.ownsRow B 3 1 v n xs) : v.ownBlock ≠ some b := Lib.ownBlock_ne ho hb (by decide)

theorem held_put {W : World} {B b : Nat} {v v' : Value} {xs : List Int} (hb : W.heap[b]? = some (.cells #[v] 27 (0, 0))) (ho : W.ownsRow B 3 1 v' xs.length (nums .i64 xs)) :
    (W.setCell ⟨b, 0, none⟩ v').heap[b]? = some (.cells #[v'] 27 (0, 0)) ∧ (W.setCell ⟨b, 0, none⟩ v').ownsRow B 3 1 v' xs.length (nums .i64 xs) :=
  ⟨one_setCell hb, ownsRow_setCell_other ho (a := ⟨b, 0, none⟩) (Lib.ownBlock_ne ho hb (by decide)) _⟩
theorem nums_snoc (xs : List Int) (x : Int) : nums .i64 xs ++ [Value.int .i64 x] = nums .i64 (xs ++ [x]) := by simp [nums]

set_option maxRecDepth 100000 in
set_option maxHeartbeats 3200000 in
theorem konstPut1_any (B b b2 : Nat) (A : Option Addr) (c k : Nat) (size : Int) (more : Bool) (l xs : List Int) (w : World) (h0 : Held w B b xs) (hx : xs.length ≤ 1048576) (hBw : B ≤ w.heap.size) (h2 : w.heap[b2]? = some (.cells #[.slice A l.length c] 27 (0, 0))) (h2b : b2 ≠ b) (hr : Kd.C (Kd.int .i64) w A l.length l) (hk : k < l.length) (hlow : ∀ ad, A = some ad → ad.block < B) (h2B : b2 < B ∨ True) :
    Calls Try.prog 117 #[.int .i64 k, .int .i64 size, .bool more, .pointer (some ⟨b, 0, none⟩), .pointer (some ⟨b2, 0, none⟩)] w fun e w' => e = .returned (.tuple #[]) ∧ Held w' B b (xs ++ (if more = true then [rd l k, 0] else [rd l k])) ∧ Below B w w' ∧ w'.heap[b2]? = some (.cells #[.slice A l.length c] 27 (0, 0)) := by
  obtain ⟨hB, v, hv, hown⟩ := h0
  obtain ⟨ad, hA, hcell⟩ := Kd_int_at hr k hk
  subst hA
  have hm := hr.2.1
  have had := hlow ad rfl
  obtain ⟨i0, hi0, hz0, hz1, hz2⟩ := info_parts infoInt
  have hne := Held.ne hv hown
  have c0 : w.cell? ⟨b, 0, none⟩ = some v := blk_cell hv 0
  have f0 := blk_frozen hv 0
  have c2 : w.cell? ⟨b2, 0, none⟩ = some (.slice (some ad) l.length c) := blk_cell h2 0
  have lb := blk_lt hv
  have lb2 := blk_lt h2
  have la := World.block_lt_of_cell? w _ hcell
  have hkk : (0 : Int) ≤ (k : Int) := by omega
  have hkl : (k : Int) < (l.length : Int) := by omega
  have HV := Aside0.mk hv
  have HOW := Aside0.mk hown
  have H2 := Aside0.mk h2
  clear hv hown h2 hr hlow
  go_enter Try.func117, Try.ntmps117
  go_wp2_with fail
  have e1 : xs.length + 1 ≤ maxLen := by unfold maxLen; omega
  have e2 : (xs.length + 1) * 8 ≤ 140737488355328 := by omega
  have e3 : B ≤ (w.alloc (.cells #[.int .i64 (rd l k)] 3)).drew.heap.size := by simp; omega
  have e4 : (w.alloc (.cells #[.int .i64 (rd l k)] 3)).drew.heap.size = w.heap.size + 1 := by simp
  have e5 : ∀ u ∈ [Value.int .i64 (rd l k)], u.oneCell' = true := by simp [Value.oneCell']
  have e6 : ∀ j u, [Value.int .i64 (rd l k)][j]? = some u → (w.alloc (.cells #[.int .i64 (rd l k)] 3)).drew.cell? ((⟨w.heap.size, 0, none⟩ : Addr).add j) = some u := World.news_of_block (cs := #[.int .i64 (rd l k)]) (t := 3) (fr := (0, 0)) (heap_alloc_new w _)
  have e7 := ((HOW.out.alloc (.cells #[.int .i64 (rd l k)] 3)).drew)
  have HNE2 : Aside0 (v.ownBlock ≠ some b2) := ⟨Lib.ownBlock_ne HOW.out H2.out (by decide)⟩
  have HADB : Aside0 ((ad.add k).block < B) := ⟨by unfold Addr.add; split <;> simpa using had⟩
  have HCELL := Aside0.mk hcell
  have E1 := Aside0.mk e1
  have E2 := Aside0.mk e2
  have E3 := Aside0.mk e3
  have E4 := Aside0.mk e4
  have E5 := Aside0.mk e5
  have E6 := Aside0.mk e6
  have E7 := Aside0.mk e7
  clear e1 e2 e3 e4 e5 e6 e7
  go_region_law ((refine step_append_lies (w.alloc (.cells #[.int .i64 (rd l k)] 3)).drew rfl (.tmp 8) (.tmp 13) 27 rfl B 3 i0 (.int .i64 0) 1 8 Try.underlying27 hi0 hz0 hz1 hz2 rfl (by decide) v xs.length (nums .i64 xs) rfl E7.out ⟨w.heap.size, 0, none⟩ 1 1 [.int .i64 (rd l k)] rfl rfl E6.out E5.out (by decide) E1.out E2.out E3.out (w.heap.size + 1) E4.out ?_; intro gg cap w1 hown1 hgrow hat hlt; have d0 := blk_grown (blk_drew (blk_alloc HV.out (.cells #[.int .i64 (rd l k)] 3))) hgrow (fun e => hne e.symm); have d1 : w1.cell? ⟨b, 0, none⟩ = some v := blk_cell d0 0; have d2 := blk_frozen d0 0; have d3 : w1.cell? ⟨b2, 0, none⟩ = some (.slice (some ad) l.length c) := blk_cell (blk_grown (blk_drew (blk_alloc H2.out (.cells #[.int .i64 (rd l k)] 3))) hgrow (fun e => HNE2.out e.symm)) 0; have d4 : w1.cell? (ad.add k) = some (.int .i64 (rd l k)) := (((below_drew ((Below.refl B w).alloc hBw (.cells #[.int .i64 (rd l k)] 3))).grown hgrow E3.out (fun q hq => own_base HOW.out q hq)).cell (p := ad.add k) HADB.out).trans HCELL.out))
  all_goals
    have hP := held_put (xs := xs ++ [rd l k]) d0 (by rw [List.length_append, ← nums_snoc]; exact hown1)
    have hne2 : v.ownBlock ≠ some b2 := Lib.ownBlock_ne HOW.out H2.out (by decide)
    have g2 := blk_far (blk_grown (blk_drew (blk_alloc H2.out (.cells #[.int .i64 (rd l k)] 3))) hgrow (fun e => hne2 e.symm)) (p := ⟨b, 0, none⟩) h2b (.slice (some ⟨gg, 0, none⟩) (xs.length + 1) cap)
    have hBel : Below B w (w1.setCell ⟨b, 0, none⟩ (.slice (some ⟨gg, 0, none⟩) (xs.length + 1) cap)) := below_own (((Below.refl B w).alloc hBw _ |> below_drew).grown hgrow E3.out (fun q hq => own_base HOW.out q hq)) b 0 hB _
    have hsz : w.heap.size ≤ (w1.setCell ⟨b, 0, none⟩ (.slice (some ⟨gg, 0, none⟩) (xs.length + 1) cap)).heap.size := by have := hgrow.size; simp at this ⊢; omega
    have HP := Aside0.mk hP
    have G2 := Aside0.mk g2
    have HBEL := Aside0.mk hBel
    clear hP g2 hBel hown1 hgrow hat d0 d1 d2 d3 d4 HNE2 HADB HCELL E1 E2 E3 E4 E5 E6 E7 HV HOW H2 hne hne2
    obtain ⟨w2, hw2⟩ : ∃ w2, w2 = w1.setCell ⟨b, 0, none⟩ (.slice (some ⟨gg, 0, none⟩) (xs.length + 1) cap) := ⟨_, rfl⟩
    rw [← hw2] at HP G2 HBEL hsz ⊢
    clear hw2
    have k0 : w2.cell? ⟨b, 0, none⟩ = some (.slice (some ⟨gg, 0, none⟩) (xs.length + 1) cap) := blk_cell HP.out.1 0
    have k1 := blk_frozen HP.out.1 0
    cases more with
    | false =>
      go_wp2
      go_end0
      exact ⟨rfl, ⟨hB, _, HP.out.1, by simpa using HP.out.2⟩, HBEL.out, G2.out⟩
    | true =>
      go_wp2_with (at_builtin; refine wpList_append_own _ rfl (.tmp 16) (.tmp 17) 27 rfl B 3 i0 (.int .i64 0) 1 8 Try.underlying27 hi0 hz0 hz1 hz2 rfl (by decide) _ _ _ rfl (HP.out.2.alloc _) ⟨w2.heap.size, 0, none⟩ 1 1 [.int .i64 0] rfl rfl ?c1 ?c2 ?c3 ?c4 ?c5 ?_)
      case c1 =>
        intro j u hj
        match j, hj with
        | 0, hj => simp at hj; subst hj; simp [Addr.add]
      case c2 => intro u hu; simp at hu; subst hu; rfl
      case c3 => simp; unfold maxLen; omega
      case c4 => simp; omega
      case c5 => simp; omega
      intro v' w3 hown' hgrow _
      have hne := Lib.ownBlock_ne HP.out.2 HP.out.1 (by decide)
      have hne2 := Lib.ownBlock_ne HP.out.2 G2.out (by decide)
      have d0 := blk_grown (blk_alloc HP.out.1 (.cells #[.int .i64 0] 3)) hgrow (fun e => hne e.symm)
      have g3 := blk_grown (blk_alloc G2.out (.cells #[.int .i64 0] 3)) hgrow (fun e => hne2 e.symm)
      have d1 : w3.cell? ⟨b, 0, none⟩ = some (.slice (some ⟨gg, 0, none⟩) (xs.length + 1) cap) := blk_cell d0 0
      have d2 := blk_frozen d0 0
      have hP := held_put (xs := xs ++ [rd l k, 0]) d0 (by have := hown'; simpa [nums] using this)
      have g4 := blk_far g3 (p := ⟨b, 0, none⟩) h2b v'
      have hBel : Below B w (w3.setCell ⟨b, 0, none⟩ v') := below_own ((HBEL.out.alloc (by omega) _).grown hgrow (by simp; omega) (fun q hq => own_base HP.out.2 q hq)) b 0 hB _
      have HP2 := Aside0.mk hP
      have G4 := Aside0.mk g4
      have HB2 := Aside0.mk hBel
      clear hP g3 g4 hBel hne hne2 hgrow hown' d0
      obtain ⟨s0, n0, c0', rfl⟩ : ∃ s0 n0 c0', v' = .slice s0 n0 c0' := by
        obtain ⟨A, c, h⟩ := own_slice HP2.out.2
        exact ⟨_, _, _, h⟩
      go_wp2
      go_end0
      exact ⟨rfl, ⟨hB, _, HP2.out.1, by simpa using HP2.out.2⟩, HB2.out, G4.out⟩
end Go.Proofs.Ytfbiahlogclkbaa.H
