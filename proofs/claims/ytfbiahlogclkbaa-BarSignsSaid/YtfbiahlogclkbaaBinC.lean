/- The proof's texts BinA BinB BinC: what the statement leads to. No condition is added. -/
import Derived.Test.YtfbiahlogclkbaaHeadA
import Derived.Shelf.Strings.Builder1
import Derived.Test.YtfbiahlogclkbaaPx
set_option linter.unusedVariables false
set_option linter.unusedSimpArgs false
namespace Go.Proofs.Ytfbiahlogclkbaa.H
open Go.RowKit Go.Proofs.YtfbiahlogclkbaaW.PrintWords Go.Proofs.YtfbiahlogclkbaaW.PrintLast Go.Proofs.YtfbiahlogclkbaaW.PrintMore Go.Proofs.Ytfbiahlogclkbaa.P

theorem sizeBuilder : (Try.prog.info? 143).map (·.size) = some 2 := by kernel_rfl
theorem liesBuilder : liesAt Try.prog Try.prog.depth 143 (2 / Try.prog.cellsOf 143) 0 143 1 = true := by kernel_rfl
theorem infoByte : (Try.prog.info? 5).map (fun i => (i.zero, i.size, i.bytes)) = some (some (.int .u8 0), 1, 1) := by kernel_rfl

abbrev IsB := Lib.IsBuilder 143 5
abbrev BAt := Lib.BuilderAt 143 5

set_option maxHeartbeats 1000000 in
set_option maxRecDepth 100000 in
theorem copyCheck_used (b : Nat) (w : World) (h0 : w.cell? ⟨b, 0, none⟩ = some (.pointer (some ⟨b, 0, none⟩))) :
    Calls Try.prog 131 #[.pointer (some ⟨b, 0, none⟩)] w fun e w' => e = .returned (.tuple #[]) ∧ w' = w := by
  obtain ⟨j, hj, _⟩ := Option.map_eq_some_iff.1 sizeBuilder
  go_enter Try.func131, Try.ntmps131
  go_wp2
  rw [Lib.run_neq_ptr_same w _ Try.underlying140 hj]
  go_wp2
  go_end0
  exact ⟨rfl, rfl⟩

set_option maxHeartbeats 1000000 in
set_option maxRecDepth 100000 in
theorem copyCheck_fresh (b : Nat) (w : World) (h0 : w.cell? ⟨b, 0, none⟩ = some (.pointer none)) (hsh : w.shape? b = some (143, 2)) (hfz : w.frozen? ⟨b, 0, none⟩ = false) :
    Calls Try.prog 131 #[.pointer (some ⟨b, 0, none⟩)] w fun e w' => e = .returned (.tuple #[]) ∧ w' = w.setCell ⟨b, 0, none⟩ (.pointer (some ⟨b, 0, none⟩)) := by
  obtain ⟨j, hj, hjs⟩ := Option.map_eq_some_iff.1 sizeBuilder
  go_enter Try.func131, Try.ntmps131
  go_wp2
  rw [Lib.run_to_unsafe w ⟨b, 0, none⟩ Try.underlying140 Try.underlying149 hj (by rw [hjs]; decide) hsh (Nat.zero_lt_succ 1)]
  simp only [Result.andThen]
  rw [Oper.upon_value]
  go_wp2
  rw [run_callFunc_extern Try.func132 (by kernel_rfl) (by kernel_rfl) (by kernel_rfl) (e := Extern.AbiNoEscape.same) (by kernel_rfl)]
  rw [Lib.run_noEscape]
  simp only [Result.andThen]
  rw [Oper.upon_value]
  go_wp2
  rw [Lib.run_from_unsafe w ⟨b, 0, none⟩ Try.underlying149 Try.underlying140 hj hsh liesBuilder]
  simp only [Result.andThen]
  rw [Oper.upon_value]
  go_wp2
  go_end0
  exact ⟨rfl, rfl⟩

theorem copyCheck_any (B b : Nat) (bs : List Value) (w : World) (h : IsB B b bs w) :
    Calls Try.prog 131 #[.pointer (some ⟨b, 0, none⟩)] w fun e w' => e = .returned (.tuple #[]) ∧ BAt B b (.pointer (some ⟨b, 0, none⟩)) bs w' ∧ Below B w w' := by
  rcases h with h | h
  · refine (copyCheck_fresh b w h.cell0 h.shape h.frozen0).mono ?_
    rintro e w' ⟨rfl, rfl⟩
    exact ⟨rfl, h.used _, (Below.refl B w).setCell (p := ⟨b, 0, none⟩) h.1 _⟩
  · refine (copyCheck_used b w h.cell0).mono ?_
    rintro e w' ⟨rfl, rfl⟩
    exact ⟨rfl, h, Below.refl B _⟩

set_option maxHeartbeats 2000000 in
set_option maxRecDepth 100000 in
theorem WriteByte_any (B b : Nat) (bs : List Value) (c : Int) (w : World) (h : IsB B b bs w) (hlen : bs.length + 1 ≤ 140737488355328) (hBw : B ≤ w.heap.size) :
    Calls Try.prog 126 #[.pointer (some ⟨b, 0, none⟩), .int .u8 c] w fun e w' => e = .returned .nilIface ∧ BAt B b (.pointer (some ⟨b, 0, none⟩)) (bs ++ [.int .u8 c]) w' ∧ Below B w w' := by
  obtain ⟨i0, hi, hz0, hz1, hz2⟩ := info_parts infoByte
  go_enter Try.func126, Try.ntmps126
  go_wp2_with (go_at_call 131; refine (copyCheck_any B b bs _ h).mono ?_)
  rintro e w1 ⟨rfl, h1, hb1⟩
  obtain ⟨hB, v, hbk, hown, hne⟩ := h1
  have c0 : w1.cell? ⟨b, 0, none⟩ = some (.pointer (some ⟨b, 0, none⟩)) := by rw [Lib.cell_of_heap hbk]; rfl
  have c1 : w1.cell? ⟨b, 1, none⟩ = some v := by rw [Lib.cell_of_heap hbk]; rfl
  go_wp2_with (at_builtin; refine wpList_append_own _ rfl _ _ 141 rfl B 5 i0 (.int .u8 0) 1 1 Try.underlying141 hi hz0 hz1 hz2 rfl (by decide) _ _ _ rfl (hown.alloc _) ⟨w1.heap.size, 0, none⟩ 1 1 [.int .u8 c] rfl rfl ?c1 ?c2 ?c3 ?c4 ?c5 ?_)
  case c1 =>
    intro j u hj
    match j, hj with
    | 0, hj => simp at hj; subst hj; simp [Addr.add]
  case c2 => intro u hu; simp at hu; subst hu; rfl
  case c3 => unfold maxLen; omega
  case c4 => omega
  case c5 => have := hb1.size; simp; omega
  intro v' w2 hown' hgrow _
  have hlt : b < w1.heap.size := blk_lt hbk
  have hb2 : w2.heap[b]? = some (.cells #[.pointer (some ⟨b, 0, none⟩), v] 143 (0, 0)) := by
    rw [hgrow.block b (by simp; omega) (fun e => hne e.symm), Lib.alloc_old w1 _ b hlt]
    exact hbk
  have d0 : w2.cell? ⟨b, 0, none⟩ = some (.pointer (some ⟨b, 0, none⟩)) := by rw [Lib.cell_of_heap hb2]; rfl
  have d1 : w2.cell? ⟨b, 1, none⟩ = some v := by rw [Lib.cell_of_heap hb2]; rfl
  have f1 : w2.frozen? ⟨b, 1, none⟩ = false := Lib.frozen_of_heap hb2 1
  obtain ⟨g, cap, rfl⟩ : ∃ g cap, v' = .slice (some ⟨g, 0, none⟩) (bs.length + 1) cap := by
    rcases hown'.2 with ⟨_, h0⟩ | ⟨g, cap, cur, hv, _⟩
    · omega
    · exact ⟨g, cap, hv⟩
  go_wp2
  go_ret
  refine ⟨rfl, ?_, ?_⟩
  · exact Lib.BuilderAt.put (T := 143) (e := 5) hB hb2 (bs' := bs ++ [.int .u8 c]) (by simpa using hown') (by decide)
  · exact ((hb1.alloc (by have := hb1.size; omega) _).grown hgrow (by have := hb1.size; simp; omega) (fun k hk => (hown.lt k hk).1)).setCell (p := ⟨b, 1, none⟩) hB _
end Go.Proofs.Ytfbiahlogclkbaa.H

set_option linter.unusedVariables false
set_option linter.unusedSimpArgs false
namespace Go.Proofs.Ytfbiahlogclkbaa.H
open Go.RowKit Go.Proofs.YtfbiahlogclkbaaW.PrintWords Go.Proofs.YtfbiahlogclkbaaW.PrintLast Go.Proofs.YtfbiahlogclkbaaW.PrintMore Go.Proofs.Ytfbiahlogclkbaa.P Go.Shelf
attribute [local go_sem] max2_int min2_int

def lays169_ren : Go.Shelf.Ren := ⟨fun | 169 => 127 | n => n, fun | 70 => 140 | 9 => 9 | 0 => 0 | 72 => 143 | 37 => 141 | 127 => 148 | 3 => 3 | 5 => 5 | n => n, fun | n => n⟩
theorem lays169 : Go.Proofs.Lays.n169 Try.prog lays169_ren := {
  mixed := by kernel_rfl
  f169 := Try.func127.trans (congrArg some (by kernel_rfl))
  t0 := Try.underlying0
  a0 := Try.isAgg0
  z0 := Try.sizeOf0
  v0 := Try.zeroValue0
  t3 := Try.underlying3
  a3 := Try.isAgg3
  z3 := Try.sizeOf3
  v3 := Try.zeroValue3
  t9 := Try.underlying9
  a9 := Try.isAgg9
  z9 := Try.sizeOf9
  v9 := Try.zeroValue9
  t37 := Try.underlying141
  a37 := Try.isAgg141
  z37 := Try.sizeOf141
  v37 := Try.zeroValue141
  t70 := Try.underlying140
  a70 := Try.isAgg140
  z70 := Try.sizeOf140
  v70 := Try.zeroValue140
  t72 := Try.underlying143
  a72 := Try.isAgg143
  z72 := Try.sizeOf143
  v72 := Try.zeroValue143
  t127 := Try.underlying148
  a127 := Try.isAgg148
  z127 := Try.sizeOf148
  v127 := Try.zeroValue148 }
theorem extra169 : Builder.Extra Try.prog lays169_ren := {
  sizeBuilder := by kernel_rfl
  liesBuilder := by kernel_rfl
  t5 := Try.underlying5
  a5 := Try.isAgg5
  z5 := Try.sizeOf5
  v5 := Try.zeroValue5
  infoByte := by kernel_rfl
  cellsByte := by kernel_rfl
  sizeByte := by kernel_rfl
  neB5 := by decide }
theorem String_any (B b : Nat) (l : List UInt8) (w : World) (h : IsB B b (Lib.byteCells l) w) (hBw : B ≤ w.heap.size) :
    Calls Try.prog 127 #[.pointer (some ⟨b, 0, none⟩)] w fun e w' => e = .returned (.string ⟨l.toArray⟩) ∧ Below B w w' := Any.Builder_String_any lays169 extra169 B b l w h hBw

/-- Sizes of two bytes each, with a sign or without. -/
def twos (ss : List Int) : Prop := ∀ s ∈ ss, s = -2 ∨ s = 2
theorem twos_rd {ss : List Int} (h : twos ss) (i : Nat) (hi : i < ss.length) : rd ss i = -2 ∨ rd ss i = 2 := by
  have := h (ss[i]) (List.getElem_mem hi)
  unfold rd
  simpa [List.getD_eq_getElem?_getD, List.getElem?_eq_getElem hi] using this
theorem bin_right_l0 (l : List Int) (h2 : twos l) (hl : l.length ≤ 9223372036854775807) (d : Nat) : ∀ (k i : Nat), i ≤ l.length → l.length - i = d → d < k → bin_right.l0 k l (l.length : Int) i = some true := by
  induction d with
  | zero =>
    intro k i h0 hd hk
    obtain ⟨k, rfl⟩ : ∃ m, k = m + 1 := ⟨k - 1, by omega⟩
    simp only [bin_right.l0]
    rw [if_neg (by omega)]
  | succ d ih =>
    intro k i h0 hd hk
    obtain ⟨k, rfl⟩ : ∃ m, k = m + 1 := ⟨k - 1, by omega⟩
    have hlt : i < l.length := by omega
    have ih' := ih k (i + 1) (by omega) (by omega) (by omega)
    have hr := twos_rd h2 i hlt
    simp only [bin_right.l0]
    rw [if_pos (by omega), if_pos (by omega), if_pos (by omega), if_neg (by omega), if_neg (by omega), if_neg (by omega), wrap_one i l.length hlt hl, ih']
theorem binRight_any (A : Option Addr) (c : Nat) (l : List Int) (w : World) (h2 : twos l) (hr : Kd.C (Kd.int .i64) w A l.length l) (hc : l.length ≤ c) :
    Calls Try.prog 124 #[.slice A l.length c] w fun e w' => e = .returned (.bool true) ∧ Below w.heap.size w w' :=
  (bin_right.calls (l.length + 1) A c l true w hr hc (by
    have h := bin_right_l0 l h2 hr.2.1 l.length (l.length + 1) 0 (by omega) (by omega) (by omega)
    simpa [bin_right.f] using h)).mono fun e w' h => ⟨h.1, h.2.below⟩

/-- A number fits into two bytes. -/
def fits2 (v s : Int) : Bool := if s < 0 then decide (-32768 ≤ v ∧ v < 32768) else decide (0 ≤ v ∧ v < 65536)
theorem fits_any (v s : Int) (hs : s = -2 ∨ s = 2) (w : World) :
    Calls Try.prog 125 #[.int .i64 v, .int .i64 s] w fun e w' => e = .returned (.bool (fits2 v s)) ∧ w = w' := by
  rcases hs with rfl | rfl
  · by_cases h1 : -32768 ≤ v
    · by_cases h2 : v < 32768
      · have HS : Aside0 (fits2 v (-2) = true) := ⟨by simp [fits2, h1, h2]⟩
        go_enter Try.func125, Try.ntmps125
        go_wp2
        go_ret
        exact ⟨by rw [HS.out]; rfl, rfl⟩
      · have HS : Aside0 (fits2 v (-2) = false) := ⟨by simp [fits2, h2]⟩
        go_enter Try.func125, Try.ntmps125
        go_wp2
        go_ret
        exact ⟨by rw [HS.out]; rfl, rfl⟩
    · have HS : Aside0 (fits2 v (-2) = false) := ⟨by simp [fits2, h1]⟩
      go_enter Try.func125, Try.ntmps125
      go_wp2
      go_ret
      exact ⟨by rw [HS.out]; rfl, rfl⟩
  · by_cases h1 : 0 ≤ v
    · by_cases h2 : v < 65536
      · have HS : Aside0 (fits2 v 2 = true) := ⟨by simp [fits2, h1, h2]⟩
        go_enter Try.func125, Try.ntmps125
        go_wp2
        go_ret
        exact ⟨by rw [HS.out]; rfl, rfl⟩
      · have HS : Aside0 (fits2 v 2 = false) := ⟨by simp [fits2, h2]⟩
        go_enter Try.func125, Try.ntmps125
        go_wp2
        go_ret
        exact ⟨by rw [HS.out]; rfl, rfl⟩
    · have HS : Aside0 (fits2 v 2 = false) := ⟨by simp [fits2, h1]⟩
      go_enter Try.func125, Try.ntmps125
      go_wp2
      go_ret
      exact ⟨by rw [HS.out]; rfl, rfl⟩
end Go.Proofs.Ytfbiahlogclkbaa.H

set_option linter.unusedVariables false
set_option linter.unusedSimpArgs false
namespace Go.Proofs.Ytfbiahlogclkbaa.H
open Go.RowKit Go.Proofs.YtfbiahlogclkbaaW.PrintWords Go.Proofs.YtfbiahlogclkbaaW.PrintLast Go.Proofs.YtfbiahlogclkbaaW.PrintMore Go.Proofs.Ytfbiahlogclkbaa.P
attribute [local go_sem] max2_int min2_int

def fitsAll (ss vs : List Int) : Bool := (List.range ss.length).all fun i => fits2 (rd vs (i : Nat)) (rd ss (i : Nat))
theorem fitsAll_no {ss vs : List Int} (i : Nat) (hi : i < ss.length) (h : fits2 (rd vs i) (rd ss i) = false) : fitsAll ss vs = false := by
  unfold fitsAll
  rw [List.all_eq_false]
  exact ⟨i, List.mem_range.2 hi, by simp [h]⟩
theorem fitsAll_yes {ss vs : List Int} (h : ∀ i : Nat, i < ss.length → fits2 (rd vs i) (rd ss i) = true) : fitsAll ss vs = true := by
  unfold fitsAll
  rw [List.all_eq_true]
  exact fun i hi => h i (List.mem_range.1 hi)
def putE (ss vs : List Int) : Int := if fitsAll ss vs = true then 0 else 2
theorem byte_of (z : Int) : ∃ u : UInt8, z % 256 = (u.toNat : Int) := ⟨UInt8.ofNat (z % 256).toNat, by
  rw [UInt8.toNat_ofNat']
  omega⟩

def PutPost (r : Int) (w : World) (e : Ending) (w' : World) : Prop := ∃ s, e = .returned (.tuple #[.string s, .int .i64 r]) ∧ Below w.heap.size w w'
set_option maxHeartbeats 4000000 in
set_option maxRecDepth 100000 in
theorem Put_any0 (A A' : Option Addr) (c c' : Nat) (ss vs : List Int) (w : World) (h2 : twos ss) (hlen : vs.length = ss.length) (hmany : ss.length ≤ 1048576) (hr : Kd.C (Kd.int .i64) w A ss.length ss) (hc : ss.length ≤ c) (hr' : Kd.C (Kd.int .i64) w A' vs.length vs) (hc' : vs.length ≤ c') :
    Calls Try.prog 118 #[.slice A ss.length c, .slice A' vs.length c'] w (PutPost (putE ss vs) w) := by
  have HR := Aside0.mk hr
  have HR' := Aside0.mk hr'
  have HL := Aside0.mk hlen
  have H2 := Aside0.mk h2
  clear hr hr' hlen h2
  have hne : ((ss.length : Int) != (vs.length : Int)) = false := by rw [bne_eq_false_iff_eq, HL.out]
  have hne2 : (ss.length != vs.length) = false := by rw [bne_eq_false_iff_eq, HL.out]
  go_enter Try.func118, Try.ntmps118
  go_wp2_with (go_at_call 124; refine (binRight_any _ _ _ _ H2.out HR.out hc).mono ?_; rintro e w1 ⟨rfl, hb1⟩)
  obtain ⟨B, hB⟩ : ∃ B, B = w1.heap.size := ⟨_, rfl⟩
  rw [← hB]
  have HB := Aside0.mk hB
  have hBw : w.heap.size ≤ B := by have := hb1.size; omega
  clear hB
  go_loopw [22] (fun i wr => ∃ (k : Nat) (l : List UInt8), k ≤ ss.length ∧ i = .int .i64 k ∧ Aside0 (IsB B B (Lib.byteCells l) wr) ∧ Aside0 (l.length = 2 * k) ∧ Aside0 (∀ i : Nat, i < k → fits2 (rd vs i) (rd ss i) = true) ∧ Aside0 (Below w.heap.size w wr) ∧ B ≤ wr.heap.size) (fun i _ => ss.length - (intOf i).toNat)
  case atStart =>
    refine ⟨0, [], Nat.zero_le _, rfl, ⟨?_⟩, ⟨rfl⟩, ⟨fun i hi => absurd hi (by omega)⟩, ⟨below_alloc hb1 _⟩, by have := HB.out; simp; omega⟩
    have h := Lib.fresh_isBuilder 143 5 w1
    rw [← HB.out] at h
    exact h
  case round =>
    obtain ⟨k, l, hk, rfl, HI, HLL, HF, HW, hBr⟩ := hrel
    by_cases hlt : k < ss.length
    · obtain ⟨ad, hA, hcell⟩ := Kd_int_at (Kd.C_below HR.out HW.out) k hlt
      have hltv : k < vs.length := by rw [HL.out]; exact hlt
      obtain ⟨ad', hA', hcell'⟩ := Kd_int_at (Kd.C_below HR'.out HW.out) k hltv
      subst hA hA'
      cases hf : fits2 (rd vs k) (rd ss k) with
      | false =>
        have HE : Aside0 (putE ss vs = 2) := ⟨by unfold putE; rw [fitsAll_no k hlt hf]; rfl⟩
        have HFF := Aside0.mk hf
        clear hf
        go_wp2_with (go_at_call 125; refine (fits_any _ _ (twos_rd H2.out k hlt) _).mono ?_; rintro e w3 ⟨rfl, rfl⟩; rw [HFF.out])
        go_ret2
        exact ⟨_, by rw [HE.out]; rfl, HW.out⟩
      | true =>
        have HFF := Aside0.mk hf
        clear hf
        have HS : Aside0 (∀ s, rd ss k = s → fits2 (rd vs k) s = true) := ⟨fun s h => by rw [← h]; exact HFF.out⟩
        have hss := twos_rd H2.out k hlt
        obtain ⟨sz, hsz⟩ : ∃ sz, sz = rd ss k := ⟨_, rfl⟩
        rw [← hsz] at hcell hss
        have HSZ := Aside0.mk hsz
        clear hsz HFF
        have HF3 : Aside0 (∀ i : Nat, i < k + 1 → fits2 (rd vs i) (rd ss i) = true) := ⟨fun i hi => by
          rcases Nat.lt_or_ge i k with h | h
          · exact HF.out i h
          · obtain rfl : i = k := by omega
            exact HS.out _ rfl⟩
        rcases hss with rfl | rfl
        all_goals
          go_wp2_with (go_at_call 125; refine (fits_any _ _ (by first | exact .inl rfl | exact .inr rfl) _).mono ?_; rintro e w3 ⟨rfl, rfl⟩; rw [HS.out _ HSZ.out.symm])
          obtain ⟨wo, hwo⟩ : ∃ wo : World, wo = wr := ⟨_, rfl⟩
          subst hwo
          go_loopw [9] (fun q wi => ∃ (j : Nat) (l' : List UInt8), j ≤ 2 ∧ q = .int .i64 (1 - (j : Int)) ∧ Aside0 (IsB B B (Lib.byteCells l') wi) ∧ Aside0 (l'.length = 2 * k + j) ∧ Aside0 (Below w.heap.size w wi) ∧ B ≤ wi.heap.size) (fun q _ => (intOf q + 1).toNat)
          case atStart => exact ⟨0, l, by omega, by first | rfl | decide, HI, HLL, HW, hBr⟩
          case round =>
            obtain ⟨j, l', hj, rfl, HI2, HLL2, HW2, hBi⟩ := hrel
            obtain ⟨ad2, hA2, hcell2⟩ := Kd_int_at (Kd.C_below HR'.out HW2.out) k hltv
            obtain rfl : ad' = ad2 := by simpa using hA2
            obtain rfl | rfl | rfl : j = 0 ∨ j = 1 ∨ j = 2 := by omega
            · obtain ⟨u, hu⟩ := byte_of (rd vs k / 256)
              have HU := Aside0.mk hu
              clear hu
              have HN : Aside0 (l'.length + 1 = 2 * k + 1) := ⟨by have := HLL2.out; omega⟩
              have hml : (Lib.byteCells l').length + 1 ≤ 140737488355328 := by rw [Lib.byteCells_length]; have := HN.out; omega
              have HML := Aside0.mk hml
              clear hml
              go_wp2_with (go_at_call 126; refine (WriteByte_any B B (Lib.byteCells l') _ _ HI2.out HML.out hBi).mono ?_; rintro e w3 ⟨rfl, hI3, hb3⟩)
              go_roundw
              case rel => exact ⟨1, l' ++ [u], by omega, rfl, ⟨.inr (by have h := hI3; rw [HU.out] at h; simpa [Lib.byteCells] using h)⟩, ⟨by simpa using HN.out⟩, ⟨HW2.out.trans (hb3.mono hBw)⟩, Nat.le_trans hBi hb3.size⟩
              case measure => simp [intOf]
            · obtain ⟨u, hu⟩ := byte_of (rd vs k)
              have HU := Aside0.mk hu
              clear hu
              have HN : Aside0 (l'.length + 1 = 2 * k + 2) := ⟨by have := HLL2.out; omega⟩
              have hml : (Lib.byteCells l').length + 1 ≤ 140737488355328 := by rw [Lib.byteCells_length]; have := HN.out; omega
              have HML := Aside0.mk hml
              clear hml
              go_wp2_with (go_at_call 126; refine (WriteByte_any B B (Lib.byteCells l') _ _ HI2.out HML.out hBi).mono ?_; rintro e w3 ⟨rfl, hI3, hb3⟩)
              go_roundw
              case rel => exact ⟨2, l' ++ [u], by omega, rfl, ⟨.inr (by have h := hI3; rw [HU.out] at h; simpa [Lib.byteCells] using h)⟩, ⟨by simpa using HN.out⟩, ⟨HW2.out.trans (hb3.mono hBw)⟩, Nat.le_trans hBi hb3.size⟩
              case measure => simp [intOf]
            · have HN : Aside0 (l'.length = 2 * (k + 1)) := ⟨by have := HLL2.out; omega⟩
              go_wp2
              go_roundw
              case rel => exact ⟨k + 1, l', by omega, by go_num, HI2, HN, HF3, HW2, hBi⟩
              case measure => simp [intOf]; omega
    · have HE : Aside0 (putE ss vs = 0) := ⟨by unfold putE; rw [if_pos (fitsAll_yes (fun i hi => HF.out i (by omega)))]⟩
      go_wp2_with (go_at_call 127; refine (String_any B B l _ HI.out hBr).mono ?_; rintro e w3 ⟨rfl, hb3⟩)
      go_ret2
      exact ⟨_, by rw [HE.out]; rfl, (HW.out).trans (hb3.mono hBw)⟩
theorem Put_any (A A' : Option Addr) (c c' : Nat) (ss vs : List Int) (w : World) (h2 : twos ss) (hlen : vs.length = ss.length) (hmany : ss.length ≤ 1048576) (hr : Kd.C (Kd.int .i64) w A ss.length ss) (hc : ss.length ≤ c) (hr' : Kd.C (Kd.int .i64) w A' vs.length vs) (hc' : vs.length ≤ c') :
    Calls Try.prog 118 #[.slice A ss.length c, .slice A' vs.length c'] w fun e w' => ∃ s, e = .returned (.tuple #[.string s, .int .i64 (putE ss vs)]) ∧ Below w.heap.size w w' :=
  Put_any0 A A' c c' ss vs w h2 hlen hmany hr hc hr' hc'
end Go.Proofs.Ytfbiahlogclkbaa.H
