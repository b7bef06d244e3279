/- The proof's texts EvT BarT: what the statement leads to. No condition is added. -/
import Derived.Test.YtfbiahlogclkbaaEvM
namespace Go.Proofs.Ytfbiahlogclkbaa.H
open Go.RowKit
namespace Ev
def tyBase_0 : TI := ⟨(Go.TypeDesc.int Go.IntKind.i64), 1, [.int .i64 0], some 8⟩
theorem tyBase_0_ok : TIOk Try.prog 3 tyBase_0 := ⟨Try.underlying3, by kernel_rfl, rfl, List.all_eq_true.1 (by kernel_rfl), fun n h => h ▸ (by kernel_rfl : (Try.prog.info? 3).map (·.bytes) = tyBase_0.bytes)⟩
def tyBase_1 : TI := ⟨Go.TypeDesc.bool, 1, [.bool false], none⟩
theorem tyBase_1_ok : TIOk Try.prog 4 tyBase_1 := ⟨Try.underlying4, by kernel_rfl, rfl, List.all_eq_true.1 (by kernel_rfl), fun n h => by cases h⟩
def tyBase_2 : TI := ⟨(Go.TypeDesc.struct #[{ name := "Upem", type := 3, offset := 0, embedded := false, tag := "", pkgPath := "", byteOffset := 0 }, { name := "Glyphs", type := 3, offset := 1, embedded := false, tag := "", pkgPath := "", byteOffset := 8 }, { name := "Metrics", type := 3, offset := 2, embedded := false, tag := "", pkgPath := "", byteOffset := 16 }, { name := "Ascender", type := 3, offset := 3, embedded := false, tag := "", pkgPath := "", byteOffset := 24 }, { name := "Descender", type := 3, offset := 4, embedded := false, tag := "", pkgPath := "", byteOffset := 32 }, { name := "Long", type := 4, offset := 5, embedded := false, tag := "", pkgPath := "", byteOffset := 40 }]), 6, [.int .i64 0, .int .i64 0, .int .i64 0, .int .i64 0, .int .i64 0, .bool false], none⟩
theorem tyBase_2_ok : TIOk Try.prog 23 tyBase_2 := ⟨Try.underlying23, by kernel_rfl, rfl, List.all_eq_true.1 (by kernel_rfl), fun n h => by cases h⟩
def tyBase_3 : TI := ⟨(TypeDesc.slice 165), 1, [.slice none 0 0], none⟩
theorem tyBase_3_ok : TIOk Try.prog 24 tyBase_3 := ⟨Try.underlying24, by kernel_rfl, rfl, List.all_eq_true.1 (by kernel_rfl), fun n h => by cases h⟩
def tyBase_4 : TI := ⟨(TypeDesc.slice 167), 1, [.slice none 0 0], none⟩
theorem tyBase_4_ok : TIOk Try.prog 25 tyBase_4 := ⟨Try.underlying25, by kernel_rfl, rfl, List.all_eq_true.1 (by kernel_rfl), fun n h => by cases h⟩
def tyBase_5 : TI := ⟨(TypeDesc.slice 123), 1, [.slice none 0 0], none⟩
theorem tyBase_5_ok : TIOk Try.prog 26 tyBase_5 := ⟨Try.underlying26, by kernel_rfl, rfl, List.all_eq_true.1 (by kernel_rfl), fun n h => by cases h⟩
def tyBase_6 : TI := ⟨(TypeDesc.slice 3), 1, [.slice none 0 0], none⟩
theorem tyBase_6_ok : TIOk Try.prog 27 tyBase_6 := ⟨Try.underlying27, by kernel_rfl, rfl, List.all_eq_true.1 (by kernel_rfl), fun n h => by cases h⟩
def tyBase_7 : TI := ⟨(TypeDesc.slice 169), 1, [.slice none 0 0], none⟩
theorem tyBase_7_ok : TIOk Try.prog 28 tyBase_7 := ⟨Try.underlying28, by kernel_rfl, rfl, List.all_eq_true.1 (by kernel_rfl), fun n h => by cases h⟩
def tyBase_8 : TI := ⟨(TypeDesc.slice 126), 1, [.slice none 0 0], none⟩
theorem tyBase_8_ok : TIOk Try.prog 29 tyBase_8 := ⟨Try.underlying29, by kernel_rfl, rfl, List.all_eq_true.1 (by kernel_rfl), fun n h => by cases h⟩
def tyBase_9 : TI := ⟨(TypeDesc.slice 138), 1, [.slice none 0 0], none⟩
theorem tyBase_9_ok : TIOk Try.prog 30 tyBase_9 := ⟨Try.underlying30, by kernel_rfl, rfl, List.all_eq_true.1 (by kernel_rfl), fun n h => by cases h⟩
def tyBase_10 : TI := ⟨(Go.TypeDesc.struct #[{ name := "Overlap", type := 3, offset := 0, embedded := false, tag := "", pkgPath := "", byteOffset := 0 }, { name := "Down", type := 30, offset := 1, embedded := false, tag := "", pkgPath := "", byteOffset := 8 }, { name := "Across", type := 30, offset := 2, embedded := false, tag := "", pkgPath := "", byteOffset := 32 }]), 3, [.int .i64 0, .slice none 0 0, .slice none 0 0], none⟩
theorem tyBase_10_ok : TIOk Try.prog 32 tyBase_10 := ⟨Try.underlying32, by kernel_rfl, rfl, List.all_eq_true.1 (by kernel_rfl), fun n h => by cases h⟩
def tyBase_11 : TI := ⟨(Go.TypeDesc.struct #[{ name := "Konst", type := 27, offset := 0, embedded := false, tag := "", pkgPath := "", byteOffset := 0 }, { name := "Italics", type := 28, offset := 1, embedded := false, tag := "", pkgPath := "", byteOffset := 24 }, { name := "Accents", type := 28, offset := 2, embedded := false, tag := "", pkgPath := "", byteOffset := 48 }, { name := "Shapes", type := 27, offset := 3, embedded := false, tag := "", pkgPath := "", byteOffset := 72 }, { name := "Kerns", type := 29, offset := 4, embedded := false, tag := "", pkgPath := "", byteOffset := 96 }, { name := "Growth", type := 32, offset := 5, embedded := false, tag := "", pkgPath := "", byteOffset := 120 }]), 8, [.slice none 0 0, .slice none 0 0, .slice none 0 0, .slice none 0 0, .slice none 0 0, .int .i64 0, .slice none 0 0, .slice none 0 0], none⟩
theorem tyBase_11_ok : TIOk Try.prog 34 tyBase_11 := ⟨Try.underlying34, by kernel_rfl, rfl, List.all_eq_true.1 (by kernel_rfl), fun n h => by cases h⟩
def tyBase_12 : TI := ⟨(Go.TypeDesc.struct #[{ name := "Head", type := 23, offset := 0, embedded := false, tag := "", pkgPath := "", byteOffset := 0 }, { name := "Metrics", type := 24, offset := 6, embedded := false, tag := "", pkgPath := "", byteOffset := 48 }, { name := "Extents", type := 25, offset := 7, embedded := false, tag := "", pkgPath := "", byteOffset := 72 }, { name := "Map", type := 26, offset := 8, embedded := false, tag := "", pkgPath := "", byteOffset := 96 }, { name := "Math", type := 34, offset := 9, embedded := false, tag := "", pkgPath := "", byteOffset := 120 }]), 17, [.int .i64 0, .int .i64 0, .int .i64 0, .int .i64 0, .int .i64 0, .bool false, .slice none 0 0, .slice none 0 0, .slice none 0 0, .slice none 0 0, .slice none 0 0, .slice none 0 0, .slice none 0 0, .slice none 0 0, .int .i64 0, .slice none 0 0, .slice none 0 0], none⟩
theorem tyBase_12_ok : TIOk Try.prog 36 tyBase_12 := ⟨Try.underlying36, by kernel_rfl, rfl, List.all_eq_true.1 (by kernel_rfl), fun n h => by cases h⟩
def tyBase_13 : TI := ⟨(TypeDesc.slice 49), 1, [.slice none 0 0], none⟩
theorem tyBase_13_ok : TIOk Try.prog 37 tyBase_13 := ⟨Try.underlying37, by kernel_rfl, rfl, List.all_eq_true.1 (by kernel_rfl), fun n h => by cases h⟩
def tyBase_14 : TI := ⟨(Go.TypeDesc.struct #[{ name := "Kind", type := 3, offset := 0, embedded := false, tag := "", pkgPath := "", byteOffset := 0 }, { name := "W", type := 3, offset := 1, embedded := false, tag := "", pkgPath := "", byteOffset := 8 }, { name := "H", type := 3, offset := 2, embedded := false, tag := "", pkgPath := "", byteOffset := 16 }, { name := "D", type := 3, offset := 3, embedded := false, tag := "", pkgPath := "", byteOffset := 24 }, { name := "Glyph", type := 3, offset := 4, embedded := false, tag := "", pkgPath := "", byteOffset := 32 }, { name := "Size", type := 3, offset := 5, embedded := false, tag := "", pkgPath := "", byteOffset := 40 }, { name := "Kids", type := 37, offset := 6, embedded := false, tag := "", pkgPath := "", byteOffset := 48 }]), 7, [.int .i64 0, .int .i64 0, .int .i64 0, .int .i64 0, .int .i64 0, .int .i64 0, .slice none 0 0], some 72⟩
theorem tyBase_14_ok : TIOk Try.prog 39 tyBase_14 := ⟨Try.underlying39, by kernel_rfl, rfl, List.all_eq_true.1 (by kernel_rfl), fun n h => h ▸ (by kernel_rfl : (Try.prog.info? 39).map (·.bytes) = tyBase_14.bytes)⟩
def tyBase_15 : TI := ⟨(Go.TypeDesc.struct #[{ name := "X", type := 3, offset := 0, embedded := false, tag := "", pkgPath := "", byteOffset := 0 }, { name := "Y", type := 3, offset := 1, embedded := false, tag := "", pkgPath := "", byteOffset := 8 }, { name := "Box", type := 39, offset := 2, embedded := false, tag := "", pkgPath := "", byteOffset := 16 }]), 9, [.int .i64 0, .int .i64 0, .int .i64 0, .int .i64 0, .int .i64 0, .int .i64 0, .int .i64 0, .int .i64 0, .slice none 0 0], some 88⟩
theorem tyBase_15_ok : TIOk Try.prog 49 tyBase_15 := ⟨Try.underlying49, by kernel_rfl, rfl, List.all_eq_true.1 (by kernel_rfl), fun n h => h ▸ (by kernel_rfl : (Try.prog.info? 49).map (·.bytes) = tyBase_15.bytes)⟩
def tyBase_16 : TI := ⟨(TypeDesc.slice 39), 1, [.slice none 0 0], none⟩
theorem tyBase_16_ok : TIOk Try.prog 54 tyBase_16 := ⟨Try.underlying54, by kernel_rfl, rfl, List.all_eq_true.1 (by kernel_rfl), fun n h => by cases h⟩
def tyBase_17 : TI := ⟨(Go.TypeDesc.int Go.IntKind.i64), 1, [.int .i64 0], none⟩
theorem tyBase_17_ok : TIOk Try.prog 41 tyBase_17 := ⟨Try.underlying41, by kernel_rfl, rfl, List.all_eq_true.1 (by kernel_rfl), fun n h => by cases h⟩
def tyBase : Types := [(3, tyBase_0), (4, tyBase_1), (23, tyBase_2), (24, tyBase_3), (25, tyBase_4), (26, tyBase_5), (27, tyBase_6), (28, tyBase_7), (29, tyBase_8), (30, tyBase_9), (32, tyBase_10), (34, tyBase_11), (36, tyBase_12), (37, tyBase_13), (39, tyBase_14), (49, tyBase_15), (54, tyBase_16), (41, tyBase_17)]
theorem tyBase_ok : ∀ p, p ∈ tyBase → TIOk Try.prog p.1 p.2 := by
  intro p hp
  simp only [tyBase, List.mem_cons, List.not_mem_nil, or_false] at hp
  rcases hp with rfl | rfl | rfl | rfl | rfl | rfl | rfl | rfl | rfl | rfl | rfl | rfl | rfl | rfl | rfl | rfl | rfl | rfl
  · exact tyBase_0_ok
  · exact tyBase_1_ok
  · exact tyBase_2_ok
  · exact tyBase_3_ok
  · exact tyBase_4_ok
  · exact tyBase_5_ok
  · exact tyBase_6_ok
  · exact tyBase_7_ok
  · exact tyBase_8_ok
  · exact tyBase_9_ok
  · exact tyBase_10_ok
  · exact tyBase_11_ok
  · exact tyBase_12_ok
  · exact tyBase_13_ok
  · exact tyBase_14_ok
  · exact tyBase_15_ok
  · exact tyBase_16_ok
  · exact tyBase_17_ok
end Ev
end Go.Proofs.Ytfbiahlogclkbaa.H

namespace Go.Proofs.Ytfbiahlogclkbaa.H
open Go.RowKit
namespace Ev
def tyBar_0 : TI := ⟨(Go.TypeDesc.struct #[{ name := "e", type := 41, offset := 0, embedded := false, tag := "", pkgPath := "vinculum/bar", byteOffset := 0 }]), 1, [.int .i64 0], none⟩
theorem tyBar_0_ok : TIOk Try.prog 84 tyBar_0 := ⟨Try.underlying84, by kernel_rfl, rfl, List.all_eq_true.1 (by kernel_rfl), fun n h => by cases h⟩
def tyBar_1 : TI := ⟨(Go.TypeDesc.struct #[{ name := "ledger", type := 84, offset := 0, embedded := true, tag := "", pkgPath := "vinculum/bar", byteOffset := 0 }, { name := "f", type := 36, offset := 1, embedded := false, tag := "", pkgPath := "vinculum/bar", byteOffset := 8 }, { name := "c", type := 3, offset := 18, embedded := false, tag := "", pkgPath := "vinculum/bar", byteOffset := 304 }, { name := "z", type := 3, offset := 19, embedded := false, tag := "", pkgPath := "vinculum/bar", byteOffset := 312 }]), 20, [.int .i64 0, .int .i64 0, .int .i64 0, .int .i64 0, .int .i64 0, .int .i64 0, .bool false, .slice none 0 0, .slice none 0 0, .slice none 0 0, .slice none 0 0, .slice none 0 0, .slice none 0 0, .slice none 0 0, .slice none 0 0, .int .i64 0, .slice none 0 0, .slice none 0 0, .int .i64 0, .int .i64 0], none⟩
theorem tyBar_1_ok : TIOk Try.prog 86 tyBar_1 := ⟨Try.underlying86, by kernel_rfl, rfl, List.all_eq_true.1 (by kernel_rfl), fun n h => by cases h⟩
def tyBar : Types := [(84, tyBar_0), (86, tyBar_1)]
theorem tyBar_ok : ∀ p, p ∈ tyBar → TIOk Try.prog p.1 p.2 := by
  intro p hp
  simp only [tyBar, List.mem_cons, List.not_mem_nil, or_false] at hp
  rcases hp with rfl | rfl
  · exact tyBar_0_ok
  · exact tyBar_1_ok
end Ev
end Go.Proofs.Ytfbiahlogclkbaa.H
