/- The proof's texts LitA LitB LitC: what the statement leads to. No condition is added. -/
import Derived.Test.YtfbiahlogclkbaaSetA
import Derived.Test.YtfbiahlogclkbaaStkD
set_option linter.unusedVariables false
set_option linter.unusedSimpArgs false
namespace Go.Proofs.Ytfbiahlogclkbaa.H
open Go.RowKit Go.Proofs.YtfbiahlogclkbaaW.PrintWords Go.Proofs.YtfbiahlogclkbaaW.PrintLast Go.Proofs.YtfbiahlogclkbaaW.PrintMore Go.Proofs.Ytfbiahlogclkbaa.P

end Go.Proofs.Ytfbiahlogclkbaa.H

set_option linter.unusedVariables false
set_option linter.unusedSimpArgs false
namespace Go.Proofs.Ytfbiahlogclkbaa.H
open Go.RowKit Go.Proofs.YtfbiahlogclkbaaW.PrintWords Go.Proofs.YtfbiahlogclkbaaW.PrintLast Go.Proofs.YtfbiahlogclkbaaW.PrintMore Go.Proofs.Ytfbiahlogclkbaa.P
end Go.Proofs.Ytfbiahlogclkbaa.H

set_option linter.unusedVariables false
set_option linter.unusedSimpArgs false
namespace Go.Proofs.Ytfbiahlogclkbaa.H
open Go.RowKit Go.Proofs.YtfbiahlogclkbaaW.PrintWords Go.Proofs.YtfbiahlogclkbaaW.PrintLast Go.Proofs.YtfbiahlogclkbaaW.PrintMore Go.Proofs.Ytfbiahlogclkbaa.P

/-- A row of numbers of a block. -/
theorem C_at {W : World} {T : TypeId} {l : List Int} {b : Nat} {cs : Array Value} (h : W.heap[b]? = some (.cells cs T (0, 0))) (hcs : cs = (nums .i64 l).toArray) (hm : l.length ≤ 9223372036854775807) : (Kd.int .i64).C W (some ⟨b, 0, none⟩) l.length l := by
  subst hcs
  refine C_block h ⟨by simp [nums, Kd.int, Kd.scalar], fun j p hj => ?_⟩ hm
  have hlt : j < l.length := (List.getElem?_eq_some_iff.1 hj).1
  have hp : l[j] = p := (List.getElem?_eq_some_iff.1 hj).2
  show List.take 1 ((nums .i64 l).drop (j * 1)) = [.int .i64 p]
  rw [Nat.mul_one, List.drop_eq_getElem_cons (by simpa [nums] using hlt)]
  simp [nums, hp]
end Go.Proofs.Ytfbiahlogclkbaa.H
