/- Joined texts of this claim (part 15), printed by a program of this work. The last part holds the claimed theorem: the law answers true at every input of its row. -/
import Derived.Test.YtnhgjgoglmadnaaGreatSPFieldsn
namespace Go.Proofs.YtnhgjgoglmadnaaGreat
open Go.RowKit
set_option maxRecDepth 100000
set_option linter.unusedSimpArgs false
set_option linter.unusedVariables false
section
variable {w0 w : World} {S : Nat→Prop} {M : List Res}
end
theorem Tab.cell {s : Nat} {w : World} {b o i : Nat} {x : List Int} (h : cellsAt w b (o + i * s) s = some (cellsI x)) (j : Nat) (hj : j < x.length) : w.cell? ⟨b,o + i * s + j,none⟩ = some (.int .i64 x[j]):=(cellsAt_elim h).2 j _ (by simp [cellsI,hj])
end Go.Proofs.YtnhgjgoglmadnaaGreat
