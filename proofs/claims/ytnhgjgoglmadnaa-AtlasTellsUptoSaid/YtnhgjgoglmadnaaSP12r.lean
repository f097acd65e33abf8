/- Joined texts of this claim (part 18), printed by a program of this work. The last part holds the claimed theorem: the law answers true at every input of its row. -/
import Derived.Test.YtnhgjgoglmadnaaSP12q
namespace Go.Proofs.Ytnhgjgoglmadnaa
open Go.RowKit
theorem MapV.same_iff {m o : MapV} : m.same o = true ↔ m = o := by
  cases m; cases o
  simp [MapV.same, MapV.ns, MapV.mesh, and_assoc]
theorem MapV.same_no {m o : MapV} (h : ¬ m = o) : m.same o = false := by
  rw [Bool.eq_false_iff]; exact fun e => h (MapV.same_iff.1 e)
end Go.Proofs.Ytnhgjgoglmadnaa
