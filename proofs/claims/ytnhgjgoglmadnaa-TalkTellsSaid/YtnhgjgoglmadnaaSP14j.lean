/- Joined texts of this claim (part 10), printed by a program of this work. The last part holds the claimed theorem: the law answers true at every input of its row. -/
import Derived.Test.YtnhgjgoglmadnaaSP14i
namespace Go.Proofs.Ytnhgjgoglmadnaa
open Go.RowKit
set_option maxRecDepth 100000
set_option linter.unusedSimpArgs false
set_option linter.unusedVariables false
set_option pp.maxSteps 1500
set_option pp.deepTerms.threshold 8

section
variable {w0 w : World} {S : Nat → Prop} {M : List Res}
theorem Sep.wrOpen (i : Nat) {t p k : Nat} {s : W8} (h : Sep w0 S M w) (hi : M[i]? = some (wr t p s k)) : ∃ a c, Sep w0 S (M.set i (blk p t [.slice a s.l.length c, .bool s.bad]) ++ [byt (.slice a s.l.length c) s.l]) w ∧ s.l.length ≤ k := by
  obtain ⟨A, ⟨h1, h2, v, h3, rfl⟩, h4⟩ := h.split i hi
  obtain ⟨a, c, rfl⟩ := owns_shape h3.own
  exact ⟨a, c, h4 _ _ (fun x => x = p) (fun x => (Value.slice a s.l.length c).ownBlock = some x) ⟨h3.blk, rfl⟩ ⟨h3.own, rfl⟩ (fun x hx => .inl hx) (fun x hx => ⟨.inr hx, fun e => by subst e; exact h3.own.ne h3.blk h2 hx⟩) (fun _ f => f) (fun _ f => f), h1⟩
theorem Sep.wrClose (i j : Nat) {t p : Nat} {b : Bool} {v : Value} {l : List Int} (k : Nat) (h : Sep w0 S M w) (hi : (M.set j emp)[i]? = some (blk p t [v, .bool b])) (hj : M[j]? = some (byt v l)) (ht : t ≠ 5) (hl : l.length ≤ k) : Sep w0 S ((M.set j emp).set i (wr t p ⟨l, b⟩ k)) w :=
  h.join i j hi hj (fun A B ⟨h1, e1⟩ ⟨h2, e2⟩ _ => ⟨hl, ht, v, ⟨h1, h2⟩, by subst e1 e2; rfl⟩) (fun _ f => f.elim)
end
def W8.spoil (s : W8) (b : Bool) : W8 := ⟨s.l, s.bad || b⟩
theorem Tab.cell {s : Nat} {w : World} {b o i : Nat} {x : List Int} (h : cellsAt w b (o + i * s) s = some (cellsI x)) (j : Nat) (hj : j < x.length) : w.cell? ⟨b, o + i * s + j, none⟩ = some (.int .i64 x[j]) := (cellsAt_elim h).2 j _ (by simp [cellsI, hj])


end Go.Proofs.Ytnhgjgoglmadnaa
