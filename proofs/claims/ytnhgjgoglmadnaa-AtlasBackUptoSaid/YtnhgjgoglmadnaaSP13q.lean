/- Joined texts of this claim (part 17), printed by a program of this work. The last part holds the claimed theorem: the law answers true at every input of its row. -/
import Derived.Test.YtnhgjgoglmadnaaSP13p
namespace Go.Proofs.Ytnhgjgoglmadnaa
open Go.RowKit
set_option maxRecDepth 100000
set_option linter.unusedSimpArgs false
set_option linter.unusedVariables false
set_option pp.maxSteps 1500
set_option pp.deepTerms.threshold 8

theorem roomC_few : ∀ {cs : List Ch}, (∀ c ∈ cs, c.b.length ≤ 400) → roomC cs ≤ cs.length * 424
  | [], _ => by simp [roomC]
  | c :: cs, h => by
    have h1 := h c (.head _)
    have h2 := roomC_few fun x hx => h x (.tail _ hx)
    simp only [roomC, List.length_cons]; omega
theorem MapV.few_room {m : MapV} (h : m.few = true) : m.room ≤ 98000 := by
  simp only [MapV.few, Bool.and_eq_true, List.all_eq_true, decide_eq_true_eq] at h
  obtain ⟨h1, h2, h3⟩ := h
  have := roomC_few h1
  unfold MapV.n at h2
  unfold MapV.room
  omega
end Go.Proofs.Ytnhgjgoglmadnaa
