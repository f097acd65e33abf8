/- Joined texts of this claim (part 11), printed by a program of this work. The last part holds the claimed theorem: the law answers true at every input of its row. -/
import Derived.Test.YtnhgjgoglmadnaaSP18j
namespace Go.Proofs.Ytnhgjgoglmadnaa
open Go.RowKit
set_option maxRecDepth 100000
set_option linter.unusedSimpArgs false
set_option linter.unusedVariables false
set_option pp.maxSteps 1500
set_option pp.deepTerms.threshold 8

def itemsB {α : Type} (f : R8 → α) (g : R8 → R8) : Nat → R8 → List α × R8
  | 0, s => ([], s)
  | n + 1, s => if s.bad then ([], s) else (f s :: (itemsB f g n (g s)).1, (itemsB f g n (g s)).2)
def BV {α : Type} (f : R8 → α) (g : R8 → R8) (s : R8) : List α := (itemsB f g (s.numV 2).toNat (s.numS 2)).1
def BS {α : Type} (f : R8 → α) (g : R8 → R8) (s : R8) : R8 := (itemsB f g (s.numV 2).toNat (s.numS 2)).2
def e1 (s : R8) : R8 := BS rP sP (dN s)
def e2 (s : R8) : R8 := BS rW sW (e1 s)
def e3 (s : R8) : R8 := BS rPa sPa (e2 s)
def e4 (s : R8) : R8 := BS rRe sRe (e3 s)
def e5 (s : R8) : R8 := BS rCa sCa (e4 s)
def e6 (s : R8) : R8 := BS rIs sIs (e5 s)
def e7 (s : R8) : R8 := BS rCo sCo (e6 s)
end Go.Proofs.Ytnhgjgoglmadnaa
