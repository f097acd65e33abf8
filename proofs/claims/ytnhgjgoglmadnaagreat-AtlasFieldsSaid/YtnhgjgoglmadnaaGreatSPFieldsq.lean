/- Joined texts of this claim (part 17), printed by a program of this work. The last part holds the claimed theorem: the law answers true at every input of its row. -/
import Derived.Test.YtnhgjgoglmadnaaGreatSPFieldsp
namespace Go.Proofs.YtnhgjgoglmadnaaGreat
open Go.RowKit
set_option maxRecDepth 100000
set_option linter.unusedSimpArgs false
set_option linter.unusedVariables false
def itemsB {α : Type} (f : R8→α) (g : R8→R8) : Nat→R8→List α×R8
  | 0,s=>([],s)
  | n + 1,s=>if s.bad then ([],s) else (f s :: (itemsB f g n (g s)).1,(itemsB f g n (g s)).2)
def BV {α : Type} (f : R8→α) (g : R8→R8) (s : R8) : List α:=(itemsB f g (s.numV 2).toNat (s.numS 2)).1
def BS {α : Type} (f : R8→α) (g : R8→R8) (s : R8) : R8:=(itemsB f g (s.numV 2).toNat (s.numS 2)).2
def chMark (s : R8) : R8:=if 1 < (s.numS 1).numV 1 then ⟨((s.numS 1).numS 1).l,true⟩ else (s.numS 1).numS 1
def rChB (s : R8) : Ch:=⟨s.numV 1,decide ((s.numS 1).numV 1 = 1),((chMark s).numS 2).rawV ((chMark s).numV 2)⟩
def sChB (s : R8) : R8:=((chMark s).numS 2).rawS ((chMark s).numV 2)
theorem chMark_byt {s : R8} (hb : Byt s.l) : Byt (chMark s).l:=by
  unfold chMark;split<;>exact numS_byt _ 1 (numS_byt _ 1 hb)
def e1 (s : R8) : R8:=BS rP sP (dN s)
def e2 (s : R8) : R8:=BS rW sW (e1 s)
def e3 (s : R8) : R8:=BS rPa sPa (e2 s)
def e4 (s : R8) : R8:=BS rRe sRe (e3 s)
def e5 (s : R8) : R8:=BS rCa sCa (e4 s)
def e6 (s : R8) : R8:=BS rIs sIs (e5 s)
def e7 (s : R8) : R8:=BS rCo sCo (e6 s)
def eE (s : R8) : R8:=BS rChB sChB (e7 s)
def eV (s : R8) : MapV:=⟨s.numV 3,(s.numS 3).numV 3,((s.numS 3).numS 3).numV 1,(((s.numS 3).numS 3).numS 1).numV 2,((((s.numS 3).numS 3).numS 1).numS 2).numV 2,(((((s.numS 3).numS 3).numS 1).numS 2).numS 2).numV 2,((((((s.numS 3).numS 3).numS 1).numS 2).numS 2).numS 2).numV 4,
  BV rP sP (dN s),BV rW sW (e1 s),BV rPa sPa (e2 s),BV rRe sRe (e3 s),BV rCa sCa (e4 s),BV rIs sIs (e5 s),BV rCo sCo (e6 s),BV rChB sChB (e7 s)⟩
def decROk (b : List Int) : Bool:=(eE ⟨b,false⟩).done
def decR (b : List Int) : MapV:=if decROk b then eV ⟨b,false⟩ else MapV.zero
end Go.Proofs.YtnhgjgoglmadnaaGreat
