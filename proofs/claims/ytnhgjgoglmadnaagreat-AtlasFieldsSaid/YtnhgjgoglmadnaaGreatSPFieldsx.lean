/- Joined texts of this claim (part 24), printed by a program of this work. The last part holds the claimed theorem: the law answers true at every input of its row. -/
import Derived.Test.YtnhgjgoglmadnaaGreatSPFieldsw
namespace Go.Proofs.YtnhgjgoglmadnaaGreat
open Go.RowKit
set_option maxRecDepth 100000
set_option linter.unusedSimpArgs false
set_option linter.unusedVariables false
def twI (ax ay bx by' cx cy : Int) : Int:=(bx - ax) * (cy - ay) - (by' - ay) * (cx - ax)
def btwE (n a b : Int) : Bool:=decide ((if b < a then b else a)≤n) && decide (n≤if a < b then b else a)
theorem between141 (n a b : Int) (w : World) : Calls Tryz.prog 141 [.int .i64 n,.int .i64 a,.int .i64 b].toArray w (RetP (.bool (btwE n a b)) w):=by
  have h:=Sep.nil w
  refine walk Tryz.func141 rfl (by kernel_rfl) (by rw [Tryz.nt141];simp) ?_
  replace h:=Zd h;have F:=Zf5 h
  refine Zv ?_
  unfold btwE
  cases h1d : decide ((if b < a then b else a)≤n) with
  | false=>
    have h1:=of_decide_eq_false h1d
    replace h:=Zd h;have F:=Zf5 h;refine Zc1 (decide_eq_false h1) ?_
    (first | exact ⟨rfl,h.done⟩ | exact h.done)
  | true=>
  have h1:=of_decide_eq_true h1d
  replace h:=Zd h;have F:=Zf5 h;refine Zc1 (decide_eq_true h1) ?_
  (first | exact ⟨rfl,h.done⟩ | exact h.done)
def onE (px py ax ay bx by' : Int) : Bool:=vpt px py && (vpt ax ay && (vpt bx by' && (decide (twI ax ay bx by' px py = 0) && (btwE px ax bx && btwE py ay by'))))
theorem on133 (px py ax ay bx by' : Int) (w : World) : Calls Tryz.prog 133 [.agg #[.int .i64 px,.int .i64 py],.agg #[.int .i64 ax,.int .i64 ay],.agg #[.int .i64 bx,.int .i64 by']].toArray w (RetP (.bool (onE px py ax ay bx by')) w):=by
  have h:=Sep.nil w
  refine walk Tryz.func133 rfl (by kernel_rfl) (by rw [Tryz.nt133];simp) ?_
  replace h:=Zd h;have F:=Zf5 h
  refine Zv ?_
  unfold onE twI
  refine h.new ?_
  clear h F
  intro _ b1 h
  replace h:=Zd h;have F:=Zf5 h;refine Zc ?_
  refine h.new ?_
  clear h F
  intro _ b2 h
  replace h:=Zd h;have F:=Zf5 h;refine Zc ?_
  refine h.new ?_
  clear h F
  intro _ b3 h
  replace h:=Zd h;have F:=Zf5 h;refine Zc ?_
  refine Sep.callp h (valid47 px py _) ?_
  clear h F
  intro _ h
  replace h:=Zd h;have F:=Zf5 h;refine Zc ?_
  cases h1 : vpt px py with
  | false=>
    replace h:=Zd h;have F:=Zf5 h;refine Zc1 h1 ?_
    (first | exact ⟨rfl,h.done⟩ | exact h.done)
  | true=>
  replace h:=Zd h;have F:=Zf5 h;refine Zc1 h1 ?_
  refine Sep.callp h (valid47 ax ay _) ?_
  clear h F
  intro _ h
  replace h:=Zd h;have F:=Zf5 h;refine Zc ?_
  cases h2 : vpt ax ay with
  | false=>
    replace h:=Zd h;have F:=Zf5 h;refine Zc1 h2 ?_
    (first | exact ⟨rfl,h.done⟩ | exact h.done)
  | true=>
  replace h:=Zd h;have F:=Zf5 h;refine Zc1 h2 ?_
  refine Sep.callp h (valid47 bx by' _) ?_
  clear h F
  intro _ h
  replace h:=Zd h;have F:=Zf5 h;refine Zc ?_
  cases h3 : vpt bx by' with
  | false=>
    replace h:=Zd h;have F:=Zf5 h;refine Zc1 h3 ?_
    (first | exact ⟨rfl,h.done⟩ | exact h.done)
  | true=>
  replace h:=Zd h;have F:=Zf5 h;refine Zc1 h3 ?_
  have k:=twice141 ax ay bx by' px py
  refine Sep.callp h (k _ (by rw [h1,h2,h3];rfl)) ?_
  clear h F
  intro _ h
  replace h:=Zd h;have F:=Zf5 h;refine Zc ?_
  cases h4d : decide ((bx - ax) * (py - ay) - (by' - ay) * (px - ax) = 0) with
  | false=>
    have h4:=of_decide_eq_false h4d
    replace h:=Zd h;have F:=Zf5 h;refine Zc1 (decide_eq_false h4) ?_
    (first | exact ⟨rfl,h.done⟩ | exact h.done)
  | true=>
  have h4:=of_decide_eq_true h4d
  replace h:=Zd h;have F:=Zf5 h;refine Zc1 (decide_eq_true h4) ?_
  refine Sep.callp h (between141 px ax bx _) ?_
  clear h F
  intro _ h
  replace h:=Zd h;have F:=Zf5 h;refine Zc ?_
  cases h5 : btwE px ax bx with
  | false=>
    replace h:=Zd h;have F:=Zf5 h;refine Zc1 h5 ?_
    (first | exact ⟨rfl,h.done⟩ | exact h.done)
  | true=>
  replace h:=Zd h;have F:=Zf5 h;refine Zc1 h5 ?_
  refine Sep.callp h (between141 py ay by' _) ?_
  clear h F
  intro _ h
  replace h:=Zd h;have F:=Zf5 h;refine Zc ?_
  (first | exact ⟨rfl,h.done⟩ | exact h.done)
def touchE (px py ax ay bx by' : Int) : Int:=if (onE px py ax ay bx by' && (!decide ([px,py] = [ax,ay]) && !decide ([px,py] = [bx,by']))) then 2 else 0
theorem touch142 (px py ax ay bx by' : Int) (w : World) : Calls Tryz.prog 142 [.agg #[.int .i64 px,.int .i64 py],.agg #[.int .i64 ax,.int .i64 ay],.agg #[.int .i64 bx,.int .i64 by']].toArray w (RetP (.int .i64 (touchE px py ax ay bx by')) w):=by
  have h:=Sep.nil w
  refine walk Tryz.func142 rfl (by kernel_rfl) (by rw [Tryz.nt142];simp) ?_
  replace h:=Zd h;have F:=Zf5 h
  refine Zv ?_
  unfold touchE
  refine h.new ?_
  clear h F
  intro _ b1 h
  replace h:=Zd h;have F:=Zf5 h;refine Zc ?_
  refine h.new ?_
  clear h F
  intro _ b2 h
  replace h:=Zd h;have F:=Zf5 h;refine Zc ?_
  refine h.new ?_
  clear h F
  intro _ b3 h
  replace h:=Zd h;have F:=Zf5 h;refine Zc ?_
  refine Sep.callp h (on133 px py ax ay bx by' _) ?_
  clear h F
  intro _ h
  replace h:=Zd h;have F:=Zf5 h;refine Zc ?_
  cases h1 : onE px py ax ay bx by' with
  | false=>
    replace h:=Zd h;have F:=Zf5 h;refine Zc1 h1 ?_
    (first | exact ⟨rfl,h.done⟩ | exact h.done)
  | true=>
  replace h:=Zd h;have F:=Zf5 h;refine Zc1 h1 ?_
  refine binK_neq_agg (by kernel_rfl) (fun w=>seqPt (d:=9998) px py ax ay w) ?_
  cases h2d : decide ([px,py] = [ax,ay]) with
  | true=>
    have h2:=of_decide_eq_true h2d
    replace h:=Zd h;have F:=Zf5 h;refine Zc1 (decide_eq_true h2) ?_
    (first | exact ⟨rfl,h.done⟩ | exact h.done)
  | false=>
  have h2:=of_decide_eq_false h2d
  replace h:=Zd h;have F:=Zf5 h;refine Zc1 (decide_eq_false h2) ?_
  refine binK_neq_agg (by kernel_rfl) (fun w=>seqPt (d:=9998) px py bx by' w) ?_
  cases h3d : decide ([px,py] = [bx,by']) with
  | true=>
    have h3:=of_decide_eq_true h3d
    replace h:=Zd h;have F:=Zf5 h;refine Zc1 (decide_eq_true h3) ?_
    (first | exact ⟨rfl,h.done⟩ | exact h.done)
  | false=>
  have h3:=of_decide_eq_false h3d
  replace h:=Zd h;have F:=Zf5 h;refine Zc1 (decide_eq_false h3) ?_
  (first | exact ⟨rfl,h.done⟩ | exact h.done)
def hasPE (t : T3) (x y : Int) : Bool:=t.valid && (vpt x y && (decide (0≤orientI t.ax t.ay t.bx t.by' x y) && (decide (0≤orientI t.bx t.by' t.cx t.cy x y) && decide (0≤orientI t.cx t.cy t.ax t.ay x y))))
theorem hasPoint132 (t : T3) (x y : Int) (w : World) : Calls Tryz.prog 132 [.agg t.cells.toArray,.agg #[.int .i64 x,.int .i64 y]].toArray w (RetP (.bool (hasPE t x y)) w):=by
  have h:=Sep.nil w
  refine walk Tryz.func132 rfl (by kernel_rfl) (by rw [Tryz.nt132];simp) ?_
  replace h:=Zd h;have F:=Zf5 h
  refine Zv1 (@T3.cells.eq_1) ?_
  unfold hasPE
  refine h.new ?_
  clear h F
  intro _ b1 h
  replace h:=Zd h;have F:=Zf5 h;refine Zc ?_
  refine h.new ?_
  clear h F
  intro _ b2 h
  replace h:=Zd h;have F:=Zf5 h;refine Zc ?_
  refine Sep.callp h (validTri t _) ?_
  clear h F
  intro _ h
  replace h:=Zd h;have F:=Zf5 h;refine Zc ?_
  cases h1 : t.valid with
  | false=>
    replace h:=Zd h;have F:=Zf5 h;refine Zc1 h1 ?_
    (first | exact ⟨rfl,h.done⟩ | exact h.done)
  | true=>
  replace h:=Zd h;have F:=Zf5 h;refine Zc1 h1 ?_
  refine Sep.callp h (valid47 x y _) ?_
  clear h F
  intro _ h
  replace h:=Zd h;have F:=Zf5 h;refine Zc ?_
  cases h2 : vpt x y with
  | false=>
    replace h:=Zd h;have F:=Zf5 h;refine Zc1 h2 ?_
    (first | exact ⟨rfl,h.done⟩ | exact h.done)
  | true=>
  replace h:=Zd h;have F:=Zf5 h;refine Zc1 h2 ?_
  refine Sep.callp h (orient134 t.ax t.ay t.bx t.by' x y _) ?_
  clear h F
  intro _ h
  replace h:=Zd h;have F:=Zf5 h;refine Zc ?_
  cases h3d : decide (0≤orientI t.ax t.ay t.bx t.by' x y) with
  | false=>
    have h3:=of_decide_eq_false h3d
    replace h:=Zd h;have F:=Zf5 h;refine Zc1 (decide_eq_false h3) ?_
    (first | exact ⟨rfl,h.done⟩ | exact h.done)
  | true=>
  have h3:=of_decide_eq_true h3d
  replace h:=Zd h;have F:=Zf5 h;refine Zc1 (decide_eq_true h3) ?_
  refine Sep.callp h (orient134 t.bx t.by' t.cx t.cy x y _) ?_
  clear h F
  intro _ h
  replace h:=Zd h;have F:=Zf5 h;refine Zc ?_
  cases h4d : decide (0≤orientI t.bx t.by' t.cx t.cy x y) with
  | false=>
    have h4:=of_decide_eq_false h4d
    replace h:=Zd h;have F:=Zf5 h;refine Zc1 (decide_eq_false h4) ?_
    (first | exact ⟨rfl,h.done⟩ | exact h.done)
  | true=>
  have h4:=of_decide_eq_true h4d
  replace h:=Zd h;have F:=Zf5 h;refine Zc1 (decide_eq_true h4) ?_
  refine Sep.callp h (orient134 t.cx t.cy t.ax t.ay x y _) ?_
  clear h F
  intro _ h
  replace h:=Zd h;have F:=Zf5 h;refine Zc ?_
  (first | exact ⟨rfl,h.done⟩ | exact h.done)
end Go.Proofs.YtnhgjgoglmadnaaGreat
