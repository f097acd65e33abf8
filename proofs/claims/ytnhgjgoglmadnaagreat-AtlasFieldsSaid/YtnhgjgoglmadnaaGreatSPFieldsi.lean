/- Joined texts of this claim (part 9), printed by a program of this work. The last part holds the claimed theorem: the law answers true at every input of its row. -/
import Derived.Test.YtnhgjgoglmadnaaGreatSPFieldsh
namespace Go.Proofs.YtnhgjgoglmadnaaGreat
open Go.RowKit
set_option maxRecDepth 100000
set_option linter.unusedSimpArgs false
set_option linter.unusedVariables false
theorem cmp2_pos (x y x' y' : Int) : 0 < cmp2 x y x' y'↔(x' < x∨x = x'∧y' < y):=by
  unfold cmp2 cmpI
  split<;>split<;>(try split)<;>(try split)<;>omega
theorem cmp2_neg (x y x' y' : Int) : cmp2 x y x' y' < 0↔(x < x'∨x = x'∧y < y'):=by
  unfold cmp2 cmpI
  split<;>split<;>(try split)<;>(try split)<;>omega
def later (ax ay bx by' cx cy : Int) : Prop:=(bx < ax∨ax = bx∧by' < ay)∨(cx < ax∨ax = cx∧cy < ay)
instance (ax ay bx by' cx cy : Int) : Decidable (later ax ay bx by' cx cy):=by unfold later;infer_instance
theorem later3 {ax ay bx by' cx cy : Int} (h1 : later ax ay bx by' cx cy) (h2 : later bx by' cx cy ax ay) (h3 : later cx cy ax ay bx by') : False:=by
  unfold later at *
  omega
structure T3 where
  ax : Int
  ay : Int
  bx : Int
  by' : Int
  cx : Int
  cy : Int
def T3.turn (t : T3) : T3:=⟨t.bx,t.by',t.cx,t.cy,t.ax,t.ay⟩
def T3.swap (t : T3) : T3:=⟨t.ax,t.ay,t.cx,t.cy,t.bx,t.by'⟩
def T3.late (t : T3) : Prop:=later t.ax t.ay t.bx t.by' t.cx t.cy
instance (t : T3) : Decidable t.late:=by unfold T3.late;infer_instance
def T3.rot (t : T3) : T3:=if t.late then t.turn else t
def T3.cells (t : T3) : List Value:=[.int .i64 t.ax,.int .i64 t.ay,.int .i64 t.bx,.int .i64 t.by',.int .i64 t.cx,.int .i64 t.cy]
def T3.or (t : T3) : Int:=orientI t.ax t.ay t.bx t.by' t.cx t.cy
def T3.first (t : T3) : T3:=if t.or = -1 then t.swap else t
def T3.mk' (t : T3) : T3:=if t.or = 0 then ⟨0,0,0,0,0,0⟩ else t.first.rot.rot
def T3.ok (t : T3) : Bool:=!decide (t.or = 0)
theorem T3.rot_of (t : T3) (j : Nat) (u : T3) (hj : (j = 0∧u = t)∨(j = 1∧u = t.turn∧t.late)∨(j = 2∧u = t.turn.turn∧t.late∧t.turn.late)) (hu : ¬ u.late) : t.rot.rot = u:=by
  rcases hj with ⟨_,rfl⟩ | ⟨_,rfl,h1⟩ | ⟨_,rfl,h1,h2⟩
  · simp [T3.rot,hu]
  · simp [T3.rot,hu,h1]
  · simp [T3.rot,h1,h2]
theorem T3.last (t : T3) (h1 : t.late) (h2 : t.turn.late) : ¬ t.turn.turn.late:=fun h3=>later3 h1 h2 h3
theorem make136 (t : T3) (w : World) : Calls Tryz.prog 82 [.agg #[.int .i64 t.ax, .int .i64 t.ay], .agg #[.int .i64 t.bx, .int .i64 t.by'], .agg #[.int .i64 t.cx, .int .i64 t.cy]].toArray w
    (RetP (.tuple #[.agg t.mk'.cells.toArray,.bool t.ok]) w):=by
  refine walk Tryz.func82 rfl (by kernel_rfl) (by rw [Tryz.nt82];simp) ?_
  refine Zv ?_
  intro w1 b3 n1 w2 b4 n2 w3 b5 n3 w4 b6 n4
  have h3:=chg_blk n4.chg (chg_blk n3.chg (chg_blk n2.chg n1.blkOf))
  have h4:=chg_blk n4.chg (chg_blk n3.chg n2.blkOf)
  have h5:=chg_blk n4.chg n3.blkOf
  have c14:=((n1.chg.seq n2.chg).seq n3.chg).seq n4.chg
  have F4 : Fr w.heap.size w w4:=⟨Nat.le_refl _,c14.mono fun _ f=>f.elim⟩
  have q1:=n1.eq;have q2:=n2.eq;have q3:=n3.eq;have q4:=n4.eq
  have z1:=n1.size;have z2:=n2.size;have z3:=n3.size
  have m34 : b3 < b4:=by omega
  have m45 : b4 < b5:=by omega
  have m56 : b5 < b6:=by omega
  have m3 : w.heap.size≤b3:=by omega
  clear q1 q2 q3 q4 z1 z2 z3
  refine Zw1 (J (cell_of_blkOf h3) (J (cell_of_blkOf h4) (cell_of_blkOf h5))) ?_
  refine callsK_new (orient142 _ _ _ _ _ _ w4) ?_
  intro w5 c5
  have F5:=F4.nil c5
  have k3:=chg_blk c5 h3
  have k4:=chg_blk c5 h4
  have k5:=chg_blk c5 h5
  have k6:=chg_blk c5 n4.blkOf
  have er : orientI t.ax t.ay t.bx t.by' t.cx t.cy = t.or:=rfl
  rw [er]
  by_cases ho : t.or = 0
  · refine Zv1 (J (decide_eq_true ho) k6) ?_
    intro w6 p6
    refine Zw1 p6.cell ?_
    exact ⟨by simp [T3.mk',T3.cells,T3.ok,ho],(F5.one p6.chg (by omega)).done⟩
  have hmk : t.mk' = t.first.rot.rot:=by simp [T3.mk',ho]
  have hok : t.ok = true:=by simp [T3.ok,ho]
  rw [hmk,hok]
  generalize hs : t.first = s
  by_cases h1 : t.or = -1
  case' pos=>
    refine Zw1 (J (decide_eq_false ho) (J (decide_eq_true h1) (J (cell_of_blkOf k4) (J (cell_of_blkOf k5) (J k4 k5))))) ?_
    intro w6 p6
    have f5:=p6.chg.blkOf k5 (by omega)
    refine Zv1 f5 ?_
    intro w7 p7
    have hs' : s = t.swap:=by rw [← hs];simp [T3.first,h1]
    have FL : Fr w.heap.size w w7:=(F5.one p6.chg (by omega)).one p7.chg (by omega)
    have K3 : blkOf w7 b3 = some ([.int .i64 s.ax,.int .i64 s.ay],45):=by rw [hs'];exact p7.chg.blkOf (p6.chg.blkOf k3 (by omega)) (by omega)
    have K4 : blkOf w7 b4 = some ([.int .i64 s.bx,.int .i64 s.by'],45):=by rw [hs'];exact p7.chg.blkOf p6.blkOf (by omega)
    have K5 : blkOf w7 b5 = some ([.int .i64 s.cx,.int .i64 s.cy],45):=by rw [hs'];exact p7.blkOf
    have K6:=p7.chg.blkOf (p6.chg.blkOf k6 (by omega)) (by omega)
  case' neg=>
    refine Zv1 (J (decide_eq_false ho) (decide_eq_false h1)) ?_
    have hs' : s = t:=by rw [← hs];simp [T3.first,h1]
    have FL:=F5
    have K3 : blkOf w5 b3 = some ([.int .i64 s.ax,.int .i64 s.ay],45):=by rw [hs'];exact k3
    have K4 : blkOf w5 b4 = some ([.int .i64 s.bx,.int .i64 s.by'],45):=by rw [hs'];exact k4
    have K5 : blkOf w5 b5 = some ([.int .i64 s.cx,.int .i64 s.cy],45):=by rw [hs'];exact k5
    have K6:=k6
  all_goals
    clear k3 k4 k5 k6 h3 h4 h5 hs'
    refine walkLoop [3,4,5,6] [] (fun q vs w'=>vs = []∧∃ j u,((j = 0∧u = s)∨(j = 1∧u = s.turn∧s.late)∨(j = 2∧u = s.turn.turn∧s.late∧s.turn.late))∧q = 3 - j∧Fr w.heap.size w w'∧
      blkOf w' b3 = some ([.int .i64 u.ax,.int .i64 u.ay],45)∧blkOf w' b4 = some ([.int .i64 u.bx,.int .i64 u.by'],45)∧blkOf w' b5 = some ([.int .i64 u.cx,.int .i64 u.cy],45)∧
      ∃ z0 z1 z2 z3 z4 z5,blkOf w' b6 = some ([z0,z1,z2,z3,z4,z5],49)) (by kernel_rfl) ?_ ?_
    · refine Zv ?_
      exact ⟨_,0,s,.inl ⟨rfl,rfl⟩,rfl,FL,K3,K4,K5,_,_,_,_,_,_,K6⟩
    · intro ks hk q vs wr hi
      obtain ⟨rfl,j,u,hju,rfl,Fu,U3,U4,U5,z0,z1,z2,z3,z4,z5,U6⟩ :=hi
      replace hk:=Zk hk;subst hk
      refine Zw1 (J (cell_of_blkOf U3) (cell_of_blkOf U4)) ?_
      refine callsK_new (cmp143 u.ax u.ay u.bx u.by' wr) ?_
      intro wc cc
      have Fc:=Fu.nil cc
      have V3:=chg_blk cc U3
      have V4:=chg_blk cc U4
      have V5:=chg_blk cc U5
      have V6:=chg_blk cc U6
      have key : u.late→∃ j',3 - j' < 3 - j∧((j' = 0∧u.turn = s)∨(j' = 1∧u.turn = s.turn∧s.late)∨(j' = 2∧u.turn = s.turn.turn∧s.late∧s.turn.late)):=fun hl=>by
        rcases hju with ⟨rfl,rfl⟩ | ⟨rfl,rfl,g1⟩ | ⟨rfl,rfl,g1,g2⟩
        · exact ⟨1,by decide,.inr (.inl ⟨rfl,rfl,hl⟩)⟩
        · exact ⟨2,by decide,.inr (.inr ⟨rfl,rfl,g1,hl⟩)⟩
        · exact absurd hl (T3.last s g1 g2)
      by_cases e1 : 0 < cmp2 u.ax u.ay u.bx u.by'
      case' pos=>
        have hl : u.late:=by unfold T3.late later;have:=(cmp2_pos _ _ _ _).1 e1;omega
        refine Zv1 (decide_eq_true e1) ?_
      case' neg=>
        refine Zw1 (J (decide_eq_false e1) (J (cell_of_blkOf V3) (cell_of_blkOf V5))) ?_
        refine callsK_new (cmp143 u.ax u.ay u.cx u.cy wc) ?_
        intro wd cd
        have W3:=chg_blk cd V3
        have W4:=chg_blk cd V4
        have W5:=chg_blk cd V5
        have W6:=chg_blk cd V6
        have Fd:=Fc.nil cd
        clear V3 V4 V5 V6 Fc
        by_cases e2 : 0 < cmp2 u.ax u.ay u.cx u.cy
        case' neg=>
          have hnl : ¬ u.late:=by
            unfold T3.late later
            have g1:=mt (cmp2_pos _ _ _ _).2 e1
            have g2:=mt (cmp2_pos _ _ _ _).2 e2
            omega
          have hrr:=T3.rot_of s j u hju hnl
          refine Zw1 (J (decide_eq_false e2) (J (cell_of_blkOf W3) (J (cell_of_blkOf W4) (J (cell_of_blkOf W5) W6)))) ?_
          intro we pe
          try refine Zw1 pe.cell ?_
          rw [hrr]
          exact ⟨rfl,(Fd.one pe.chg (by omega)).done⟩
        case' pos=>
          have hl : u.late:=by unfold T3.late later;have:=(cmp2_pos _ _ _ _).1 e2;omega
          have V3:=W3
          have V4:=W4
          have V5:=W5
          have V6:=W6
          have Fc:=Fd
          clear W3 W4 W5 W6 Fd
          refine Zv1 (decide_eq_true e2) ?_
          clear cc cd
          revert V3 V4 V5 V6 Fc
          generalize wd = wc
          intro V3 V4 V5 V6 Fc
      all_goals
        obtain ⟨j',hj',hju'⟩ :=key hl
        clear key e1
        refine walkDraw (.lll 0 (.ll 1 (.l 2 (.l 3 (.l 4 (.l 5 .fin)))) 2 (.ll 1 (.l 3 (.l 4 (.l 5 .fin))) 3 (.l 1 (.l 4 (.l 5 .fin))))) 1 (.ll 0 (.l 2 (.l 3 (.l 4 (.l 5 .fin)))) 2 (.l 0 (.l 3 (.l 4 (.l 5 .fin))))) 2 (.ll 0 (.ll 1 (.l 3 (.l 4 (.l 5 .fin))) 3 (.l 1 (.l 4 (.l 5 .fin)))) 1 (.l 0 (.l 3 (.l 4 (.l 5 .fin)))))) [] (by kernel_rfl) (by simp [Holds_nil]) ?_
        intro wx ex cx
        have X3:=chg_blk cx V3
        have X4:=chg_blk cx V4
        have X5:=chg_blk cx V5
        have X6:=chg_blk cx V6
        have Fx:=Fc.nil cx
        simp -dsimp only [↓vcA,vcB,vcD,↓pureT_lenS,↓iteT,↓iteF,cond_true,cond_false,eq_self,argE,Env.get,Env.push,ev,evs,evo,retV,Value.cells,Value.oneCell',setR,overR,fillL,zl,places,allSizes,heldC,ne_eq,Int.reduceLE,Int.reduceLT,Int.reduceEq,Int.reduceNe,Int.reduceToNat,Int.cast_ofNat_Int,Nat.reduceMul,Nat.reduceLeDiff,reduceIte,Nat.reduceEqDiff,Nat.reduceAdd,↓reduceIte,Tryz.vcT,Holds_nil,cell_of_blkOf X3,cell_of_blkOf X4,cell_of_blkOf X5,cellsAt,X3]
        repeat' apply And.intro
        all_goals
          intro wy py
          have Y3:=py.blkOf
          have Y4:=py.chg.blkOf X4 (by omega)
          have Y5:=py.chg.blkOf X5 (by omega)
          have Y6:=py.chg.blkOf X6 (by omega)
          try simp -dsimp only [↓vcA,vcB,vcD,↓pureT_lenS,↓iteT,↓iteF,cond_true,cond_false,eq_self,argE,Env.get,Env.push,ev,evs,evo,retV,Value.cells,Value.oneCell',setR,overR,fillL,zl,places,allSizes,heldC,ne_eq,Int.reduceLE,Int.reduceLT,Int.reduceEq,Int.reduceNe,Int.reduceToNat,Int.cast_ofNat_Int,Nat.reduceMul,Nat.reduceLeDiff,reduceIte,Nat.reduceEqDiff,Nat.reduceAdd,↓reduceIte,Tryz.vcT,Holds_nil,cell_of_blkOf Y5,cellsAt,Y4]
          intro wz pz
          have Z3:=pz.chg.blkOf Y3 (by omega)
          have Z4:=pz.blkOf
          have Z5:=pz.chg.blkOf Y5 (by omega)
          have Z6:=pz.chg.blkOf Y6 (by omega)
          try simp -dsimp only [↓vcA,vcB,vcD,↓pureT_lenS,↓iteT,↓iteF,cond_true,cond_false,eq_self,argE,Env.get,Env.push,ev,evs,evo,retV,Value.cells,Value.oneCell',setR,overR,fillL,zl,places,allSizes,heldC,ne_eq,Int.reduceLE,Int.reduceLT,Int.reduceEq,Int.reduceNe,Int.reduceToNat,Int.cast_ofNat_Int,Nat.reduceMul,Nat.reduceLeDiff,reduceIte,Nat.reduceEqDiff,Nat.reduceAdd,↓reduceIte,Tryz.vcT,Holds_nil,Z5]
          intro wq pq
          try refine Zv ?_
          exact ⟨_,hj',j',u.turn,hju',rfl,((Fx.one py.chg (by omega)).one pz.chg (by omega)).one pq.chg (by omega),pq.chg.blkOf Z3 (by omega),pq.chg.blkOf Z4 (by omega),pq.blkOf,_,_,_,_,_,_,pq.chg.blkOf Z6 (by omega)⟩
theorem make78 (t : T3) (w : World) : Calls Tryz.prog 86 [.agg #[.int .i64 t.ax, .int .i64 t.ay], .agg #[.int .i64 t.bx, .int .i64 t.by'], .agg #[.int .i64 t.cx, .int .i64 t.cy]].toArray w
    (RetP (.tuple #[.agg t.mk'.cells.toArray,.bool t.ok]) w):=by
  refine walk Tryz.func86 rfl (by kernel_rfl) (by rw [Tryz.nt86];simp) ?_
  refine Zv ?_
  intro w1 b3 n1 w2 b4 n2 w3 b5 n3 w4 b6 n4
  have h3:=chg_blk n4.chg (chg_blk n3.chg (chg_blk n2.chg n1.blkOf))
  have h4:=chg_blk n4.chg (chg_blk n3.chg n2.blkOf)
  have h5:=chg_blk n4.chg n3.blkOf
  have c14:=((n1.chg.seq n2.chg).seq n3.chg).seq n4.chg
  have F4 : Fr w.heap.size w w4:=⟨Nat.le_refl _,c14.mono fun _ f=>f.elim⟩
  have q1:=n1.eq;have q2:=n2.eq;have q3:=n3.eq;have q4:=n4.eq
  have z1:=n1.size;have z2:=n2.size;have z3:=n3.size
  have m34 : b3 < b4:=by omega
  have m45 : b4 < b5:=by omega
  have m56 : b5 < b6:=by omega
  have m3 : w.heap.size≤b3:=by omega
  clear q1 q2 q3 q4 z1 z2 z3
  refine Zw1 (J (cell_of_blkOf h3) (J (cell_of_blkOf h4) (cell_of_blkOf h5))) ?_
  refine callsK_new (orient134 _ _ _ _ _ _ w4) ?_
  intro w5 c5
  have F5:=F4.nil c5
  have k3:=chg_blk c5 h3
  have k4:=chg_blk c5 h4
  have k5:=chg_blk c5 h5
  have k6:=chg_blk c5 n4.blkOf
  have er : orientI t.ax t.ay t.bx t.by' t.cx t.cy = t.or:=rfl
  rw [er]
  by_cases ho : t.or = 0
  · refine Zv1 (J (decide_eq_true ho) k6) ?_
    intro w6 p6
    refine Zw1 p6.cell ?_
    exact ⟨by simp [T3.mk',T3.cells,T3.ok,ho],(F5.one p6.chg (by omega)).done⟩
  have hmk : t.mk' = t.first.rot.rot:=by simp [T3.mk',ho]
  have hok : t.ok = true:=by simp [T3.ok,ho]
  rw [hmk,hok]
  generalize hs : t.first = s
  by_cases h1 : t.or = -1
  case' pos=>
    refine Zw1 (J (decide_eq_false ho) (J (decide_eq_true h1) (J (cell_of_blkOf k4) (J (cell_of_blkOf k5) (J k4 k5))))) ?_
    intro w6 p6
    have f5:=p6.chg.blkOf k5 (by omega)
    refine Zv1 f5 ?_
    intro w7 p7
    have hs' : s = t.swap:=by rw [← hs];simp [T3.first,h1]
    have FL : Fr w.heap.size w w7:=(F5.one p6.chg (by omega)).one p7.chg (by omega)
    have K3 : blkOf w7 b3 = some ([.int .i64 s.ax,.int .i64 s.ay],45):=by rw [hs'];exact p7.chg.blkOf (p6.chg.blkOf k3 (by omega)) (by omega)
    have K4 : blkOf w7 b4 = some ([.int .i64 s.bx,.int .i64 s.by'],45):=by rw [hs'];exact p7.chg.blkOf p6.blkOf (by omega)
    have K5 : blkOf w7 b5 = some ([.int .i64 s.cx,.int .i64 s.cy],45):=by rw [hs'];exact p7.blkOf
    have K6:=p7.chg.blkOf (p6.chg.blkOf k6 (by omega)) (by omega)
  case' neg=>
    refine Zv1 (J (decide_eq_false ho) (decide_eq_false h1)) ?_
    have hs' : s = t:=by rw [← hs];simp [T3.first,h1]
    have FL:=F5
    have K3 : blkOf w5 b3 = some ([.int .i64 s.ax,.int .i64 s.ay],45):=by rw [hs'];exact k3
    have K4 : blkOf w5 b4 = some ([.int .i64 s.bx,.int .i64 s.by'],45):=by rw [hs'];exact k4
    have K5 : blkOf w5 b5 = some ([.int .i64 s.cx,.int .i64 s.cy],45):=by rw [hs'];exact k5
    have K6:=k6
  all_goals
    clear k3 k4 k5 k6 h3 h4 h5 hs'
    refine walkLoop [3,4,5,6] [] (fun q vs w'=>vs = []∧∃ j u,((j = 0∧u = s)∨(j = 1∧u = s.turn∧s.late)∨(j = 2∧u = s.turn.turn∧s.late∧s.turn.late))∧q = 3 - j∧Fr w.heap.size w w'∧
      blkOf w' b3 = some ([.int .i64 u.ax,.int .i64 u.ay],45)∧blkOf w' b4 = some ([.int .i64 u.bx,.int .i64 u.by'],45)∧blkOf w' b5 = some ([.int .i64 u.cx,.int .i64 u.cy],45)∧
      ∃ z0 z1 z2 z3 z4 z5,blkOf w' b6 = some ([z0,z1,z2,z3,z4,z5],49)) (by kernel_rfl) ?_ ?_
    · refine Zv ?_
      exact ⟨_,0,s,.inl ⟨rfl,rfl⟩,rfl,FL,K3,K4,K5,_,_,_,_,_,_,K6⟩
    · intro ks hk q vs wr hi
      obtain ⟨rfl,j,u,hju,rfl,Fu,U3,U4,U5,z0,z1,z2,z3,z4,z5,U6⟩ :=hi
      replace hk:=Zk hk;subst hk
      refine Zw1 (J (cell_of_blkOf U3) (cell_of_blkOf U4)) ?_
      refine callsK_new (cmpPoint u.bx u.by' u.ax u.ay wr) ?_
      intro wc cc
      have Fc:=Fu.nil cc
      have V3:=chg_blk cc U3
      have V4:=chg_blk cc U4
      have V5:=chg_blk cc U5
      have V6:=chg_blk cc U6
      have key : u.late→∃ j',3 - j' < 3 - j∧((j' = 0∧u.turn = s)∨(j' = 1∧u.turn = s.turn∧s.late)∨(j' = 2∧u.turn = s.turn.turn∧s.late∧s.turn.late)):=fun hl=>by
        rcases hju with ⟨rfl,rfl⟩ | ⟨rfl,rfl,g1⟩ | ⟨rfl,rfl,g1,g2⟩
        · exact ⟨1,by decide,.inr (.inl ⟨rfl,rfl,hl⟩)⟩
        · exact ⟨2,by decide,.inr (.inr ⟨rfl,rfl,g1,hl⟩)⟩
        · exact absurd hl (T3.last s g1 g2)
      by_cases e1 : cmp2 u.bx u.by' u.ax u.ay < 0
      case' pos=>
        have hl : u.late:=by unfold T3.late later;have:=(cmp2_neg _ _ _ _).1 e1;omega
        refine Zv1 (decide_eq_true e1) ?_
      case' neg=>
        refine Zw1 (J (decide_eq_false e1) (J (cell_of_blkOf V3) (cell_of_blkOf V5))) ?_
        refine callsK_new (cmpPoint u.cx u.cy u.ax u.ay wc) ?_
        intro wd cd
        have W3:=chg_blk cd V3
        have W4:=chg_blk cd V4
        have W5:=chg_blk cd V5
        have W6:=chg_blk cd V6
        have Fd:=Fc.nil cd
        clear V3 V4 V5 V6 Fc
        by_cases e2 : cmp2 u.cx u.cy u.ax u.ay < 0
        case' neg=>
          have hnl : ¬ u.late:=by
            unfold T3.late later
            have g1:=mt (cmp2_neg _ _ _ _).2 e1
            have g2:=mt (cmp2_neg _ _ _ _).2 e2
            omega
          have hrr:=T3.rot_of s j u hju hnl
          refine Zw1 (J (decide_eq_false e2) (J (cell_of_blkOf W3) (J (cell_of_blkOf W4) (J (cell_of_blkOf W5) W6)))) ?_
          intro we pe
          try refine Zw1 pe.cell ?_
          rw [hrr]
          exact ⟨rfl,(Fd.one pe.chg (by omega)).done⟩
        case' pos=>
          have hl : u.late:=by unfold T3.late later;have:=(cmp2_neg _ _ _ _).1 e2;omega
          have V3:=W3
          have V4:=W4
          have V5:=W5
          have V6:=W6
          have Fc:=Fd
          clear W3 W4 W5 W6 Fd
          refine Zv1 (decide_eq_true e2) ?_
          clear cc cd
          revert V3 V4 V5 V6 Fc
          generalize wd = wc
          intro V3 V4 V5 V6 Fc
      all_goals
        obtain ⟨j',hj',hju'⟩ :=key hl
        clear key e1
        refine walkDraw (.lll 0 (.ll 1 (.l 2 (.l 3 (.l 4 (.l 5 .fin)))) 2 (.ll 1 (.l 3 (.l 4 (.l 5 .fin))) 3 (.l 1 (.l 4 (.l 5 .fin))))) 1 (.ll 0 (.l 2 (.l 3 (.l 4 (.l 5 .fin)))) 2 (.l 0 (.l 3 (.l 4 (.l 5 .fin))))) 2 (.ll 0 (.ll 1 (.l 3 (.l 4 (.l 5 .fin))) 3 (.l 1 (.l 4 (.l 5 .fin)))) 1 (.l 0 (.l 3 (.l 4 (.l 5 .fin)))))) [] (by kernel_rfl) (by simp [Holds_nil]) ?_
        intro wx ex cx
        have X3:=chg_blk cx V3
        have X4:=chg_blk cx V4
        have X5:=chg_blk cx V5
        have X6:=chg_blk cx V6
        have Fx:=Fc.nil cx
        simp -dsimp only [↓vcA,vcB,vcD,↓pureT_lenS,↓iteT,↓iteF,cond_true,cond_false,eq_self,argE,Env.get,Env.push,ev,evs,evo,retV,Value.cells,Value.oneCell',setR,overR,fillL,zl,places,allSizes,heldC,ne_eq,Int.reduceLE,Int.reduceLT,Int.reduceEq,Int.reduceNe,Int.reduceToNat,Int.cast_ofNat_Int,Nat.reduceMul,Nat.reduceLeDiff,reduceIte,Nat.reduceEqDiff,Nat.reduceAdd,↓reduceIte,Tryz.vcT,Holds_nil,cell_of_blkOf X3,cell_of_blkOf X4,cell_of_blkOf X5,cellsAt,X3]
        repeat' apply And.intro
        all_goals
          intro wy py
          have Y3:=py.blkOf
          have Y4:=py.chg.blkOf X4 (by omega)
          have Y5:=py.chg.blkOf X5 (by omega)
          have Y6:=py.chg.blkOf X6 (by omega)
          try simp -dsimp only [↓vcA,vcB,vcD,↓pureT_lenS,↓iteT,↓iteF,cond_true,cond_false,eq_self,argE,Env.get,Env.push,ev,evs,evo,retV,Value.cells,Value.oneCell',setR,overR,fillL,zl,places,allSizes,heldC,ne_eq,Int.reduceLE,Int.reduceLT,Int.reduceEq,Int.reduceNe,Int.reduceToNat,Int.cast_ofNat_Int,Nat.reduceMul,Nat.reduceLeDiff,reduceIte,Nat.reduceEqDiff,Nat.reduceAdd,↓reduceIte,Tryz.vcT,Holds_nil,cell_of_blkOf Y5,cellsAt,Y4]
          intro wz pz
          have Z3:=pz.chg.blkOf Y3 (by omega)
          have Z4:=pz.blkOf
          have Z5:=pz.chg.blkOf Y5 (by omega)
          have Z6:=pz.chg.blkOf Y6 (by omega)
          try simp -dsimp only [↓vcA,vcB,vcD,↓pureT_lenS,↓iteT,↓iteF,cond_true,cond_false,eq_self,argE,Env.get,Env.push,ev,evs,evo,retV,Value.cells,Value.oneCell',setR,overR,fillL,zl,places,allSizes,heldC,ne_eq,Int.reduceLE,Int.reduceLT,Int.reduceEq,Int.reduceNe,Int.reduceToNat,Int.cast_ofNat_Int,Nat.reduceMul,Nat.reduceLeDiff,reduceIte,Nat.reduceEqDiff,Nat.reduceAdd,↓reduceIte,Tryz.vcT,Holds_nil,Z5]
          intro wq pq
          try refine Zv ?_
          exact ⟨_,hj',j',u.turn,hju',rfl,((Fx.one py.chg (by omega)).one pz.chg (by omega)).one pq.chg (by omega),pq.chg.blkOf Z3 (by omega),pq.chg.blkOf Z4 (by omega),pq.blkOf,_,_,_,_,_,_,pq.chg.blkOf Z6 (by omega)⟩
def T3.valid (t : T3) : Bool:=t.ok && decide (t.mk'.ax = t.ax∧t.mk'.ay = t.ay∧t.mk'.bx = t.bx∧t.mk'.by' = t.by'∧t.mk'.cx = t.cx∧t.mk'.cy = t.cy)
theorem valid79 (t : T3) (w : World) : Calls Tryz.prog 18 [.agg #[.int .i64 t.ax,.int .i64 t.ay,.int .i64 t.bx,.int .i64 t.by',.int .i64 t.cx,.int .i64 t.cy]].toArray w (RetP (.bool t.valid) w):=by
  refine walk Tryz.func18 rfl (by kernel_rfl) (by rw [Tryz.nt18];simp) ?_
  refine Zv ?_
  intro w1 b1 n1
  try refine Zw1 n1.cell ?_
  refine callsK_new (make136 t w1) ?_
  intro w2 c2
  have h2:=chg_blk c2 n1.blkOf
  refine Zv1 tupK_mk ?_
  intro w3 b3 n3
  have h3:=chg_blk n3.chg h2
  refine Zv1 (J n3.blkOf (@T3.cells.eq_1)) ?_
  intro w4 p4
  have h4:=p4.chg.blkOf h3 (by have:=n3.eq;have:=lt_of_blkOf h2;omega)
  have F : Fr w.heap.size w w4:=(((Fr.refl w).new n1).nil c2 |>.new n3).one p4.chg ((((Fr.refl w).new n1).nil c2).newUp n3)
  cases hk : t.ok with
  | false=>
    have e : t.valid = false:=by simp [T3.valid,hk]
    refine Zv1 e ?_
    exact F.done
  | true=>
    have e : t.valid = decide (t.mk'.ax = t.ax∧t.mk'.ay = t.ay∧t.mk'.bx = t.bx∧t.mk'.by' = t.by'∧t.mk'.cx = t.cx∧t.mk'.cy = t.cy):=by simp [T3.valid,hk]
    refine Zw1 (J p4.cell (J (cell_of_blkOf h4) eql_tri)) ?_
    exact ⟨by rw [e],F.done⟩
theorem validTri (t : T3) (w : World) : Calls Tryz.prog 100 [.agg #[.int .i64 t.ax,.int .i64 t.ay,.int .i64 t.bx,.int .i64 t.by',.int .i64 t.cx,.int .i64 t.cy]].toArray w (RetP (.bool t.valid) w):=by
  refine walk Tryz.func100 rfl (by kernel_rfl) (by rw [Tryz.nt100];simp) ?_
  refine Zv ?_
  intro w1 b1 n1
  try refine Zw1 n1.cell ?_
  refine callsK_new (make78 t w1) ?_
  intro w2 c2
  have h2:=chg_blk c2 n1.blkOf
  refine Zv1 tupK_mk ?_
  intro w3 b3 n3
  have h3:=chg_blk n3.chg h2
  refine Zv1 (J n3.blkOf (@T3.cells.eq_1)) ?_
  intro w4 p4
  have h4:=p4.chg.blkOf h3 (by have:=n3.eq;have:=lt_of_blkOf h2;omega)
  have F : Fr w.heap.size w w4:=(((Fr.refl w).new n1).nil c2 |>.new n3).one p4.chg ((((Fr.refl w).new n1).nil c2).newUp n3)
  cases hk : t.ok with
  | false=>
    have e : t.valid = false:=by simp [T3.valid,hk]
    refine Zv1 e ?_
    exact F.done
  | true=>
    have e : t.valid = decide (t.mk'.ax = t.ax∧t.mk'.ay = t.ay∧t.mk'.bx = t.bx∧t.mk'.by' = t.by'∧t.mk'.cx = t.cx∧t.mk'.cy = t.cy):=by simp [T3.valid,hk]
    refine Zw1 (J p4.cell (J (cell_of_blkOf h4) eql_tri)) ?_
    exact ⟨by rw [e],F.done⟩
theorem WrStep.blkOf {p b : Nat} {w w' : World} {v v' : Value} {x : List Value×TypeId} (k : WrStep p w v w' v') (hb : blkOf w b = some x) (hs : Safe p v b) : blkOf w' b = some x:=
  k.chg.blkOf hb fun e=>e.elim hs.1 hs.2
structure Prt where
  kind : Int
  n : Int
  size : Int
  px : Int
  py : Int
  ax : Int
  ay : Int
  bx : Int
  by' : Int
  cx : Int
  cy : Int
  b : List Int
def Prt.cells (p : Prt) (vb : Value) : List Value:=
  [.int .i64 p.kind,.int .i64 p.n,.int .i64 p.size,.int .i64 p.px,.int .i64 p.py,.int .i64 p.ax,.int .i64 p.ay,.int .i64 p.bx,.int .i64 p.by',.int .i64 p.cx,.int .i64 p.cy,vb]
def Prt.ints (p : Prt) : List Int:=[p.kind,p.n,p.size,p.px,p.py,p.ax,p.ay,p.bx,p.by',p.cx,p.cy]
structure Parts (w : World) (v : Value) (ps : List (Prt×Value)) : Prop where
  shape : ∃ a c,v = .slice a ps.length c∧ps.length≤maxLen∧(0 < ps.length→∃ b o,a = some ⟨b,o,none⟩ ∧∀ i (h : i < ps.length) j u,(ps[i].1.cells ps[i].2)[j]? = some u→w.cell? ⟨b,o + i * 12 + j,none⟩ = some u)
  each : ∀ x ∈ ps,Rd w x.2 x.1.b∧Byt x.1.b∧Ok64 x.1.ints
theorem Parts.old {w w1 : World} {v : Value} {ps : List (Prt×Value)} (h : Parts w v ps) (f : Fr w.heap.size w w1) : Parts w1 v ps:=by
  obtain ⟨a,c,rfl,h2,h1⟩ :=h.shape
  refine ⟨⟨a,c,rfl,h2,fun hp=>?_⟩,fun x hx=>⟨(h.each x hx).1.old f,(h.each x hx).2⟩⟩
  obtain ⟨b,o,rfl,hc⟩ :=h1 hp
  exact ⟨b,o,rfl,fun i hi j u hj=>f.done.cell (hc i hi j u hj) id⟩
theorem cellsAt_of {w : World} {b : Nat} : ∀ {o : Nat} (cs : List Value),(∀ j u,cs[j]? = some u→w.cell? ⟨b,o + j,none⟩ = some u)→cellsAt w b o cs.length = some cs
  | o,[],_=>rfl
  | o,x :: cs,h=>by
    have h0:=h 0 x rfl
    rw [Nat.add_zero] at h0
    have:=cellsAt_of (o:=o + 1) cs fun j u hj=>by
      have:=h (j + 1) u (by simpa using hj)
      rw [show o + 1 + j = o + (j + 1) by omega];exact this
    simp [cellsAt,h0,this]
theorem Parts.at {w : World} {a : Option Addr} {n c : Nat} {ps : List (Prt × Value)} (h : Parts w (.slice a n c) ps) {i : Nat} (hi : i < ps.length) :
    ∃ b o,a = some ⟨b,o,none⟩ ∧cellsAt w b (o + i * 12) 12 = some (ps[i].1.cells ps[i].2):=by
  obtain ⟨a',c',e,hm,h1⟩ :=h.shape
  injection e with e1 e2 e3
  obtain ⟨b,o,h2,hc⟩ :=h1 (by omega)
  exact ⟨b,o,by rw [e1,h2],cellsAt_of _ (hc i hi)⟩
theorem R8.num_no (s : R8) (n : Int) (h : s.bad = true∨n < 1∨7 < n∨(s.l.length : Int) < n) : s.numV n = 0∧s.numS n = ⟨s.l,true⟩ :=by
  have hl : (s.sz n).l = s.l:=by unfold R8.sz;split<;>rfl
  have hno : (s.sz n).no n:=by
    rcases h with h | h | h | h
    · left;unfold R8.sz;split<;>simp [h]
    · left;simp [R8.sz,h]
    · left;simp [R8.sz,h]
    · right;right;rw [hl];exact h
  constructor
  · unfold R8.numV R8.rawV;rw [if_pos hno];rfl
  · unfold R8.numS R8.rawS;rw [if_pos hno,hl]
theorem R8.num_yes (s : R8) (k : Nat) (hb : s.bad = false) (h1 : 1≤k) (h7 : k≤7) (hl : k≤s.l.length) : s.numV k = rval (s.l.take k)∧s.numS k = ⟨s.l.drop k,false⟩ :=by
  have hz : s.sz k = s:=by unfold R8.sz;rw [if_neg (by omega)]
  have hno : ¬ s.no k:=by
    intro h
    rcases h with h | h | h
    · simp [hb] at h
    · omega
    · omega
  constructor
  · unfold R8.numV R8.rawV;rw [hz,if_neg hno];simp
  · unfold R8.numS R8.rawS;rw [hz,if_neg hno,hb];simp
structure RSt (t p : Nat) (w : World) (v : Value) (s : R8) (w' : World) (v' : Value) (s' : R8) : Prop where
  r0 : Rdr t w p v s
  rd : Rdr t w' p v' s'
  chg : Chg (fun k=>k = p∨w.heap.size≤k) w w'
  sub : ∀ k,v'.ownBlock = some k→v.ownBlock = some k
  len : s'.l.length≤s.l.length
section
variable {t p : Nat} {w w' w'' : World} {v v' : Value} {s s' s'' : R8}
theorem RSt.start (h : Rdr t w p v s) : RSt t p w v s w v s:=⟨h,h,Chg.refl _ _,fun _=>id,Nat.le_refl _⟩
theorem RSt.nil (r : RSt t p w v s w' v' s') (c : Chg (fun _=>False) w' w'') : RSt t p w v s w'' v' s':=
  ⟨r.r0,r.rd.chg c id (fun _ _ _=>id),r.chg.trans c fun _ f=>f.elim,r.sub,r.len⟩
theorem RSt.put {b : Nat} {cs : List Value} {ty : TypeId} (r : RSt t p w v s w' v' s') (c : Put w' w'' b cs ty) (hb : w.heap.size≤b) : RSt t p w v s w'' v' s':=by
  have hp:=lt_of_block r.r0.blk
  refine ⟨r.r0,r.rd.chg c.chg (by omega) fun hpos k hk e=>?_,r.chg.trans c.chg fun x hx=>.inl (.inr (by omega)),r.sub,r.len⟩
  have:=r.r0.lt (Nat.lt_of_lt_of_le hpos r.len) k (r.sub k hk)
  omega
theorem RSt.step (r : RSt t p w v s w' v' s') (h : RdQ t p w' v' s'' w'') (hl : s''.l.length≤s'.l.length) : ∃ v'',RSt t p w v s w'' v'' s'':=by
  obtain ⟨v2,h2,c2,b2⟩ :=h
  exact ⟨v2,r.r0,h2,r.chg.trans c2 fun x hx=>.inl (.inl hx),fun k hk=>r.sub k (b2 k hk),Nat.le_trans hl r.len⟩
theorem RSt.mark (r : RSt t p w v s w' v' s') (c : Put w' w'' p [v',.bool true] t) : RSt t p w v s w'' v' ⟨s'.l,true⟩ :=by
  obtain ⟨q1,q2⟩ :=r.rd.put (s':=⟨s'.l,true⟩) (Chg.refl _ _) c r.rd.rd (fun _=>id) (Nat.le_refl _)
  exact ⟨r.r0,q1,r.chg.trans q2 fun x hx=>.inl (.inl hx),r.sub,r.len⟩
theorem RSt.q (r : RSt t p w v s w' v' s') : RdQ t p w v s' w':=⟨v',r.rd,r.chg.mono' fun x hx hlt=>hx.elim id fun h=>by omega,r.sub⟩
theorem RSt.up {b : Nat} {cs : List Value} {ty : TypeId} (r : RSt t p w v s w' v' s') (n : New w' w'' b cs ty) : w.heap.size≤b:=by have:=r.chg.size;have:=n.eq;omega
theorem RSt.ne {b : Nat} (r : RSt t p w v s w' v' s') (hb : w.heap.size≤b) : ¬ b = p:=by have:=lt_of_block r.r0.blk;omega
theorem RdQ.blk {b : Nat} {x : List Value×TypeId} (h : RdQ t p w v s' w') (hb : blkOf w b = some x) (hne : ¬ b = p) : blkOf w' b = some x:=by
  obtain ⟨_,_,c,_⟩ :=h
  exact c.blkOf hb hne
end
def R8.pre (s : R8) (k : Int) : R8:=if (s.l.length : Int) < k then ⟨s.l,true⟩ else s
def R8.rptS (s : R8) : R8:=((s.pre 6).numS 3).numS 3
def R8.rptX (s : R8) : Int:=(s.pre 6).numV 3
def R8.rptY (s : R8) : Int:=((s.pre 6).numS 3).numV 3
def R8.rtS3 (s : R8) : R8:=(s.pre 18).rptS.rptS.rptS
def R8.rtT (s : R8) : T3:=⟨(s.pre 18).rptX,(s.pre 18).rptY,(s.pre 18).rptS.rptX,(s.pre 18).rptS.rptY,(s.pre 18).rptS.rptS.rptX,(s.pre 18).rptS.rptS.rptY⟩
def T3.zero : T3:=⟨0,0,0,0,0,0⟩
def R8.rtFail (s : R8) : Bool:=s.rtS3.bad || !s.rtT.valid
def R8.rtriS (s : R8) : R8:=if s.rtFail then ⟨s.rtS3.l,true⟩ else s.rtS3
def R8.rtriV (s : R8) : T3:=if s.rtFail then T3.zero else s.rtT
def R8.tS3 (s : R8) : R8:=s.ptS.ptS.ptS
def R8.tT (s : R8) : T3:=⟨s.ptV.1,s.ptV.2,s.ptS.ptV.1,s.ptS.ptV.2,s.ptS.ptS.ptV.1,s.ptS.ptS.ptV.2⟩
def R8.triS (s : R8) : R8:=if s.tS3.bad then s.tS3 else if s.tT.valid then s.tS3 else ⟨s.tS3.l,true⟩
def R8.triV (s : R8) : T3:=if s.tS3.bad then T3.zero else if s.tT.valid then s.tT else T3.zero
theorem R8.tS3_len (s : R8) : s.tS3.l.length≤s.l.length:=Nat.le_trans (R8.ptS_len _) (Nat.le_trans (R8.ptS_len _) (R8.ptS_len _))
theorem rtri (p : Nat) (v : Value) (s : R8) (w : World) (hw : Rdr 151 w p v s) (hl : s.l.length ≤ 10000000) :
    Calls Tryz.prog 51 [.pointer (some ⟨p,0,none⟩)].toArray w (RetK fun r w'=>r = .agg s.triV.cells.toArray∧RdQ 151 p w v s.triS w'):=by
  refine walk Tryz.func51 rfl (by kernel_rfl) (by rw [Tryz.nt51];simp) ?_
  refine Zv ?_
  intro w1 b n1
  have R1:=(RSt.start hw).nil n1.chg
  have ub:=(RSt.start hw).up n1
  have nb:=R1.ne ub
  have B1:=n1.blkOf
  refine callsK_use (rpoint p v s w1 R1.rd hl) ?_
  rintro _ w2 ⟨rfl,q2⟩
  obtain ⟨v2,R2⟩ :=R1.step q2 (R8.ptS_len _)
  have B2:=q2.blk B1 nb
  refine Zv ?_
  refine callsK_use (rpoint p v2 _ w2 R2.rd (Nat.le_trans (R8.ptS_len _) hl)) ?_
  rintro _ w3 ⟨rfl,q3⟩
  obtain ⟨v3,R3⟩ :=R2.step q3 (R8.ptS_len _)
  have B3:=q3.blk B2 nb
  refine Zv ?_
  refine callsK_use (rpoint p v3 _ w3 R3.rd (Nat.le_trans (R8.ptS_len _) (Nat.le_trans (R8.ptS_len _) hl))) ?_
  rintro _ w4 ⟨rfl,q4⟩
  obtain ⟨v4,R4⟩ :=R3.step q4 (R8.ptS_len _)
  have B4:=q4.blk B3 nb
  have lb4:=lt_of_blkOf B4
  refine Zv ?_
  intro w5 b5 n5
  have u5:=R4.up n5
  have R5:=R4.nil n5.chg
  have m5 : b < b5:=by have:=n5.eq;omega
  refine Zv1 n5.blkOf ?_
  intro w6 p6
  have R6:=R5.put p6 u5
  have B6:=p6.chg.blkOf (chg_blk n5.chg B4) (by omega)
  have C6:=p6.blkOf
  have hcb:=R6.rd.c1
  have hS : s.tS3 = s.ptS.ptS.ptS:=rfl
  rw [← hS] at hcb
  cases hbad : s.tS3.bad with
  | true=>
    rw [hbad] at hcb
    have e1 : s.triV = T3.zero:=by simp [R8.triV,hbad]
    have e2 : s.triS = s.tS3:=by simp [R8.triS,hbad]
    rw [e1,e2]
    refine Zv1 (J hcb B6) ?_
    intro w7 p7
    refine Zw1 p7.cell ?_
    exact ⟨rfl,(R6.put p7 ub).q⟩
  | false=>
    rw [hbad] at hcb
    refine Zw1 (J hcb (cell_of_blkOf C6)) ?_
    refine callsK_new (valid79 s.tT w6) ?_
    intro w7 c7
    have R7:=R6.nil c7
    have B7:=chg_blk c7 B6
    have C7:=chg_blk c7 C6
    cases hv : s.tT.valid with
    | false=>
      have e1 : s.triV = T3.zero:=by simp [R8.triV,hbad,hv]
      have e2 : s.triS = ⟨s.tS3.l,true⟩ :=by simp [R8.triS,hbad,hv]
      rw [e1,e2]
      refine Zv1 R7.rd.bk ?_
      intro w8 p8
      have B8:=p8.chg.blkOf B7 nb
      refine Zv1 B8 ?_
      intro w9 p9
      refine Zw1 p9.cell ?_
      exact ⟨rfl,((R7.mark p8).put p9 ub).q⟩
    | true=>
      have e1 : s.triV = s.tT:=by simp [R8.triV,hbad,hv]
      have e2 : s.triS = s.tS3:=by simp [R8.triS,hbad,hv]
      rw [e1,e2]
      refine Zw1 (J (cell_of_blkOf C7) B7) ?_
      intro w8 p8
      refine Zw1 p8.cell ?_
      exact ⟨rfl,(R7.put p8 ub).q⟩
def Agr (s s' : R8) : Prop:=s = s'∨(s.bad = true∧s'.bad = true)
theorem num_bad {s : R8} (h : s.bad = true) (n : Int) : s.numV n = 0∧(s.numS n).bad = true:=by
  obtain ⟨h1,h2⟩ :=s.num_no n (.inl h)
  exact ⟨h1,by rw [h2]⟩
theorem raw_bad {s : R8} (h : s.bad = true) (n : Int) : s.rawV n = []∧(s.rawS n).bad = true:=by
  have hno : s.no n:=.inl h
  unfold R8.rawV R8.rawS
  rw [if_pos hno,if_pos hno]
  exact ⟨rfl,rfl⟩
theorem Agr.num {s s' : R8} (h : Agr s s') (n : Int) : s.numV n = s'.numV n∧Agr (s.numS n) (s'.numS n):=by
  rcases h with rfl | ⟨h1,h2⟩
  · exact ⟨rfl,.inl rfl⟩
  · exact ⟨by rw [(num_bad h1 n).1,(num_bad h2 n).1],.inr ⟨(num_bad h1 n).2,(num_bad h2 n).2⟩⟩
theorem Agr.raw {s s' : R8} (h : Agr s s') (n : Int) : s.rawV n = s'.rawV n∧Agr (s.rawS n) (s'.rawS n):=by
  rcases h with rfl | ⟨h1,h2⟩
  · exact ⟨rfl,.inl rfl⟩
  · exact ⟨by rw [(raw_bad h1 n).1,(raw_bad h2 n).1],.inr ⟨(raw_bad h1 n).2,(raw_bad h2 n).2⟩⟩
theorem num3_ok {s : R8} (h : (s.numS 3).bad = false) : s.bad = false∧(s.numS 3).l.length + 3 = s.l.length:=by
  have hb : s.bad = false:=by
    cases hb : s.bad with
    | false=>rfl
    | true=>rw [(num_bad hb 3).2] at h;cases h
  have hl : 3≤s.l.length:=by
    rcases Nat.lt_or_ge s.l.length 3 with hl | hl
    · obtain ⟨_,h2⟩ :=s.num_no 3 (.inr (.inr (.inr (by omega))))
      rw [h2] at h;cases h
    · exact hl
  obtain ⟨_,h2⟩ :=s.num_yes 3 hb (by omega) (by omega) hl
  have e3 : ((3 : Nat) : Int) = 3:=rfl
  rw [e3] at h2
  rw [h2]
  exact ⟨hb,by simp;omega⟩
theorem pt_ok {s : R8} (h : s.ptS.bad = false) : s.bad = false∧s.ptS.l.length + 6 = s.l.length:=by
  obtain ⟨h1,h2⟩ :=num3_ok (s:=s.numS 3) h
  obtain ⟨h3,h4⟩ :=num3_ok h1
  exact ⟨h3,by unfold R8.ptS;omega⟩
theorem pt_bad {s : R8} (h : s.bad = true) : s.ptS.bad = true:=(num_bad (num_bad h 3).2 3).2
theorem pre_bad {s : R8} (h : s.bad = true) (k : Int) : (s.pre k).bad = true:=by
  unfold R8.pre;split
  · rfl
  · exact h
theorem rpt_bad {s : R8} (h : s.bad = true) : s.rptX = 0∧s.rptY = 0∧s.rptS.bad = true:=
  ⟨(num_bad (pre_bad h 6) 3).1,(num_bad (num_bad (pre_bad h 6) 3).2 3).1,(num_bad (num_bad (pre_bad h 6) 3).2 3).2⟩
theorem Agr.pt {s s' : R8} (h : Agr s s') : s.ptV = (s'.rptX,s'.rptY)∧Agr s.ptS s'.rptS:=by
  have bad : s.ptS.bad = true→(s'.rptX = 0∧s'.rptY = 0∧s'.rptS.bad = true)→s.ptV = (s'.rptX,s'.rptY)∧Agr s.ptS s'.rptS:=fun h1 h2=>by
    refine ⟨?_,.inr ⟨h1,h2.2.2⟩⟩
    unfold R8.ptV;rw [h1,h2.1,h2.2.1];rfl
  rcases h with rfl | ⟨h1,h2⟩
  · by_cases h6 : (s.l.length : Int) < 6
    · refine bad ?_ ?_
      · cases hb : s.ptS.bad with
        | true=>rfl
        | false=>have:=(pt_ok hb).2;omega
      · have e : s.pre 6 = ⟨s.l,true⟩ :=by simp [R8.pre,h6]
        have hp : (s.pre 6).bad = true:=by rw [e]
        exact ⟨(num_bad hp 3).1,(num_bad (num_bad hp 3).2 3).1,(num_bad (num_bad hp 3).2 3).2⟩
    · have e : s.pre 6 = s:=by simp [R8.pre,h6]
      cases hb : s.ptS.bad with
      | false=>
        refine ⟨?_,.inl ?_⟩
        · unfold R8.ptV R8.rptX R8.rptY;rw [hb,e];rfl
        · unfold R8.rptS R8.ptS;rw [e]
      | true=>
        cases hs : s.bad with
        | true=>exact bad hb (rpt_bad hs)
        | false=>
          exfalso
          obtain ⟨_,h2⟩ :=s.num_yes 3 hs (by omega) (by omega) (by omega)
          have e3 : ((3 : Nat) : Int) = 3:=rfl
          rw [e3] at h2
          obtain ⟨_,h4⟩ :=(s.numS 3).num_yes 3 (by rw [h2]) (by omega) (by omega) (by rw [h2];simp;omega)
          rw [e3] at h4
          unfold R8.ptS at hb
          rw [h4] at hb;cases hb
  · exact bad (pt_bad h1) (rpt_bad h2)
theorem Agr.bad {s s' : R8} (h : Agr s s') : s.bad = s'.bad:=by
  rcases h with rfl | ⟨h1,h2⟩
  · rfl
  · rw [h1,h2]
theorem Agr.tri {s s' : R8} (h : Agr s s') : s.triV = s'.rtriV∧Agr s.triS s'.rtriS:=by
  have bad : s.tS3.bad = true→s'.rtS3.bad = true→s.triV = s'.rtriV∧Agr s.triS s'.rtriS:=fun h1 h2=>by
    have ef : s'.rtFail = true:=by simp [R8.rtFail,h2]
    refine ⟨by simp [R8.triV,R8.rtriV,h1,ef],.inr ⟨by simp [R8.triS,h1],by simp [R8.rtriS,ef]⟩⟩
  have rb : ∀ q : R8,q.bad = true→q.rptS.rptS.rptS.bad = true:=fun q hq=>(rpt_bad (rpt_bad (rpt_bad hq).2.2).2.2).2.2
  rcases h with rfl | ⟨h1,h2⟩
  · by_cases h18 : (s.l.length : Int) < 18
    · refine bad ?_ ?_
      · cases hb : s.tS3.bad with
        | true=>rfl
        | false=>
          obtain ⟨a1,a2⟩ :=pt_ok (s:=s.ptS.ptS) hb
          obtain ⟨b1,b2⟩ :=pt_ok a1
          obtain ⟨c1,c2⟩ :=pt_ok b1
          omega
      · have e : s.pre 18 = ⟨s.l,true⟩ :=by simp [R8.pre,h18]
        exact rb _ (by rw [e])
    · have e : s.pre 18 = s:=by simp [R8.pre,h18]
      obtain ⟨v1,g1⟩ :=Agr.pt (s:=s) (s':=s) (.inl rfl)
      obtain ⟨v2,g2⟩ :=g1.pt
      obtain ⟨v3,g3⟩ :=g2.pt
      have eS : s.rtS3 = s.rptS.rptS.rptS:=by unfold R8.rtS3;rw [e]
      have eT : s.rtT = s.tT:=by unfold R8.rtT R8.tT;rw [e,v1,v2,v3]
      have g3' : Agr s.tS3 s.rtS3:=by rw [eS];exact g3
      cases hb : s.tS3.bad with
      | true=>exact bad hb (by rw [← g3'.bad,hb])
      | false=>
        have hb' : s.rtS3.bad = false:=by rw [← g3'.bad,hb]
        cases hv : s.tT.valid with
        | true=>
          have ef : s.rtFail = false:=by simp [R8.rtFail,hb',eT,hv]
          refine ⟨by simp [R8.triV,R8.rtriV,hb,ef,hv,eT],?_⟩
          simp only [R8.triS,R8.rtriS,hb,ef,hv,Bool.false_eq_true,if_false,if_true]
          exact g3'
        | false=>
          have ef : s.rtFail = true:=by simp [R8.rtFail,hb',eT,hv]
          refine ⟨by simp [R8.triV,R8.rtriV,hb,ef,hv],.inr ⟨by simp [R8.triS,hb,hv],by simp [R8.rtriS,ef]⟩⟩
  · exact bad (pt_bad (pt_bad (pt_bad h1))) (rb _ (pre_bad h2 18))
theorem num_write (l : List Int) (n : Int) (k : Nat) (h1 : 1≤k) (h7 : k≤7) (h0 : 0≤n) (hf : n / 2 ^ (8 * k) = 0) : (W8.mk l false).num n k = ⟨l ++ be n k,false⟩ :=by
  have e : (8 * (k : Int)).toNat = 8 * k:=by omega
  have : fits n k = true:=by
    simp only [fits,decide_eq_true_eq]
    refine ⟨by omega,by omega,h0,fun _=>?_⟩
    rw [e];exact hf
  simp [W8.num,this]
theorem num_read (n : Int) (k : Nat) (r : List Int) (h1 : 1≤k) (h7 : k≤7) (h0 : 0≤n) (hn : n≤9223372036854775807) (hf : n / 2 ^ (8 * k) = 0) : (R8.mk (be n k ++ r) false).numV k = n∧(R8.mk (be n k ++ r) false).numS k = ⟨r,false⟩ :=by
  obtain ⟨e1,e2⟩ :=(R8.mk (be n k ++ r) false).num_yes k rfl h1 h7 (by simp [be_length])
  rw [e1,e2]
  refine ⟨?_,?_⟩
  · rw [List.take_append_of_le_length (by simp [be_length]),List.take_of_length_le (by simp [be_length])]
    exact rval_be n k h0 hn hf
  · simp [List.drop_append_of_le_length,be_length]
theorem grid_fit {x : Int} (h : 0≤x∧x < 16777216) : x / 2 ^ (8 * 3) = 0:=by
  have : (2 : Int) ^ (8 * 3) = 16777216:=by decide
  rw [this];omega
theorem vpt_gr {x y : Int} (h : vpt x y = true) : (0≤x∧x < 16777216)∧0≤y∧y < 16777216:=by
  simp [vpt] at h;omega
def ptB (x y : Int) : List Int:=be x 3 ++ be y 3
theorem ptB_len (x y : Int) : (ptB x y).length = 6:=by simp [ptB,be_length]
theorem pt_write (l : List Int) {x y : Int} (h : vpt x y = true) : (W8.mk l false).pt x y = ⟨l ++ ptB x y,false⟩ :=by
  obtain ⟨hx,hy⟩ :=vpt_gr h
  unfold W8.pt
  have e3 : ((3 : Nat) : Int) = 3:=rfl
  rw [← e3,num_write l x 3 (by omega) (by omega) hx.1 (grid_fit hx),num_write _ y 3 (by omega) (by omega) hy.1 (grid_fit hy)]
  simp [ptB]
theorem pt_read {x y : Int} (r : List Int) (h : vpt x y = true) : (R8.mk (ptB x y ++ r) false).ptV = (x,y)∧(R8.mk (ptB x y ++ r) false).ptS = ⟨r,false⟩ :=by
  obtain ⟨hx,hy⟩ :=vpt_gr h
  have e3 : ((3 : Nat) : Int) = 3:=rfl
  obtain ⟨a1,a2⟩ :=num_read x 3 (be y 3 ++ r) (by omega) (by omega) hx.1 (by omega) (grid_fit hx)
  obtain ⟨b1,b2⟩ :=num_read y 3 r (by omega) (by omega) hy.1 (by omega) (grid_fit hy)
  rw [e3] at a1 a2 b1 b2
  have es : (R8.mk (ptB x y ++ r) false).ptS = ⟨r,false⟩ :=by
    unfold R8.ptS ptB;rw [List.append_assoc,a2,b2]
  refine ⟨?_,es⟩
  unfold R8.ptV
  rw [es]
  unfold ptB
  rw [List.append_assoc,a1,a2,b1];rfl
theorem T3.valid_pts {t : T3} (h : t.valid = true) : vpt t.ax t.ay = true∧vpt t.bx t.by' = true∧vpt t.cx t.cy = true:=by
  have ho : t.or≠0:=by
    intro e
    simp [T3.valid,T3.ok,e] at h
  unfold T3.or orientI at ho
  split at ho
  · rename_i hh;simpa [Bool.and_eq_true,and_assoc] using hh
  · exact absurd rfl ho
def T3.bytes (t : T3) : List Int:=(ptB t.ax t.ay ++ ptB t.bx t.by') ++ ptB t.cx t.cy
theorem tri_write (l : List Int) {t : T3} (h : t.valid = true) : (W8.mk l false).tri t.ax t.ay t.bx t.by' t.cx t.cy = ⟨l ++ t.bytes,false⟩ :=by
  obtain ⟨h1,h2,h3⟩ :=T3.valid_pts h
  unfold W8.tri
  rw [pt_write l h1,pt_write _ h2,pt_write _ h3]
  simp [T3.bytes]
theorem tri_read {t : T3} (r : List Int) (h : t.valid = true) : (R8.mk (t.bytes ++ r) false).triV = t∧(R8.mk (t.bytes ++ r) false).triS = ⟨r,false⟩ :=by
  obtain ⟨h1,h2,h3⟩ :=T3.valid_pts h
  have e : t.bytes ++ r = ptB t.ax t.ay ++ (ptB t.bx t.by' ++ (ptB t.cx t.cy ++ r)):=by simp [T3.bytes]
  rw [e]
  obtain ⟨a1,a2⟩ :=pt_read (ptB t.bx t.by' ++ (ptB t.cx t.cy ++ r)) h1
  obtain ⟨b1,b2⟩ :=pt_read (ptB t.cx t.cy ++ r) h2
  obtain ⟨c1,c2⟩ :=pt_read r h3
  have es : (R8.mk (ptB t.ax t.ay ++ (ptB t.bx t.by' ++ (ptB t.cx t.cy ++ r))) false).tS3 = ⟨r,false⟩ :=by unfold R8.tS3;rw [a2,b2,c2]
  have et : (R8.mk (ptB t.ax t.ay ++ (ptB t.bx t.by' ++ (ptB t.cx t.cy ++ r))) false).tT = t:=by unfold R8.tT;rw [a1,a2,b1,b2,c1]
  unfold R8.triV R8.triS
  rw [es,et,h]
  exact ⟨rfl,rfl⟩
theorem raw_read (l r : List Int) : (R8.mk (l ++ r) false).rawV l.length = l∧(R8.mk (l ++ r) false).rawS l.length = ⟨r,false⟩ :=by
  have hno : ¬ (R8.mk (l ++ r) false).no l.length:=by
    simp only [R8.no,List.length_append];simp;omega
  unfold R8.rawV R8.rawS
  rw [if_neg hno,if_neg hno]
  simp
def Prt.t (p : Prt) : T3:=⟨p.ax,p.ay,p.bx,p.by',p.cx,p.cy⟩
def Prt.put (p : Prt) (s : W8) : W8:=if p.kind = 0 then s.num p.n p.size else if p.kind = 1 then s.pt p.px p.py else if p.kind = 2 then s.tri p.ax p.ay p.bx p.by' p.cx p.cy else s.raw p.b
def Prt.out (p : Prt) : List Int:=if p.kind = 0 then be p.n p.size.toNat else if p.kind = 1 then ptB p.px p.py else if p.kind = 2 then p.t.bytes else p.b
structure Prt.Good (p : Prt) : Prop where
  kind : p.kind = 0∨p.kind = 1∨p.kind = 2∨p.kind = 3
  num : p.kind = 0→(1≤p.size∧p.size≤7)∧(0≤p.n∧p.n≤9223372036854775807)∧p.n / 2 ^ (8 * p.size.toNat) = 0
  pt : p.kind = 1→vpt p.px p.py = true
  tri : p.kind = 2→p.t.valid = true
theorem Prt.Good.put {p : Prt} (h : p.Good) (l : List Int) : p.put ⟨l,false⟩ = ⟨l ++ p.out,false⟩ :=by
  unfold Prt.put Prt.out
  rcases h.kind with e | e | e | e
  · obtain ⟨h1,h2,h3⟩ :=h.num e
    have:=num_write l p.n p.size.toNat (by omega) (by omega) h2.1 h3
    have e2 : ((p.size.toNat : Nat) : Int) = p.size:=by omega
    rw [e2] at this
    simp [e,this]
  · simp [e,pt_write l (h.pt e)]
  · simp [e]
    exact tri_write l (h.tri e)
  · simp [e,W8.raw]
end Go.Proofs.YtnhgjgoglmadnaaGreat
