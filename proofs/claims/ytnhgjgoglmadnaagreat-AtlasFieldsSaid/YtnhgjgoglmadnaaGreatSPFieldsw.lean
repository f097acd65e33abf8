/- Joined texts of this claim (part 23), printed by a program of this work. The last part holds the claimed theorem: the law answers true at every input of its row. -/
import Derived.Test.YtnhgjgoglmadnaaGreatSPFieldsv
set_option maxHeartbeats 4000000
namespace Go.Proofs.YtnhgjgoglmadnaaGreat
open Go.RowKit
set_option maxRecDepth 100000
set_option linter.unusedSimpArgs false
set_option linter.unusedVariables false
theorem MapB.sep {w w' : World} {M : List Res} {b : Nat} {L : List Ent} (hm : MapB w b L) (h : Sep w (fun _=>False) M w') : MapB w' b L:=by
  obtain ⟨es,clock,h1,r⟩ :=hm.of
  exact ⟨es,clock,(h.chg.block b (Array.getElem?_eq_some_iff.1 h1).1 (fun f=>f.elim id fun g=>by have:=(Array.getElem?_eq_some_iff.1 h1).1;omega)).trans h1,r⟩
structure MeshAt (w : World) (bm b : Nat) (E : MeshE) : Prop where
  cell : w.cell? ⟨bm,0,none⟩ = some (.map (some b))
  map : MapB w b (ents E)
  wid : E.Wid
theorem MeshAt.sep {w w' : World} {M : List Res} {bm b : Nat} {E : MeshE} (hm : MeshAt w bm b E) (h : Sep w (fun _=>False) M w') : MeshAt w' bm b E:=
  ⟨(h.cell0 (by rw [hm.cell];rfl) id).trans hm.cell,hm.map.sep h,hm.wid⟩
theorem left129 {bm b : Nat} {E : MeshE} (ax ay bx by' : Int) (w : World) (hm : MeshAt w bm b E) : Calls Tryz.prog 129 [.pointer (some ⟨bm, 0, none⟩), .agg #[.int .i64 ax, .int .i64 ay], .agg #[.int .i64 bx, .int .i64 by']].toArray w
    (RetP (.tuple #[.agg ((lookE E [ax,ay,bx,by']).getD T3.zero).cells.toArray,.bool (lookE E [ax,ay,bx,by']).isSome]) w):=by
  have h:=Sep.nil w
  refine walk Tryz.func129 rfl (by kernel_rfl) (by rw [Tryz.nt129];simp) ?_
  replace h:=Zd h;have F:=Zf5 h
  refine Zv ?_
  refine h.new ?_
  clear h F
  intro w1 b1 h
  replace h:=Zd h;have F:=Zf5 h;refine Zs ?_
  refine h.new ?_
  clear h F
  intro w2 b2 h
  replace h:=Zd h;have F:=Zf5 h;refine Zs ?_
  refine h.new ?_
  clear h F
  intro w3 b3 h
  have c0:=(hm.sep h).cell
  replace h:=Zd h;have F:=Zf5 h;refine Zs ?_
  refine walkDraw (.q 0 (.q 1 (.q 2 (.h 3 0 (.h 4 1 (.h 5 3 (.q 6 (.ll 7 (.q 8 (.q 9 (.q 10 (.l 11 (.l 12 (.q 13 .fin)))))) 11 (.l 7 (.q 8 (.q 9 (.q 10 (.l 12 (.q 13 .fin)))))))))))))) [(bm,0,.map (some b)),(b1,0,.int .i64 ax),(b1,1,.int .i64 ay),(b2,0,.int .i64 bx),(b2,1,.int .i64 by')] (by kernel_rfl) (by simp [Holds_nil,Holds_cons,F,c0]) ?_
  refine h.draw ?_
  clear h F c0
  intro w4 h
  have c0:=(hm.sep h).cell
  replace h:=Zd h;have F:=Zf5 h;refine Zs1 c0 ?_
  have c1:=hm.sep h
  refine ⟨look_mesh (hm.sep h).map hm.wid ?_,?_⟩
  · generalize lookE E [ax,ay,bx,by'] = q at *
    replace h:=Zd h;have F:=Zf5 h;refine Zs1 c0 ?_
    refine h.new ?_
    clear h F c0
    intro w5 b5 h
    have c0:=(hm.sep h).cell
    replace h:=Zd h;have F:=Zf5 h;refine Zs1 (J c0 (@T3.cells.eq_1)) ?_
    refine Sep.put 3 h rfl ?_
    clear h F c0
    intro w6 h
    have c0:=(hm.sep h).cell
    replace h:=Zd h;have F:=Zf5 h;refine Zc1 c0 ?_
    refine Sep.put 2 h rfl ?_
    clear h F c0
    intro w7 h
    replace h:=Zd h;have F:=Zf5 h;refine Zc ?_
    exact ⟨rfl,h.done⟩
  · refine h.new ?_
    clear h F c0
    intro w5 b5 h
    have c0:=(hm.sep h).cell
    replace h:=Zd h;have F:=Zf5 h;refine Zs1 c0 ?_
    refine look_mesh (hm.sep h).map hm.wid ?_
    generalize lookE E [ax,ay,bx,by'] = q at *
    replace h:=Zd h;have F:=Zf5 h;refine Zs1 (J c0 (@T3.cells.eq_1)) ?_
    refine Sep.put 3 h rfl ?_
    clear h F c0
    intro w6 h
    have c0:=(hm.sep h).cell
    replace h:=Zd h;have F:=Zf5 h;refine Zc1 c0 ?_
    refine Sep.put 2 h rfl ?_
    clear h F c0
    intro w7 h
    replace h:=Zd h;have F:=Zf5 h;refine Zc ?_
    exact ⟨rfl,h.done⟩
theorem has119 {bm b : Nat} {E : MeshE} (t : T3) (w : World) (hm : MeshAt w bm b E) : Calls Tryz.prog 119 [.pointer (some ⟨bm, 0, none⟩), .agg t.cells.toArray].toArray w
    (RetP (.bool ((lookE E [t.ax,t.ay,t.bx,t.by']).isSome && decide ([((lookE E [t.ax,t.ay,t.bx,t.by']).getD T3.zero).ax,((lookE E [t.ax,t.ay,t.bx,t.by']).getD T3.zero).ay,((lookE E [t.ax,t.ay,t.bx,t.by']).getD T3.zero).bx,((lookE E [t.ax,t.ay,t.bx,t.by']).getD T3.zero).by',((lookE E [t.ax,t.ay,t.bx,t.by']).getD T3.zero).cx,((lookE E [t.ax,t.ay,t.bx,t.by']).getD T3.zero).cy] = [t.ax,t.ay,t.bx,t.by',t.cx,t.cy]))) w):=by
  have h:=Sep.nil w
  refine walk Tryz.func119 rfl (by kernel_rfl) (by rw [Tryz.nt119];simp) ?_
  replace h:=Zd h;have F:=Zf5 h
  refine Zv1 (@T3.cells.eq_1) ?_
  refine h.new ?_
  clear h F
  intro w1 b1 h
  have c0:=(hm.sep h).cell
  replace h:=Zd h;have F:=Zf5 h;refine Zs ?_
  refine walkDraw (.q 0 (.q 1 (.q 2 (.q 4 (.q 6 (.h 3 0 (.h 5 1 (.h 7 3 (.q 8 (.ll 9 (.q 10 (.q 11 (.q 12 (.l 13 (.l 14 (.q 15 .fin)))))) 13 (.l 9 (.q 10 (.q 11 (.q 12 (.l 14 (.q 15 .fin)))))))))))))))) [(bm,0,.map (some b)),(b1,0,.int .i64 t.ax),(b1,1,.int .i64 t.ay),(b1,2,.int .i64 t.bx),(b1,3,.int .i64 t.by')] (by kernel_rfl) (by simp [Holds_nil,Holds_cons,F,c0]) ?_
  refine h.draw ?_
  clear h F c0
  intro w4 h
  have c0:=(hm.sep h).cell
  replace h:=Zd h;have F:=Zf5 h;refine Zs1 c0 ?_
  refine ⟨look_mesh (hm.sep h).map hm.wid ?_,?_⟩
  · generalize lookE E [t.ax,t.ay,t.bx,t.by'] = q at *
    replace h:=Zd h;have F:=Zf5 h;refine Zs1 c0 ?_
    refine h.new ?_
    clear h F c0
    intro w5 b5 h
    have c0:=(hm.sep h).cell
    replace h:=Zd h;have F:=Zf5 h;refine Zs1 (J c0 (@T3.cells.eq_1)) ?_
    refine Sep.put 1 h rfl ?_
    clear h F c0
    intro w6 h
    have c0:=(hm.sep h).cell
    cases q with
    | none=>
      replace h:=Zd h;have F:=Zf5 h;try simp -dsimp only [↓vcA,vcB,vcD,↓pureT_lenS,↓iteT,↓iteF,cond_true,cond_false,eq_self,argE,Env.get,Env.push,ev,evs,evo,retV,Value.cells,Value.oneCell',setR,overR,fillL,zl,places,allSizes,heldC,ne_eq,Int.reduceLE,Int.reduceLT,Int.reduceEq,Int.reduceNe,Int.reduceToNat,Int.cast_ofNat_Int,Nat.reduceMul,Nat.reduceLeDiff,reduceIte,Nat.reduceEqDiff,Nat.reduceAdd,↓reduceIte,Tryz.vcT,F,h.cell0,gets,vsD,if_true,if_false,Bool.false_eq_true,c0,cellsAt,Option.isSome_none,Bool.false_and]
      first | exact ⟨rfl,h.done⟩ | exact h.done
    | some u=>
      replace h:=Zd h;have F:=Zf5 h;try simp -dsimp only [↓vcA,vcB,vcD,↓pureT_lenS,↓iteT,↓iteF,cond_true,cond_false,eq_self,argE,Env.get,Env.push,ev,evs,evo,retV,Value.cells,Value.oneCell',setR,overR,fillL,zl,places,allSizes,heldC,ne_eq,Int.reduceLE,Int.reduceLT,Int.reduceEq,Int.reduceNe,Int.reduceToNat,Int.cast_ofNat_Int,Nat.reduceMul,Nat.reduceLeDiff,reduceIte,Nat.reduceEqDiff,Nat.reduceAdd,↓reduceIte,Tryz.vcT,F,h.cell0,gets,vsD,if_true,if_false,Bool.false_eq_true,c0,cellsAt,Option.isSome_some,Bool.true_and,Option.getD_some]
      refine binK_eql_agg (by kernel_rfl) (fun w=>seqTri (d:=9997) u.ax u.ay u.bx u.by' u.cx u.cy t.ax t.ay t.bx t.by' t.cx t.cy w) ?_
      replace h:=Zd h;have F:=Zf5 h;refine Zs ?_
      exact ⟨rfl,h.done⟩
  · refine h.new ?_
    clear h F c0
    intro w5 b5 h
    have c0:=(hm.sep h).cell
    replace h:=Zd h;have F:=Zf5 h;refine Zs1 c0 ?_
    refine look_mesh (hm.sep h).map hm.wid ?_
    generalize lookE E [t.ax,t.ay,t.bx,t.by'] = q at *
    replace h:=Zd h;have F:=Zf5 h;refine Zs1 (J c0 (@T3.cells.eq_1)) ?_
    refine Sep.put 1 h rfl ?_
    clear h F c0
    intro w6 h
    have c0:=(hm.sep h).cell
    cases q with
    | none=>
      replace h:=Zd h;have F:=Zf5 h;try simp -dsimp only [↓vcA,vcB,vcD,↓pureT_lenS,↓iteT,↓iteF,cond_true,cond_false,eq_self,argE,Env.get,Env.push,ev,evs,evo,retV,Value.cells,Value.oneCell',setR,overR,fillL,zl,places,allSizes,heldC,ne_eq,Int.reduceLE,Int.reduceLT,Int.reduceEq,Int.reduceNe,Int.reduceToNat,Int.cast_ofNat_Int,Nat.reduceMul,Nat.reduceLeDiff,reduceIte,Nat.reduceEqDiff,Nat.reduceAdd,↓reduceIte,Tryz.vcT,F,h.cell0,gets,vsD,if_true,if_false,Bool.false_eq_true,c0,cellsAt,Option.isSome_none,Bool.false_and]
      first | exact ⟨rfl,h.done⟩ | exact h.done
    | some u=>
      replace h:=Zd h;have F:=Zf5 h;try simp -dsimp only [↓vcA,vcB,vcD,↓pureT_lenS,↓iteT,↓iteF,cond_true,cond_false,eq_self,argE,Env.get,Env.push,ev,evs,evo,retV,Value.cells,Value.oneCell',setR,overR,fillL,zl,places,allSizes,heldC,ne_eq,Int.reduceLE,Int.reduceLT,Int.reduceEq,Int.reduceNe,Int.reduceToNat,Int.cast_ofNat_Int,Nat.reduceMul,Nat.reduceLeDiff,reduceIte,Nat.reduceEqDiff,Nat.reduceAdd,↓reduceIte,Tryz.vcT,F,h.cell0,gets,vsD,if_true,if_false,Bool.false_eq_true,c0,cellsAt,Option.isSome_some,Bool.true_and,Option.getD_some]
      refine binK_eql_agg (by kernel_rfl) (fun w=>seqTri (d:=9997) u.ax u.ay u.bx u.by' u.cx u.cy t.ax t.ay t.bx t.by' t.cx t.cy w) ?_
      replace h:=Zd h;have F:=Zf5 h;refine Zs ?_
      exact ⟨rfl,h.done⟩
def acrossE (E : MeshE) (t : T3) (i : Nat) : Option T3:=lookE E (t.pt (i + 1) ++ t.pt i)
def hasE (E : MeshE) (t : T3) : Bool:=(lookE E [t.ax,t.ay,t.bx,t.by']).isSome && decide ([((lookE E [t.ax,t.ay,t.bx,t.by']).getD T3.zero).ax,((lookE E [t.ax,t.ay,t.bx,t.by']).getD T3.zero).ay,((lookE E [t.ax,t.ay,t.bx,t.by']).getD T3.zero).bx,((lookE E [t.ax,t.ay,t.bx,t.by']).getD T3.zero).by',((lookE E [t.ax,t.ay,t.bx,t.by']).getD T3.zero).cx,((lookE E [t.ax,t.ay,t.bx,t.by']).getD T3.zero).cy] = [t.ax,t.ay,t.bx,t.by',t.cx,t.cy])
theorem across120 {bm b : Nat} {E : MeshE} (t : T3) (i : Nat) (hi : i < 3) (w : World) (hm : MeshAt w bm b E) (hh : hasE E t = true) : Calls Tryz.prog 120 [.pointer (some ⟨bm, 0, none⟩), .agg t.cells.toArray, .int .i64 i].toArray w
    (RetP (.tuple #[.agg ((acrossE E t i).getD T3.zero).cells.toArray,.bool (acrossE E t i).isSome]) w):=by
  have h:=Sep.nil w
  refine walk Tryz.func120 rfl (by kernel_rfl) (by rw [Tryz.nt120];simp) ?_
  replace h:=Zd h;have F:=Zf5 h
  refine Zv1 (@T3.cells.eq_1) ?_
  refine h.new ?_
  clear h F
  intro w1 b1 h
  replace h:=Zd h;have F:=Zf5 h;refine Zs ?_
  refine h.new ?_
  clear h F
  intro w2 b2 h
  have k1:=has119 t w2 (hm.sep h)
  rw [show ((lookE E [t.ax,t.ay,t.bx,t.by']).isSome && decide ([((lookE E [t.ax,t.ay,t.bx,t.by']).getD T3.zero).ax,((lookE E [t.ax,t.ay,t.bx,t.by']).getD T3.zero).ay,((lookE E [t.ax,t.ay,t.bx,t.by']).getD T3.zero).bx,((lookE E [t.ax,t.ay,t.bx,t.by']).getD T3.zero).by',((lookE E [t.ax,t.ay,t.bx,t.by']).getD T3.zero).cx,((lookE E [t.ax,t.ay,t.bx,t.by']).getD T3.zero).cy] = [t.ax,t.ay,t.bx,t.by',t.cx,t.cy])) = true from hh] at k1
  replace h:=Zd h;have F:=Zf5 h;refine Zc ?_
  refine Sep.callp h k1 ?_
  clear h F k1
  intro w3 h
  have ei : IntKind.i64.wrap ((i : Int) + 1) = ((i + 1 : Nat) : Int):=by rw [i64w _ (by omega) (by omega)];omega
  replace h:=Zd h;have F:=Zf5 h;refine Zs1 ei ?_
  refine walkDraw (.q 0 (.q 2 (.q 3 (.q 6 (.h 1 0 (.h 5 0 (.l 4 (.l 7 (.l 8 (.q 9 (.q 10 (.l 11 (.q 12 .fin))))))))))))) [(b1,0,.int .i64 t.ax),(b1,1,.int .i64 t.ay),(b1,2,.int .i64 t.bx),(b1,3,.int .i64 t.by'),(b1,4,.int .i64 t.cx),(b1,5,.int .i64 t.cy)] (by kernel_rfl) (by simp [Holds_nil,Holds_cons,F]) ?_
  refine h.draw ?_
  clear h F
  intro w4 h
  have c5:=corner122 t ((i + 1 : Nat) : Int) (by omega)
  have c6:=corner122 t (i : Int) (by omega)
  rw [Int.toNat_natCast] at c5 c6
  replace h:=Zd h;have F:=Zf5 h;refine Zs1 ei ?_
  refine Sep.callp h (c5 _) ?_
  clear h F
  intro w5 h
  replace h:=Zd h;have F:=Zf5 h;refine Zs1 ei ?_
  refine Sep.callp h (c6 _) ?_
  clear h F
  intro w6 h
  obtain ⟨x0,x1,e1⟩ : ∃ x0 x1,t.pt (i + 1) = [x0,x1]:=by
    have : i = 0∨i = 1∨i = 2:=by omega
    rcases this with rfl | rfl | rfl<;>exact ⟨_,_,rfl⟩
  obtain ⟨y0,y1,e2⟩ : ∃ y0 y1,t.pt i = [y0,y1]:=by
    have : i = 0∨i = 1∨i = 2:=by omega
    rcases this with rfl | rfl | rfl<;>exact ⟨_,_,rfl⟩
  have k2:=left129 x0 x1 y0 y1 w6 (hm.sep h)
  unfold acrossE
  rw [e1,e2]
  replace h:=Zd h;have F:=Zf5 h;refine Zs1 (@cellsI.eq_1) ?_
  refine Sep.callp h k2 ?_
  clear h F k2
  intro w7 h
  simp only [List.cons_append,List.nil_append]
  generalize lookE E [x0,x1,y0,y1] = q at *
  replace h:=Zd h;have F:=Zf5 h;refine Zs1 (@T3.cells.eq_1) ?_
  refine Sep.put 1 h rfl ?_
  clear h F
  intro w8 h
  replace h:=Zd h;have F:=Zf5 h;refine Zc ?_
  first | exact ⟨rfl,h.done⟩ | exact h.done
theorem T3.pt_two (t : T3) (i : Nat) : ∃ x y,t.pt i = [x,y]:=by
  match i with
  | 0=>exact ⟨_,_,rfl⟩
  | 1=>exact ⟨_,_,rfl⟩
  | 2=>exact ⟨_,_,rfl⟩
  | 3=>exact ⟨_,_,rfl⟩
  | n + 4=>exact ⟨_,_,rfl⟩
def wallOk (ax ay bx by' k : Int) : Bool:=vpt ax ay && (vpt bx by' && (!decide ([ax,ay] = [bx,by']) && (decide (k = 1) || decide (k = 2))))
def wallV (ax ay bx by' k : Int) : List Int:=if wallOk ax ay bx by' k then ptMin ax ay bx by' ++ ptMax ax ay bx by' ++ [k] else [0,0,0,0,0]
theorem makeWall88 (ax ay bx by' k : Int) (w : World) : Calls Tryz.prog 88 [.agg #[.int .i64 ax, .int .i64 ay], .agg #[.int .i64 bx, .int .i64 by'], .int .i64 k].toArray w
    (RetP (.tuple #[.agg (cellsI (wallV ax ay bx by' k)).toArray,.bool (wallOk ax ay bx by' k)]) w):=by
  have h:=Sep.nil w
  refine walk Tryz.func88 rfl (by kernel_rfl) (by rw [Tryz.nt88];simp) ?_
  replace h:=Zd h;have F:=Zf5 h
  refine Zv ?_
  refine h.new ?_
  clear h F
  intro w1 b1 h
  replace h:=Zd h;have F:=Zf5 h;refine Zs ?_
  refine h.new ?_
  clear h F
  intro w2 b2 h
  replace h:=Zd h;have F:=Zf5 h;refine Zs ?_
  refine h.new ?_
  clear h F
  intro w3 b3 h
  have bad : ∀ {w' : World}, wallOk ax ay bx by' k = false → Sep w (fun _ => False) [blk b1 45 [.int .i64 ax, .int .i64 ay], blk b2 45 [.int .i64 bx, .int .i64 by'], blk b3 47 [.int .i64 0, .int .i64 0, .int .i64 0, .int .i64 0, .int .i64 0]] w' →
      (Value.tuple #[.agg #[.int .i64 0,.int .i64 0,.int .i64 0,.int .i64 0,.int .i64 0],.bool false]) = .tuple #[.agg (cellsI (wallV ax ay bx by' k)).toArray,.bool (wallOk ax ay bx by' k)]∧Chg (fun _=>False) w w':=fun e h=>by
    rw [wallV,e];exact ⟨rfl,h.done⟩
  replace h:=Zd h;have F:=Zf5 h;refine Zc ?_
  refine Sep.callp h (valid47 ax ay _) ?_
  clear h F
  intro w4 h
  cases h1 : vpt ax ay with
  | false=>
    replace h:=Zd h;have F:=Zf5 h;refine Zc1 h1 ?_
    refine Sep.put 2 h rfl ?_
    clear h F
    intro w5 h
    replace h:=Zd h;have F:=Zf5 h;refine Zc ?_
    exact bad (by simp [wallOk,h1]) h
  | true=>
  replace h:=Zd h;have F:=Zf5 h;refine Zc1 h1 ?_
  refine Sep.callp h (valid47 bx by' _) ?_
  clear h F
  intro w5 h
  cases h2 : vpt bx by' with
  | false=>
    replace h:=Zd h;have F:=Zf5 h;refine Zc1 h2 ?_
    refine Sep.put 2 h rfl ?_
    clear h F
    intro w6 h
    replace h:=Zd h;have F:=Zf5 h;refine Zc ?_
    exact bad (by simp [wallOk,h2]) h
  | true=>
  replace h:=Zd h;have F:=Zf5 h;refine Zc1 h2 ?_
  refine binK_eql_agg (by kernel_rfl) (fun w=>seqPt (d:=9998) ax ay bx by' w) ?_
  cases h3 : decide ([ax,ay] = [bx,by']) with
  | true=>
    replace h:=Zd h;have F:=Zf5 h;refine Zc1 h3 ?_
    refine Sep.put 2 h rfl ?_
    clear h F
    intro w6 h
    replace h:=Zd h;have F:=Zf5 h;refine Zc ?_
    exact bad (by unfold wallOk;rw [h1,h2,h3];rfl) h
  | false=>
  replace h:=Zd h;have F:=Zf5 h;refine Zc1 h3 ?_
  have fin : ∀ {M : List Res} {w' : World},(k = 1∨k = 2)→wallOk ax ay bx by' k = true:=fun {M w'} hk=>by
    unfold wallOk
    rw [h1,h2,h3]
    rcases hk with rfl | rfl<;>rfl
  by_cases k1 : k = 1
  case' pos=>
    have ok:=fin (M:=[]) (w':=w) (.inl k1)
    replace h:=Zd h;have F:=Zf5 h;refine Zc1 (decide_eq_true k1) ?_
  case' neg=>
    by_cases k2 : k = 2
    case neg=>
      replace h:=Zd h;have F:=Zf5 h;refine Zc1 (J (decide_eq_false k1) (decide_eq_false k2)) ?_
      refine Sep.put 2 h rfl ?_
      clear h F
      intro w6 h
      replace h:=Zd h;have F:=Zf5 h;refine Zc ?_
      exact bad (by unfold wallOk;rw [h1,h2,h3,decide_eq_false k1,decide_eq_false k2];rfl) h
    have ok:=fin (M:=[]) (w':=w) (.inr k2)
    replace h:=Zd h;have F:=Zf5 h;refine Zc1 (J (decide_eq_false k1) (decide_eq_true k2)) ?_
  all_goals
    obtain ⟨m0,m1,em⟩ : ∃ m0 m1,ptMin ax ay bx by' = [m0,m1]:=by
      unfold ptMin;split<;>exact ⟨_,_,rfl⟩
    obtain ⟨n0,n1,en⟩ : ∃ n0 n1,ptMax ax ay bx by' = [n0,n1]:=by
      unfold ptMax;split<;>exact ⟨_,_,rfl⟩
    have evw : wallV ax ay bx by' k = [m0,m1,n0,n1,k]:=by unfold wallV;rw [if_pos ok,em,en];rfl
    have k3:=fun w=>lesser103 ax ay bx by' w
    have k4:=fun w=>greater104 ax ay bx by' w
    rw [em] at k3
    rw [en] at k4
    rw [evw,ok]
    refine walkDraw (.q 6 (.h 0 0 (.h 1 2 (.h 3 0 (.h 4 2 (.l 2 (.l 5 (.q 7 (.l 8 (.q 9 .fin)))))))))) [(b1,0,.int .i64 ax),(b1,1,.int .i64 ay),(b2,0,.int .i64 bx),(b2,1,.int .i64 by')] (by kernel_rfl) (by simp [Holds_nil,Holds_cons,F]) ?_
    refine h.draw ?_
    clear h F
    intro w6 h
    replace h:=Zd h;have F:=Zf5 h;refine Zs ?_
    refine Sep.callp h (k3 _) ?_
    clear h F
    intro w7 h
    replace h:=Zd h;have F:=Zf5 h;refine Zs1 (@cellsI.eq_1) ?_
    refine Sep.callp h (k4 _) ?_
    clear h F
    intro w8 h
    replace h:=Zd h;have F:=Zf5 h;refine Zs1 (@cellsI.eq_1) ?_
    refine Sep.put 2 h rfl ?_
    clear h F
    intro w9 h
    replace h:=Zd h;have F:=Zf5 h;refine Zc ?_
    first | exact ⟨rfl,h.done⟩ | exact h.done
def isW (x : List Int) (ax ay bx by' : Int) : Prop:=([x.getD 0 0,x.getD 1 0] = [ax,ay]∧[x.getD 2 0,x.getD 3 0] = [bx,by'])∨([x.getD 0 0,x.getD 1 0] = [bx,by']∧[x.getD 2 0,x.getD 3 0] = [ax,ay])
instance (x : List Int) (ax ay bx by' : Int) : Decidable (isW x ax ay bx by'):=by unfold isW;infer_instance
def kindW : List (List Int)→Int→Int→Int→Int→Int
  | [],_,_,_,_=>0
  | x :: S,ax,ay,bx,by'=>if isW x ax ay bx by' then x.getD 4 0 else kindW S ax ay bx by'
structure WallsAt (w : World) (bs : Nat) (v : Value) (S : List (List Int)) : Prop where
  cell : w.cell? ⟨bs,0,none⟩ = some v
  tab : Tab 5 w v S
theorem WallsAt.sep {w w' : World} {M : List Res} {bs : Nat} {v : Value} {S : List (List Int)} (hm : WallsAt w bs v S) (h : Sep w (fun _=>False) M w') : WallsAt w' bs v S:=
  ⟨(h.cell0 (by rw [hm.cell];rfl) id).trans hm.cell,hm.tab.sep h fun _ _=>id⟩
theorem kind121 {bs : Nat} {v : Value} {S : List (List Int)} (ax ay bx by' : Int) (w : World) (hm : WallsAt w bs v S) (hS : S.length ≤ 1000000) : Calls Tryz.prog 121 [.pointer (some ⟨bs, 0, none⟩), .agg #[.int .i64 ax, .int .i64 ay], .agg #[.int .i64 bx, .int .i64 by']].toArray w
    (RetP (.int .i64 (kindW S ax ay bx by')) w):=by
  obtain ⟨a,c,rfl⟩ :=hm.tab.shape
  have h:=Sep.nil w
  refine walk Tryz.func121 rfl (by kernel_rfl) (by rw [Tryz.nt121];simp) ?_
  replace h:=Zd h;have F:=Zf5 h
  refine Zv ?_
  refine h.new ?_
  clear h F
  intro w1 b1 h
  replace h:=Zd h;have F:=Zf5 h;refine Zs ?_
  refine h.new ?_
  clear h F
  intro w2 b2 h
  replace h:=Zd h;have F:=Zf5 h;refine Zs ?_
  refine walkLoop [0,4,5] [7] (fun m vs w'=>∃ i,i≤S.length∧m = S.length - i∧vs = [.int .i64 i]∧Sep w (fun _=>False) [blk b1 45 [.int .i64 ax,.int .i64 ay],blk b2 45 [.int .i64 bx,.int .i64 by']] w'∧kindW S ax ay bx by' = kindW (S.drop i) ax ay bx by') (by kernel_rfl) ?_ ?_
  · refine Zv ?_
    exact ⟨_,0,Nat.zero_le _,rfl,rfl,h,rfl⟩
  intro ks hk m vs w3 hi
  clear h
  try clear F
  obtain ⟨i,hi,rfl,rfl,h,hkw⟩ :=hi
  replace hk:=Zk hk;subst hk
  have c0:=(hm.sep h).cell
  by_cases hlt : (i : Int) < S.length
  case neg=>
    have e0 : S.drop i = []:=List.drop_eq_nil_of_le (by omega)
    replace h:=Zd h;have F:=Zf5 h;refine Zs1 (J c0 (decide_eq_false hlt)) ?_
    first | exact ⟨by rw [hkw,e0];rfl,h.done⟩ | exact h.done
  have hil : i < S.length:=by omega
  have ei : IntKind.i64.wrap ((i : Int) + 1) = ((i + 1 : Nat) : Int):=by rw [i64w _ (by omega) (by omega)];omega
  have h0i : (0 : Int)≤i:=by omega
  have hdrop : S.drop i = S[i] :: S.drop (i + 1):=List.drop_eq_getElem_cons hil
  obtain ⟨b,o,eb,hcx⟩ :=hm.tab.at hil (by decide)
  have wx:=hm.tab.wid _ (List.getElem_mem hil)
  generalize S[i] = x at *
  obtain ⟨a0,a1,a2,a3,a4,rfl⟩ : ∃ a0 a1 a2 a3 a4,x = [a0,a1,a2,a3,a4]:=by
    match x,wx with
    | [a0,a1,a2,a3,a4],_=>exact ⟨_,_,_,_,_,rfl⟩
  subst eb
  have k0 : w.cell? ⟨b,o + i * 5,none⟩ = some (.int .i64 a0):=Tab.cell hcx 0 (by simp)
  have k0:=(h.cell0 (by rw [k0];rfl) id).trans k0
  have k1 : w.cell? ⟨b,o + i * 5 + 1,none⟩ = some (.int .i64 a1):=Tab.cell hcx 1 (by simp)
  have k1:=(h.cell0 (by rw [k1];rfl) id).trans k1
  have k2 : w.cell? ⟨b,o + i * 5 + 2,none⟩ = some (.int .i64 a2):=Tab.cell hcx 2 (by simp)
  have k2:=(h.cell0 (by rw [k2];rfl) id).trans k2
  have k3 : w.cell? ⟨b,o + i * 5 + 3,none⟩ = some (.int .i64 a3):=Tab.cell hcx 3 (by simp)
  have k3:=(h.cell0 (by rw [k3];rfl) id).trans k3
  replace h:=Zd h;have F:=Zf5 h;refine Zs1 (J c0 (decide_eq_true hlt)) ?_
  refine walkDraw (.q 0 (.q 1 (.q 2 (.q 4 (.h 3 0 (.q 5 (.q 6 (.h 7 1 (.h 8 5 (.q 9 (.q 10 (.q 11 (.q 12 (.q 13 (.q 15 (.h 14 0 (.q 16 (.q 17 (.h 18 3 (.h 19 7 (.q 20 (.q 21 (.q 22 (.q 23 (.q 24 (.q 25 (.q 27 (.h 26 0 (.q 28 (.q 29 (.h 30 1 (.h 31 7 (.q 32 (.q 33 (.q 34 (.q 35 (.q 36 (.q 38 (.h 37 0 (.q 39 (.q 40 (.h 41 3 (.h 42 5 (.q 43 (.q 44 (.q 45 .fin)))))))))))))))))))))))))))))))))))))))))))))) [(bs,0,.slice (some ⟨b,o,none⟩) S.length c),(b,o + i * 5,.int .i64 a0),(b,o + i * 5 + 1,.int .i64 a1),(b,o + i * 5 + 2,.int .i64 a2),(b,o + i * 5 + 3,.int .i64 a3),(b1,0,.int .i64 ax),(b1,1,.int .i64 ay),(b2,0,.int .i64 bx),(b2,1,.int .i64 by')] (by kernel_rfl) (by simp [Holds_nil,Holds_cons,F,c0,k0,k1,k2,k3]) ?_
  refine h.draw ?_
  clear h F c0 k0 k1 k2 k3
  intro w4 h
  replace h:=Zd h;have F:=Zf5 h;refine Zs ?_
  have c0:=(hm.sep h).cell
  have k4 : w.cell? ⟨b,o + i * 5 + 4,none⟩ = some (.int .i64 a4):=Tab.cell hcx 4 (by simp)
  have k4:=(h.cell0 (by rw [k4];rfl) id).trans k4
  have hitE : isW [a0,a1,a2,a3,a4] ax ay bx by'→Value.int .i64 a4 = .int .i64 (kindW S ax ay bx by'):=fun e=>by
    rw [hkw,hdrop,kindW,if_pos e];rfl
  have missE : ¬ isW [a0,a1,a2,a3,a4] ax ay bx by'→kindW S ax ay bx by' = kindW (S.drop (i + 1)) ax ay bx by':=fun e=>by
    rw [hkw,hdrop,kindW,if_neg e]
  have iw : isW [a0,a1,a2,a3,a4] ax ay bx by'↔(([a0,a1] = [ax,ay]∧[a2,a3] = [bx,by'])∨([a0,a1] = [bx,by']∧[a2,a3] = [ax,ay])):=Iff.rfl
  refine ⟨⟨h0i,hlt⟩,binK_eql_agg (by kernel_rfl) (fun w=>seqPt (d:=9998) a0 a1 ax ay w) ?_⟩
  by_cases e1 : [a0,a1] = [ax,ay]
  · replace h:=Zd h;have F:=Zf5 h;refine Zs1 (decide_eq_true e1) ?_
    refine ⟨⟨h0i,hlt⟩,binK_eql_agg (by kernel_rfl) (fun w=>seqPt (d:=9998) a2 a3 bx by' w) ?_⟩
    by_cases e2 : [a2,a3] = [bx,by']
    · replace h:=Zd h;have F:=Zf5 h;refine Zs1 (J (decide_eq_true e2) (J c0 k4)) ?_
      refine ⟨⟨h0i,hlt⟩,?_⟩
      replace h:=Zd h;have F:=Zf5 h;refine Zs1 (J c0 k4) ?_
      first | exact ⟨hitE (iw.2 (.inl ⟨e1,e2⟩)),h.done⟩ | exact h.done
    replace h:=Zd h;have F:=Zf5 h;refine Zs1 (decide_eq_false e2) ?_
    refine ⟨⟨h0i,hlt⟩,binK_eql_agg (by kernel_rfl) (fun w=>seqPt (d:=9998) a0 a1 bx by' w) ?_⟩
    by_cases e3 : [a0,a1] = [bx,by']
    · replace h:=Zd h;have F:=Zf5 h;refine Zs1 (decide_eq_true e3) ?_
      refine ⟨⟨h0i,hlt⟩,binK_eql_agg (by kernel_rfl) (fun w=>seqPt (d:=9998) a2 a3 ax ay w) ?_⟩
      by_cases e4 : [a2,a3] = [ax,ay]
      · replace h:=Zd h;have F:=Zf5 h;refine Zs1 (J (decide_eq_true e4) (J c0 k4)) ?_
        refine ⟨⟨h0i,hlt⟩,?_⟩
        replace h:=Zd h;have F:=Zf5 h;refine Zs1 (J c0 k4) ?_
        first | exact ⟨hitE (iw.2 (.inr ⟨e3,e4⟩)),h.done⟩ | exact h.done
      replace h:=Zd h;have F:=Zf5 h;refine Zs1 (J (decide_eq_false e4) ei) ?_
      refine ⟨_,?_,i + 1,by omega,rfl,rfl,h,missE (fun e=>(iw.1 e).elim (fun q=>e2 q.2) fun q=>e4 q.2)⟩
      omega
    replace h:=Zd h;have F:=Zf5 h;refine Zs1 (J (decide_eq_false e3) ei) ?_
    refine ⟨_,?_,i + 1,by omega,rfl,rfl,h,missE (fun e=>(iw.1 e).elim (fun q=>e2 q.2) fun q=>e3 q.1)⟩
    omega
  replace h:=Zd h;have F:=Zf5 h;refine Zs1 (decide_eq_false e1) ?_
  refine ⟨⟨h0i,hlt⟩,binK_eql_agg (by kernel_rfl) (fun w=>seqPt (d:=9998) a0 a1 bx by' w) ?_⟩
  by_cases e3 : [a0,a1] = [bx,by']
  · replace h:=Zd h;have F:=Zf5 h;refine Zs1 (decide_eq_true e3) ?_
    refine ⟨⟨h0i,hlt⟩,binK_eql_agg (by kernel_rfl) (fun w=>seqPt (d:=9998) a2 a3 ax ay w) ?_⟩
    by_cases e4 : [a2,a3] = [ax,ay]
    · replace h:=Zd h;have F:=Zf5 h;refine Zs1 (J (decide_eq_true e4) (J c0 k4)) ?_
      refine ⟨⟨h0i,hlt⟩,?_⟩
      replace h:=Zd h;have F:=Zf5 h;refine Zs1 (J c0 k4) ?_
      first | exact ⟨hitE (iw.2 (.inr ⟨e3,e4⟩)),h.done⟩ | exact h.done
    replace h:=Zd h;have F:=Zf5 h;refine Zs1 (J (decide_eq_false e4) ei) ?_
    refine ⟨_,?_,i + 1,by omega,rfl,rfl,h,missE (fun e=>(iw.1 e).elim (fun q=>e1 q.1) fun q=>e4 q.2)⟩
    omega
  replace h:=Zd h;have F:=Zf5 h;refine Zs1 (J (decide_eq_false e3) ei) ?_
  refine ⟨_,?_,i + 1,by omega,rfl,rfl,h,missE (fun e=>(iw.1 e).elim (fun q=>e1 q.1) fun q=>e3 q.1)⟩
  omega
def farE (t : T3) (ax ay bx by' : Int) : List Int:=if t.pt 0≠[ax,ay]∧t.pt 0≠[bx,by'] then t.pt 0 else if t.pt 1≠[ax,ay]∧t.pt 1≠[bx,by'] then t.pt 1 else t.pt 2
theorem far131 (t : T3) (ax ay bx by' : Int) (w : World) : Calls Tryz.prog 131 [.agg t.cells.toArray, .agg #[.int .i64 ax, .int .i64 ay], .agg #[.int .i64 bx, .int .i64 by']].toArray w
    (RetP (.agg (cellsI (farE t ax ay bx by')).toArray) w):=by
  have h:=Sep.nil w
  refine walk Tryz.func131 rfl (by kernel_rfl) (by rw [Tryz.nt131];simp) ?_
  replace h:=Zd h;have F:=Zf5 h
  refine Zv1 (@T3.cells.eq_1) ?_
  refine h.new ?_
  clear h F
  intro _ b1 h
  replace h:=Zd h;have F:=Zf5 h;refine Zc ?_
  refine h.new ?_
  clear h F
  intro _ b2 h
  replace h:=Zd h;have F:=Zf5 h;refine Zc ?_
  refine h.new ?_
  clear h F
  intro _ b3 h
  replace h:=Zd h;have F:=Zf5 h;refine Zc ?_
  refine h.new ?_
  clear h F
  intro _ b4 h
  replace h:=Zd h;have F:=Zf5 h;refine Zc ?_
  refine walkLoop [3,4,5,6] [7] (fun m vs w'=>∃ i : Nat,i≤2∧m = 2 - i∧vs = [.int .i64 i]∧Sep w (fun _=>False) [blk b1 49 [.int .i64 t.ax,.int .i64 t.ay,.int .i64 t.bx,.int .i64 t.by',.int .i64 t.cx,.int .i64 t.cy],blk b2 45 [.int .i64 ax,.int .i64 ay],blk b3 45 [.int .i64 bx,.int .i64 by'],blk b4 45 [.int .i64 0,.int .i64 0]] w'∧∀ j,j < i→¬ (t.pt j≠[ax,ay]∧t.pt j≠[bx,by'])) (by kernel_rfl) ?_ ?_
  · refine Zv ?_
    exact ⟨_,0,by omega,rfl,rfl,h,fun j hj=>by omega⟩
  intro ks hk m vs w5 hi
  clear h
  try clear F
  obtain ⟨i,hi,rfl,rfl,h,hbf⟩ :=hi
  replace hk:=Zk hk;subst hk
  have hi2 : i = 2∨i < 2:=by omega
  rcases hi2 with rfl | hi2
  · have hn : ¬ ((2 : Nat) : Int) < 2:=by omega
    replace h:=Zd h;have F:=Zf5 h;refine Zc1 (decide_eq_false hn) ?_
    refine Sep.put 3 h rfl ?_
    clear h F
    intro _ h
    replace h:=Zd h;have F:=Zf5 h;refine Zc ?_
    have e : farE t ax ay bx by' = t.pt 2:=by
      unfold farE
      rw [if_neg (hbf 0 (by omega)),if_neg (hbf 1 (by omega))]
    exact ⟨by rw [e];rfl,h.done⟩
  have hlt : (i : Int) < 2:=by omega
  have ei : IntKind.i64.wrap ((i : Int) + 1) = ((i + 1 : Nat) : Int):=by rw [i64w _ (by omega) (by omega)];omega
  obtain ⟨x0,x1,e1⟩ :=t.pt_two i
  have c5:=fun w=>corner122 t (i : Int) (by omega) w
  rw [Int.toNat_natCast,e1] at c5
  have fin : (t.pt i≠[ax,ay]∧t.pt i≠[bx,by'])→farE t ax ay bx by' = [x0,x1]:=fun e=>by
    unfold farE
    have : i = 0∨i = 1:=by omega
    rcases this with rfl | rfl
    · rw [if_pos e,e1]
    · rw [if_neg (hbf 0 (by omega)),if_pos e,e1]
  replace h:=Zd h;have F:=Zf5 h;refine Zc1 (decide_eq_true hlt) ?_
  refine walkDraw (.q 1 (.h 0 0 (.h 3 6 (.l 2 (.q 4 (.q 5 (.q 7 (.h 6 0 (.h 9 8 (.l 8 (.q 10 (.q 11 .fin)))))))))))) [(b1,0,.int .i64 t.ax),(b1,1,.int .i64 t.ay),(b1,2,.int .i64 t.bx),(b1,3,.int .i64 t.by'),(b1,4,.int .i64 t.cx),(b1,5,.int .i64 t.cy),(b2,0,.int .i64 ax),(b2,1,.int .i64 ay),(b3,0,.int .i64 bx),(b3,1,.int .i64 by')] (by kernel_rfl) (by simp [Holds_nil,Holds_cons,F]) ?_
  refine h.draw ?_
  clear h F
  intro _ h
  replace h:=Zd h;have F:=Zf5 h;refine Zc ?_
  refine Sep.callp h (c5 _) ?_
  clear h F
  intro _ h
  replace h:=Zd h;have F:=Zf5 h;refine Zc1 (@cellsI.eq_1) ?_
  refine binK_neq_agg (by kernel_rfl) (fun w=>seqPt (d:=9998) x0 x1 ax ay w) ?_
  by_cases q1 : [x0,x1] = [ax,ay]
  · replace h:=Zd h;have F:=Zf5 h;refine Zc1 (J (decide_eq_true q1) ei) ?_
    exact ⟨_,by omega,i + 1,by omega,rfl,rfl,h,fun j hj=>by
      rcases Nat.lt_succ_iff_lt_or_eq.1 hj with hj | rfl
      · exact hbf j hj
      · rw [e1];exact fun e=>e.1 q1⟩
  replace h:=Zd h;have F:=Zf5 h;refine Zc1 (decide_eq_false q1) ?_
  refine Sep.callp h (c5 _) ?_
  clear h F
  intro _ h
  replace h:=Zd h;have F:=Zf5 h;refine Zc1 (@cellsI.eq_1) ?_
  refine binK_neq_agg (by kernel_rfl) (fun w=>seqPt (d:=9998) x0 x1 bx by' w) ?_
  by_cases q2 : [x0,x1] = [bx,by']
  · replace h:=Zd h;have F:=Zf5 h;refine Zc1 (J (decide_eq_true q2) ei) ?_
    exact ⟨_,by omega,i + 1,by omega,rfl,rfl,h,fun j hj=>by
      rcases Nat.lt_succ_iff_lt_or_eq.1 hj with hj | rfl
      · exact hbf j hj
      · rw [e1];exact fun e=>e.2 q2⟩
  replace h:=Zd h;have F:=Zf5 h;refine Zc1 (decide_eq_false q2) ?_
  refine Sep.callp h (c5 _) ?_
  clear h F
  intro _ h
  replace h:=Zd h;have F:=Zf5 h;refine Zc1 (@cellsI.eq_1) ?_
  refine Sep.put 3 h rfl ?_
  clear h F
  intro _ h
  replace h:=Zd h;have F:=Zf5 h;refine Zc ?_
  exact ⟨by rw [fin ⟨by rw [e1];exact q1,by rw [e1];exact q2⟩];rfl,h.done⟩
def wV (z : Int) : List Value:=[.int .i64 (z / 18446744073709551616),.int .u64 (z % 18446744073709551616)]
def Wd (z : Int) : Prop:=-170141183460469231731687303715884105728≤z∧z < 170141183460469231731687303715884105728
theorem xorNot (w : Nat) (n m : Int) (hm : BitVec.ofInt w m = BitVec.allOnes w) : ((BitVec.ofInt w m ^^^ BitVec.ofInt w n).toNat : Int) = (-1 - n) % (2 ^ w : Int):=by
  have hp : (0 : Int) < 2 ^ w:=Int.pow_pos (by decide)
  have h2 : ((2 ^ w : Nat) : Int) = (2 ^ w : Int):=by simp
  have h1 : ((BitVec.ofInt w n).toNat : Int) = n % (2 ^ w : Int):=by
    rw [BitVec.toNat_ofInt,h2,Int.toNat_of_nonneg (Int.emod_nonneg _ (by omega))]
  have hl:=(BitVec.ofInt w n).isLt
  rw [hm,BitVec.allOnes_xor,BitVec.toNat_not]
  have e : (((2 ^ w - 1 - (BitVec.ofInt w n).toNat : Nat)) : Int) = (2 ^ w : Int) - 1 - n % (2 ^ w : Int):=by
    rw [← h1,← h2];omega
  refine Eq.trans e ?_
  have m1 : (2 ^ w : Int) - 1 - n % (2 ^ w : Int) = (-1 - n) + (2 ^ w : Int) * (1 + n / (2 ^ w : Int)):=by
    have:=Int.emod_add_mul_ediv n (2 ^ w : Int)
    grind
  have r1:=Int.emod_nonneg n (show (2 ^ w : Int)≠0 by omega)
  have r2:=Int.emod_lt_of_pos n hp
  rw [show (-1 - n) % (2 ^ w : Int) = ((2 ^ w : Int) - 1 - n % (2 ^ w : Int)) % (2 ^ w : Int) by rw [m1,Int.add_mul_emod_self_left]]
  generalize (2 ^ w : Int) = B at *
  exact (Int.emod_eq_of_lt (by omega) (by omega)).symm
theorem xorI (n : Int) : IntKind.i64.wrap (BitVec.ofInt IntKind.i64.bits (if IntKind.i64.signed = true then -1 else IntKind.i64.max) ^^^ BitVec.ofInt IntKind.i64.bits n).toNat = IntKind.i64.wrap (-1 - n):=by
  have e:=xorNot 64 n (-1) (by decide)
  show IntKind.i64.wrap ((BitVec.ofInt 64 (-1) ^^^ BitVec.ofInt 64 n).toNat : Int) = _
  rw [e]
  simp [IntKind.wrap,IntKind.bits,IntKind.signed]
theorem xorU (n : Int) : IntKind.u64.wrap (BitVec.ofInt IntKind.u64.bits (if IntKind.u64.signed = true then -1 else IntKind.u64.max) ^^^ BitVec.ofInt IntKind.u64.bits n).toNat = (-1 - n) % 18446744073709551616:=by
  have e:=xorNot 64 n (18446744073709551615) (by decide)
  show IntKind.u64.wrap ((BitVec.ofInt 64 18446744073709551615 ^^^ BitVec.ofInt 64 n).toNat : Int) = _
  rw [e]
  simp [IntKind.wrap,IntKind.bits,IntKind.signed]
theorem wadd138 (x y : Int) (hx : Wd x) (hy : Wd y) (hz : Wd (x + y)) (w : World) : Calls Tryz.prog 138 [.agg (wV x).toArray,.agg (wV y).toArray].toArray w (RetP (.agg (wV (x + y)).toArray) w):=by
  have h:=Sep.nil w
  unfold Wd at hx hy hz
  have e1 : IntKind.u64.wrap (x % 18446744073709551616 + y % 18446744073709551616) = (x + y) % 18446744073709551616:=by rw [u64wrap];omega
  refine walk Tryz.func138 rfl (by kernel_rfl) (by rw [Tryz.nt138];simp) ?_
  replace h:=Zd h;have F:=Zf5 h
  refine Zv1 (@wV.eq_1) ?_
  refine h.new ?_
  clear h F
  intro _ b1 h
  replace h:=Zd h;have F:=Zf5 h;refine Zc1 e1 ?_
  refine h.new ?_
  clear h F
  intro _ b2 h
  replace h:=Zd h;have F:=Zf5 h;refine Zc1 e1 ?_
  refine h.new ?_
  clear h F
  intro _ b3 h
  replace h:=Zd h;have F:=Zf5 h;refine Zc1 e1 ?_
  by_cases hc : (x + y) % 18446744073709551616 < x % 18446744073709551616
  · have e2 : IntKind.i64.wrap (IntKind.i64.wrap (x / 18446744073709551616 + y / 18446744073709551616) + 1) = (x + y) / 18446744073709551616 := by
      simp only [IntKind.wrap,IntKind.bits,IntKind.signed,Bool.true_and,ge_iff_le,decide_eq_true_eq,Int.reducePow]
      split<;>split<;>omega
    replace h:=Zd h;have F:=Zf5 h;refine Zc1 (J (decide_eq_true hc) (J e1 e2)) ?_
    refine Sep.put 2 h rfl ?_
    clear h F
    intro _ h
    replace h:=Zd h;have F:=Zf5 h;refine Zc ?_
    exact ⟨rfl,h.done⟩
  · have e2 : IntKind.i64.wrap (IntKind.i64.wrap (x / 18446744073709551616 + y / 18446744073709551616) + 0) = (x + y) / 18446744073709551616 := by
      simp only [IntKind.wrap,IntKind.bits,IntKind.signed,Bool.true_and,ge_iff_le,decide_eq_true_eq,Int.reducePow]
      split<;>split<;>omega
    replace h:=Zd h;have F:=Zf5 h;refine Zc1 (J (decide_eq_false hc) (J e1 e2)) ?_
    refine Sep.put 2 h rfl ?_
    clear h F
    intro _ h
    replace h:=Zd h;have F:=Zf5 h;refine Zc ?_
    exact ⟨rfl,h.done⟩
theorem wneg139 (x : Int) (hx : Wd x) (hz : Wd (-x)) (w : World) : Calls Tryz.prog 139 [.agg (wV x).toArray].toArray w (RetP (.agg (wV (-x)).toArray) w):=by
  have h:=Sep.nil w
  have hw:=hx
  have hv:=hz
  unfold Wd at hw hv
  have e1 : IntKind.i64.wrap (-1 - x / 18446744073709551616) = (-1 - x) / 18446744073709551616:=by
    rw [i64w _ (by omega) (by omega)];omega
  have e2 : (-1 - x % 18446744073709551616) % 18446744073709551616 = (-1 - x) % 18446744073709551616:=by omega
  have k:=wadd138 (-1 - x) 1 (by unfold Wd;omega) (by unfold Wd;omega) (by unfold Wd;omega)
  rw [show -1 - x + 1 = -x by omega] at k
  refine walk Tryz.func139 rfl (by kernel_rfl) (by rw [Tryz.nt139];simp) ?_
  replace h:=Zd h;have F:=Zf5 h
  refine Zv1 (@wV.eq_1) ?_
  refine h.new ?_
  clear h F
  intro _ b1 h
  replace h:=Zd h;have F:=Zf5 h;refine Zc1 (J unK_xor (J xorI (J xorU (J e1 e2)))) ?_
  refine h.new ?_
  clear h F
  intro _ b2 h
  replace h:=Zd h;have F:=Zf5 h;refine Zc1 (J unK_xor (J xorI (J xorU (J e1 e2)))) ?_
  refine Sep.callp h (k _) ?_
  clear h F
  intro _ h
  replace h:=Zd h;have F:=Zf5 h;refine Zc1 (@wV.eq_1) ?_
  refine Sep.put 1 h rfl ?_
  clear h F
  intro _ h
  replace h:=Zd h;have F:=Zf5 h;refine Zc ?_
  exact ⟨rfl,h.done⟩
theorem wsign140 (x : Int) (hx : Wd x) (w : World) : Calls Tryz.prog 140 [.agg (wV x).toArray].toArray w (RetP (.int .i64 (cmpI x 0)) w):=by
  have h:=Sep.nil w
  refine walk Tryz.func140 rfl (by kernel_rfl) (by rw [Tryz.nt140];simp) ?_
  replace h:=Zd h;have F:=Zf5 h
  refine Zv1 (@wV.eq_1) ?_
  refine h.new ?_
  clear h F
  intro _ b1 h
  replace h:=Zd h;have F:=Zf5 h;refine Zc ?_
  by_cases h1 : x / 18446744073709551616 < 0
  · replace h:=Zd h;have F:=Zf5 h;refine Zc1 (decide_eq_true h1) ?_
    exact ⟨by unfold cmpI;rw [if_pos (by omega)],h.done⟩
  replace h:=Zd h;have F:=Zf5 h;refine Zc1 (decide_eq_false h1) ?_
  by_cases h2 : x / 18446744073709551616 = 0
  case neg=>
    replace h:=Zd h;have F:=Zf5 h;refine Zc1 (decide_eq_false h2) ?_
    exact ⟨by unfold cmpI;rw [if_neg (by omega),if_pos (by omega)],h.done⟩
  replace h:=Zd h;have F:=Zf5 h;refine Zc1 (decide_eq_true h2) ?_
  by_cases h3 : x % 18446744073709551616 = 0
  · replace h:=Zd h;have F:=Zf5 h;refine Zc1 (decide_eq_true h3) ?_
    exact ⟨by unfold cmpI;rw [if_neg (by omega),if_neg (by omega)],h.done⟩
  replace h:=Zd h;have F:=Zf5 h;refine Zc1 (decide_eq_false h3) ?_
  exact ⟨by unfold cmpI;rw [if_neg (by omega),if_pos (by omega)],h.done⟩
theorem and32 (n : Int) (h0 : 0≤n) (h1 : n < 18446744073709551616) : IntKind.u64.wrap (BitVec.ofInt IntKind.u64.bits n &&& BitVec.ofInt IntKind.u64.bits 4294967295).toNat = n % 4294967296:=by
  obtain ⟨m,rfl⟩ :=Int.eq_ofNat_of_zero_le h0
  have e : (BitVec.ofInt IntKind.u64.bits (m : Int) &&& BitVec.ofInt IntKind.u64.bits 4294967295).toNat = m % 4294967296:=by
    show (BitVec.ofInt 64 (m : Int) &&& BitVec.ofInt 64 4294967295).toNat = _
    rw [BitVec.toNat_and]
    have e1 : (BitVec.ofInt 64 (m : Int)).toNat = m:=by rw [BitVec.toNat_ofInt];omega
    have e2 : (BitVec.ofInt 64 4294967295).toNat = 2 ^ 32 - 1:=by decide
    rw [e1,e2,Nat.and_two_pow_sub_one_eq_mod]
  rw [e,u64wrap]
  omega
theorem p32 : (2 : Int) ^ min 32 IntKind.u64.bits = 4294967296:=by decide
theorem parts32 (X : Int) (h0 : 0≤X) (h1 : X≤4611686018427387904) : 0≤X / 4294967296∧X / 4294967296≤1073741824∧0≤X % 4294967296∧X % 4294967296≤4294967295:=by omega
theorem mul_le' {a b m n : Int} (ha : 0≤a) (ha' : a≤m) (hb : 0≤b) (hb' : b≤n) : 0≤a * b∧a * b≤m * n:=⟨Int.mul_nonneg ha hb,Int.mul_le_mul ha' hb' hb (by omega)⟩
def absI (x : Int) : Int:=if x < 0 then -x else x
theorem absI_mul (x y : Int) : x * y = if decide (x < 0) != decide (y < 0) then -(absI x * absI y) else absI x * absI y:=by
  unfold absI
  by_cases h1 : x < 0<;>by_cases h2 : y < 0<;>simp [h1,h2,Int.neg_mul,Int.mul_neg]
theorem mulCore (X Y : Int) (hX0 : 0 ≤ X) (hX : X ≤ 4611686018427387904) (hY0 : 0 ≤ Y) (hY : Y ≤ 4611686018427387904) :
    let xl:=X % 4294967296;let xh:=X / 4294967296;let yl:=Y % 4294967296;let yh:=Y / 4294967296
    0≤xh * yh∧xh * yh < 4611686018427387904∧0≤xl * yl∧xl * yl < 18446744073709551616∧0≤xl * yh∧xl * yh < 4611686018427387904∧0≤xh * yl∧xh * yl < 4611686018427387904∧
    X * Y = xh * yh * 18446744073709551616 + xl * yl + xl * yh * 4294967296 + xh * yl * 4294967296:=by
  intro xl xh yl yh
  obtain ⟨a1,a2,a3,a4⟩ :=parts32 X hX0 hX
  obtain ⟨b1,b2,b3,b4⟩ :=parts32 Y hY0 hY
  have m1:=mul_le' a1 a2 b1 b2
  have m2:=mul_le' a3 a4 b3 b4
  have m3:=mul_le' a3 a4 b1 b2
  have m4:=mul_le' a1 a2 b3 b4
  refine ⟨m1.1,by show X / 4294967296 * (Y / 4294967296) < _;omega,m2.1,by show X % 4294967296 * (Y % 4294967296) < _;omega,m3.1,by show X % 4294967296 * (Y / 4294967296) < _;omega,m4.1,by show X / 4294967296 * (Y % 4294967296) < _;omega,?_⟩
  have ex : X = X / 4294967296 * 4294967296 + X % 4294967296:=by omega
  have ey : Y = Y / 4294967296 * 4294967296 + Y % 4294967296:=by omega
  show X * Y = X / 4294967296 * (Y / 4294967296) * 18446744073709551616 + X % 4294967296 * (Y % 4294967296) + X % 4294967296 * (Y / 4294967296) * 4294967296 + X / 4294967296 * (Y % 4294967296) * 4294967296
  generalize X / 4294967296 = p at *
  generalize X % 4294967296 = q at *
  generalize Y / 4294967296 = r at *
  generalize Y % 4294967296 = s at *
  subst ex ey
  grind
theorem wmul137 (x y : Int) (hx : -4611686018427387904≤x∧x≤4611686018427387904) (hy : -4611686018427387904≤y∧y≤4611686018427387904) (w : World) : Calls Tryz.prog 137 [.int .i64 x,.int .i64 y].toArray w (RetP (.agg (wV (x * y)).toArray) w):=by
  have h:=Sep.nil w
  have hX : 0≤absI x∧absI x≤4611686018427387904:=by unfold absI;split<;>omega
  have hY : 0≤absI y∧absI y≤4611686018427387904:=by unfold absI;split<;>omega
  have C:=mulCore (absI x) (absI y) hX.1 hX.2 hY.1 hY.2
  have A:=absI_mul x y
  have ex : ∀ n : Int,n = absI n∨n = - absI n:=fun n=>by unfold absI;split<;>omega
  have x1 : x < 0→(0 - x % 18446744073709551616) % 18446744073709551616 = absI x:=fun e=>by unfold absI;rw [if_pos e];omega
  have x2 : ¬ x < 0→x % 18446744073709551616 = absI x:=fun e=>by unfold absI;rw [if_neg e];omega
  have y1 : y < 0→(0 - y % 18446744073709551616) % 18446744073709551616 = absI y:=fun e=>by unfold absI;rw [if_pos e];omega
  have y2 : ¬ y < 0→y % 18446744073709551616 = absI y:=fun e=>by unfold absI;rw [if_neg e];omega
  have nX:=and32 (absI x) hX.1 (by omega)
  have nY:=and32 (absI y) hY.1 (by omega)
  rw [u64wrap] at nX nY
  refine walk Tryz.func137 rfl (by kernel_rfl) (by rw [Tryz.nt137];simp) ?_
  replace h:=Zd h;have F:=Zf5 h
  refine Zv1 (@wV.eq_1) ?_
  refine h.new ?_
  clear h F
  intro _ b1 h
  replace h:=Zd h;have F:=Zf5 h;refine Zc1 u64wrap ?_
  obtain ⟨c1,c2,c3,c4,c5,c6,c7,c8,c9⟩ :=C
  have f1 : IntKind.i64.wrap (absI x / 4294967296 * (absI y / 4294967296) % 18446744073709551616) = (absI x / 4294967296 * (absI y / 4294967296) * 18446744073709551616 + absI x % 4294967296 * (absI y % 4294967296)) / 18446744073709551616:=by
    rw [i64w _ (by omega) (by omega)];omega
  have f2 : absI x % 4294967296 * (absI y % 4294967296) % 18446744073709551616 = (absI x / 4294967296 * (absI y / 4294967296) * 18446744073709551616 + absI x % 4294967296 * (absI y % 4294967296)) % 18446744073709551616:=by omega
  have f3 : IntKind.i64.wrap (absI x % 4294967296 * (absI y / 4294967296) % 18446744073709551616 / 4294967296) = (absI x % 4294967296 * (absI y / 4294967296) * 4294967296) / 18446744073709551616:=by
    rw [i64w _ (by omega) (by omega)];omega
  have f4 : absI x % 4294967296 * (absI y / 4294967296) % 18446744073709551616 * 4294967296 % 18446744073709551616 = (absI x % 4294967296 * (absI y / 4294967296) * 4294967296) % 18446744073709551616:=by omega
  have f5 : IntKind.i64.wrap (absI x / 4294967296 * (absI y % 4294967296) % 18446744073709551616 / 4294967296) = (absI x / 4294967296 * (absI y % 4294967296) * 4294967296) / 18446744073709551616:=by
    rw [i64w _ (by omega) (by omega)];omega
  have f6 : absI x / 4294967296 * (absI y % 4294967296) % 18446744073709551616 * 4294967296 % 18446744073709551616 = (absI x / 4294967296 * (absI y % 4294967296) * 4294967296) % 18446744073709551616:=by omega
  have k1:=wadd138 (absI x / 4294967296 * (absI y / 4294967296) * 18446744073709551616 + absI x % 4294967296 * (absI y % 4294967296)) (absI x % 4294967296 * (absI y / 4294967296) * 4294967296) (by unfold Wd;omega) (by unfold Wd;omega) (by unfold Wd;omega)
  have k2:=wadd138 (absI x / 4294967296 * (absI y / 4294967296) * 18446744073709551616 + absI x % 4294967296 * (absI y % 4294967296) + absI x % 4294967296 * (absI y / 4294967296) * 4294967296) (absI x / 4294967296 * (absI y % 4294967296) * 4294967296) (by unfold Wd;omega) (by unfold Wd;omega) (by unfold Wd;omega)
  rw [← c9] at k2
  have k3:=wneg139 (absI x * absI y) (by unfold Wd;omega) (by unfold Wd;omega)
  by_cases h1 : x < 0
  case' pos=>
    have q1:=x1 h1
    replace h:=Zd h;have F:=Zf5 h;refine Zc1 (J (decide_eq_true h1) (J u64wrap q1)) ?_
  case' neg=>
    have q1:=x2 h1
    replace h:=Zd h;have F:=Zf5 h;refine Zc1 (J (decide_eq_false h1) (J u64wrap q1)) ?_
  all_goals
    by_cases h2 : y < 0
    case' pos=>
      have q2:=y1 h2
      replace h:=Zd h;have F:=Zf5 h;refine Zc1 (J (decide_eq_true h2) (J u64wrap (J q2 (J nX (J nY p32))))) ?_
    case' neg=>
      have q2:=y2 h2
      replace h:=Zd h;have F:=Zf5 h;refine Zc1 (J (decide_eq_false h2) (J u64wrap (J q2 (J nX (J nY p32))))) ?_
  all_goals
    refine h.new ?_
    clear h F
    intro _ b2 h
    replace h:=Zd h;have F:=Zf5 h;refine Zc1 (J u64wrap (J q1 (J q2 (J nX (J nY (J p32 (J f1 f2))))))) ?_
    refine Sep.put 1 h rfl ?_
    clear h F
    intro _ h
    replace h:=Zd h;have F:=Zf5 h;refine Zc1 (J u64wrap (J q1 (J q2 (J nX (J nY (J p32 (J f3 f4))))))) ?_
    refine Sep.callp h (k1 _) ?_
    clear h F
    intro _ h
    replace h:=Zd h;have F:=Zf5 h;refine Zc1 (@wV.eq_1) ?_
    refine Sep.put 1 h rfl ?_
    clear h F
    intro _ h
    replace h:=Zd h;have F:=Zf5 h;refine Zc1 (J u64wrap (J q1 (J q2 (J nX (J nY (J p32 (J f5 f6))))))) ?_
    refine Sep.callp h (k2 _) ?_
    clear h F
    intro _ h
    replace h:=Zd h;have F:=Zf5 h;refine Zc1 (@wV.eq_1) ?_
    refine Sep.put 1 h rfl ?_
    clear h F
    intro _ h
    replace h:=Zd h;have F:=Zf5 h;try simp -dsimp only [↓vcA,vcB,vcD,↓pureT_lenS,↓iteT,↓iteF,cond_true,cond_false,eq_self,argE,Env.get,Env.push,ev,evs,evo,retV,Value.cells,Value.oneCell',setR,overR,fillL,zl,places,allSizes,heldC,ne_eq,Int.reduceLE,Int.reduceLT,Int.reduceEq,Int.reduceNe,Int.reduceToNat,Int.cast_ofNat_Int,Nat.reduceMul,Nat.reduceLeDiff,reduceIte,Nat.reduceEqDiff,Nat.reduceAdd,↓reduceIte,Tryz.vcT,F,h.cell0,gets,vsD,if_true,if_false,Bool.false_eq_true,cellsAt,beq_self_eq_true,Bool.not_true,Bool.not_false]
    cases hc : (decide (x < 0) == decide (y < 0)) with
    | true=>
      have e : x * y = absI x * absI y:=by rw [A,bne,hc];rfl
      replace h:=Zd h;have F:=Zf5 h;refine Zc1 hc ?_
      refine Sep.put 0 h rfl ?_
      clear h F
      intro _ h
      replace h:=Zd h;have F:=Zf5 h;refine Zc ?_
      rw [e]
      exact ⟨rfl,h.done⟩
    | false=>
      have e : x * y = -(absI x * absI y):=by rw [A,bne,hc];rfl
      replace h:=Zd h;have F:=Zf5 h;refine Zc1 hc ?_
      refine Sep.callp h (k3 _) ?_
      clear h F
      intro _ h
      replace h:=Zd h;have F:=Zf5 h;refine Zc1 (@wV.eq_1) ?_
      refine Sep.put 0 h rfl ?_
      clear h F
      intro _ h
      replace h:=Zd h;have F:=Zf5 h;refine Zc ?_
      rw [e]
      exact ⟨rfl,h.done⟩
end Go.Proofs.YtnhgjgoglmadnaaGreat
