/- Joined texts of this claim (part 28), printed by a program of this work. The last part holds the claimed theorem: the law answers true at every input of its row. -/
import Derived.Test.YtnhgjgoglmadnaaGreatSPFieldsA
set_option maxHeartbeats 4000000
namespace Go.Proofs.YtnhgjgoglmadnaaGreat
open Go.RowKit
set_option maxRecDepth 100000
set_option linter.unusedSimpArgs false
set_option linter.unusedVariables false
def T3.key (t : T3) : Nat→List Int
  | 0=>[t.ax,t.ay,t.bx,t.by']
  | 1=>[t.bx,t.by',t.cx,t.cy]
  | _=>[t.cx,t.cy,t.ax,t.ay]
def T3.es (t : T3) : List Value:=[.int .i64 t.ax,.int .i64 t.ay,.int .i64 t.bx,.int .i64 t.by',.int .i64 t.bx,.int .i64 t.by',.int .i64 t.cx,.int .i64 t.cy,.int .i64 t.cx,.int .i64 t.cy,.int .i64 t.ax,.int .i64 t.ay]
def takeE (E : MeshE) (t : T3) : MeshE:=delE (delE (delE E (t.key 0)) (t.key 1)) (t.key 2)
def hasK (E : MeshE) (k : List Int) : Bool:=(lookE E k).isSome
def putOk (E : MeshE) (t : T3) : Bool:=!hasK E (t.key 0) && (!hasK E (t.key 1) && !hasK E (t.key 2))
def putE (E : MeshE) (t : T3) : MeshE:=if putOk E t then setE (setE (setE E (t.key 0) t) (t.key 1) t) (t.key 2) t else E
theorem T3.key_four (t : T3) (i : Nat) : ∃ a b c d,t.key i = [a,b,c,d]:=by
  match i with
  | 0=>exact ⟨_,_,_,_,rfl⟩
  | 1=>exact ⟨_,_,_,_,rfl⟩
  | n + 2=>exact ⟨_,_,_,_,rfl⟩
theorem T3.key_len (t : T3) (i : Nat) : (t.key i).length = 4:=by
  obtain ⟨a,b,c,d,e⟩ :=t.key_four i
  rw [e];rfl
def delK (E : MeshE) (t : T3) : Nat→MeshE
  | 0=>E
  | n + 1=>delE (delK E t n) (t.key n)
def setK (E : MeshE) (t : T3) : Nat→MeshE
  | 0=>E
  | n + 1=>setE (setK E t n) (t.key n) t
theorem delK_wid {E : MeshE} (h : E.Wid) (t : T3) : ∀ n,(delK E t n).Wid
  | 0=>h
  | n + 1=>delE_wid (delK_wid h t n)
theorem setK_wid {E : MeshE} (h : E.Wid) (t : T3) : ∀ n,(setK E t n).Wid
  | 0=>h
  | n + 1=>setE_wid (setK_wid h t n) (t.key_len n)
theorem T3.es_at (t : T3) {i : Nat} (hi : i < 3) : ∃ a b c d,t.key i = [a,b,c,d]∧t.es[i * 4]? = some (.int .i64 a)∧t.es[i * 4 + 1]? = some (.int .i64 b)∧t.es[i * 4 + 2]? = some (.int .i64 c)∧t.es[i * 4 + 3]? = some (.int .i64 d):=by
  have : i = 0∨i = 1∨i = 2:=by omega
  rcases this with rfl | rfl | rfl<;>exact ⟨_,_,_,_,rfl,rfl,rfl,rfl,rfl⟩
theorem putOk_false {E : MeshE} {t : T3} {i : Nat} (hi : i < 3) (h : hasK E (t.key i) = true) : putOk E t = false∧putE E t = E:=by
  have k : putOk E t = false:=by
    unfold putOk
    have : i = 0∨i = 1∨i = 2:=by omega
    rcases this with rfl | rfl | rfl<;>rw [h]<;>simp
  exact ⟨k,by unfold putE;rw [k];rfl⟩
theorem take111 {w : World} {A : Nat → Prop} {bm : Nat} {E : MeshE} (t : T3) (h : Sep w A [msh bm E] w) : Calls Tryz.prog 111 [.pointer (some ⟨bm, 0, none⟩), .agg t.cells.toArray].toArray w
    (RetK fun r w'=>r = .tuple #[]∧Sep w A [msh bm (takeE E t)] w'):=by
  obtain ⟨hw,b,h⟩ :=h.mshOpen 0 rfl
  refine walk Tryz.func111 rfl (by kernel_rfl) (by rw [Tryz.nt111];simp) ?_
  replace h:=Zd h;have F:=Zf6 h
  refine Zv1 (@T3.cells.eq_1) ?_
  refine h.new ?_
  clear h F
  intro _ b1 h
  replace h:=Zd h;have F:=Zf6 h;refine Zc ?_
  refine Sep.callp h (edges128 t _) ?_
  clear h F
  intro _ h
  replace h:=Zd h;have F:=Zf6 h;refine Zc1 (@cellsI.eq_1) ?_
  refine h.new ?_
  clear h F
  intro _ b2 h
  replace h:=Zd h;have F:=Zf6 h;refine Zc ?_
  refine Sep.put 3 h rfl ?_
  clear h F
  intro _ h
  replace h:=Zd h;have F:=Zf6 h;refine Zc ?_
  have h : Sep w A [blk bm 165 [.map (some b)],mpx b (ents E),blk b1 49 t.cells,blk b2 190 t.es] _:=h
  clear F
  refine walkLoop [0,4] [5] (fun m vs w'=>∃ i : Nat,i≤3∧m = 3 - i∧vs = [.int .i64 i]∧Sep w A [blk bm 165 [.map (some b)],mpx b (ents (delK E t i)),blk b1 49 t.cells,blk b2 190 t.es] w') (by kernel_rfl) ?_ ?_
  · refine Zv ?_
    exact ⟨_,0,by omega,rfl,rfl,h⟩
  intro ks hk m vs w5 hi
  clear h
  obtain ⟨i,hi,rfl,rfl,h⟩ :=hi
  replace hk:=Zk hk;subst hk
  have hi3 : i = 3∨i < 3:=by omega
  rcases hi3 with rfl | hi3
  · have hn : ¬ ((3 : Nat) : Int) < 3:=by omega
    replace h:=Zd h;have F:=Zf6 h;refine Zc1 (decide_eq_false hn) ?_
    have:=(h.erase 3).erase 2
    exact (this.mshShut 0 1 rfl rfl (delK_wid hw t 3)).erase 1
  have hlt : (i : Int) < 3:=by omega
  have ei : IntKind.i64.wrap ((i : Int) + 1) = ((i + 1 : Nat) : Int):=by rw [i64w _ (by omega) (by omega)];omega
  obtain ⟨x0,x1,x2,x3,ek,e0,e1,e2,e3⟩ :=t.es_at hi3
  replace h:=Zd h;have F:=Zf6 h;refine Zc1 (decide_eq_true hlt) ?_
  refine walkDraw (.q 0 (.q 1 (.q 2 (.q 4 (.q 5 (.h 3 0 (.h 6 1 (.l 7 .fin)))))))) [(bm,0,.map (some b)),(b2,i * 4,.int .i64 x0),(b2,i * 4 + 1,.int .i64 x1),(b2,i * 4 + 2,.int .i64 x2),(b2,i * 4 + 3,.int .i64 x3)] (by kernel_rfl) (by simp [Holds_nil,Holds_cons,F,e0,e1,e2,e3]) ?_
  refine h.draw ?_
  clear h F
  intro _ h
  (try simp only [nfD] at h);have F:=h.facts;(try simp only [nfF,emp_fact,rds_fact,frm_fact,tab_fact,mpx_fact,rng_fact,msh_fact,wls_fact] at F);try simp -dsimp only [↓vcA,vcB,vcD,↓pureT_lenS,↓iteT,↓iteF,cond_true,cond_false,eq_self,argE,Env.get,Env.push,ev,evs,evo,retV,Value.cells,Value.oneCell',setR,overR,fillL,zl,places,allSizes,heldC,ne_eq,Int.reduceLE,Int.reduceLT,Int.reduceEq,Int.reduceNe,Int.reduceToNat,Int.cast_ofNat_Int,Nat.reduceMul,Nat.reduceLeDiff,reduceIte,Nat.reduceEqDiff,Nat.reduceAdd,↓reduceIte,Tryz.vcT,F,h.cell0,gets,vsD,if_true,if_false,Bool.false_eq_true,cellsAt,opvT_delete]
  refine ⟨by omega,?_⟩
  refine Sep.mapDel 1 (et:=49) (k:=[x0,x1,x2,x3]) h rfl edgeK (by kernel_rfl) (ents_wid (delK_wid hw t i)) rfl ?_
  clear h F
  intro _ h
  rw [← ents_del,← ek] at h
  replace h:=Zd h;have F:=Zf6 h;refine Zc1 (J ei (J e0 (J e1 (J e2 e3)))) ?_
  exact ⟨_,by omega,i + 1,by omega,rfl,rfl,h⟩
theorem put101 {w : World} {A : Nat → Prop} {bm : Nat} {E : MeshE} (t : T3) (h : Sep w A [msh bm E] w) : Calls Tryz.prog 101 [.pointer (some ⟨bm, 0, none⟩), .agg t.cells.toArray].toArray w
    (RetK fun r w'=>r = .bool (putOk E t)∧Sep w A [msh bm (putE E t)] w'):=by
  obtain ⟨hw,b,h⟩ :=h.mshOpen 0 rfl
  refine walk Tryz.func101 rfl (by kernel_rfl) (by rw [Tryz.nt101];simp) ?_
  replace h:=Zd h;have F:=Zf6 h
  refine Zv1 (@T3.cells.eq_1) ?_
  refine h.new ?_
  clear h F
  intro _ b1 h
  replace h:=Zd h;have F:=Zf6 h;refine Zc ?_
  refine Sep.callp h (edges128 t _) ?_
  clear h F
  intro _ h
  replace h:=Zd h;have F:=Zf6 h;refine Zc1 (@cellsI.eq_1) ?_
  refine h.new ?_
  clear h F
  intro _ b2 h
  replace h:=Zd h;have F:=Zf6 h;refine Zc ?_
  refine Sep.put 3 h rfl ?_
  clear h F
  intro _ h
  replace h:=Zd h;have F:=Zf6 h;refine Zc ?_
  have h : Sep w A [blk bm 165 [.map (some b)],mpx b (ents E),blk b1 49 t.cells,blk b2 190 t.es] _:=h
  clear F
  refine walkLoop [0,3,5] [6] (fun m vs w'=>∃ i : Nat,i≤3∧m = 3 - i∧vs = [.int .i64 i]∧(∀ j,j < i→hasK E (t.key j) = false)∧Sep w A [blk bm 165 [.map (some b)],mpx b (ents E),blk b1 49 t.cells,blk b2 190 t.es] w') (by kernel_rfl) ?_ ?_
  · refine Zv ?_
    exact ⟨_,0,by omega,rfl,rfl,fun j hj=>by omega,h⟩
  intro ks hk m vs w5 hi
  clear h
  obtain ⟨i,hi,rfl,rfl,hno,h⟩ :=hi
  replace hk:=Zk hk;subst hk
  have hi3 : i = 3∨i < 3:=by omega
  rcases hi3 with rfl | hi3
  · have hn : ¬ ((3 : Nat) : Int) < 3:=by omega
    have ok : putOk E t = true:=by unfold putOk;rw [hno 0 (by omega),hno 1 (by omega),hno 2 (by omega)];rfl
    have pe : putE E t = setK E t 3:=by unfold putE;rw [if_pos ok];rfl
    replace h:=Zd h;have F:=Zf6 h;refine Zc1 (decide_eq_false hn) ?_
    rw [ok,pe]
    clear hno hi hn ok pe
    refine walkLoop [0,3,5] [9] (fun m vs w'=>∃ i : Nat,i≤3∧m = 3 - i∧vs = [.int .i64 i]∧Sep w A [blk bm 165 [.map (some b)],mpx b (ents (setK E t i)),blk b1 49 t.cells,blk b2 190 t.es] w') (by kernel_rfl) ?_ ?_
    · refine Zv ?_
      exact ⟨_,0,by omega,rfl,rfl,h⟩
    intro ks hk m vs w5 hi
    clear h F
    obtain ⟨i,hi,rfl,rfl,h⟩ :=hi
    replace hk:=Zk hk;subst hk
    have hi3 : i = 3∨i < 3:=by omega
    rcases hi3 with rfl | hi3
    · have hn : ¬ ((3 : Nat) : Int) < 3:=by omega
      replace h:=Zd h;have F:=Zf6 h;refine Zc1 (decide_eq_false hn) ?_
      have:=(h.erase 3).erase 2
      exact (this.mshShut 0 1 rfl rfl (setK_wid hw t 3)).erase 1
    have hlt : (i : Int) < 3:=by omega
    have ei : IntKind.i64.wrap ((i : Int) + 1) = ((i + 1 : Nat) : Int):=by rw [i64w _ (by omega) (by omega)];omega
    obtain ⟨x0,x1,x2,x3,ek,e0,e1,e2,e3⟩ :=t.es_at hi3
    replace h:=Zd h;have F:=Zf6 h;refine Zc1 (decide_eq_true hlt) ?_
    refine walkDraw (.q 0 (.q 1 (.q 2 (.q 4 (.q 5 (.h 3 0 (.h 6 1 (.h 7 5 (.l 8 .fin))))))))) [(bm,0,.map (some b)),(b2,i * 4,.int .i64 x0),(b2,i * 4 + 1,.int .i64 x1),(b2,i * 4 + 2,.int .i64 x2),(b2,i * 4 + 3,.int .i64 x3),(b1,0,.int .i64 t.ax),(b1,1,.int .i64 t.ay),(b1,2,.int .i64 t.bx),(b1,3,.int .i64 t.by'),(b1,4,.int .i64 t.cx),(b1,5,.int .i64 t.cy)] (by kernel_rfl) (by simp [Holds_nil,Holds_cons,F,e0,e1,e2,e3,T3.cells]) ?_
    refine h.draw ?_
    clear h F
    intro _ h
    replace h:=Zd h;have F:=Zf6 h;refine Zc ?_
    refine ⟨by omega,?_⟩
    refine Sep.mapSet 1 (et:=49) (k:=[x0,x1,x2,x3]) (v:=.agg t.cells.toArray) h rfl edgeK (by kernel_rfl) (ents_wid (setK_wid hw t i)) rfl ?_
    clear h F
    intro _ h
    rw [← ents_set,← ek] at h
    replace h:=Zd h;have F:=Zf6 h;refine Zc1 (J ei (J e0 (J e1 (J e2 (J e3 (@T3.cells.eq_1)))))) ?_
    exact ⟨_,by omega,i + 1,by omega,rfl,rfl,h⟩
  have hlt : (i : Int) < 3:=by omega
  have ei : IntKind.i64.wrap ((i : Int) + 1) = ((i + 1 : Nat) : Int):=by rw [i64w _ (by omega) (by omega)];omega
  obtain ⟨x0,x1,x2,x3,ek,e0,e1,e2,e3⟩ :=t.es_at hi3
  replace h:=Zd h;have F:=Zf6 h;refine Zc1 (decide_eq_true hlt) ?_
  refine walkDrawI (.q 0 (.q 1 (.q 2 (.h 3 0 (.q 4 (.q 5 (.h 6 1 .fin))))))) [⟨7,some 0,[]⟩,⟨8,some 1,[7]⟩,⟨9,some 2,[8]⟩,⟨10,some 3,[8]⟩,⟨11,some 4,[]⟩,⟨12,none,[7,8,9,11]⟩,⟨13,some 5,[7,8,9,10,11,12]⟩] [24,16,25,26,7,8] [0,3,5,6,20,23] [(bm,0,.map (some b)),(b2,i * 4,.int .i64 x0),(b2,i * 4 + 1,.int .i64 x1),(b2,i * 4 + 2,.int .i64 x2),(b2,i * 4 + 3,.int .i64 x3)] (by kernel_rfl) (by simp [Holds_nil,Holds_cons,F,e0,e1,e2,e3]) ?_
  refine h.draw ?_
  clear h F
  intro _ h
  replace h:=Zd h;have F:=Zf6 h;refine Zc1 (@T3.cells.eq_1) ?_
  refine ⟨by omega,?_⟩
  refine ⟨fun l vs w'=>∃ v7 v8 v9 v10 v11 v13 : Value,vs = [v7,v8,v9,v10,v11,v13]∧(l 7 = true→v7 = .tuple #[.agg ((lookE E [x0,x1,x2,x3]).getD T3.zero).cells.toArray,.bool (lookE E [x0,x1,x2,x3]).isSome])∧(l 8 = true→v8 = .tuple #[.agg ((lookE E [x0,x1,x2,x3]).getD T3.zero).cells.toArray,.bool (lookE E [x0,x1,x2,x3]).isSome])∧(l 9 = true→v9 = .agg ((lookE E [x0,x1,x2,x3]).getD T3.zero).cells.toArray)∧(l 10 = true→v10 = .bool (lookE E [x0,x1,x2,x3]).isSome)∧(l 13 = true→v13 = .bool (lookE E [x0,x1,x2,x3]).isSome)∧(l 12 = true→l 11 = true)∧∃ b3 : Nat,(l 11 = true→v11 = .pointer (some ⟨b3,0,none⟩))∧Sep w A [blk bm 165 [.map (some b)],mpx b (ents E),blk b1 49 t.cells,blk b2 190 t.es,(if l 11 = true then blk b3 49 (if l 12 = true then [.int .i64 ((lookE E [x0,x1,x2,x3]).getD T3.zero).ax,.int .i64 ((lookE E [x0,x1,x2,x3]).getD T3.zero).ay,.int .i64 ((lookE E [x0,x1,x2,x3]).getD T3.zero).bx,.int .i64 ((lookE E [x0,x1,x2,x3]).getD T3.zero).by',.int .i64 ((lookE E [x0,x1,x2,x3]).getD T3.zero).cx,.int .i64 ((lookE E [x0,x1,x2,x3]).getD T3.zero).cy] else [.int .i64 0,.int .i64 0,.int .i64 0,.int .i64 0,.int .i64 0,.int .i64 0]) else emp)] w',?_,?_,⟨?_,?_,?_,?_,?_,?_,?_,trivial⟩,?_⟩
  · clear h F;intro l vs w1 hI
    obtain ⟨v7,v8,v9,v10,v11,v13,rfl,e7,e8,e9,e10,e13,o12,b3,e11,h⟩ :=hI
    replace h:=Zd h;have F:=Zf6 h
    exact (by simp [Holds_nil,Holds_cons,F,e0,e1,e2,e3])
  · intro us0 hv0
    obtain ⟨v7,us1,rfl,hv1⟩ :=cons_of_len hv0
    obtain ⟨v8,us2,rfl,hv2⟩ :=cons_of_len hv1
    obtain ⟨v9,us3,rfl,hv3⟩ :=cons_of_len hv2
    obtain ⟨v10,us4,rfl,hv4⟩ :=cons_of_len hv3
    obtain ⟨v11,us5,rfl,hv5⟩ :=cons_of_len hv4
    obtain ⟨v13,us6,rfl,hv6⟩ :=cons_of_len hv5
    obtain rfl:=nil_of_len hv6
    exact ⟨v7,v8,v9,v10,v11,v13,rfl,(fun e=>by cases e),(fun e=>by cases e),(fun e=>by cases e),(fun e=>by cases e),(fun e=>by cases e),(fun e=>by cases e),0,(fun e=>by cases e),h.addEmp⟩
  · clear h F;intro l vs w1 hI hl hp
    obtain ⟨v7,v8,v9,v10,v11,v13,rfl,e7,e8,e9,e10,e13,o12,b3,e11,h⟩ :=hI
    replace h:=Zd h;have F:=Zf6 h
    replace h:=Zd h;have F:=Zf6 h;refine Zc1 (@T3.cells.eq_1) ?_
    refine look_mesh F.2.1 hw ?_
    replace h:=Zd h;have F:=Zf6 h;refine Zc1 (@T3.cells.eq_1) ?_
    exact ⟨_,_,_,_,_,_,rfl,(fun _=>rfl),e8,e9,e10,e13,o12,b3,e11,h⟩
  · clear h F;intro l vs w1 hI hl hp
    obtain ⟨v7,v8,v9,v10,v11,v13,rfl,e7,e8,e9,e10,e13,o12,b3,e11,h⟩ :=hI
    obtain rfl:=e7 (hp 7 (by simp))
    have f7 : l 7 = true:=hp 7 (by simp)
    replace h:=Zd h;have F:=Zf6 h
    replace h:=Zd h;have F:=Zf6 h;refine Zc1 (J f7 (@T3.cells.eq_1)) ?_
    exact ⟨_,_,_,_,_,_,rfl,(fun _=>rfl),(fun _=>rfl),e9,e10,e13,o12,b3,e11,h⟩
  · clear h F;intro l vs w1 hI hl hp
    obtain ⟨v7,v8,v9,v10,v11,v13,rfl,e7,e8,e9,e10,e13,o12,b3,e11,h⟩ :=hI
    obtain rfl:=e8 (hp 8 (by simp))
    have f8 : l 8 = true:=hp 8 (by simp)
    replace h:=Zd h;have F:=Zf6 h
    replace h:=Zd h;have F:=Zf6 h;refine Zc1 (J f8 (@T3.cells.eq_1)) ?_
    exact ⟨_,_,_,_,_,_,rfl,e7,(fun _=>rfl),(fun _=>rfl),e10,e13,o12,b3,e11,h⟩
  · clear h F;intro l vs w1 hI hl hp
    obtain ⟨v7,v8,v9,v10,v11,v13,rfl,e7,e8,e9,e10,e13,o12,b3,e11,h⟩ :=hI
    obtain rfl:=e8 (hp 8 (by simp))
    have f8 : l 8 = true:=hp 8 (by simp)
    replace h:=Zd h;have F:=Zf6 h
    replace h:=Zd h;have F:=Zf6 h;refine Zc1 (J f8 (@T3.cells.eq_1)) ?_
    exact ⟨_,_,_,_,_,_,rfl,e7,(fun _=>rfl),e9,(fun _=>rfl),e13,o12,b3,e11,h⟩
  · clear h F;intro l vs w1 hI hl hp
    obtain ⟨v7,v8,v9,v10,v11,v13,rfl,e7,e8,e9,e10,e13,o12,b3,e11,h⟩ :=hI
    replace h:=Zd h;have F:=Zf6 h
    replace h:=Zd h;have F:=Zf6 h;refine Zc1 (J hl (@T3.cells.eq_1)) ?_
    simp only [hl,Bool.false_eq_true,if_false] at h
    refine Sep.newAt 4 h rfl ?_
    clear F;intro w2 b3 h
    have n12 : l 12 = false:=by
      cases hq : l 12 with
      | false=>rfl
      | true=>rw [o12 hq] at hl;cases hl
    refine ⟨_,_,_,_,_,_,rfl,e7,e8,e9,e10,e13,(fun _=>rfl),b3,(fun _=>rfl),?_⟩
    simp only [flag,n12,Nat.reduceBEq,beq_self_eq_true,Bool.true_or,Bool.false_or,Bool.false_eq_true,if_false,if_true];exact h
  · clear h F;intro l vs w1 hI hl hp
    obtain ⟨v7,v8,v9,v10,v11,v13,rfl,e7,e8,e9,e10,e13,o12,b3,e11,h⟩ :=hI
    obtain rfl:=e7 (hp 7 (by simp))
    obtain rfl:=e8 (hp 8 (by simp))
    obtain rfl:=e9 (hp 9 (by simp))
    obtain rfl:=e11 (hp 11 (by simp))
    have f7 : l 7 = true:=hp 7 (by simp)
    have f8 : l 8 = true:=hp 8 (by simp)
    have f9 : l 9 = true:=hp 9 (by simp)
    have f11 : l 11 = true:=hp 11 (by simp)
    replace h:=Zd h;have F:=Zf6 h
    simp only [f7,f8,f9,f11,hl,Bool.false_eq_true,if_false,if_true] at h
    replace h:=Zd h;have F:=Zf6 h;refine Zc1 (J f7 (J f8 (J f9 (J f11 (@T3.cells.eq_1))))) ?_
    refine Sep.put 4 h rfl ?_
    clear F;intro w2 h
    refine ⟨_,_,_,_,_,_,rfl,(fun _=>rfl),(fun _=>rfl),(fun _=>rfl),e10,e13,(fun _=>f11),b3,(fun _=>rfl),?_⟩
    simp only [flag,f7,f8,f9,f11,Nat.reduceBEq,beq_self_eq_true,Bool.true_or,Bool.false_or,if_true];exact h
  · clear h F;intro l vs w1 hI hl hp
    obtain ⟨v7,v8,v9,v10,v11,v13,rfl,e7,e8,e9,e10,e13,o12,b3,e11,h⟩ :=hI
    obtain rfl:=e7 (hp 7 (by simp))
    obtain rfl:=e8 (hp 8 (by simp))
    obtain rfl:=e9 (hp 9 (by simp))
    obtain rfl:=e10 (hp 10 (by simp))
    obtain rfl:=e11 (hp 11 (by simp))
    have f7 : l 7 = true:=hp 7 (by simp)
    have f8 : l 8 = true:=hp 8 (by simp)
    have f9 : l 9 = true:=hp 9 (by simp)
    have f10 : l 10 = true:=hp 10 (by simp)
    have f11 : l 11 = true:=hp 11 (by simp)
    have f12 : l 12 = true:=hp 12 (by simp)
    replace h:=Zd h;have F:=Zf6 h
    replace h:=Zd h;have F:=Zf6 h;refine Zc1 (J f7 (J f8 (J f9 (J f10 (J f11 (J f12 (@T3.cells.eq_1))))))) ?_
    exact ⟨_,_,_,_,_,_,rfl,(fun _=>rfl),(fun _=>rfl),(fun _=>rfl),(fun _=>rfl),(fun _=>rfl),o12,b3,(fun _=>rfl),h⟩
  clear h F;intro l vs w1 hI hall
  obtain ⟨v7,v8,v9,v10,v11,v13,rfl,e7,e8,e9,e10,e13,o12,b3,e11,h⟩ :=hI
  have f7 : l 7 = true:=hall ⟨7,some 0,[]⟩ (by simp)
  have f8 : l 8 = true:=hall ⟨8,some 1,[7]⟩ (by simp)
  have f9 : l 9 = true:=hall ⟨9,some 2,[8]⟩ (by simp)
  have f10 : l 10 = true:=hall ⟨10,some 3,[8]⟩ (by simp)
  have f11 : l 11 = true:=hall ⟨11,some 4,[]⟩ (by simp)
  have f12 : l 12 = true:=hall ⟨12,none,[7,8,9,11]⟩ (by simp)
  have f13 : l 13 = true:=hall ⟨13,some 5,[7,8,9,10,11,12]⟩ (by simp)
  obtain rfl:=e7 f7
  obtain rfl:=e8 f8
  obtain rfl:=e9 f9
  obtain rfl:=e10 f10
  obtain rfl:=e11 f11
  obtain rfl:=e13 f13
  simp only [f7,f8,f9,f10,f11,f12,f13,if_true] at h
  clear hall f7 f8 f9 f10 f11 f12 f13 o12
  replace h:=Zd h;have F:=Zf6 h;refine Zc1 (@T3.cells.eq_1) ?_
  cases hq : (lookE E [x0,x1,x2,x3]).isSome with
  | true=>
    obtain ⟨p1,p2⟩ :=putOk_false (E:=E) (t:=t) hi3 (by unfold hasK;rw [ek,hq])
    replace h:=Zd h;have F:=Zf6 h;refine Zc ?_
    rw [p1,p2]
    have:=((h.erase 4).erase 3).erase 2
    exact ⟨rfl,(this.mshShut 0 1 rfl rfl hw).erase 1⟩
  | false=>
    replace h:=Zd h;have F:=Zf6 h;refine Zc1 ei ?_
    refine ⟨_,by omega,i + 1,by omega,rfl,rfl,fun j hj=>?_,h.erase 4⟩
    rcases Nat.lt_succ_iff_lt_or_eq.1 hj with hj | rfl
    · exact hno j hj
    · unfold hasK;rw [ek,hq]
theorem ents_split : ∀ {E : MeshE} {L1 L2 : List Ent} {p : Ent},ents E = L1 ++ p :: L2→∃ Ea k t Eb,E = Ea ++ (k,t) :: Eb∧L1 = ents Ea∧p = (k,.agg t.cells.toArray)∧L2 = ents Eb
  | [],L1,L2,p,h=>by simp [ents] at h
  | q :: E,[],L2,p,h=>by
    simp only [ents,List.map_cons,List.nil_append,List.cons.injEq] at h
    exact ⟨[],q.1,q.2,E,rfl,rfl,h.1.symm,h.2.symm⟩
  | q :: E,a :: L1,L2,p,h=>by
    simp only [ents,List.map_cons,List.cons_append,List.cons.injEq] at h
    obtain ⟨Ea,k,t,Eb,h1,h2,h3,h4⟩ :=ents_split (E:=E) h.2
    exact ⟨q :: Ea,k,t,Eb,by rw [h1];rfl,by rw [h2,← h.1];rfl,h3,h4⟩
theorem ents_len (E : MeshE) : (ents E).length = E.length:=by simp [ents]
def sel (f : List Int→T3→Bool) (E : MeshE) : List T3:=(E.filter fun p=>f p.1 p.2).map (·.2)
theorem sel_split (f : List Int→T3→Bool) (Ea : MeshE) (k : List Int) (t : T3) (Eb : MeshE) : sel f (Ea ++ (k,t) :: Eb) = sel f Ea ++ (if f k t then [t] else []) ++ sel f Eb:=by
  unfold sel
  rw [List.filter_append,List.filter_cons]
  cases f k t<;>simp
theorem sel_len (f : List Int→T3→Bool) (E : MeshE) : (sel f E).length≤E.length:=by
  unfold sel;rw [List.length_map];exact List.length_filter_le ..
theorem sel_step {f : List Int→T3→Bool} {E Ea Eb : MeshE} {k : List Int} {t : T3} {O : List T3} (h : (O ++ sel f (Ea ++ (k,t) :: Eb)).Perm (sel f E)) : ((O ++ if f k t then [t] else []) ++ sel f (Ea ++ Eb)).Perm (sel f E):=by
  refine List.Perm.trans ?_ h
  rw [sel_split]
  have : sel f (Ea ++ Eb) = sel f Ea ++ sel f Eb:=by unfold sel;rw [List.filter_append,List.map_append]
  rw [this,List.append_assoc,List.append_assoc]
  refine List.Perm.append_left O ?_
  rw [← List.append_assoc,← List.append_assoc]
  exact List.Perm.append_right _ List.perm_append_comm
theorem sel_bound {f : List Int→T3→Bool} {E E1 : MeshE} {O : List T3} (h : (O ++ sel f E1).Perm (sel f E)) : O.length≤E.length:=by
  have:=h.length_eq
  rw [List.length_append] at this
  have:=sel_len f E
  omega
def fTris (k : List Int) (t : T3) : Bool:=decide ([k.getD 0 0,k.getD 1 0] = [t.ax,t.ay])
theorem tris78 {w : World} {A : Nat → Prop} {bm : Nat} {E : MeshE} (hE : E.length ≤ 1000000) (h : Sep w A [msh bm E] w) : Calls Tryz.prog 78 [.pointer (some ⟨bm, 0, none⟩)].toArray w
    (RetK fun r w'=>∃ a c,r = .slice a (sel fTris E).length c∧Sep w A [msh bm E,tab 49 6 r (rowsT (sortT (sel fTris E)))] w'):=by
  obtain ⟨hw,b,h⟩ :=h.mshOpen 0 rfl
  refine walk Tryz.func78 rfl (by kernel_rfl) (by rw [Tryz.nt78];simp) ?_
  replace h:=Zd h;have F:=Zf6 h
  refine Zv ?_
  replace h:=Zd h;have F:=Zf6 h;refine Zc ?_
  refine Sep.range 1 h rfl (kt:=167) (et:=49) (by kernel_rfl) ?_
  clear h F
  intro r w2 h
  have h:=h.tabNil 49 6
  replace h:=Zd h;have F:=Zf6 h;refine Zc ?_
  refine walkLoop [10] [3] (fun m vs w'=>∃ (E1 : MeshE) (O : List T3) (a : Option Addr) (c : Nat),m = E1.length∧vs = [.slice a O.length c]∧(O ++ sel fTris E1).Perm (sel fTris E)∧E1.Wid∧Sep w A [blk bm 165 [.map (some b)],rng b r (ents E) (ents E1),tab 49 6 (.slice a O.length c) (rowsT O)] w') (by kernel_rfl) ?_ ?_
  · refine Zv ?_
    exact ⟨_,E,[],none,0,rfl,rfl,List.Perm.refl _,hw,h⟩
  intro ks hk m vs w3 hi
  clear h F
  obtain ⟨E1,O,a,c,rfl,rfl,hO,hw1,h⟩ :=hi
  have hOl:=sel_bound hO
  replace hk:=Zk hk;subst hk
  replace h:=Zd h;have F:=Zf6 h;refine Zc ?_
  refine Sep.nextR 1 h rfl (fun e0=>?_) fun L1 p L2 w4 eL h hent=>?_
  · have e1 : E1 = []:=List.length_eq_zero_iff.1 (by rw [← ents_len,e0];rfl)
    subst e1
    rw [show sel fTris [] = [] from rfl,List.append_nil] at hO
    have hOl2 : O.length = (sel fTris E).length:=hO.length_eq
    replace h:=Zd h;have F:=Zf6 h;refine Zc ?_
    have h:=h.rngEnd 1 rfl
    replace h:=Zd h;have F:=Zf6 h
    refine Sep.call1 2 (Q:=fun v r' N=>N = []∧∃ a c,v = .slice a O.length c∧r' = tab 49 6 v (rowsT (sortT O))) h rfl (fun B _ k=>(sortTris94 O (by omega) k).mono fun e w' ⟨v,er,a,c,e1,k⟩ =>⟨v,er,_,[],k,fun _ f=>f,fun q hq=>(by cases hq),rfl,a,c,e1,rfl⟩) ?_
    clear h F
    rintro v _ _ w5 ⟨rfl,a5,c5,rfl,rfl⟩ h
    replace h:=Zd h;have F:=Zf6 h;refine Zc ?_
    have es : sortT O = sortT (sel fTris E):=sortT_eq ((sortT_perm O).trans hO) (sortT_srt O)
    rw [es] at h
    refine ⟨a5,c5,by rw [hOl2],?_⟩
    have h:=h
    exact (h.mshShut 0 1 rfl rfl hw).erase 1
  obtain ⟨Ea,k,t,Eb,rfl,rfl,rfl,rfl⟩ :=ents_split eL
  clear eL
  have hk4 : k.length = 4:=hw1 (k,t) (by simp)
  obtain ⟨k0,k1,k2,k3,rfl⟩ :=len_4 hk4
  have hw2 : (Ea ++ Eb : MeshE).Wid:=fun q hq=>hw1 q (by
    rcases List.mem_append.1 hq with hq | hq
    · exact List.mem_append.2 (.inl hq)
    · exact List.mem_append.2 (.inr (.tail _ hq)))
  have hst:=sel_step hO
  rw [show ents Ea ++ ents Eb = ents (Ea ++ Eb) by simp [ents]] at h
  simp only [keyV,cellsI,List.map_cons,List.map_nil] at hent ⊢
  replace h:=Zd h;have F:=Zf6 h;try simp -dsimp only [↓vcA,vcB,vcD,↓pureT_lenS,↓iteT,↓iteF,cond_true,cond_false,eq_self,argE,Env.get,Env.push,ev,evs,evo,retV,Value.cells,Value.oneCell',setR,overR,fillL,zl,places,allSizes,heldC,ne_eq,Int.reduceLE,Int.reduceLT,Int.reduceEq,Int.reduceNe,Int.reduceToNat,Int.cast_ofNat_Int,Nat.reduceMul,Nat.reduceLeDiff,reduceIte,Nat.reduceEqDiff,Nat.reduceAdd,↓reduceIte,Tryz.vcT,F,h.cell0,gets,vsD,if_true,if_false,Bool.false_eq_true,cellsAt,opvT_entry]
  refine ⟨_,_,hent,?_⟩
  clear hent
  replace h:=Zd h;have F:=Zf6 h;refine Zc ?_
  refine h.new ?_
  clear h F
  intro _ b7 h
  replace h:=Zd h;have F:=Zf6 h;refine Zc ?_
  refine h.new ?_
  clear h F
  intro _ b8 h
  replace h:=Zd h;have F:=Zf6 h;refine Zc1 (@T3.cells.eq_1) ?_
  refine Sep.put 3 h rfl ?_
  clear h F
  intro _ h
  replace h:=Zd h;have F:=Zf6 h;refine Zc ?_
  refine Sep.put 4 h rfl ?_
  clear h F
  intro _ h
  replace h:=Zd h;have F:=Zf6 h;refine Zc1 (@T3.cells.eq_1) ?_
  refine binK_eql_agg (by kernel_rfl) (fun w=>seqPt (d:=9998) k0 k1 t.ax t.ay w) ?_
  by_cases q1 : [k0,k1] = [t.ax,t.ay]
  · have hf : fTris [k0,k1,k2,k3] t = true:=decide_eq_true q1
    generalize hz : decide ([k0,k1] = [t.ax,t.ay]) = z
    obtain rfl : z = true:=hz.symm.trans (decide_eq_true q1)
    clear hz
    replace h:=Zd h;have F:=Zf6 h;refine Zc1 (@T3.cells.eq_1) ?_
    refine h.new ?_
    clear h F
    intro _ b9 h
    replace h:=Zd h;have F:=Zf6 h;refine Zc ?_
    refine Sep.appTab 2 5 infoT Tryz.underlying141 rfl (by decide) t.row h rfl rfl rfl (by rw [List.length_map];omega) (by rw [List.length_map];simp only [maxLen];omega) ?_
    clear h F
    intro a9 c9 w9 h
    rw [← rows_app,List.length_map] at h
    rw [rows_len]
    replace h:=Zd h;have F:=Zf6 h;refine Zc ?_
    refine ⟨_,?_,Ea ++ Eb,O ++ [t],a9,c9,rfl,rfl,by simpa [hf] using hst,hw2,((h.erase 5).erase 4).erase 3⟩
    simp
  · have hf : fTris [k0,k1,k2,k3] t = false:=decide_eq_false q1
    generalize hz : decide ([k0,k1] = [t.ax,t.ay]) = z
    obtain rfl : z = false:=hz.symm.trans (decide_eq_false q1)
    clear hz
    replace h:=Zd h;have F:=Zf6 h;refine Zc ?_
    refine ⟨_,?_,Ea ++ Eb,O,a,c,rfl,rfl,by simpa [hf] using hst,hw2,(h.erase 4).erase 3⟩
    simp
def fAt (x y : Int) (k : List Int) (t : T3) : Bool:=decide ([k.getD 0 0,k.getD 1 0] = [t.ax,t.ay]) && hasPE t x y
theorem at109 {w : World} {A : Nat → Prop} {bm : Nat} {E : MeshE} (x y : Int) (hE : E.length ≤ 1000000) (h : Sep w A [msh bm E] w) : Calls Tryz.prog 109 [.pointer (some ⟨bm, 0, none⟩), .agg #[.int .i64 x, .int .i64 y]].toArray w
    (RetK fun r w'=>∃ a c,r = .slice a (sel (fAt x y) E).length c∧Sep w A [msh bm E,tab 49 6 r (rowsT (sortT (sel (fAt x y) E)))] w'):=by
  obtain ⟨hw,b,h⟩ :=h.mshOpen 0 rfl
  refine walk Tryz.func109 rfl (by kernel_rfl) (by rw [Tryz.nt109];simp) ?_
  replace h:=Zd h;have F:=Zf6 h
  refine Zv ?_
  refine h.new ?_
  clear h F
  intro _ b1 h
  replace h:=Zd h;have F:=Zf6 h;refine Zc ?_
  refine Sep.range 1 h rfl (kt:=167) (et:=49) (by kernel_rfl) ?_
  clear h F
  intro r w2 h
  have h:=h.tabNil 49 6
  replace h:=Zd h;have F:=Zf6 h;refine Zc ?_
  refine walkLoop [3,12] [5] (fun m vs w'=>∃ (E1 : MeshE) (O : List T3) (a : Option Addr) (c : Nat),m = E1.length∧vs = [.slice a O.length c]∧(O ++ sel (fAt x y) E1).Perm (sel (fAt x y) E)∧E1.Wid∧Sep w A [blk bm 165 [.map (some b)],rng b r (ents E) (ents E1),blk b1 45 [.int .i64 x,.int .i64 y],tab 49 6 (.slice a O.length c) (rowsT O)] w') (by kernel_rfl) ?_ ?_
  · refine Zv ?_
    exact ⟨_,E,[],none,0,rfl,rfl,List.Perm.refl _,hw,h⟩
  intro ks hk m vs w3 hi
  clear h F
  obtain ⟨E1,O,a,c,rfl,rfl,hO,hw1,h⟩ :=hi
  have hOl:=sel_bound hO
  replace hk:=Zk hk;subst hk
  replace h:=Zd h;have F:=Zf6 h;refine Zc ?_
  refine Sep.nextR 1 h rfl (fun e0=>?_) fun L1 p L2 w4 eL h hent=>?_
  · have e1 : E1 = []:=List.length_eq_zero_iff.1 (by rw [← ents_len,e0];rfl)
    subst e1
    rw [show sel (fAt x y) [] = [] from rfl,List.append_nil] at hO
    have hOl2 : O.length = (sel (fAt x y) E).length:=hO.length_eq
    replace h:=Zd h;have F:=Zf6 h;refine Zc ?_
    have h:=h.rngEnd 1 rfl
    replace h:=Zd h;have F:=Zf6 h
    refine Sep.call1 3 (Q:=fun v r' N=>N = []∧∃ a c,v = .slice a O.length c∧r' = tab 49 6 v (rowsT (sortT O))) h rfl (fun B _ k=>(sortTris94 O (by omega) k).mono fun e w' ⟨v,er,a,c,e1,k⟩ =>⟨v,er,_,[],k,fun _ f=>f,fun q hq=>(by cases hq),rfl,a,c,e1,rfl⟩) ?_
    clear h F
    rintro v _ _ w5 ⟨rfl,a5,c5,rfl,rfl⟩ h
    replace h:=Zd h;have F:=Zf6 h;refine Zc ?_
    have es : sortT O = sortT (sel (fAt x y) E):=sortT_eq ((sortT_perm O).trans hO) (sortT_srt O)
    rw [es] at h
    refine ⟨a5,c5,by rw [hOl2],?_⟩
    have h:=h.erase 2
    exact (h.mshShut 0 1 rfl rfl hw).erase 1
  obtain ⟨Ea,k,t,Eb,rfl,rfl,rfl,rfl⟩ :=ents_split eL
  clear eL
  have hk4 : k.length = 4:=hw1 (k,t) (by simp)
  obtain ⟨k0,k1,k2,k3,rfl⟩ :=len_4 hk4
  have hw2 : (Ea ++ Eb : MeshE).Wid:=fun q hq=>hw1 q (by
    rcases List.mem_append.1 hq with hq | hq
    · exact List.mem_append.2 (.inl hq)
    · exact List.mem_append.2 (.inr (.tail _ hq)))
  have hst:=sel_step hO
  rw [show ents Ea ++ ents Eb = ents (Ea ++ Eb) by simp [ents]] at h
  simp only [keyV,cellsI,List.map_cons,List.map_nil] at hent ⊢
  replace h:=Zd h;have F:=Zf6 h;try simp -dsimp only [↓vcA,vcB,vcD,↓pureT_lenS,↓iteT,↓iteF,cond_true,cond_false,eq_self,argE,Env.get,Env.push,ev,evs,evo,retV,Value.cells,Value.oneCell',setR,overR,fillL,zl,places,allSizes,heldC,ne_eq,Int.reduceLE,Int.reduceLT,Int.reduceEq,Int.reduceNe,Int.reduceToNat,Int.cast_ofNat_Int,Nat.reduceMul,Nat.reduceLeDiff,reduceIte,Nat.reduceEqDiff,Nat.reduceAdd,↓reduceIte,Tryz.vcT,F,h.cell0,gets,vsD,if_true,if_false,Bool.false_eq_true,cellsAt,opvT_entry]
  refine ⟨_,_,hent,?_⟩
  clear hent
  replace h:=Zd h;have F:=Zf6 h;refine Zc ?_
  refine h.new ?_
  clear h F
  intro _ b7 h
  replace h:=Zd h;have F:=Zf6 h;refine Zc ?_
  refine h.new ?_
  clear h F
  intro _ b8 h
  replace h:=Zd h;have F:=Zf6 h;refine Zc1 (@T3.cells.eq_1) ?_
  refine Sep.put 4 h rfl ?_
  clear h F
  intro _ h
  replace h:=Zd h;have F:=Zf6 h;refine Zc ?_
  refine Sep.put 5 h rfl ?_
  clear h F
  intro _ h
  replace h:=Zd h;have F:=Zf6 h;refine Zc1 (@T3.cells.eq_1) ?_
  refine binK_eql_agg (by kernel_rfl) (fun w=>seqPt (d:=9998) k0 k1 t.ax t.ay w) ?_
  by_cases q1 : [k0,k1] = [t.ax,t.ay]
  · generalize hz : decide ([k0,k1] = [t.ax,t.ay]) = z
    obtain rfl : z = true:=hz.symm.trans (decide_eq_true q1)
    clear hz
    replace h:=Zd h;have F:=Zf6 h;refine Zc1 (@T3.cells.eq_1) ?_
    refine Sep.callp h (hasPoint132 t x y _) ?_
    clear h F
    intro _ h
    replace h:=Zd h;have F:=Zf6 h;refine Zc ?_
    cases q2 : hasPE t x y with
    | true=>
      have hf : fAt x y [k0,k1,k2,k3] t = true:=by unfold fAt;rw [q2,Bool.and_true];exact decide_eq_true q1
      replace h:=Zd h;have F:=Zf6 h;refine Zc1 (@T3.cells.eq_1) ?_
      refine h.new ?_
      clear h F
      intro _ b9 h
      replace h:=Zd h;have F:=Zf6 h;refine Zc ?_
      refine Sep.appTab 3 6 infoT Tryz.underlying141 rfl (by decide) t.row h rfl rfl rfl (by rw [List.length_map];omega) (by rw [List.length_map];simp only [maxLen];omega) ?_
      clear h F
      intro a9 c9 w9 h
      rw [← rows_app,List.length_map] at h
      rw [rows_len]
      replace h:=Zd h;have F:=Zf6 h;refine Zc ?_
      refine ⟨_,?_,Ea ++ Eb,O ++ [t],a9,c9,rfl,rfl,by simpa [hf] using hst,hw2,((h.erase 6).erase 5).erase 4⟩
      simp
    | false=>
      have hf : fAt x y [k0,k1,k2,k3] t = false:=by unfold fAt;rw [q2,Bool.and_false]
      replace h:=Zd h;have F:=Zf6 h;refine Zc ?_
      refine ⟨_,?_,Ea ++ Eb,O,a,c,rfl,rfl,by simpa [hf] using hst,hw2,(h.erase 5).erase 4⟩
      simp
  · have hf : fAt x y [k0,k1,k2,k3] t = false:=by unfold fAt;rw [show decide ([[k0,k1,k2,k3].getD 0 0,[k0,k1,k2,k3].getD 1 0] = [t.ax,t.ay]) = false from decide_eq_false q1];rfl
    generalize hz : decide ([k0,k1] = [t.ax,t.ay]) = z
    obtain rfl : z = false:=hz.symm.trans (decide_eq_false q1)
    clear hz
    replace h:=Zd h;have F:=Zf6 h;refine Zc ?_
    refine ⟨_,?_,Ea ++ Eb,O,a,c,rfl,rfl,by simpa [hf] using hst,hw2,(h.erase 5).erase 4⟩
    simp
def fStar (x y : Int) (k : List Int) (t : T3) : Bool:=decide ([k.getD 0 0,k.getD 1 0] = [x,y])
theorem star110 {w : World} {A : Nat → Prop} {bm : Nat} {E : MeshE} (x y : Int) (hE : E.length ≤ 1000000) (h : Sep w A [msh bm E] w) : Calls Tryz.prog 110 [.pointer (some ⟨bm, 0, none⟩), .agg #[.int .i64 x, .int .i64 y]].toArray w
    (RetK fun r w'=>∃ a c,r = .slice a (sel (fStar x y) E).length c∧Sep w A [msh bm E,tab 49 6 r (rowsT (sortT (sel (fStar x y) E)))] w'):=by
  obtain ⟨hw,b,h⟩ :=h.mshOpen 0 rfl
  refine walk Tryz.func110 rfl (by kernel_rfl) (by rw [Tryz.nt110];simp) ?_
  replace h:=Zd h;have F:=Zf6 h
  refine Zv ?_
  refine h.new ?_
  clear h F
  intro _ b1 h
  replace h:=Zd h;have F:=Zf6 h;refine Zc ?_
  refine Sep.range 1 h rfl (kt:=167) (et:=49) (by kernel_rfl) ?_
  clear h F
  intro r w2 h
  have h:=h.tabNil 49 6
  replace h:=Zd h;have F:=Zf6 h;refine Zc ?_
  refine walkLoop [3,12] [5] (fun m vs w'=>∃ (E1 : MeshE) (O : List T3) (a : Option Addr) (c : Nat),m = E1.length∧vs = [.slice a O.length c]∧(O ++ sel (fStar x y) E1).Perm (sel (fStar x y) E)∧E1.Wid∧Sep w A [blk bm 165 [.map (some b)],rng b r (ents E) (ents E1),blk b1 45 [.int .i64 x,.int .i64 y],tab 49 6 (.slice a O.length c) (rowsT O)] w') (by kernel_rfl) ?_ ?_
  · refine Zv ?_
    exact ⟨_,E,[],none,0,rfl,rfl,List.Perm.refl _,hw,h⟩
  intro ks hk m vs w3 hi
  clear h F
  obtain ⟨E1,O,a,c,rfl,rfl,hO,hw1,h⟩ :=hi
  have hOl:=sel_bound hO
  replace hk:=Zk hk;subst hk
  replace h:=Zd h;have F:=Zf6 h;refine Zc ?_
  refine Sep.nextR 1 h rfl (fun e0=>?_) fun L1 p L2 w4 eL h hent=>?_
  · have e1 : E1 = []:=List.length_eq_zero_iff.1 (by rw [← ents_len,e0];rfl)
    subst e1
    rw [show sel (fStar x y) [] = [] from rfl,List.append_nil] at hO
    have hOl2 : O.length = (sel (fStar x y) E).length:=hO.length_eq
    replace h:=Zd h;have F:=Zf6 h;refine Zc ?_
    have h:=h.rngEnd 1 rfl
    replace h:=Zd h;have F:=Zf6 h
    refine Sep.call1 3 (Q:=fun v r' N=>N = []∧∃ a c,v = .slice a O.length c∧r' = tab 49 6 v (rowsT (sortT O))) h rfl (fun B _ k=>(sortTris94 O (by omega) k).mono fun e w' ⟨v,er,a,c,e1,k⟩ =>⟨v,er,_,[],k,fun _ f=>f,fun q hq=>(by cases hq),rfl,a,c,e1,rfl⟩) ?_
    clear h F
    rintro v _ _ w5 ⟨rfl,a5,c5,rfl,rfl⟩ h
    replace h:=Zd h;have F:=Zf6 h;refine Zc ?_
    have es : sortT O = sortT (sel (fStar x y) E):=sortT_eq ((sortT_perm O).trans hO) (sortT_srt O)
    rw [es] at h
    refine ⟨a5,c5,by rw [hOl2],?_⟩
    have h:=h.erase 2
    exact (h.mshShut 0 1 rfl rfl hw).erase 1
  obtain ⟨Ea,k,t,Eb,rfl,rfl,rfl,rfl⟩ :=ents_split eL
  clear eL
  have hk4 : k.length = 4:=hw1 (k,t) (by simp)
  obtain ⟨k0,k1,k2,k3,rfl⟩ :=len_4 hk4
  have hw2 : (Ea ++ Eb : MeshE).Wid:=fun q hq=>hw1 q (by
    rcases List.mem_append.1 hq with hq | hq
    · exact List.mem_append.2 (.inl hq)
    · exact List.mem_append.2 (.inr (.tail _ hq)))
  have hst:=sel_step hO
  rw [show ents Ea ++ ents Eb = ents (Ea ++ Eb) by simp [ents]] at h
  simp only [keyV,cellsI,List.map_cons,List.map_nil] at hent ⊢
  replace h:=Zd h;have F:=Zf6 h;try simp -dsimp only [↓vcA,vcB,vcD,↓pureT_lenS,↓iteT,↓iteF,cond_true,cond_false,eq_self,argE,Env.get,Env.push,ev,evs,evo,retV,Value.cells,Value.oneCell',setR,overR,fillL,zl,places,allSizes,heldC,ne_eq,Int.reduceLE,Int.reduceLT,Int.reduceEq,Int.reduceNe,Int.reduceToNat,Int.cast_ofNat_Int,Nat.reduceMul,Nat.reduceLeDiff,reduceIte,Nat.reduceEqDiff,Nat.reduceAdd,↓reduceIte,Tryz.vcT,F,h.cell0,gets,vsD,if_true,if_false,Bool.false_eq_true,cellsAt,opvT_entry]
  refine ⟨_,_,hent,?_⟩
  clear hent
  replace h:=Zd h;have F:=Zf6 h;refine Zc ?_
  refine h.new ?_
  clear h F
  intro _ b7 h
  replace h:=Zd h;have F:=Zf6 h;refine Zc ?_
  refine h.new ?_
  clear h F
  intro _ b8 h
  replace h:=Zd h;have F:=Zf6 h;refine Zc1 (@T3.cells.eq_1) ?_
  refine Sep.put 4 h rfl ?_
  clear h F
  intro _ h
  replace h:=Zd h;have F:=Zf6 h;refine Zc ?_
  refine Sep.put 5 h rfl ?_
  clear h F
  intro _ h
  replace h:=Zd h;have F:=Zf6 h;refine Zc1 (@T3.cells.eq_1) ?_
  refine binK_eql_agg (by kernel_rfl) (fun w=>seqPt (d:=9998) k0 k1 x y w) ?_
  by_cases q1 : [k0,k1] = [x,y]
  · have hf : fStar x y [k0,k1,k2,k3] t = true:=decide_eq_true q1
    generalize hz : decide ([k0,k1] = [x,y]) = z
    obtain rfl : z = true:=hz.symm.trans (decide_eq_true q1)
    clear hz
    replace h:=Zd h;have F:=Zf6 h;refine Zc1 (@T3.cells.eq_1) ?_
    refine h.new ?_
    clear h F
    intro _ b9 h
    replace h:=Zd h;have F:=Zf6 h;refine Zc ?_
    refine Sep.appTab 3 6 infoT Tryz.underlying141 rfl (by decide) t.row h rfl rfl rfl (by rw [List.length_map];omega) (by rw [List.length_map];simp only [maxLen];omega) ?_
    clear h F
    intro a9 c9 w9 h
    rw [← rows_app,List.length_map] at h
    rw [rows_len]
    replace h:=Zd h;have F:=Zf6 h;refine Zc ?_
    refine ⟨_,?_,Ea ++ Eb,O ++ [t],a9,c9,rfl,rfl,by simpa [hf] using hst,hw2,((h.erase 6).erase 5).erase 4⟩
    simp
  · have hf : fStar x y [k0,k1,k2,k3] t = false:=decide_eq_false q1
    generalize hz : decide ([k0,k1] = [x,y]) = z
    obtain rfl : z = false:=hz.symm.trans (decide_eq_false q1)
    clear hz
    replace h:=Zd h;have F:=Zf6 h;refine Zc ?_
    refine ⟨_,?_,Ea ++ Eb,O,a,c,rfl,rfl,by simpa [hf] using hst,hw2,(h.erase 5).erase 4⟩
    simp
end Go.Proofs.YtnhgjgoglmadnaaGreat
