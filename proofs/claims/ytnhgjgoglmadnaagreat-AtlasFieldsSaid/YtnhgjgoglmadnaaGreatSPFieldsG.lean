/- Joined texts of this claim (part 33), printed by a program of this work. The last part holds the claimed theorem: the law answers true at every input of its row. -/
import Derived.Test.YtnhgjgoglmadnaaGreatSPFieldsF
set_option maxHeartbeats 4000000
namespace Go.Proofs.YtnhgjgoglmadnaaGreat
open Go.RowKit
set_option maxRecDepth 100000
set_option linter.unusedSimpArgs false
set_option linter.unusedVariables false
structure Flp (I : MeshE→Prop) : Prop where
  len : ∀ E,I E→E.length≤1000000
  step : ∀ E ax ay bx by',I E→(flipE E ax ay bx by').1 = 0→I (flipE E ax ay bx by').2
theorem force117 {w : World} {A : Nat → Prop} {bm : Nat} {E : MeshE} {I : MeshE → Prop} (R : Flp I) (hI : I E) (ax ay bx by' : Int) (h : Sep w A [msh bm E] w) : Calls Tryz.prog 117 [.pointer (some ⟨bm, 0, none⟩), .agg #[.int .i64 ax, .int .i64 ay], .agg #[.int .i64 bx, .int .i64 by']].toArray w
    (RetK fun r w'=>r = .tuple #[]∧∃ E',I E'∧Sep w A [msh bm E'] w'):=by
  have hE:=R.len E hI
  obtain ⟨hw,b,h⟩ :=h.mshOpen 0 rfl
  refine walk Tryz.func117 rfl (by kernel_rfl) (by rw [Tryz.nt117];simp) ?_
  replace h:=Zd h;have F:=Zf6 h
  refine Zv ?_
  refine h.new ?_
  clear h F
  intro _ b1 h
  replace h:=Zd h;have F:=Zf6 h;refine Zc ?_
  refine h.new ?_
  clear h F
  intro _ b2 h
  replace h:=Zd h;have F:=Zf6 h;refine Zc ?_
  refine h.new ?_
  clear h F
  intro _ bo h
  replace h:=Zd h;have F:=Zf6 h;refine Zc ?_
  have h:=(h.tabNil 47 5).wlsShut 4 5 rfl rfl
  have h:=h.erase 5
  refine Sep.range 1 h rfl (kt:=167) (et:=49) (by kernel_rfl) ?_
  clear h F
  intro r w2 h
  replace h:=Zd h;have F:=Zf6 h;refine Zc ?_
  refine walkLoop [0,4,5,6,23] [] (fun m vs w'=>∃ (E1 : MeshE) (O : List (List Int)),m = E1.length∧vs = []∧O.length + E1.length≤E.length∧E1.Wid∧Sep w A [blk bm 165 [.map (some b)],rng b r (ents E) (ents E1),blk b1 45 [.int .i64 ax,.int .i64 ay],blk b2 45 [.int .i64 bx,.int .i64 by'],wls bo O] w') (by kernel_rfl) ?_ ?_
  · refine Zv ?_
    exact ⟨_,E,[],rfl,by simp,hw,h⟩
  intro ks hk m vs w3 hi
  clear h F
  obtain ⟨E1,O,rfl,rfl,hO,hw1,h⟩ :=hi
  replace hk:=Zk hk;subst hk
  replace h:=Zd h;have F:=Zf6 h;refine Zc ?_
  refine Sep.nextR 1 h rfl (fun e0=>?_) fun L1 p L2 w4 eL h hent=>?_
  case' refine_2=>
    obtain ⟨Ea,k,t,Eb,rfl,rfl,rfl,rfl⟩ :=ents_split eL
    clear eL
    have hk4 : k.length = 4:=hw1 (k,t) (by simp)
    obtain ⟨k0,k1,k2,k3,rfl⟩ :=len_4 hk4
    have hw2 : (Ea ++ Eb : MeshE).Wid:=fun q hq=>hw1 q (by
      rcases List.mem_append.1 hq with hq | hq
      · exact List.mem_append.2 (.inl hq)
      · exact List.mem_append.2 (.inr (.tail _ hq)))
    have hst : O.length + 1 + (Ea ++ Eb).length≤E.length:=by
      rw [List.length_append] at hO ⊢
      rw [List.length_cons] at hO
      omega
    rw [show ents Ea ++ ents Eb = ents (Ea ++ Eb) by simp [ents]] at h
    simp only [keyV,cellsI,List.map_cons,List.map_nil] at hent ⊢
    replace h:=Zd h;have F:=Zf6 h;try simp -dsimp only [↓vcA,vcB,vcD,↓pureT_lenS,↓iteT,↓iteF,cond_true,cond_false,eq_self,argE,Env.get,Env.push,ev,evs,evo,retV,Value.cells,Value.oneCell',setR,overR,fillL,zl,places,allSizes,heldC,ne_eq,Int.reduceLE,Int.reduceLT,Int.reduceEq,Int.reduceNe,Int.reduceToNat,Int.cast_ofNat_Int,Nat.reduceMul,Nat.reduceLeDiff,reduceIte,Nat.reduceEqDiff,Nat.reduceAdd,↓reduceIte,Tryz.vcT,F,h.cell0,gets,vsD,if_true,if_false,Bool.false_eq_true,cellsAt,opvT_entry]
    refine ⟨_,_,hent,?_⟩
    clear hent
    replace h:=Zd h;have F:=Zf6 h;refine Zc ?_
    refine h.new ?_
    clear h F
    intro _ b7 h
    replace h:=Zd h;have F:=Zf6 h;refine Zc ?_
    refine Sep.put 5 h rfl ?_
    clear h F
    intro _ h
    replace h:=Zd h;have F:=Zf6 h;refine Zc ?_
    refine Sep.callp h (cmpPoint k0 k1 k2 k3 _) ?_
    clear h F
    intro _ h
    replace h:=Zd h;have F:=Zf6 h;refine Zc ?_
    cases g1d : decide (cmp2 k0 k1 k2 k3 < 0) with
    | false=>
      have g1:=of_decide_eq_false g1d
      replace h:=Zd h;have F:=Zf6 h;refine Zc1 (decide_eq_false g1) ?_
      exact ⟨_,by simp,Ea ++ Eb,O,rfl,by omega,hw2,h.erase 5⟩
    | true=>
    have g1:=of_decide_eq_true g1d
    replace h:=Zd h;have F:=Zf6 h;refine Zc1 (decide_eq_true g1) ?_
    refine Sep.callp h (meet134 (ax,ay) (bx,by') (k0,k1) (k2,k3) _) ?_
    clear h F
    intro _ h
    replace h:=Zd h;have F:=Zf6 h;refine Zc ?_
    cases g2d : decide (meetI (ax,ay) (bx,by') (k0,k1) (k2,k3) = 1) with
    | false=>
      have g2:=of_decide_eq_false g2d
      replace h:=Zd h;have F:=Zf6 h;refine Zc1 (decide_eq_false g2) ?_
      exact ⟨_,by simp,Ea ++ Eb,O,rfl,by omega,hw2,h.erase 5⟩
    | true=>
    have g2:=of_decide_eq_true g2d
    replace h:=Zd h;have F:=Zf6 h;refine Zc1 (decide_eq_true g2) ?_
    refine Sep.c10 4 (x:=.tuple #[]) (r':=wls bo (insW O [k0,k1,k2,k3,0])) h rfl (fun A k=>put89 k0 k1 k2 k3 0 (by omega) k) (fun _ f=>f) ?_
    clear h F
    intro _ h
    replace h:=Zd h;have F:=Zf6 h;refine Zc ?_
    exact ⟨_,by simp,Ea ++ Eb,insW O [k0,k1,k2,k3,0],rfl,by rw [insW_len];exact hst,hw2,h.erase 5⟩
  have h:=h.rngEnd 1 rfl
  have h:=h.mshShut 0 1 rfl rfl hw
  obtain ⟨v,h⟩ :=h.wlsOpen 4 rfl
  obtain ⟨a,c,rfl⟩ :=h.facts.2.2.2.2.2.1.shape
  have hOl : O.length≤1000000:=by omega
  replace h:=Zd h;have F:=Zf6 h;refine Zc ?_
  have h:=(h.erase 4).erase 1
  refine walkLoop [0,4,5] [8,9] (fun m vs w'=>∃ (E' : MeshE) (O : List (List Int)) (a : Option Addr) (c n : Nat),I E'∧O.length≤1000000∧n≤1000000∧m = 1000000 - n∧vs = [.slice a O.length c,.int .i64 n]∧Sep w A [msh bm E',blk b1 45 [.int .i64 ax,.int .i64 ay],blk b2 45 [.int .i64 bx,.int .i64 by'],tab 47 5 (.slice a O.length c) O] w') (by kernel_rfl) ?_ ?_
  · refine Zv ?_
    exact ⟨_,E,O,a,c,0,hI,hOl,by omega,rfl,rfl,h⟩
  clear h hO hOl hw1 hw hI hE
  try clear F
  intro ks hk m vs w5 hi
  obtain ⟨E',O,a,c,n,hI,hOl,hn,rfl,rfl,h⟩ :=hi
  replace hk:=Zk hk;subst hk
  have hE:=R.len E' hI
  replace h:=Zd h;have F:=Zf6 h;refine Zc ?_
  cases g1d : decide ((0 : Int) < (O.length : Int)) with
  | false=>
    have g1:=of_decide_eq_false g1d
    replace h:=Zd h;have F:=Zf6 h;refine Zc1 (decide_eq_false g1) ?_
    exact ⟨E',hI,h.hd⟩
  | true=>
  have g1:=of_decide_eq_true g1d
  replace h:=Zd h;have F:=Zf6 h;refine Zc1 (decide_eq_true g1) ?_
  cases g2d : decide ((n : Int) < 1000000) with
  | false=>
    have g2:=of_decide_eq_false g2d
    replace h:=Zd h;have F:=Zf6 h;refine Zc1 (decide_eq_false g2) ?_
    exact ⟨E',hI,h.hd⟩
  | true=>
  have g2:=of_decide_eq_true g2d
  replace h:=Zd h;have F:=Zf6 h;refine Zc1 (decide_eq_true g2) ?_
  have hpos : 0 < O.length:=by omega
  have en : IntKind.i64.wrap ((n : Int) + 1) = ((n + 1 : Nat) : Int):=by rw [i64w _ (by omega) (by omega)];omega
  obtain ⟨bb,oo,x0,x1,x2,x3,x4,rfl,_,kc⟩ :=h.facts.2.2.2.1.fiveAt hpos
  rw [Nat.zero_mul,Nat.add_zero] at kc
  have hcap : O.length≤c:=by
    obtain ⟨a',c',e,h1,_⟩ :=h.facts.2.2.2.1.row.shape
    injection e with e1 e2 e3
    subst e3
    exact h1
  replace h:=Zd h;have F:=Zf6 h;refine Zc1 (kc _ h.facts.2.2.2.1) ?_
  refine ⟨by omega,?_⟩
  refine h.new ?_
  clear h F
  intro _ b10 h
  replace h:=Zd h;have F:=Zf6 h;refine Zc ?_
  refine Sep.put 4 h rfl ?_
  clear h F
  intro _ h
  replace h:=Zd h;have F:=Zf6 h;refine Zc ?_
  have s2 : ∀ w',Tab 5 w' (.slice (some ⟨bb,oo,none⟩) O.length c) O→Tab 5 w' (.slice (cutA (some ⟨bb,oo,none⟩) c 1 5) (O.length - 1) (c - 1)) (O.drop 1):=fun w' hw=>by
    have:=hw.cut (l:=1) (m:=O.length) hpos (Nat.le_refl _)
    rwa [List.take_of_length_le (by simp)] at this
  refine h.new ?_
  clear h F
  intro _ b11 h
  replace h:=Zd h;have F:=Zf6 h;refine Zc ?_
  refine ⟨by omega,?_⟩
  refine Sep.appTabs 5 infoW Tryz.underlying25 rfl (by decide) (O.drop 1) (h.toTab 5 5 [] rfl (fun _ h=>by cases h) rfl (by decide)) rfl (s2 _ h.facts.2.2.2.1) (by simp;omega) (by simp [maxLen];omega) ?_
  clear h F
  intro a5 c5 w6 h
  have h:=h.erase 3
  clear s2 kc hcap
  rw [List.nil_append] at h
  have hOl' : (O.drop 1).length + 1≤1000000:=by rw [List.length_drop];omega
  clear hOl g1 hpos
  generalize O.drop 1 = O1 at *
  obtain ⟨o1,s,e1,es1,f1⟩ :=look_some E' [x0,x1,x2,x3]
  obtain ⟨o2,t,e2,es2,f2⟩ :=look_some E' [x2,x3,x0,x1]
  obtain ⟨z1,hz1⟩ : ∃ b,o1.isSome = b:=⟨_,rfl⟩
  obtain ⟨z2,hz2⟩ : ∃ b,o2.isSome = b:=⟨_,rfl⟩
  replace h:=Zd h;have F:=Zf6 h;refine Zc ?_
  refine Sep.callp h (leftN h.facts.1 e1 es1 hz1) ?_
  clear h F
  intro _ h
  replace h:=Zd h;have F:=Zf6 h;refine Zc1 (@T3.cells.eq_1) ?_
  refine h.new ?_
  clear h F
  intro _ b12 h
  replace h:=Zd h;have F:=Zf6 h;refine Zc ?_
  refine Sep.put 5 h rfl ?_
  clear h F
  intro _ h
  replace h:=Zd h;have F:=Zf6 h;refine Zc ?_
  refine Sep.callp h (leftN h.facts.1 e2 es2 hz2) ?_
  clear h F
  intro _ h
  replace h:=Zd h;have F:=Zf6 h;refine Zc1 (@T3.cells.eq_1) ?_
  refine h.new ?_
  clear h F
  intro _ b13 h
  replace h:=Zd h;have F:=Zf6 h;refine Zc ?_
  refine Sep.put 6 h rfl ?_
  clear h F
  intro _ h
  replace h:=Zd h;have F:=Zf6 h;refine Zc ?_
  cases z1 with
  | false=>
    replace h:=Zd h;have F:=Zf6 h;refine Zc1 en ?_
    exact ⟨_,by omega,E',O1,a5,c5,n + 1,hI,by omega,by omega,rfl,rfl,((h.erase 3).erase 4).erase 4⟩
  | true=>
  replace h:=Zd h;have F:=Zf6 h;refine Zc ?_
  cases z2 with
  | false=>
    replace h:=Zd h;have F:=Zf6 h;refine Zc1 en ?_
    exact ⟨_,by omega,E',O1,a5,c5,n + 1,hI,by omega,by omega,rfl,rfl,((h.erase 3).erase 4).erase 4⟩
  | true=>
  obtain ⟨cx,cy,ec⟩ :=farE_two s x0 x1 x2 x3
  obtain ⟨dx,dy,ed⟩ :=farE_two t x0 x1 x2 x3
  have q1:=far131 s x0 x1 x2 x3
  have q2:=far131 t x0 x1 x2 x3
  rw [ec] at q1
  rw [ed] at q2
  clear e1 e2 ec ed f1 f2
  replace h:=Zd h;have F:=Zf6 h;refine Zc ?_
  refine walkDrawI (.h 0 0 (.q 1 (.h 2 6 (.q 3 (.h 4 8 (.h 6 11 (.q 7 (.h 8 6 (.q 9 (.h 10 8 .fin)))))))))) [⟨5,some 0,[]⟩,⟨11,some 1,[5]⟩,⟨12,some 2,[]⟩,⟨13,some 3,[]⟩,⟨14,none,[5,11,12,13]⟩,⟨15,none,[5,11,12,13,14]⟩] [100,106,15,16] [0,4,5,8,9,10,95,97,99,101,103,105] [(b12,0,.int .i64 s.ax),(b12,1,.int .i64 s.ay),(b12,2,.int .i64 s.bx),(b12,3,.int .i64 s.by'),(b12,4,.int .i64 s.cx),(b12,5,.int .i64 s.cy),(b10,0,.int .i64 x0),(b10,1,.int .i64 x1),(b10,2,.int .i64 x2),(b10,3,.int .i64 x3),(b10,4,.int .i64 x4),(b13,0,.int .i64 t.ax),(b13,1,.int .i64 t.ay),(b13,2,.int .i64 t.bx),(b13,3,.int .i64 t.by'),(b13,4,.int .i64 t.cx),(b13,5,.int .i64 t.cy)] (by kernel_rfl) (by simp [Holds_nil,Holds_cons,F]) ?_
  refine h.draw ?_
  clear h F
  intro _ h
  replace h:=Zd h;have F:=Zf6 h;refine Zc1 (@T3.cells.eq_1) ?_
  refine ⟨fun l vs w'=>∃ v5 v11 v12 v13 : Value,vs = [v5,v11,v12,v13]∧(l 5 = true→v5 = .agg #[.int .i64 cx,.int .i64 cy])∧(l 11 = true→v11 = .agg #[.int .i64 dx,.int .i64 dy])∧(l 14 = true→l 12 = true)∧(l 15 = true→l 13 = true)∧∃ b14 b15 : Nat,(l 12 = true→v12 = .pointer (some ⟨b14,0,none⟩))∧(l 13 = true→v13 = .pointer (some ⟨b15,0,none⟩))∧Sep w A [msh bm E',blk b1 45 [.int .i64 ax,.int .i64 ay],blk b2 45 [.int .i64 bx,.int .i64 by'],blk b10 47 [.int .i64 x0,.int .i64 x1,.int .i64 x2,.int .i64 x3,.int .i64 x4],tab 47 5 (.slice a5 O1.length c5) O1,blk b12 49 [.int .i64 s.ax,.int .i64 s.ay,.int .i64 s.bx,.int .i64 s.by',.int .i64 s.cx,.int .i64 s.cy],blk b13 49 [.int .i64 t.ax,.int .i64 t.ay,.int .i64 t.bx,.int .i64 t.by',.int .i64 t.cx,.int .i64 t.cy],(if l 12 = true then blk b14 45 (if l 14 = true then [.int .i64 cx,.int .i64 cy] else [.int .i64 0,.int .i64 0]) else emp),(if l 13 = true then blk b15 45 (if l 15 = true then [.int .i64 dx,.int .i64 dy] else [.int .i64 0,.int .i64 0]) else emp)] w',?_,?_,⟨?_,?_,?_,?_,?_,?_,trivial⟩,?_⟩
  · clear h F;intro l vs w1 hI
    obtain ⟨v5,v11,v12,v13,rfl,e5,e11,o14,o15,b14,b15,e12,e13,h⟩ :=hI
    replace h:=Zd h;have F:=Zf6 h
    exact (by simp [Holds_nil,Holds_cons,F])
  · intro us0 hv0
    obtain ⟨v5,us1,rfl,hv1⟩ :=cons_of_len hv0
    obtain ⟨v11,us2,rfl,hv2⟩ :=cons_of_len hv1
    obtain ⟨v12,us3,rfl,hv3⟩ :=cons_of_len hv2
    obtain ⟨v13,us4,rfl,hv4⟩ :=cons_of_len hv3
    obtain rfl:=nil_of_len hv4
    exact ⟨v5,v11,v12,v13,rfl,(fun e=>by cases e),(fun e=>by cases e),(fun e=>by cases e),(fun e=>by cases e),0,0,(fun e=>by cases e),(fun e=>by cases e),h.addEmp.addEmp⟩
  · clear h F;intro l vs w1 hI hl hp
    obtain ⟨v5,v11,v12,v13,rfl,e5,e11,o14,o15,b14,b15,e12,e13,h⟩ :=hI
    replace h:=Zd h;have F:=Zf6 h
    replace h:=Zd h;have F:=Zf6 h;refine Zc1 (@T3.cells.eq_1) ?_
    refine Sep.callp h (q1 _) ?_
    clear F;intro w2 h
    exact ⟨_,_,_,_,rfl,(fun _=>rfl),e11,o14,o15,b14,b15,e12,e13,h⟩
  · clear h F;intro l vs w1 hI hl hp
    obtain ⟨v5,v11,v12,v13,rfl,e5,e11,o14,o15,b14,b15,e12,e13,h⟩ :=hI
    obtain rfl:=e5 (hp 5 (by simp))
    have f5 : l 5 = true:=hp 5 (by simp)
    replace h:=Zd h;have F:=Zf6 h
    replace h:=Zd h;have F:=Zf6 h;refine Zc1 (@T3.cells.eq_1) ?_
    refine Sep.callp h (q2 _) ?_
    clear F;intro w2 h
    exact ⟨_,_,_,_,rfl,(fun _=>rfl),(fun _=>rfl),o14,o15,b14,b15,e12,e13,h⟩
  · clear h F;intro l vs w1 hI hl hp
    obtain ⟨v5,v11,v12,v13,rfl,e5,e11,o14,o15,b14,b15,e12,e13,h⟩ :=hI
    replace h:=Zd h;have F:=Zf6 h
    replace h:=Zd h;have F:=Zf6 h;refine Zc1 (J hl (@T3.cells.eq_1)) ?_
    simp only [hl,Bool.false_eq_true,if_false] at h
    refine Sep.newAt 7 h rfl ?_
    clear F;intro w2 b14 h
    have n14 : l 14 = false:=by
      cases hq : l 14 with
      | false=>rfl
      | true=>rw [o14 hq] at hl;cases hl
    refine ⟨_,_,_,_,rfl,e5,e11,(fun _=>rfl),o15,b14,b15,(fun _=>rfl),e13,?_⟩
    simp only [flag,n14,Nat.reduceBEq,beq_self_eq_true,Bool.true_or,Bool.false_or,Bool.false_eq_true,if_false,if_true];exact h
  · clear h F;intro l vs w1 hI hl hp
    obtain ⟨v5,v11,v12,v13,rfl,e5,e11,o14,o15,b14,b15,e12,e13,h⟩ :=hI
    replace h:=Zd h;have F:=Zf6 h
    replace h:=Zd h;have F:=Zf6 h;refine Zc1 (J hl (@T3.cells.eq_1)) ?_
    simp only [hl,Bool.false_eq_true,if_false] at h
    refine Sep.newAt 8 h rfl ?_
    clear F;intro w2 b15 h
    have n15 : l 15 = false:=by
      cases hq : l 15 with
      | false=>rfl
      | true=>rw [o15 hq] at hl;cases hl
    refine ⟨_,_,_,_,rfl,e5,e11,o14,(fun _=>rfl),b14,b15,e12,(fun _=>rfl),?_⟩
    simp only [flag,n15,Nat.reduceBEq,beq_self_eq_true,Bool.true_or,Bool.false_or,Bool.false_eq_true,if_false,if_true];exact h
  · clear h F;intro l vs w1 hI hl hp
    obtain ⟨v5,v11,v12,v13,rfl,e5,e11,o14,o15,b14,b15,e12,e13,h⟩ :=hI
    obtain rfl:=e5 (hp 5 (by simp))
    obtain rfl:=e11 (hp 11 (by simp))
    obtain rfl:=e12 (hp 12 (by simp))
    obtain rfl:=e13 (hp 13 (by simp))
    have f5 : l 5 = true:=hp 5 (by simp)
    have f11 : l 11 = true:=hp 11 (by simp)
    have f12 : l 12 = true:=hp 12 (by simp)
    have f13 : l 13 = true:=hp 13 (by simp)
    replace h:=Zd h;have F:=Zf6 h
    simp only [f5,f11,f12,f13,hl,Bool.false_eq_true,if_false,if_true] at h
    replace h:=Zd h;have F:=Zf6 h;refine Zc1 (J f5 (J f11 (J f12 (J f13 (@T3.cells.eq_1))))) ?_
    refine Sep.put 7 h rfl ?_
    clear F;intro w2 h
    refine ⟨_,_,_,_,rfl,(fun _=>rfl),(fun _=>rfl),(fun _=>f12),o15,b14,b15,(fun _=>rfl),(fun _=>rfl),?_⟩
    simp only [flag,f5,f11,f12,f13,Nat.reduceBEq,beq_self_eq_true,Bool.true_or,Bool.false_or,if_true];exact h
  · clear h F;intro l vs w1 hI hl hp
    obtain ⟨v5,v11,v12,v13,rfl,e5,e11,o14,o15,b14,b15,e12,e13,h⟩ :=hI
    obtain rfl:=e5 (hp 5 (by simp))
    obtain rfl:=e11 (hp 11 (by simp))
    obtain rfl:=e12 (hp 12 (by simp))
    obtain rfl:=e13 (hp 13 (by simp))
    have f5 : l 5 = true:=hp 5 (by simp)
    have f11 : l 11 = true:=hp 11 (by simp)
    have f12 : l 12 = true:=hp 12 (by simp)
    have f13 : l 13 = true:=hp 13 (by simp)
    have f14 : l 14 = true:=hp 14 (by simp)
    replace h:=Zd h;have F:=Zf6 h
    simp only [f5,f11,f12,f13,f14,hl,Bool.false_eq_true,if_false,if_true] at h
    replace h:=Zd h;have F:=Zf6 h;refine Zc1 (J f5 (J f11 (J f12 (J f13 (J f14 (@T3.cells.eq_1)))))) ?_
    refine Sep.put 8 h rfl ?_
    clear F;intro w2 h
    refine ⟨_,_,_,_,rfl,(fun _=>rfl),(fun _=>rfl),o14,(fun _=>f13),b14,b15,(fun _=>rfl),(fun _=>rfl),?_⟩
    simp only [flag,f5,f11,f12,f13,f14,Nat.reduceBEq,beq_self_eq_true,Bool.true_or,Bool.false_or,if_true];exact h
  clear h F;intro l vs w1 hI hall
  obtain ⟨v5,v11,v12,v13,rfl,e5,e11,o14,o15,b14,b15,e12,e13,h⟩ :=hI
  have f5 : l 5 = true:=hall ⟨5,some 0,[]⟩ (by simp)
  have f11 : l 11 = true:=hall ⟨11,some 1,[5]⟩ (by simp)
  have f12 : l 12 = true:=hall ⟨12,some 2,[]⟩ (by simp)
  have f13 : l 13 = true:=hall ⟨13,some 3,[]⟩ (by simp)
  have f14 : l 14 = true:=hall ⟨14,none,[5,11,12,13]⟩ (by simp)
  have f15 : l 15 = true:=hall ⟨15,none,[5,11,12,13,14]⟩ (by simp)
  obtain rfl:=e5 f5
  obtain rfl:=e11 f11
  obtain rfl:=e12 f12
  obtain rfl:=e13 f13
  simp only [f5,f11,f12,f13,f14,f15,if_true] at h
  clear hall f5 f11 f12 f13 f14 f15 o14 o15
  replace h:=Zd h;have F:=Zf6 h;refine Zc1 (@T3.cells.eq_1) ?_
  refine Sep.c10 0 (x:=.int .i64 (flipE E' x0 x1 x2 x3).1) (r':=msh bm (flipE E' x0 x1 x2 x3).2) h rfl (fun A k=>flip108 x0 x1 x2 x3 k) (fun _ f=>f) ?_
  clear h F
  intro _ h
  replace h:=Zd h;have F:=Zf6 h;refine Zc ?_
  by_cases g3 : (flipE E' x0 x1 x2 x3).1 = 0
  case neg=>
    rw [flipE_same g3] at h
    generalize hz : decide ((flipE E' x0 x1 x2 x3).1 = 0) = z
    obtain rfl : z = false:=hz.symm.trans (decide_eq_false g3)
    clear hz
    replace h:=Zd h;have F:=Zf6 h;refine Zc ?_
    refine h.new ?_
    clear h F
    intro _ b16 h
    replace h:=Zd h;have F:=Zf6 h;refine Zc ?_
    refine Sep.appTab 4 9 infoW Tryz.underlying25 rfl (by decide) [x0,x1,x2,x3,x4] h rfl rfl rfl (by omega) (by simp only [maxLen];omega) ?_
    clear h F
    intro a9 c9 w9 h
    replace h:=Zd h;have F:=Zf6 h;refine Zc1 en ?_
    exact ⟨_,by omega,E',O1 ++ [[x0,x1,x2,x3,x4]],a9,c9,n + 1,hI,by simpa using hOl',by omega,rfl,rfl,((((((h.erase 3).erase 4).erase 4).erase 4).erase 4).erase 4)⟩
  have hI2:=R.step E' x0 x1 x2 x3 hI g3
  generalize (flipE E' x0 x1 x2 x3).2 = E2 at *
  generalize hz : decide ((flipE E' x0 x1 x2 x3).1 = 0) = z
  obtain rfl : z = true:=hz.symm.trans (decide_eq_true g3)
  clear hz
  replace h:=Zd h;have F:=Zf6 h;refine Zc ?_
  refine Sep.callp h (meet134 (ax,ay) (bx,by') (cx,cy) (dx,dy) _) ?_
  clear h F
  intro _ h
  replace h:=Zd h;have F:=Zf6 h;refine Zc ?_
  cases g4d : decide (meetI (ax,ay) (bx,by') (cx,cy) (dx,dy) = 1) with
  | false=>
    have g4:=of_decide_eq_false g4d
    replace h:=Zd h;have F:=Zf6 h;refine Zc1 (J (decide_eq_false g4) en) ?_
    exact ⟨_,by omega,E2,O1,a5,c5,n + 1,hI2,by omega,by omega,rfl,rfl,(((((h.erase 3).erase 4).erase 4).erase 4).erase 4)⟩
  | true=>
  have g4:=of_decide_eq_true g4d
  replace h:=Zd h;have F:=Zf6 h;refine Zc1 (J (decide_eq_true g4) en) ?_
  refine walkDraw (.q 0 (.h 1 0 (.h 2 2 (.h 4 0 (.h 5 2 (.l 3 (.l 6 (.q 7 (.l 8 (.l 9 (.q 10 .fin))))))))))) [(b14,0,.int .i64 cx),(b14,1,.int .i64 cy),(b15,0,.int .i64 dx),(b15,1,.int .i64 dy)] (by kernel_rfl) (by simp [Holds_nil,Holds_cons,F]) ?_
  refine h.draw ?_
  clear h F
  intro _ h
  have km:=lesser103 cx cy dx dy
  have kM:=greater104 cx cy dx dy
  obtain ⟨p,q,e1⟩ :=ptMin_two cx cy dx dy
  obtain ⟨p',q',e2⟩ :=ptMax_two cx cy dx dy
  rw [e1] at km
  rw [e2] at kM
  replace h:=Zd h;have F:=Zf6 h;refine Zc ?_
  refine Sep.callp h (km _) ?_
  clear h F
  intro _ h
  replace h:=Zd h;have F:=Zf6 h;refine Zc1 (@cellsI.eq_1) ?_
  refine Sep.callp h (kM _) ?_
  clear h F
  intro _ h
  replace h:=Zd h;have F:=Zf6 h;refine Zc1 (@cellsI.eq_1) ?_
  refine h.new ?_
  clear h F
  intro _ b16 h
  replace h:=Zd h;have F:=Zf6 h;refine Zc ?_
  refine Sep.appTab 4 9 infoW Tryz.underlying25 rfl (by decide) [p,q,p',q',0] h rfl rfl rfl (by omega) (by simp only [maxLen];omega) ?_
  clear h F
  intro a9 c9 w9 h
  replace h:=Zd h;have F:=Zf6 h;refine Zc1 en ?_
  exact ⟨_,by omega,E2,O1 ++ [[p,q,p',q',0]],a9,c9,n + 1,hI2,by simpa using hOl',by omega,rfl,rfl,((((((h.erase 3).erase 4).erase 4).erase 4).erase 4).erase 4)⟩
def madeW (k : Int) (W W' : List (List Int)) : Prop:=∀ x ∈ W',x ∈ W∨∃ ax ay bx by',x = wallV ax ay bx by' k
theorem madeW.refl (k : Int) (W : List (List Int)) : madeW k W W:=fun x h=>.inl h
theorem insW_mem {W : List (List Int)} {x y : List Int} (h : y ∈ insW W x) : y ∈ W∨y = x:=by
  unfold insW at h
  rcases List.mem_append.1 h with h | h
  · exact .inl (List.mem_of_mem_take h)
  · rcases List.mem_cons.1 h with h | h
    · exact .inr h
    · exact .inl (List.mem_of_mem_drop h)
theorem madeW.ins {k : Int} {W W' : List (List Int)} (h : madeW k W W') (ax ay bx by' : Int) : madeW k W (insW W' (wallV ax ay bx by' k)):=fun x hx=>(insW_mem hx).elim (h x) fun e=>.inr ⟨ax,ay,bx,by',e⟩
theorem addWall92 {w : World} {A : Nat → Prop} {bm bs : Nat} {E : MeshE} {W : List (List Int)} {I : MeshE → Prop} (R : Flp I) (hI : I E) (ax ay bx by' k : Int) (hW : W.length + E.length ≤ 900000) (h : Sep w A [msh bm E, wls bs W] w) : Calls Tryz.prog 92 [.pointer (some ⟨bm, 0, none⟩), .pointer (some ⟨bs, 0, none⟩), .agg #[.int .i64 ax, .int .i64 ay], .agg #[.int .i64 bx, .int .i64 by'], .int .i64 k].toArray w
    (RetK fun r w'=>∃ (e : Int) (E' : MeshE) (W' : List (List Int)),r = .int .i64 e∧I E'∧(W.length≤W'.length∧W'.length≤W.length + E.length)∧madeW k W W'∧Sep w A [msh bm E',wls bs W'] w'):=by
  have hE:=R.len E hI
  refine walk Tryz.func92 rfl (by kernel_rfl) (by rw [Tryz.nt92];simp) ?_
  replace h:=Zd h;have F:=Zf6 h
  simp -dsimp only [↓vcA,vcB,vcD,↓pureT_lenS,↓iteT,↓iteF,cond_true,cond_false,eq_self,argE,Env.get,Env.push,ev,evs,evo,retV,Value.cells,Value.oneCell',setR,overR,fillL,zl,places,allSizes,heldC,ne_eq,Int.reduceLE,Int.reduceLT,Int.reduceEq,Int.reduceNe,Int.reduceToNat,Int.cast_ofNat_Int,Nat.reduceMul,Nat.reduceLeDiff,reduceIte,Nat.reduceEqDiff,Nat.reduceAdd,↓reduceIte,Tryz.vcT,↓stop_if 1,isReg_hit 1]
  refine h.new ?_
  clear h F
  intro _ b1 h
  replace h:=Zd h;have F:=Zf6 h;try simp -dsimp only [↓vcA,vcB,vcD,↓pureT_lenS,↓iteT,↓iteF,cond_true,cond_false,eq_self,argE,Env.get,Env.push,ev,evs,evo,retV,Value.cells,Value.oneCell',setR,overR,fillL,zl,places,allSizes,heldC,ne_eq,Int.reduceLE,Int.reduceLT,Int.reduceEq,Int.reduceNe,Int.reduceToNat,Int.cast_ofNat_Int,Nat.reduceMul,Nat.reduceLeDiff,reduceIte,Nat.reduceEqDiff,Nat.reduceAdd,↓reduceIte,Tryz.vcT,F,h.cell0,gets,vsD,if_true,if_false,Bool.false_eq_true,cellsAt,↓stop_if 1,isReg_hit 1]
  refine h.new ?_
  clear h F
  intro _ b2 h
  replace h:=Zd h;have F:=Zf6 h;try simp -dsimp only [↓vcA,vcB,vcD,↓pureT_lenS,↓iteT,↓iteF,cond_true,cond_false,eq_self,argE,Env.get,Env.push,ev,evs,evo,retV,Value.cells,Value.oneCell',setR,overR,fillL,zl,places,allSizes,heldC,ne_eq,Int.reduceLE,Int.reduceLT,Int.reduceEq,Int.reduceNe,Int.reduceToNat,Int.cast_ofNat_Int,Nat.reduceMul,Nat.reduceLeDiff,reduceIte,Nat.reduceEqDiff,Nat.reduceAdd,↓reduceIte,Tryz.vcT,F,h.cell0,gets,vsD,if_true,if_false,Bool.false_eq_true,cellsAt,↓stop_if 1,isReg_hit 1]
  refine stop_via (fun E' w'=>w' = w'∧∃ g,E'.get 23 = some (.bool g)∧E'.get 0 = some (.pointer (some ⟨bm,0,none⟩))∧E'.get 1 = some (.pointer (some ⟨bs,0,none⟩))∧E'.get 4 = some (.int .i64 k)∧E'.get 7 = some (.pointer (some ⟨b1,0,none⟩))∧E'.get 8 = some (.pointer (some ⟨b2,0,none⟩))∧Sep w A [msh bm E,wls bs W,blk b1 45 [.int .i64 ax,.int .i64 ay],blk b2 45 [.int .i64 bx,.int .i64 by']] w') (fun K hk=>?_) ?_
  · replace h:=Zd h;have F:=Zf6 h;refine Zc ?_
    cases g1d : decide (k = 1) with
    | false=>
      have g1:=of_decide_eq_false g1d
      replace h:=Zd h;have F:=Zf6 h;refine Zc1 (decide_eq_false g1) ?_
      exact hk _ _ ⟨rfl,_,rfl,rfl,rfl,rfl,rfl,rfl,h⟩
    | true=>
    have g1:=of_decide_eq_true g1d
    replace h:=Zd h;have F:=Zf6 h;refine Zc1 (decide_eq_true g1) ?_
    exact hk _ _ ⟨rfl,_,rfl,rfl,rfl,rfl,rfl,rfl,h⟩
  rintro E' w' ⟨_,g,gg,g0,g1,g4,g7,g8,h⟩
  clear F
  cases g with
  | true=>
    replace h:=Zd h;have F:=Zf6 h;refine Zc1 (J gg (J g0 (J g1 (J g4 (J g7 g8))))) ?_
    exact ⟨_,E,W,rfl,hI,⟨by omega,by omega⟩,madeW.refl k W,(h.erase 3).erase 2⟩
  | false=>
  replace h:=Zd h;have F:=Zf6 h;refine Zc1 (J gg (J g0 (J g1 (J g4 (J g7 g8))))) ?_
  refine h.call1 0 (Q:=fun v r' N=>∃ (P : List (List Int)) (a : Option Addr) (c : Nat),v = .tuple #[.slice a P.length c,.int .i64 (partC E ax ay bx by')]∧(partC E ax ay bx by' = 0→P.length≤E.length)∧r' = msh bm E∧N = [tab 45 2 (.slice a P.length c) P]) rfl (fun A _ k=>(parts115 ax ay bx by' hE k).mono fun ex w' ⟨v,er,P,a,c,ev,hP,k⟩ =>⟨v,er,_,_,k,fun _ f=>f,fun q hq x hx=>(by simp at hq;subst hq;exact hx),P,a,c,ev,fun e0=>?_,rfl,rfl⟩) ?_
  · obtain ⟨V,hV,hp⟩ :=hP e0
    have h1:=sortP_len (onL ax ay bx by' V)
    have h2:=onL_len ax ay bx by' V
    have h3:=hV.length_eq
    rcases hp with rfl | rfl
    · omega
    · rw [List.length_reverse];omega
  clear h F
  rintro _ _ _ w5 ⟨P,a,c,rfl,hP,rfl,rfl⟩ h
  replace h:=Zd h;have F:=Zf6 h;refine Zc1 (J g0 (J g1 (J g4 (J g7 g8)))) ?_
  by_cases g3 : partC E ax ay bx by' = 0
  case neg=>
    generalize hz : decide (partC E ax ay bx by' = 0) = z
    obtain rfl : z = false:=hz.symm.trans (decide_eq_false g3)
    clear hz
    replace h:=Zd h;have F:=Zf6 h;refine Zc ?_
    exact ⟨_,E,W,rfl,hI,⟨by omega,by omega⟩,madeW.refl k W,((h.erase 4).erase 3).erase 2⟩
  have hP:=hP g3
  generalize hz : decide (partC E ax ay bx by' = 0) = z
  obtain rfl : z = true:=hz.symm.trans (decide_eq_true g3)
  clear hz
  replace h:=Zd h;have F:=Zf6 h;refine Zc ?_
  refine walkLoop [0,1,4,11] [13] (fun m vs w'=>∃ i : Nat,i≤P.length∧m = P.length - i∧vs = [.int .i64 i]∧Sep w A [msh bm E,wls bs W,blk b1 45 [.int .i64 ax,.int .i64 ay],blk b2 45 [.int .i64 bx,.int .i64 by'],tab 45 2 (.slice a P.length c) P] w') (by kernel_rfl) ?_ ?_
  · refine Zv1 (J g0 (J g1 g4)) ?_
    exact ⟨_,0,Nat.zero_le _,rfl,rfl,h⟩
  clear h
  try clear F
  intro ks hk m vs w6 hi
  obtain ⟨i,hi,rfl,rfl,h⟩ :=hi
  simp -dsimp only [gets,argE,List.zip_cons_cons,List.zip_nil_left,List.cons_append,List.nil_append,Env.get,Env.push,Option.bind_some,Option.map_some,Option.some.injEq,reduceIte,Nat.reduceEqDiff,Nat.reduceAdd,↓reduceIte,g0,g1,g4] at hk;subst hk
  have ei : IntKind.i64.wrap ((i : Int) + 1) = ((i + 1 : Nat) : Int):=by rw [i64w _ (by omega) (by omega)];omega
  by_cases hlt : ((i + 1 : Nat) : Int) < P.length
  case pos=>
    have hil : i < P.length:=by omega
    have hil1 : i + 1 < P.length:=by omega
    obtain ⟨bb,oo,x0,x1,rfl,_,kc⟩ :=h.facts.2.2.2.2.1.twoAt hil
    obtain ⟨bb',oo',y0,y1,ea,_,kd⟩ :=h.facts.2.2.2.2.1.twoAt hil1
    injection ea with ea
    injection ea with ea1 ea2
    subst ea1 ea2
    replace h:=Zd h;have F:=Zf6 h;refine Zc1 (J ei (decide_eq_true hlt)) ?_
    obtain ⟨k0,k1⟩ :=kc _ F.2.2.2.2.1
    obtain ⟨k2,k3⟩ :=kd _ F.2.2.2.2.1
    refine walkDraw (.q 0 (.q 1 (.q 2 (.q 3 (.q 5 (.q 6 (.q 7 (.q 8 (.h 4 0 (.h 9 2 (.l 10 (.q 11 .fin)))))))))))) [(bb,oo + i * 2,.int .i64 x0),(bb,oo + i * 2 + 1,.int .i64 x1),(bb,oo + (i + 1) * 2,.int .i64 y0),(bb,oo + (i + 1) * 2 + 1,.int .i64 y1)] (by kernel_rfl) (by simp [Holds_nil,Holds_cons,F,k0,k1,k2,k3]) ?_
    refine h.draw ?_
    clear h F k0 k1 k2 k3
    intro _ h
    replace h:=Zd h;have F:=Zf6 h;refine Zc1 ei ?_
    refine ⟨by omega,by omega,?_⟩
    obtain ⟨v,hv⟩ :=h.facts.2.1
    refine Sep.callp h (clash116 (x0,x1) (y0,y1) _ hv (by omega)) ?_
    clear h F
    intro _ h
    replace h:=Zd h;have F:=Zf6 h;refine Zc1 (J (kc _ h.facts.2.2.2.2.1) (kd _ h.facts.2.2.2.2.1)) ?_
    clear hv
    by_cases g5 : clashW W (x0,x1) (y0,y1) = 0
    · generalize hz : decide (clashW W (x0,x1) (y0,y1) = 0) = z
      obtain rfl : z = true:=hz.symm.trans (decide_eq_true g5)
      clear hz
      replace h:=Zd h;have F:=Zf6 h;refine Zc1 ei ?_
      exact ⟨_,by omega,i + 1,by omega,rfl,rfl,h⟩
    · generalize hz : decide (clashW W (x0,x1) (y0,y1) = 0) = z
      obtain rfl : z = false:=hz.symm.trans (decide_eq_false g5)
      clear hz
      replace h:=Zd h;have F:=Zf6 h;refine Zc1 ei ?_
      exact ⟨_,E,W,rfl,hI,⟨by omega,by omega⟩,madeW.refl k W,((h.erase 4).erase 3).erase 2⟩
  replace h:=Zd h;have F:=Zf6 h;refine Zc1 (J ei (decide_eq_false hlt)) ?_
  clear hlt hi ei g3
  refine walkLoop [0,1,4,11] [15] (fun m vs w'=>∃ (i : Nat) (E' : MeshE) (W' : List (List Int)),i≤P.length∧m = P.length - i∧vs = [.int .i64 i]∧I E'∧(W.length≤W'.length∧W'.length≤W.length + i)∧madeW k W W'∧Sep w A [msh bm E',wls bs W',blk b1 45 [.int .i64 ax,.int .i64 ay],blk b2 45 [.int .i64 bx,.int .i64 by'],tab 45 2 (.slice a P.length c) P] w') (by kernel_rfl) ?_ ?_
  · refine Zv ?_
    exact ⟨_,0,E,W,Nat.zero_le _,rfl,rfl,hI,⟨by omega,by omega⟩,madeW.refl k W,h⟩
  clear h hI
  try clear F
  intro ks hk m vs w7 hi
  obtain ⟨i,E',W',hi,rfl,rfl,hI,hWl,hmW,h⟩ :=hi
  replace hk:=Zk hk;subst hk
  have ei : IntKind.i64.wrap ((i : Int) + 1) = ((i + 1 : Nat) : Int):=by rw [i64w _ (by omega) (by omega)];omega
  by_cases hlt : ((i + 1 : Nat) : Int) < P.length
  case neg=>
    replace h:=Zd h;have F:=Zf6 h;refine Zc1 (J ei (decide_eq_false hlt)) ?_
    exact ⟨_,E',W',rfl,hI,⟨by omega,by omega⟩,hmW,((h.erase 4).erase 3).erase 2⟩
  have hil : i < P.length:=by omega
  have hil1 : i + 1 < P.length:=by omega
  obtain ⟨bb,oo,x0,x1,rfl,_,kc⟩ :=h.facts.2.2.2.2.1.twoAt hil
  obtain ⟨bb',oo',y0,y1,ea,_,kd⟩ :=h.facts.2.2.2.2.1.twoAt hil1
  injection ea with ea
  injection ea with ea1 ea2
  subst ea1 ea2
  replace h:=Zd h;have F:=Zf6 h;refine Zc1 (J ei (decide_eq_true hlt)) ?_
  obtain ⟨k0,k1⟩ :=kc _ F.2.2.2.2.1
  obtain ⟨k2,k3⟩ :=kd _ F.2.2.2.2.1
  refine walkDraw (.q 0 (.q 1 (.q 2 (.q 3 (.q 5 (.q 6 (.q 7 (.q 8 (.h 4 0 (.h 9 2 (.l 10 .fin))))))))))) [(bb,oo + i * 2,.int .i64 x0),(bb,oo + i * 2 + 1,.int .i64 x1),(bb,oo + (i + 1) * 2,.int .i64 y0),(bb,oo + (i + 1) * 2 + 1,.int .i64 y1)] (by kernel_rfl) (by simp [Holds_nil,Holds_cons,F,k0,k1,k2,k3]) ?_
  refine h.draw ?_
  clear h F k0 k1 k2 k3
  intro _ h
  replace h:=Zd h;have F:=Zf6 h;refine Zc1 ei ?_
  refine ⟨by omega,by omega,?_⟩
  refine h.call1 0 (Q:=fun v r' N=>v = .tuple #[]∧∃ E'',I E''∧r' = msh bm E''∧N = []) rfl (fun A _ k=>(force117 R hI x0 x1 y0 y1 k).mono fun ex w' ⟨v,er,ev,E'',hI2,k⟩ =>⟨v,er,_,[],k,fun _ f=>f,fun q hq=>(by cases hq),ev,E'',hI2,rfl,rfl⟩) ?_
  clear h hI
  try clear F
  rintro _ _ _ w8 ⟨rfl,E'',hI,rfl,rfl⟩ h
  replace h:=Zd h;have F:=Zf6 h;refine Zc1 (J ei (J (kc _ h.facts.2.2.2.2.1) (kd _ h.facts.2.2.2.2.1))) ?_
  have kw:=makeWall88 x0 x1 y0 y1 k
  obtain ⟨v0,v1,v2,v3,v4,evw⟩ :=len_5 (show (wallV x0 x1 y0 y1 k).length = 5 by unfold wallV ptMin ptMax;split<;>(try split)<;>(try split)<;>rfl)
  rw [evw] at kw
  have hm2:=hmW.ins x0 x1 y0 y1
  rw [evw] at hm2
  generalize wallOk x0 x1 y0 y1 k = ow at *
  refine walkDrawI (.q 0 (.q 1 (.q 2 (.h 3 0 (.q 4 (.q 5 (.q 6 (.q 7 (.h 8 2 (.q 9 .fin)))))))))) [⟨10,some 0,[]⟩,⟨11,some 1,[10]⟩,⟨12,some 2,[11]⟩,⟨13,some 3,[11]⟩,⟨14,some 4,[]⟩,⟨15,none,[10,11,12,14]⟩,⟨16,some 5,[10,11,12,13,14,15]⟩] [84,73,85,86,16,17] [0,1,4,11,15,77,82,83] [(bb,oo + i * 2,.int .i64 x0),(bb,oo + i * 2 + 1,.int .i64 x1),(bb,oo + (i + 1) * 2,.int .i64 y0),(bb,oo + (i + 1) * 2 + 1,.int .i64 y1)] (by kernel_rfl) (by simp [Holds_nil,Holds_cons,F,kc _ h.facts.2.2.2.2.1,kd _ h.facts.2.2.2.2.1]) ?_
  refine h.draw ?_
  clear h F
  intro _ h
  replace h:=Zd h;have F:=Zf6 h;refine Zc1 (J ei (@cellsI.eq_1)) ?_
  refine ⟨by omega,by omega,?_⟩
  refine ⟨fun l vs w'=>∃ v10 v11 v12 v13 v14 v16 : Value,vs = [v10,v11,v12,v13,v14,v16]∧(l 10 = true→v10 = .tuple #[.agg #[.int .i64 v0,.int .i64 v1,.int .i64 v2,.int .i64 v3,.int .i64 v4],.bool ow])∧(l 11 = true→v11 = .tuple #[.agg #[.int .i64 v0,.int .i64 v1,.int .i64 v2,.int .i64 v3,.int .i64 v4],.bool ow])∧(l 12 = true→v12 = .agg #[.int .i64 v0,.int .i64 v1,.int .i64 v2,.int .i64 v3,.int .i64 v4])∧(l 13 = true→v13 = .bool ow)∧(l 16 = true→v16 = .bool ow)∧(l 15 = true→l 14 = true)∧∃ b3 : Nat,(l 14 = true→v14 = .pointer (some ⟨b3,0,none⟩))∧Sep w A [msh bm E'',wls bs W',blk b1 45 [.int .i64 ax,.int .i64 ay],blk b2 45 [.int .i64 bx,.int .i64 by'],tab 45 2 (.slice (some ⟨bb,oo,none⟩) P.length c) P,(if l 14 = true then blk b3 47 (if l 15 = true then [.int .i64 v0,.int .i64 v1,.int .i64 v2,.int .i64 v3,.int .i64 v4] else [.int .i64 0,.int .i64 0,.int .i64 0,.int .i64 0,.int .i64 0]) else emp)] w',?_,?_,⟨?_,?_,?_,?_,?_,?_,?_,trivial⟩,?_⟩
  · clear h F;intro l vs w1 hI
    obtain ⟨v10,v11,v12,v13,v14,v16,rfl,e10,e11,e12,e13,e16,o15,b3,e14,h⟩ :=hI
    replace h:=Zd h;have F:=Zf6 h
    exact (by simp [Holds_nil,Holds_cons,F,kc _ h.facts.2.2.2.2.1,kd _ h.facts.2.2.2.2.1])
  · intro us0 hv0
    obtain ⟨v10,us1,rfl,hv1⟩ :=cons_of_len hv0
    obtain ⟨v11,us2,rfl,hv2⟩ :=cons_of_len hv1
    obtain ⟨v12,us3,rfl,hv3⟩ :=cons_of_len hv2
    obtain ⟨v13,us4,rfl,hv4⟩ :=cons_of_len hv3
    obtain ⟨v14,us5,rfl,hv5⟩ :=cons_of_len hv4
    obtain ⟨v16,us6,rfl,hv6⟩ :=cons_of_len hv5
    obtain rfl:=nil_of_len hv6
    exact ⟨v10,v11,v12,v13,v14,v16,rfl,(fun e=>by cases e),(fun e=>by cases e),(fun e=>by cases e),(fun e=>by cases e),(fun e=>by cases e),(fun e=>by cases e),0,(fun e=>by cases e),h.addEmp⟩
  · clear h F;intro l vs w1 hI hl hp
    obtain ⟨v10,v11,v12,v13,v14,v16,rfl,e10,e11,e12,e13,e16,o15,b3,e14,h⟩ :=hI
    replace h:=Zd h;have F:=Zf6 h
    replace h:=Zd h;have F:=Zf6 h;refine Zc1 (J ei (@cellsI.eq_1)) ?_
    refine Sep.callp h (kw _) ?_
    clear F;intro w2 h
    exact ⟨_,_,_,_,_,_,rfl,(fun _=>rfl),e11,e12,e13,e16,o15,b3,e14,h⟩
  · clear h F;intro l vs w1 hI hl hp
    obtain ⟨v10,v11,v12,v13,v14,v16,rfl,e10,e11,e12,e13,e16,o15,b3,e14,h⟩ :=hI
    obtain rfl:=e10 (hp 10 (by simp))
    have f10 : l 10 = true:=hp 10 (by simp)
    replace h:=Zd h;have F:=Zf6 h
    replace h:=Zd h;have F:=Zf6 h;refine Zc1 (J f10 (J ei (@cellsI.eq_1))) ?_
    exact ⟨_,_,_,_,_,_,rfl,(fun _=>rfl),(fun _=>rfl),e12,e13,e16,o15,b3,e14,h⟩
  · clear h F;intro l vs w1 hI hl hp
    obtain ⟨v10,v11,v12,v13,v14,v16,rfl,e10,e11,e12,e13,e16,o15,b3,e14,h⟩ :=hI
    obtain rfl:=e11 (hp 11 (by simp))
    have f11 : l 11 = true:=hp 11 (by simp)
    replace h:=Zd h;have F:=Zf6 h
    replace h:=Zd h;have F:=Zf6 h;refine Zc1 (J f11 (J ei (@cellsI.eq_1))) ?_
    exact ⟨_,_,_,_,_,_,rfl,e10,(fun _=>rfl),(fun _=>rfl),e13,e16,o15,b3,e14,h⟩
  · clear h F;intro l vs w1 hI hl hp
    obtain ⟨v10,v11,v12,v13,v14,v16,rfl,e10,e11,e12,e13,e16,o15,b3,e14,h⟩ :=hI
    obtain rfl:=e11 (hp 11 (by simp))
    have f11 : l 11 = true:=hp 11 (by simp)
    replace h:=Zd h;have F:=Zf6 h
    replace h:=Zd h;have F:=Zf6 h;refine Zc1 (J f11 (J ei (@cellsI.eq_1))) ?_
    exact ⟨_,_,_,_,_,_,rfl,e10,(fun _=>rfl),e12,(fun _=>rfl),e16,o15,b3,e14,h⟩
  · clear h F;intro l vs w1 hI hl hp
    obtain ⟨v10,v11,v12,v13,v14,v16,rfl,e10,e11,e12,e13,e16,o15,b3,e14,h⟩ :=hI
    replace h:=Zd h;have F:=Zf6 h
    replace h:=Zd h;have F:=Zf6 h;refine Zc1 (J hl (J ei (@cellsI.eq_1))) ?_
    simp only [hl,Bool.false_eq_true,if_false] at h
    refine Sep.newAt 5 h rfl ?_
    clear F;intro w2 b3 h
    have n15 : l 15 = false:=by
      cases hq : l 15 with
      | false=>rfl
      | true=>rw [o15 hq] at hl;cases hl
    refine ⟨_,_,_,_,_,_,rfl,e10,e11,e12,e13,e16,(fun _=>rfl),b3,(fun _=>rfl),?_⟩
    simp only [flag,n15,Nat.reduceBEq,beq_self_eq_true,Bool.true_or,Bool.false_or,Bool.false_eq_true,if_false,if_true];exact h
  · clear h F;intro l vs w1 hI hl hp
    obtain ⟨v10,v11,v12,v13,v14,v16,rfl,e10,e11,e12,e13,e16,o15,b3,e14,h⟩ :=hI
    obtain rfl:=e10 (hp 10 (by simp))
    obtain rfl:=e11 (hp 11 (by simp))
    obtain rfl:=e12 (hp 12 (by simp))
    obtain rfl:=e14 (hp 14 (by simp))
    have f10 : l 10 = true:=hp 10 (by simp)
    have f11 : l 11 = true:=hp 11 (by simp)
    have f12 : l 12 = true:=hp 12 (by simp)
    have f14 : l 14 = true:=hp 14 (by simp)
    replace h:=Zd h;have F:=Zf6 h
    simp only [f10,f11,f12,f14,hl,Bool.false_eq_true,if_false,if_true] at h
    replace h:=Zd h;have F:=Zf6 h;refine Zc1 (J f10 (J f11 (J f12 (J f14 (J ei (@cellsI.eq_1)))))) ?_
    refine Sep.put 5 h rfl ?_
    clear F;intro w2 h
    refine ⟨_,_,_,_,_,_,rfl,(fun _=>rfl),(fun _=>rfl),(fun _=>rfl),e13,e16,(fun _=>f14),b3,(fun _=>rfl),?_⟩
    simp only [flag,f10,f11,f12,f14,Nat.reduceBEq,beq_self_eq_true,Bool.true_or,Bool.false_or,if_true];exact h
  · clear h F;intro l vs w1 hI hl hp
    obtain ⟨v10,v11,v12,v13,v14,v16,rfl,e10,e11,e12,e13,e16,o15,b3,e14,h⟩ :=hI
    obtain rfl:=e10 (hp 10 (by simp))
    obtain rfl:=e11 (hp 11 (by simp))
    obtain rfl:=e12 (hp 12 (by simp))
    obtain rfl:=e13 (hp 13 (by simp))
    obtain rfl:=e14 (hp 14 (by simp))
    have f10 : l 10 = true:=hp 10 (by simp)
    have f11 : l 11 = true:=hp 11 (by simp)
    have f12 : l 12 = true:=hp 12 (by simp)
    have f13 : l 13 = true:=hp 13 (by simp)
    have f14 : l 14 = true:=hp 14 (by simp)
    have f15 : l 15 = true:=hp 15 (by simp)
    replace h:=Zd h;have F:=Zf6 h
    replace h:=Zd h;have F:=Zf6 h;refine Zc1 (J f10 (J f11 (J f12 (J f13 (J f14 (J f15 (J ei (@cellsI.eq_1)))))))) ?_
    exact ⟨_,_,_,_,_,_,rfl,(fun _=>rfl),(fun _=>rfl),(fun _=>rfl),(fun _=>rfl),(fun _=>rfl),o15,b3,(fun _=>rfl),h⟩
  clear h F;intro l vs w1 hI hall
  obtain ⟨v10,v11,v12,v13,v14,v16,rfl,e10,e11,e12,e13,e16,o15,b3,e14,h⟩ :=hI
  have f10 : l 10 = true:=hall ⟨10,some 0,[]⟩ (by simp)
  have f11 : l 11 = true:=hall ⟨11,some 1,[10]⟩ (by simp)
  have f12 : l 12 = true:=hall ⟨12,some 2,[11]⟩ (by simp)
  have f13 : l 13 = true:=hall ⟨13,some 3,[11]⟩ (by simp)
  have f14 : l 14 = true:=hall ⟨14,some 4,[]⟩ (by simp)
  have f15 : l 15 = true:=hall ⟨15,none,[10,11,12,14]⟩ (by simp)
  have f16 : l 16 = true:=hall ⟨16,some 5,[10,11,12,13,14,15]⟩ (by simp)
  obtain rfl:=e10 f10
  obtain rfl:=e11 f11
  obtain rfl:=e12 f12
  obtain rfl:=e13 f13
  obtain rfl:=e14 f14
  obtain rfl:=e16 f16
  simp only [f10,f11,f12,f13,f14,f15,f16,if_true] at h
  clear hall f10 f11 f12 f13 f14 f15 f16 o15
  replace h:=Zd h;have F:=Zf6 h;refine Zc1 (J ei (@cellsI.eq_1)) ?_
  refine Sep.c10 1 (x:=.tuple #[]) (r':=wls bs (insW W' [v0,v1,v2,v3,v4])) h rfl (fun A k=>put89 v0 v1 v2 v3 v4 (by omega) k) (fun _ f=>f) ?_
  clear h F
  intro _ h
  replace h:=Zd h;have F:=Zf6 h;refine Zc1 ei ?_
  exact ⟨_,by omega,i + 1,E'',_,by omega,rfl,rfl,hI,by rw [insW_len];exact ⟨by omega,by omega⟩,hm2,h.erase 5⟩
end Go.Proofs.YtnhgjgoglmadnaaGreat
