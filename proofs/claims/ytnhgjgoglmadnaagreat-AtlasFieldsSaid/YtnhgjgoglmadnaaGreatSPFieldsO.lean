/- Joined texts of this claim (part 41), printed by a program of this work. The last part holds the claimed theorem: the law answers true at every input of its row. -/
import Derived.Test.YtnhgjgoglmadnaaGreatSPFieldsN
set_option maxHeartbeats 4000000
namespace Go.Proofs.YtnhgjgoglmadnaaGreat
open Go.RowKit
set_option maxRecDepth 100000
set_option linter.unusedSimpArgs false
set_option linter.unusedVariables false
theorem Ints.none (w : World) : Ints w (.slice Option.none 0 0) []:=⟨fun x hx=>(by cases hx),Row.nil 1 w⟩
theorem walkFields (z n : Int) (w : World) (hz : -9223372036854775808≤z∧z≤9223372036854775807) (hn : -9223372036854775808≤n∧n≤9223372036854775807) : Calls Tryz.prog 4 [.int .i64 z,.int .i64 n].toArray w (RetK fun r w'=>r = .bool true∧Chg (fun _=>False) w w'):=by
  have h:=Sep.nil w
  have aw : ∀ {w' : World} {M : List Res} {K : Value→World→Prop},Sep w (fun _=>False) M w'→(∀ w1,Sep w (fun _=>False) M w1→K (.bool true) w1)→callsK Tryz.prog 5 [].toArray w' K:=fun h hk=>Sep.callp h (awake57 _) hk
  refine walk Tryz.func4 rfl (by kernel_rfl) (by rw [Tryz.nt4];simp) ?_
  replace h:=Zd h;have F:=Zf4 h
  refine Zv ?_
  refine h.town (Ints.none _) ?_
  clear h F
  intro m p1 p2 p3 p4 p5 p6 p7 p8 w1 hm h
  have em:=hm.enc
  replace h:=Zd h;have F:=Zf4 h;refine Zc1 (J (@MapV.cells.eq_1) (@slS.eq_1)) ?_
  refine h.new ?_
  clear h F
  intro _ b5 h
  replace h:=Zd h;have F:=Zf4 h;refine Zc1 (J (@MapV.cells.eq_1) (@slS.eq_1)) ?_
  refine Sep.put 1 h rfl ?_
  clear h F
  intro _ h
  replace h:=Zd h;have F:=Zf4 h;refine Zc1 (J (@MapV.cells.eq_1) (@slS.eq_1)) ?_
  refine h.callp (round10 z 9 (by omega) _) ?_
  clear h F
  intro _ h
  have hk:=roundI_in (k:=z) (n:=9) (by omega)
  generalize roundI z 9 = k at *
  obtain rfl | rfl | rfl | rfl | rfl | rfl | rfl | rfl | rfl : k = 0∨k = 1∨k = 2∨k = 3∨k = 4∨k = 5∨k = 6∨k = 7∨k = 8:=by omega
  case' inl=>
    replace h:=Zd h;have F:=Zf4 h;try simp -dsimp only [↓vcA,vcB,vcD,↓pureT_lenS,↓iteT,↓iteF,cond_true,cond_false,eq_self,argE,Env.get,Env.push,ev,evs,evo,retV,Value.cells,Value.oneCell',setR,overR,fillL,zl,places,allSizes,heldC,ne_eq,Int.reduceLE,Int.reduceLT,Int.reduceEq,Int.reduceNe,Int.reduceToNat,Int.cast_ofNat_Int,Nat.reduceMul,Nat.reduceLeDiff,reduceIte,Nat.reduceEqDiff,Nat.reduceAdd,↓reduceIte,Tryz.vcT,F,h.cell0,gets,vsD,if_true,if_false,Bool.false_eq_true,cellsAt,MapV.cells,slS,cellsAt,decide_true,decide_false,↓stop_if 22,isReg_hit 22]
    refine Sep.put 1 h rfl ?_
    clear h F
    intro w9 h
    replace h:=Zd h;have F:=Zf4 h;try simp -dsimp only [↓vcA,vcB,vcD,↓pureT_lenS,↓iteT,↓iteF,cond_true,cond_false,eq_self,argE,Env.get,Env.push,ev,evs,evo,retV,Value.cells,Value.oneCell',setR,overR,fillL,zl,places,allSizes,heldC,ne_eq,Int.reduceLE,Int.reduceLT,Int.reduceEq,Int.reduceNe,Int.reduceToNat,Int.cast_ofNat_Int,Nat.reduceMul,Nat.reduceLeDiff,reduceIte,Nat.reduceEqDiff,Nat.reduceAdd,↓reduceIte,Tryz.vcT,F,h.cell0,gets,vsD,if_true,if_false,Bool.false_eq_true,cellsAt,MapV.cells,slS,cellsAt,decide_true,decide_false,↓stop_if 22,isReg_hit 22]
    have g:=good_w em hn
    have h0 : (0 : Int)≤16777215:=by decide
    obtain ⟨m2,e2⟩ : ∃ m2 : MapV,m2 = { m with w:=n }:=⟨_,rfl⟩
    replace h : Sep w (fun _=>False) [blk b5 33 (m2.cells (slS m p1 p2 p3 p4 p5 p6 p7 p8)),mapX m2 (slS m p1 p2 p3 p4 p5 p6 p7 p8)] w9:=by rw [e2];exact h.mapOpen.mapShut
    rw [← e2] at g
    clear e2 F
    generalize (16777215 : Int) = most at *
  case' inr.inl=>
    replace h:=Zd h;have F:=Zf4 h;try simp -dsimp only [↓vcA,vcB,vcD,↓pureT_lenS,↓iteT,↓iteF,cond_true,cond_false,eq_self,argE,Env.get,Env.push,ev,evs,evo,retV,Value.cells,Value.oneCell',setR,overR,fillL,zl,places,allSizes,heldC,ne_eq,Int.reduceLE,Int.reduceLT,Int.reduceEq,Int.reduceNe,Int.reduceToNat,Int.cast_ofNat_Int,Nat.reduceMul,Nat.reduceLeDiff,reduceIte,Nat.reduceEqDiff,Nat.reduceAdd,↓reduceIte,Tryz.vcT,F,h.cell0,gets,vsD,if_true,if_false,Bool.false_eq_true,cellsAt,MapV.cells,slS,cellsAt,decide_true,decide_false,↓stop_if 22,isReg_hit 22]
    refine Sep.put 1 h rfl ?_
    clear h F
    intro w9 h
    replace h:=Zd h;have F:=Zf4 h;try simp -dsimp only [↓vcA,vcB,vcD,↓pureT_lenS,↓iteT,↓iteF,cond_true,cond_false,eq_self,argE,Env.get,Env.push,ev,evs,evo,retV,Value.cells,Value.oneCell',setR,overR,fillL,zl,places,allSizes,heldC,ne_eq,Int.reduceLE,Int.reduceLT,Int.reduceEq,Int.reduceNe,Int.reduceToNat,Int.cast_ofNat_Int,Nat.reduceMul,Nat.reduceLeDiff,reduceIte,Nat.reduceEqDiff,Nat.reduceAdd,↓reduceIte,Tryz.vcT,F,h.cell0,gets,vsD,if_true,if_false,Bool.false_eq_true,cellsAt,MapV.cells,slS,cellsAt,decide_true,decide_false,↓stop_if 22,isReg_hit 22]
    have g:=good_te em hn
    have h0 : (0 : Int)≤255:=by decide
    obtain ⟨m2,e2⟩ : ∃ m2 : MapV,m2 = { m with te:=n }:=⟨_,rfl⟩
    replace h : Sep w (fun _=>False) [blk b5 33 (m2.cells (slS m p1 p2 p3 p4 p5 p6 p7 p8)),mapX m2 (slS m p1 p2 p3 p4 p5 p6 p7 p8)] w9:=by rw [e2];exact h.mapOpen.mapShut
    rw [← e2] at g
    clear e2 F
    generalize (255 : Int) = most at *
  case' inr.inr.inl=>
    replace h:=Zd h;have F:=Zf4 h;try simp -dsimp only [↓vcA,vcB,vcD,↓pureT_lenS,↓iteT,↓iteF,cond_true,cond_false,eq_self,argE,Env.get,Env.push,ev,evs,evo,retV,Value.cells,Value.oneCell',setR,overR,fillL,zl,places,allSizes,heldC,ne_eq,Int.reduceLE,Int.reduceLT,Int.reduceEq,Int.reduceNe,Int.reduceToNat,Int.cast_ofNat_Int,Nat.reduceMul,Nat.reduceLeDiff,reduceIte,Nat.reduceEqDiff,Nat.reduceAdd,↓reduceIte,Tryz.vcT,F,h.cell0,gets,vsD,if_true,if_false,Bool.false_eq_true,cellsAt,MapV.cells,slS,cellsAt,decide_true,decide_false,↓stop_if 22,isReg_hit 22]
    refine Sep.put 1 h rfl ?_
    clear h F
    intro w9 h
    replace h:=Zd h;have F:=Zf4 h;try simp -dsimp only [↓vcA,vcB,vcD,↓pureT_lenS,↓iteT,↓iteF,cond_true,cond_false,eq_self,argE,Env.get,Env.push,ev,evs,evo,retV,Value.cells,Value.oneCell',setR,overR,fillL,zl,places,allSizes,heldC,ne_eq,Int.reduceLE,Int.reduceLT,Int.reduceEq,Int.reduceNe,Int.reduceToNat,Int.cast_ofNat_Int,Nat.reduceMul,Nat.reduceLeDiff,reduceIte,Nat.reduceEqDiff,Nat.reduceAdd,↓reduceIte,Tryz.vcT,F,h.cell0,gets,vsD,if_true,if_false,Bool.false_eq_true,cellsAt,MapV.cells,slS,cellsAt,decide_true,decide_false,↓stop_if 22,isReg_hit 22]
    have g:=good_wi em hn
    have h0 : (0 : Int)≤65535:=by decide
    obtain ⟨m2,e2⟩ : ∃ m2 : MapV,m2 = { m with wi:=n }:=⟨_,rfl⟩
    replace h : Sep w (fun _=>False) [blk b5 33 (m2.cells (slS m p1 p2 p3 p4 p5 p6 p7 p8)),mapX m2 (slS m p1 p2 p3 p4 p5 p6 p7 p8)] w9:=by rw [e2];exact h.mapOpen.mapShut
    rw [← e2] at g
    clear e2 F
    generalize (65535 : Int) = most at *
  case' inr.inr.inr.inl=>
    replace h:=Zd h;have F:=Zf4 h;try simp -dsimp only [↓vcA,vcB,vcD,↓pureT_lenS,↓iteT,↓iteF,cond_true,cond_false,eq_self,argE,Env.get,Env.push,ev,evs,evo,retV,Value.cells,Value.oneCell',setR,overR,fillL,zl,places,allSizes,heldC,ne_eq,Int.reduceLE,Int.reduceLT,Int.reduceEq,Int.reduceNe,Int.reduceToNat,Int.cast_ofNat_Int,Nat.reduceMul,Nat.reduceLeDiff,reduceIte,Nat.reduceEqDiff,Nat.reduceAdd,↓reduceIte,Tryz.vcT,F,h.cell0,gets,vsD,if_true,if_false,Bool.false_eq_true,cellsAt,MapV.cells,slS,cellsAt,decide_true,decide_false,↓stop_if 22,isReg_hit 22]
    refine Sep.put 1 h rfl ?_
    clear h F
    intro w9 h
    replace h:=Zd h;have F:=Zf4 h;try simp -dsimp only [↓vcA,vcB,vcD,↓pureT_lenS,↓iteT,↓iteF,cond_true,cond_false,eq_self,argE,Env.get,Env.push,ev,evs,evo,retV,Value.cells,Value.oneCell',setR,overR,fillL,zl,places,allSizes,heldC,ne_eq,Int.reduceLE,Int.reduceLT,Int.reduceEq,Int.reduceNe,Int.reduceToNat,Int.cast_ofNat_Int,Nat.reduceMul,Nat.reduceLeDiff,reduceIte,Nat.reduceEqDiff,Nat.reduceAdd,↓reduceIte,Tryz.vcT,F,h.cell0,gets,vsD,if_true,if_false,Bool.false_eq_true,cellsAt,MapV.cells,slS,cellsAt,decide_true,decide_false,↓stop_if 22,isReg_hit 22]
    have g:=good_ti em hn
    have h0 : (0 : Int)≤4294967295:=by decide
    obtain ⟨m2,e2⟩ : ∃ m2 : MapV,m2 = { m with ti:=n }:=⟨_,rfl⟩
    replace h : Sep w (fun _=>False) [blk b5 33 (m2.cells (slS m p1 p2 p3 p4 p5 p6 p7 p8)),mapX m2 (slS m p1 p2 p3 p4 p5 p6 p7 p8)] w9:=by rw [e2];exact h.mapOpen.mapShut
    rw [← e2] at g
    clear e2 F
    generalize (4294967295 : Int) = most at *
  case' inr.inr.inr.inr.inl=>
    replace h:=Zd h;have F:=Zf4 h
    have hj:=hm.p
    obtain ⟨qa,qc⟩ :=p1
    have RT:=F.1.p
    obtain ⟨bb,oo,ea,_⟩ :=Tab.at RT hj (by decide)
    dsimp only at ea
    subst ea
    replace h:=h.mapOpen
    clear F RT
    replace h:=Zd h;have F:=Zf4 h;try simp -dsimp only [↓vcA,vcB,vcD,↓pureT_lenS,↓iteT,↓iteF,cond_true,cond_false,eq_self,argE,Env.get,Env.push,ev,evs,evo,retV,Value.cells,Value.oneCell',setR,overR,fillL,zl,places,allSizes,heldC,ne_eq,Int.reduceLE,Int.reduceLT,Int.reduceEq,Int.reduceNe,Int.reduceToNat,Int.cast_ofNat_Int,Nat.reduceMul,Nat.reduceLeDiff,reduceIte,Nat.reduceEqDiff,Nat.reduceAdd,↓reduceIte,Tryz.vcT,F,h.cell0,gets,vsD,if_true,if_false,Bool.false_eq_true,cellsAt,MapV.cells,slS,cellsAt,decide_true,decide_false,↓stop_if 22,isReg_hit 22]
    refine ⟨by omega,Sep.tabCell 8 0 0 n h rfl hj (by decide) (by omega) ?_⟩
    clear h F
    intro w9 h
    replace h:=Zd h;have F:=Zf4 h;try simp -dsimp only [↓vcA,vcB,vcD,↓pureT_lenS,↓iteT,↓iteF,cond_true,cond_false,eq_self,argE,Env.get,Env.push,ev,evs,evo,retV,Value.cells,Value.oneCell',setR,overR,fillL,zl,places,allSizes,heldC,ne_eq,Int.reduceLE,Int.reduceLT,Int.reduceEq,Int.reduceNe,Int.reduceToNat,Int.cast_ofNat_Int,Nat.reduceMul,Nat.reduceLeDiff,reduceIte,Nat.reduceEqDiff,Nat.reduceAdd,↓reduceIte,Tryz.vcT,F,h.cell0,gets,vsD,if_true,if_false,Bool.false_eq_true,cellsAt,MapV.cells,slS,cellsAt,decide_true,decide_false,↓stop_if 22,isReg_hit 22]
    have g:=good_p em hj hn
    have h0 : (0 : Int)≤16777215:=by decide
    obtain ⟨m2,e2⟩ : ∃ m2 : MapV,m2 = { m with p:=m.p.set 0 (m.p[0].set 0 n) }:=⟨_,rfl⟩
    replace h : Sep w (fun _=>False) [blk b5 33 (m2.cells (slS m ((some ⟨bb,oo,none⟩ : Option Addr),qc) p2 p3 p4 p5 p6 p7 p8)),mapX m2 (slS m ((some ⟨bb,oo,none⟩ : Option Addr),qc) p2 p3 p4 p5 p6 p7 p8)] w9:=by rw [e2];exact h.mapShut
    rw [← e2] at g
    clear e2 F
    generalize (16777215 : Int) = most at *
    generalize ((some ⟨bb,oo,none⟩ : Option Addr),qc) = p1 at h
  case' inr.inr.inr.inr.inr.inl=>
    replace h:=Zd h;have F:=Zf4 h
    have hj:=hm.w
    obtain ⟨qa,qc⟩ :=p2
    have RT:=F.1.wa
    obtain ⟨bb,oo,ea,_⟩ :=Tab.at RT hj (by decide)
    dsimp only at ea
    subst ea
    replace h:=h.mapOpen
    clear F RT
    replace h:=Zd h;have F:=Zf4 h;try simp -dsimp only [↓vcA,vcB,vcD,↓pureT_lenS,↓iteT,↓iteF,cond_true,cond_false,eq_self,argE,Env.get,Env.push,ev,evs,evo,retV,Value.cells,Value.oneCell',setR,overR,fillL,zl,places,allSizes,heldC,ne_eq,Int.reduceLE,Int.reduceLT,Int.reduceEq,Int.reduceNe,Int.reduceToNat,Int.cast_ofNat_Int,Nat.reduceMul,Nat.reduceLeDiff,reduceIte,Nat.reduceEqDiff,Nat.reduceAdd,↓reduceIte,Tryz.vcT,F,h.cell0,gets,vsD,if_true,if_false,Bool.false_eq_true,cellsAt,MapV.cells,slS,cellsAt,decide_true,decide_false,↓stop_if 22,isReg_hit 22]
    refine ⟨by omega,Sep.tabCell 7 0 4 n h rfl hj (by decide) (by omega) ?_⟩
    clear h F
    intro w9 h
    replace h:=Zd h;have F:=Zf4 h;try simp -dsimp only [↓vcA,vcB,vcD,↓pureT_lenS,↓iteT,↓iteF,cond_true,cond_false,eq_self,argE,Env.get,Env.push,ev,evs,evo,retV,Value.cells,Value.oneCell',setR,overR,fillL,zl,places,allSizes,heldC,ne_eq,Int.reduceLE,Int.reduceLT,Int.reduceEq,Int.reduceNe,Int.reduceToNat,Int.cast_ofNat_Int,Nat.reduceMul,Nat.reduceLeDiff,reduceIte,Nat.reduceEqDiff,Nat.reduceAdd,↓reduceIte,Tryz.vcT,F,h.cell0,gets,vsD,if_true,if_false,Bool.false_eq_true,cellsAt,MapV.cells,slS,cellsAt,decide_true,decide_false,↓stop_if 22,isReg_hit 22]
    have g:=good_wa em hj hn
    have h0 : (0 : Int)≤255:=by decide
    obtain ⟨m2,e2⟩ : ∃ m2 : MapV,m2 = { m with wa:=m.wa.set 0 (m.wa[0].set 4 n) }:=⟨_,rfl⟩
    replace h : Sep w (fun _=>False) [blk b5 33 (m2.cells (slS m p1 ((some ⟨bb,oo,none⟩ : Option Addr),qc) p3 p4 p5 p6 p7 p8)),mapX m2 (slS m p1 ((some ⟨bb,oo,none⟩ : Option Addr),qc) p3 p4 p5 p6 p7 p8)] w9:=by rw [e2];exact h.mapShut
    rw [← e2] at g
    clear e2 F
    generalize (255 : Int) = most at *
    generalize ((some ⟨bb,oo,none⟩ : Option Addr),qc) = p2 at h
  case' inr.inr.inr.inr.inr.inr.inl=>
    replace h:=Zd h;have F:=Zf4 h
    have hj:=hm.r
    obtain ⟨qa,qc⟩ :=p4
    have RT:=F.1.re
    obtain ⟨bb,oo,ea,_⟩ :=Tab.at RT hj (by decide)
    dsimp only at ea
    subst ea
    replace h:=h.mapOpen
    clear F RT
    replace h:=Zd h;have F:=Zf4 h;try simp -dsimp only [↓vcA,vcB,vcD,↓pureT_lenS,↓iteT,↓iteF,cond_true,cond_false,eq_self,argE,Env.get,Env.push,ev,evs,evo,retV,Value.cells,Value.oneCell',setR,overR,fillL,zl,places,allSizes,heldC,ne_eq,Int.reduceLE,Int.reduceLT,Int.reduceEq,Int.reduceNe,Int.reduceToNat,Int.cast_ofNat_Int,Nat.reduceMul,Nat.reduceLeDiff,reduceIte,Nat.reduceEqDiff,Nat.reduceAdd,↓reduceIte,Tryz.vcT,F,h.cell0,gets,vsD,if_true,if_false,Bool.false_eq_true,cellsAt,MapV.cells,slS,cellsAt,decide_true,decide_false,↓stop_if 22,isReg_hit 22]
    refine ⟨by omega,Sep.tabCell 5 0 1 n h rfl hj (by decide) (by omega) ?_⟩
    clear h F
    intro w9 h
    replace h:=Zd h;have F:=Zf4 h;try simp -dsimp only [↓vcA,vcB,vcD,↓pureT_lenS,↓iteT,↓iteF,cond_true,cond_false,eq_self,argE,Env.get,Env.push,ev,evs,evo,retV,Value.cells,Value.oneCell',setR,overR,fillL,zl,places,allSizes,heldC,ne_eq,Int.reduceLE,Int.reduceLT,Int.reduceEq,Int.reduceNe,Int.reduceToNat,Int.cast_ofNat_Int,Nat.reduceMul,Nat.reduceLeDiff,reduceIte,Nat.reduceEqDiff,Nat.reduceAdd,↓reduceIte,Tryz.vcT,F,h.cell0,gets,vsD,if_true,if_false,Bool.false_eq_true,cellsAt,MapV.cells,slS,cellsAt,decide_true,decide_false,↓stop_if 22,isReg_hit 22]
    have g:=good_re em hj hn
    have h0 : (0 : Int)≤65535:=by decide
    obtain ⟨m2,e2⟩ : ∃ m2 : MapV,m2 = { m with re:=m.re.set 0 (m.re[0].set 1 n) }:=⟨_,rfl⟩
    replace h : Sep w (fun _=>False) [blk b5 33 (m2.cells (slS m p1 p2 p3 ((some ⟨bb,oo,none⟩ : Option Addr),qc) p5 p6 p7 p8)),mapX m2 (slS m p1 p2 p3 ((some ⟨bb,oo,none⟩ : Option Addr),qc) p5 p6 p7 p8)] w9:=by rw [e2];exact h.mapShut
    rw [← e2] at g
    clear e2 F
    generalize (65535 : Int) = most at *
    generalize ((some ⟨bb,oo,none⟩ : Option Addr),qc) = p4 at h
  case' inr.inr.inr.inr.inr.inr.inr.inl=>
    replace h:=Zd h;have F:=Zf4 h
    have hj:=hm.c
    obtain ⟨qa,qc⟩ :=p5
    have RT:=F.1.ca
    obtain ⟨bb,oo,ea,_⟩ :=Tab.at RT hj (by decide)
    dsimp only at ea
    subst ea
    replace h:=h.mapOpen
    clear F RT
    replace h:=Zd h;have F:=Zf4 h;try simp -dsimp only [↓vcA,vcB,vcD,↓pureT_lenS,↓iteT,↓iteF,cond_true,cond_false,eq_self,argE,Env.get,Env.push,ev,evs,evo,retV,Value.cells,Value.oneCell',setR,overR,fillL,zl,places,allSizes,heldC,ne_eq,Int.reduceLE,Int.reduceLT,Int.reduceEq,Int.reduceNe,Int.reduceToNat,Int.cast_ofNat_Int,Nat.reduceMul,Nat.reduceLeDiff,reduceIte,Nat.reduceEqDiff,Nat.reduceAdd,↓reduceIte,Tryz.vcT,F,h.cell0,gets,vsD,if_true,if_false,Bool.false_eq_true,cellsAt,MapV.cells,slS,cellsAt,decide_true,decide_false,↓stop_if 22,isReg_hit 22]
    refine ⟨by omega,Sep.tabCell 4 0 6 n h rfl hj (by decide) (by omega) ?_⟩
    clear h F
    intro w9 h
    replace h:=Zd h;have F:=Zf4 h;try simp -dsimp only [↓vcA,vcB,vcD,↓pureT_lenS,↓iteT,↓iteF,cond_true,cond_false,eq_self,argE,Env.get,Env.push,ev,evs,evo,retV,Value.cells,Value.oneCell',setR,overR,fillL,zl,places,allSizes,heldC,ne_eq,Int.reduceLE,Int.reduceLT,Int.reduceEq,Int.reduceNe,Int.reduceToNat,Int.cast_ofNat_Int,Nat.reduceMul,Nat.reduceLeDiff,reduceIte,Nat.reduceEqDiff,Nat.reduceAdd,↓reduceIte,Tryz.vcT,F,h.cell0,gets,vsD,if_true,if_false,Bool.false_eq_true,cellsAt,MapV.cells,slS,cellsAt,decide_true,decide_false,↓stop_if 22,isReg_hit 22]
    have g:=good_ca em hj hn
    have h0 : (0 : Int)≤4294967295:=by decide
    obtain ⟨m2,e2⟩ : ∃ m2 : MapV,m2 = { m with ca:=m.ca.set 0 (m.ca[0].set 6 n) }:=⟨_,rfl⟩
    replace h : Sep w (fun _=>False) [blk b5 33 (m2.cells (slS m p1 p2 p3 p4 ((some ⟨bb,oo,none⟩ : Option Addr),qc) p6 p7 p8)),mapX m2 (slS m p1 p2 p3 p4 ((some ⟨bb,oo,none⟩ : Option Addr),qc) p6 p7 p8)] w9:=by rw [e2];exact h.mapShut
    rw [← e2] at g
    clear e2 F
    generalize (4294967295 : Int) = most at *
    generalize ((some ⟨bb,oo,none⟩ : Option Addr),qc) = p5 at h
  case' inr.inr.inr.inr.inr.inr.inr.inr=>
    replace h:=Zd h;have F:=Zf4 h
    have hj:=hm.i
    obtain ⟨qa,qc⟩ :=p6
    have RT:=F.1.is
    obtain ⟨bb,oo,ea,_⟩ :=Tab.at RT hj (by decide)
    dsimp only at ea
    subst ea
    replace h:=h.mapOpen
    clear F RT
    replace h:=Zd h;have F:=Zf4 h;try simp -dsimp only [↓vcA,vcB,vcD,↓pureT_lenS,↓iteT,↓iteF,cond_true,cond_false,eq_self,argE,Env.get,Env.push,ev,evs,evo,retV,Value.cells,Value.oneCell',setR,overR,fillL,zl,places,allSizes,heldC,ne_eq,Int.reduceLE,Int.reduceLT,Int.reduceEq,Int.reduceNe,Int.reduceToNat,Int.cast_ofNat_Int,Nat.reduceMul,Nat.reduceLeDiff,reduceIte,Nat.reduceEqDiff,Nat.reduceAdd,↓reduceIte,Tryz.vcT,F,h.cell0,gets,vsD,if_true,if_false,Bool.false_eq_true,cellsAt,MapV.cells,slS,cellsAt,decide_true,decide_false,↓stop_if 22,isReg_hit 22]
    refine ⟨by omega,Sep.tabCell 3 0 2 n h rfl hj (by decide) (by omega) ?_⟩
    clear h F
    intro w9 h
    replace h:=Zd h;have F:=Zf4 h;try simp -dsimp only [↓vcA,vcB,vcD,↓pureT_lenS,↓iteT,↓iteF,cond_true,cond_false,eq_self,argE,Env.get,Env.push,ev,evs,evo,retV,Value.cells,Value.oneCell',setR,overR,fillL,zl,places,allSizes,heldC,ne_eq,Int.reduceLE,Int.reduceLT,Int.reduceEq,Int.reduceNe,Int.reduceToNat,Int.cast_ofNat_Int,Nat.reduceMul,Nat.reduceLeDiff,reduceIte,Nat.reduceEqDiff,Nat.reduceAdd,↓reduceIte,Tryz.vcT,F,h.cell0,gets,vsD,if_true,if_false,Bool.false_eq_true,cellsAt,MapV.cells,slS,cellsAt,decide_true,decide_false,↓stop_if 22,isReg_hit 22]
    have g:=good_is em hj hn
    have h0 : (0 : Int)≤255:=by decide
    obtain ⟨m2,e2⟩ : ∃ m2 : MapV,m2 = { m with is:=m.is.set 0 (m.is[0].set 2 n) }:=⟨_,rfl⟩
    replace h : Sep w (fun _=>False) [blk b5 33 (m2.cells (slS m p1 p2 p3 p4 p5 ((some ⟨bb,oo,none⟩ : Option Addr),qc) p7 p8)),mapX m2 (slS m p1 p2 p3 p4 p5 ((some ⟨bb,oo,none⟩ : Option Addr),qc) p7 p8)] w9:=by rw [e2];exact h.mapShut
    rw [← e2] at g
    clear e2 F
    generalize (255 : Int) = most at *
    generalize ((some ⟨bb,oo,none⟩ : Option Addr),qc) = p6 at h
  all_goals
    clear hz em hm
    unfold stopT
    replace h:=Zd h;have F:=Zf4 h
    replace h:=Zd h;have F:=Zf4 h;refine Zc1 (J (@MapV.cells.eq_1) (@slS.eq_1)) ?_
    refine Sep.enc (m:=m2) (s:=slS m p1 p2 p3 p4 p5 p6 p7 p8) h F.2.1 g.ok g.room ?_
    clear h F
    intro a7 c7 w7 h
    by_cases g1 : n < 0
    · have hf:=g.no (by omega)
      have eb : m2.bytes = []:=by simp [MapV.bytes,hf]
      rw [hf,eb]
      replace h:=Zd h;have F:=Zf4 h;try simp -dsimp only [↓vcA,vcB,vcD,↓pureT_lenS,↓iteT,↓iteF,cond_true,cond_false,eq_self,argE,Env.get,Env.push,ev,evs,evo,retV,Value.cells,Value.oneCell',setR,overR,fillL,zl,places,allSizes,heldC,ne_eq,Int.reduceLE,Int.reduceLT,Int.reduceEq,Int.reduceNe,Int.reduceToNat,Int.cast_ofNat_Int,Nat.reduceMul,Nat.reduceLeDiff,reduceIte,Nat.reduceEqDiff,Nat.reduceAdd,↓reduceIte,Tryz.vcT,F,h.cell0,gets,vsD,if_true,if_false,Bool.false_eq_true,cellsAt,MapV.cells,slS,cellsAt,decide_eq_true g1,List.length_nil,if_true]
      refine aw h ?_
      clear h F
      intro w8 h
      replace h:=Zd h;have F:=Zf4 h;refine Zc ?_
      exact h.done
    by_cases g2 : most < n
    · have hf:=g.no (by omega)
      have eb : m2.bytes = []:=by simp [MapV.bytes,hf]
      rw [hf,eb]
      replace h:=Zd h;have F:=Zf4 h;try simp -dsimp only [↓vcA,vcB,vcD,↓pureT_lenS,↓iteT,↓iteF,cond_true,cond_false,eq_self,argE,Env.get,Env.push,ev,evs,evo,retV,Value.cells,Value.oneCell',setR,overR,fillL,zl,places,allSizes,heldC,ne_eq,Int.reduceLE,Int.reduceLT,Int.reduceEq,Int.reduceNe,Int.reduceToNat,Int.cast_ofNat_Int,Nat.reduceMul,Nat.reduceLeDiff,reduceIte,Nat.reduceEqDiff,Nat.reduceAdd,↓reduceIte,Tryz.vcT,F,h.cell0,gets,vsD,if_true,if_false,Bool.false_eq_true,cellsAt,MapV.cells,slS,cellsAt,decide_eq_false g1,decide_eq_true g2,List.length_nil,if_true]
      refine aw h ?_
      clear h F
      intro w8 h
      replace h:=Zd h;have F:=Zf4 h;refine Zc ?_
      exact h.done
    have em:=g.yes (by omega)
    have bm:=m2.bytes_byt em.byt
    have lm:=em.len
    rw [em.fails]
    replace h:=Zd h;have F:=Zf4 h;refine Zc1 (J (@MapV.cells.eq_1) (J (@slS.eq_1) (J (decide_eq_false g1) (decide_eq_false g2)))) ?_
    refine Sep.dec h F.2.2.1 em.fine bm (by omega) ?_
    clear h F
    intro r1 r2 r3 r4 r5 r6 r7 r8 w10 h
    replace h:=Zd h;have F:=Zf4 h;refine Zc1 (J (@MapV.cells.eq_1) (@slS.eq_1)) ?_
    refine h.new ?_
    clear h F
    intro _ b11 h
    replace h:=Zd h;have F:=Zf4 h;refine Zc1 (J (@MapV.cells.eq_1) (@slS.eq_1)) ?_
    refine Sep.put 4 h rfl ?_
    clear h F
    intro _ h
    replace h:=Zd h;have F:=Zf4 h;refine Zc1 (J (@MapV.cells.eq_1) (@slS.eq_1)) ?_
    refine Sep.callp h (same63 m2 m2 (slS m2 r1 r2 r3 r4 r5 r6 r7 r8) (slS m p1 p2 p3 p4 p5 p6 p7 p8) _ F.2.2.2.1 F.2.1 em.byt em.byt) ?_
    clear h F
    intro w12 h
    rw [MapV.same_iff.2 rfl]
    replace h:=Zd h;have F:=Zf4 h;refine Zc1 (J (@MapV.cells.eq_1) (@slS.eq_1)) ?_
    refine aw h ?_
    clear h F
    intro w13 h
    replace h:=Zd h;have F:=Zf4 h;refine Zc ?_
    exact h.done
end Go.Proofs.YtnhgjgoglmadnaaGreat
