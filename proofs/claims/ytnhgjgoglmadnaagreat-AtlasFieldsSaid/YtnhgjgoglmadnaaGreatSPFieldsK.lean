/- Joined texts of this claim (part 37), printed by a program of this work. The last part holds the claimed theorem: the law answers true at every input of its row. -/
import Derived.Test.YtnhgjgoglmadnaaGreatSPFieldsJ
set_option maxHeartbeats 4000000
namespace Go.Proofs.YtnhgjgoglmadnaaGreat
open Go.RowKit
set_option maxRecDepth 100000
set_option linter.unusedSimpArgs false
set_option linter.unusedVariables false
theorem Sep.at12 {w0 w : World} {M : List Res} {v : Value} {l : List Int} {K : Value → World → Prop} (h : Sep w0 (fun _ => False) M w) (hv : Ints w0 v l) (i : Nat) (n : Int) (hi : i ≤ 1000000) (hn : 0 < n ∧ n ≤ 1000000000000)
    (hk : ∀ w1,Sep w0 (fun _=>False) M w1→K (.int .i64 (atI l i n)) w1) : callsK Tryz.prog 12 #[v,.int .i64 (i : Int),.int .i64 n] w K:=
  h.callp (Go.Proofs.YtnhgjgoglmadnaaGreat.at12 l i n hi hn w (Tab.sep hv h fun _ _ f=>f)) hk
theorem Sep.at12q {w0 w : World} {M : List Res} {v : Value} {l : List Int} {K : Value → World → Prop} {q : Int} (h : Sep w0 (fun _ => False) M w) (hv : Ints w0 v l) (i : Nat) (n : Int) (hi : i ≤ 1000000) (hn : 0 < n ∧ n ≤ 1000000000000) (e : atI l i n = q)
    (hk : ∀ w1,Sep w0 (fun _=>False) M w1→K (.int .i64 q) w1) : callsK Tryz.prog 12 #[v,.int .i64 (i : Int),.int .i64 n] w K:=h.at12 hv i n hi hn (e▸hk)
theorem atI_nat (l : List Int) (i n : Nat) (h : 0 < n) : ∃ q : Nat,q < n∧atI l (i : Int) (n : Int) = (q : Int):=by
  have:=atI_in (l:=l) (i:=(i : Int)) (n:=(n : Int)) (by omega)
  exact ⟨(atI l i n).toNat,by omega,by omega⟩
def BaseSt (I : Nat→MeshE→Prop) (w : World) (v : Value) (X Y x y kd : Int) (bc b8 N B : Nat) (E' : Env) (w' : World) : Prop:=
  (E'.get 0 = some v∧E'.get 3 = some (.int .i64 X)∧E'.get 4 = some (.int .i64 Y)∧E'.get 5 = some (.pointer (some ⟨bc,0,none⟩))∧E'.get 6 = some (.int .i64 x)∧E'.get 7 = some (.int .i64 y)∧E'.get 8 = some (.pointer (some ⟨b8,0,none⟩))∧E'.get 9 = some (.int .i64 kd))∧
  ∃ n E W,n≤N∧I n E∧okWs W∧4≤W.length∧W.length≤B∧Sep w (fun _=>False) [cdt bc X Y E W,blk b8 45 [.int .i64 x,.int .i64 y]] w'
theorem base11 {I : Nat → MeshE → Prop} {Φ : MeshE → Nat} (T : LandT I Φ) {w : World} {v : Value} (l : List Int) (hv : Ints w v l) : Calls Tryz.prog 11 [v].toArray w
    (RetK fun r w'=>∃ (bc : Nat) (X Y : Int) (n : Nat) (E : MeshE) (W : List (List Int)),(4≤X∧X≤12)∧(4≤Y∧Y≤12)∧n≤16∧I n E∧okWs W∧4≤W.length∧W.length≤6000∧r = .pointer (some ⟨bc,0,none⟩)∧Sep w (fun _=>False) [cdt bc X Y E W] w'):=by
  have h:=Sep.nil w
  have a0:=atI_in (l:=l) (i:=((0 : Nat) : Int)) (n:=9) (by omega)
  have a1:=atI_in (l:=l) (i:=((1 : Nat) : Int)) (n:=9) (by omega)
  refine walk Tryz.func11 rfl (by kernel_rfl) (by rw [Tryz.nt11];simp) ?_
  replace h:=Zd h;have F:=Zf7 h
  refine Zv ?_
  refine h.at12 hv 0 9 (by omega) (by omega) ?_
  clear h F
  intro _ h
  generalize atI l ((0 : Nat) : Int) 9 = p0 at *
  have e0 : IntKind.i64.wrap (4 + p0) = 4 + p0:=by rw [i64w _ (by omega) (by omega)]
  replace h:=Zd h;have F:=Zf7 h;refine Zc1 e0 ?_
  refine h.at12 hv 1 9 (by omega) (by omega) ?_
  clear h F
  intro _ h
  generalize atI l ((1 : Nat) : Int) 9 = p1 at *
  have e1 : IntKind.i64.wrap (4 + p1) = 4 + p1:=by rw [i64w _ (by omega) (by omega)]
  replace h:=Zd h;have F:=Zf7 h;refine Zc1 (J e0 e1) ?_
  obtain ⟨X,hX,eX⟩ : ∃ X : Int,(4≤X∧X≤12)∧4 + p0 = X:=⟨_,by omega,rfl⟩
  obtain ⟨Y,hY,eY⟩ : ∃ Y : Int,(4≤Y∧Y≤12)∧4 + p1 = Y:=⟨_,by omega,rfl⟩
  rw [eX,eY]
  clear e0 e1 eX eY a0 a1
  obtain ⟨E0,hE0,hI0⟩ :=T.sq X Y (by omega) (by omega)
  refine h.callN (Q:=fun v N=>∃ bc E,I 0 E∧v = .pointer (some ⟨bc,0,none⟩)∧N = [cdt bc X Y E (sqW X Y 4)]) ((newCDT73 (fun W=>T.rep 0 W (by omega)) (by omega) (by omega) hE0 hI0).mono fun ex w' ⟨v,er,bc,E',hI',ev,k⟩ =>⟨v,er,_,k,fun q hq x hx=>(by simp at hq;subst hq;exact hx),bc,E',hI',ev,rfl⟩) ?_
  clear h F hI0 hE0
  rintro _ _ w3 ⟨bc,E,hI,rfl,rfl⟩ h
  have hW4:=sqW_len X Y 4
  have hok:=okWs.sq X Y 4
  generalize sqW X Y 4 = W at *
  have eX : IntKind.i64.wrap (X - 1) = X - 1:=by rw [i64w _ (by omega) (by omega)]
  have eY : IntKind.i64.wrap (Y - 1) = Y - 1:=by rw [i64w _ (by omega) (by omega)]
  replace h:=Zd h;have F:=Zf7 h;refine Zc1 (J eX eY) ?_
  have a2:=atI_in (l:=l) (i:=((2 : Nat) : Int)) (n:=X - 1) (by omega)
  refine h.at12 hv 2 (X - 1) (by omega) (by omega) ?_
  clear h F
  intro _ h
  generalize atI l ((2 : Nat) : Int) (X - 1) = p2 at *
  have e2 : IntKind.i64.wrap (1 + p2) = 1 + p2:=by rw [i64w _ (by omega) (by omega)]
  replace h:=Zd h;have F:=Zf7 h;refine Zc1 (J eX (J eY e2)) ?_
  have a3:=atI_in (l:=l) (i:=((3 : Nat) : Int)) (n:=Y - 1) (by omega)
  refine h.at12 hv 3 (Y - 1) (by omega) (by omega) ?_
  clear h F
  intro _ h
  generalize atI l ((3 : Nat) : Int) (Y - 1) = p3 at *
  have e3 : IntKind.i64.wrap (1 + p3) = 1 + p3:=by rw [i64w _ (by omega) (by omega)]
  replace h:=Zd h;have F:=Zf7 h;refine Zc1 (J eX (J eY (J e2 e3))) ?_
  obtain ⟨x,hx,ex⟩ : ∃ x : Int,(1≤x∧x≤12)∧1 + p2 = x:=⟨_,by omega,rfl⟩
  obtain ⟨y,hy,ey⟩ : ∃ y : Int,(1≤y∧y≤12)∧1 + p3 = y:=⟨_,by omega,rfl⟩
  rw [ex,ey]
  clear e2 e3 ex ey a2 a3
  refine h.new ?_
  clear h F
  intro _ b8 h
  replace h:=Zd h;have F:=Zf7 h;refine Zc ?_
  refine Sep.put 1 h rfl ?_
  clear h F
  intro _ h
  replace h:=Zd h;have F:=Zf7 h;refine Zc ?_
  refine h.at12 hv 4 4 (by omega) (by omega) ?_
  clear h F
  intro w5 h
  have a4:=atI_in (l:=l) (i:=((4 : Nat) : Int)) (n:=4) (by omega)
  generalize atI l ((4 : Nat) : Int) 4 = kd at *
  replace h:=Zd h;have F:=Zf7 h;try simp -dsimp only [↓vcA,vcB,vcD,↓pureT_lenS,↓iteT,↓iteF,cond_true,cond_false,eq_self,argE,Env.get,Env.push,ev,evs,evo,retV,Value.cells,Value.oneCell',setR,overR,fillL,zl,places,allSizes,heldC,ne_eq,Int.reduceLE,Int.reduceLT,Int.reduceEq,Int.reduceNe,Int.reduceToNat,Int.cast_ofNat_Int,Nat.reduceMul,Nat.reduceLeDiff,reduceIte,Nat.reduceEqDiff,Nat.reduceAdd,↓reduceIte,Tryz.vcT,F,h.cell0,gets,vsD,if_true,if_false,Bool.false_eq_true,cellsAt,↓stop_if 6,isReg_hit 6]
  apply viaStop (P:=Tryz.prog) (fun E' w'=>BaseSt I w v X Y x y kd bc b8 0 4 E' w')
  case a=>
    intro key
    refine key _ _ ?_
    exact ⟨⟨rfl,rfl,rfl,rfl,rfl,rfl,rfl,rfl⟩,0,E,W,by omega,hI,hok,by omega,by omega,h⟩
  clear h hI hok hW4
  try clear F
  apply viaStop (P:=Tryz.prog) (fun E' w'=>BaseSt I w v X Y x y kd bc b8 2 8 E' w')
  case a=>
    intro key9
    apply viaStop (P:=Tryz.prog) (fun E' w'=>BaseSt I w v X Y x y kd bc b8 0 4 E' w')
    case a=>
      intro key7
      rintro E' w' ⟨⟨g0,g3,g4,g5,g6,g7,g8,g9⟩,n,E,W,hn,hI,hok,h4,hB,h⟩
      unfold stopT
      replace h:=Zd h;have F:=Zf7 h
      by_cases k1 : kd = 1
      · replace h:=Zd h;have F:=Zf7 h;try simp -dsimp only [↓vcA,vcB,vcD,↓pureT_lenS,↓iteT,↓iteF,cond_true,cond_false,eq_self,argE,Env.get,Env.push,ev,evs,evo,retV,Value.cells,Value.oneCell',setR,overR,fillL,zl,places,allSizes,heldC,ne_eq,Int.reduceLE,Int.reduceLT,Int.reduceEq,Int.reduceNe,Int.reduceToNat,Int.cast_ofNat_Int,Nat.reduceMul,Nat.reduceLeDiff,reduceIte,Nat.reduceEqDiff,Nat.reduceAdd,↓reduceIte,Tryz.vcT,F,h.cell0,gets,vsD,if_true,if_false,Bool.false_eq_true,cellsAt,g0,g3,g4,g5,g6,g7,g8,g9,decide_eq_true k1,↓stop_if 7,isReg_hit 7,↓stop_if 9,isReg_hit 9]
        refine key7 _ _ ?_
        exact ⟨by (repeat' apply And.intro)<;>first | assumption | rfl,n,E,W,by omega,hI,hok,by omega,by omega,h⟩
      · replace h:=Zd h;have F:=Zf7 h;try simp -dsimp only [↓vcA,vcB,vcD,↓pureT_lenS,↓iteT,↓iteF,cond_true,cond_false,eq_self,argE,Env.get,Env.push,ev,evs,evo,retV,Value.cells,Value.oneCell',setR,overR,fillL,zl,places,allSizes,heldC,ne_eq,Int.reduceLE,Int.reduceLT,Int.reduceEq,Int.reduceNe,Int.reduceToNat,Int.cast_ofNat_Int,Nat.reduceMul,Nat.reduceLeDiff,reduceIte,Nat.reduceEqDiff,Nat.reduceAdd,↓reduceIte,Tryz.vcT,F,h.cell0,gets,vsD,if_true,if_false,Bool.false_eq_true,cellsAt,g0,g3,g4,g5,g6,g7,g8,g9,decide_eq_false k1,↓stop_if 7,isReg_hit 7,↓stop_if 9,isReg_hit 9]
        by_cases k3 : kd = 3
        · replace h:=Zd h;have F:=Zf7 h;try simp -dsimp only [↓vcA,vcB,vcD,↓pureT_lenS,↓iteT,↓iteF,cond_true,cond_false,eq_self,argE,Env.get,Env.push,ev,evs,evo,retV,Value.cells,Value.oneCell',setR,overR,fillL,zl,places,allSizes,heldC,ne_eq,Int.reduceLE,Int.reduceLT,Int.reduceEq,Int.reduceNe,Int.reduceToNat,Int.cast_ofNat_Int,Nat.reduceMul,Nat.reduceLeDiff,reduceIte,Nat.reduceEqDiff,Nat.reduceAdd,↓reduceIte,Tryz.vcT,F,h.cell0,gets,vsD,if_true,if_false,Bool.false_eq_true,cellsAt,g0,g3,g4,g5,g6,g7,g8,g9,decide_eq_true k3,↓stop_if 7,isReg_hit 7,↓stop_if 9,isReg_hit 9]
          refine key7 _ _ ?_
          exact ⟨by (repeat' apply And.intro)<;>first | assumption | rfl,n,E,W,by omega,hI,hok,by omega,by omega,h⟩
        · replace h:=Zd h;have F:=Zf7 h;try simp -dsimp only [↓vcA,vcB,vcD,↓pureT_lenS,↓iteT,↓iteF,cond_true,cond_false,eq_self,argE,Env.get,Env.push,ev,evs,evo,retV,Value.cells,Value.oneCell',setR,overR,fillL,zl,places,allSizes,heldC,ne_eq,Int.reduceLE,Int.reduceLT,Int.reduceEq,Int.reduceNe,Int.reduceToNat,Int.cast_ofNat_Int,Nat.reduceMul,Nat.reduceLeDiff,reduceIte,Nat.reduceEqDiff,Nat.reduceAdd,↓reduceIte,Tryz.vcT,F,h.cell0,gets,vsD,if_true,if_false,Bool.false_eq_true,cellsAt,g0,g3,g4,g5,g6,g7,g8,g9,decide_eq_false k3,↓stop_if 7,isReg_hit 7,↓stop_if 9,isReg_hit 9]
          refine key9 _ _ ?_
          exact ⟨by (repeat' apply And.intro)<;>first | assumption | rfl,n,E,W,by omega,hI,hok,by omega,by omega,h⟩
    case b=>
      rintro E' w' ⟨⟨g0,g3,g4,g5,g6,g7,g8,g9⟩,n,E,W,hn,hI,hok,h4,hB,h⟩
      unfold stopT
      replace h:=Zd h;have F:=Zf7 h
      replace h:=Zd h;have F:=Zf7 h;refine Zc1 (J g0 (J g3 (J g4 (J g5 (J g6 (J g7 (J g8 g9))))))) ?_
      refine Sep.bAdd T 0 x 0 hI (by omega) hok h4 hB (by omega) h rfl ?_
      clear h F hI hok h4
      intro r E1 W1 w7 hI hok h4 hB h
      replace h:=Zd h;have F:=Zf7 h;refine Zc1 (J g0 (J g3 (J g4 (J g5 (J g6 (J g7 (J g8 g9))))))) ?_
      refine Sep.bAdd T 0 x Y hI (by omega) hok h4 hB (by omega) h rfl ?_
      clear h F hI hok h4
      intro r2 E2 W2 w8 hI hok h4 hB h
      replace h:=Zd h;have F:=Zf7 h;try simp -dsimp only [↓vcA,vcB,vcD,↓pureT_lenS,↓iteT,↓iteF,cond_true,cond_false,eq_self,argE,Env.get,Env.push,ev,evs,evo,retV,Value.cells,Value.oneCell',setR,overR,fillL,zl,places,allSizes,heldC,ne_eq,Int.reduceLE,Int.reduceLT,Int.reduceEq,Int.reduceNe,Int.reduceToNat,Int.cast_ofNat_Int,Nat.reduceMul,Nat.reduceLeDiff,reduceIte,Nat.reduceEqDiff,Nat.reduceAdd,↓reduceIte,Tryz.vcT,F,h.cell0,gets,vsD,if_true,if_false,Bool.false_eq_true,cellsAt,g0,g3,g4,g5,g6,g7,g8,g9,↓stop_if 9,isReg_hit 9]
      refine key9 _ _ ?_
      exact ⟨by (repeat' apply And.intro)<;>first | assumption | rfl,n + 1 + 1,E2,W2,by omega,hI,hok,by omega,by omega,h⟩
  apply viaStop (P:=Tryz.prog) (fun E' w'=>BaseSt I w v X Y x y kd bc b8 4 12 E' w')
  case a=>
    intro keyN
    apply viaStop (P:=Tryz.prog) (fun E' w'=>BaseSt I w v X Y x y kd bc b8 2 8 E' w')
    case a=>
      intro keyA
      rintro E' w' ⟨⟨g0,g3,g4,g5,g6,g7,g8,g9⟩,n,E,W,hn,hI,hok,h4,hB,h⟩
      unfold stopT
      replace h:=Zd h;have F:=Zf7 h
      by_cases k1 : kd = 2
      · replace h:=Zd h;have F:=Zf7 h;try simp -dsimp only [↓vcA,vcB,vcD,↓pureT_lenS,↓iteT,↓iteF,cond_true,cond_false,eq_self,argE,Env.get,Env.push,ev,evs,evo,retV,Value.cells,Value.oneCell',setR,overR,fillL,zl,places,allSizes,heldC,ne_eq,Int.reduceLE,Int.reduceLT,Int.reduceEq,Int.reduceNe,Int.reduceToNat,Int.cast_ofNat_Int,Nat.reduceMul,Nat.reduceLeDiff,reduceIte,Nat.reduceEqDiff,Nat.reduceAdd,↓reduceIte,Tryz.vcT,F,h.cell0,gets,vsD,if_true,if_false,Bool.false_eq_true,cellsAt,g0,g3,g4,g5,g6,g7,g8,g9,decide_eq_true k1,↓stop_if 10,isReg_hit 10,↓stop_if 12,isReg_hit 12]
        refine keyA _ _ ?_
        exact ⟨by (repeat' apply And.intro)<;>first | assumption | rfl,n,E,W,by omega,hI,hok,by omega,by omega,h⟩
      · replace h:=Zd h;have F:=Zf7 h;try simp -dsimp only [↓vcA,vcB,vcD,↓pureT_lenS,↓iteT,↓iteF,cond_true,cond_false,eq_self,argE,Env.get,Env.push,ev,evs,evo,retV,Value.cells,Value.oneCell',setR,overR,fillL,zl,places,allSizes,heldC,ne_eq,Int.reduceLE,Int.reduceLT,Int.reduceEq,Int.reduceNe,Int.reduceToNat,Int.cast_ofNat_Int,Nat.reduceMul,Nat.reduceLeDiff,reduceIte,Nat.reduceEqDiff,Nat.reduceAdd,↓reduceIte,Tryz.vcT,F,h.cell0,gets,vsD,if_true,if_false,Bool.false_eq_true,cellsAt,g0,g3,g4,g5,g6,g7,g8,g9,decide_eq_false k1,↓stop_if 10,isReg_hit 10,↓stop_if 12,isReg_hit 12]
        by_cases k3 : kd = 3
        · replace h:=Zd h;have F:=Zf7 h;try simp -dsimp only [↓vcA,vcB,vcD,↓pureT_lenS,↓iteT,↓iteF,cond_true,cond_false,eq_self,argE,Env.get,Env.push,ev,evs,evo,retV,Value.cells,Value.oneCell',setR,overR,fillL,zl,places,allSizes,heldC,ne_eq,Int.reduceLE,Int.reduceLT,Int.reduceEq,Int.reduceNe,Int.reduceToNat,Int.cast_ofNat_Int,Nat.reduceMul,Nat.reduceLeDiff,reduceIte,Nat.reduceEqDiff,Nat.reduceAdd,↓reduceIte,Tryz.vcT,F,h.cell0,gets,vsD,if_true,if_false,Bool.false_eq_true,cellsAt,g0,g3,g4,g5,g6,g7,g8,g9,decide_eq_true k3,↓stop_if 10,isReg_hit 10,↓stop_if 12,isReg_hit 12]
          refine keyA _ _ ?_
          exact ⟨by (repeat' apply And.intro)<;>first | assumption | rfl,n,E,W,by omega,hI,hok,by omega,by omega,h⟩
        · replace h:=Zd h;have F:=Zf7 h;try simp -dsimp only [↓vcA,vcB,vcD,↓pureT_lenS,↓iteT,↓iteF,cond_true,cond_false,eq_self,argE,Env.get,Env.push,ev,evs,evo,retV,Value.cells,Value.oneCell',setR,overR,fillL,zl,places,allSizes,heldC,ne_eq,Int.reduceLE,Int.reduceLT,Int.reduceEq,Int.reduceNe,Int.reduceToNat,Int.cast_ofNat_Int,Nat.reduceMul,Nat.reduceLeDiff,reduceIte,Nat.reduceEqDiff,Nat.reduceAdd,↓reduceIte,Tryz.vcT,F,h.cell0,gets,vsD,if_true,if_false,Bool.false_eq_true,cellsAt,g0,g3,g4,g5,g6,g7,g8,g9,decide_eq_false k3,↓stop_if 10,isReg_hit 10,↓stop_if 12,isReg_hit 12]
          refine keyN _ _ ?_
          exact ⟨by (repeat' apply And.intro)<;>first | assumption | rfl,n,E,W,by omega,hI,hok,by omega,by omega,h⟩
    case b=>
      rintro E' w' ⟨⟨g0,g3,g4,g5,g6,g7,g8,g9⟩,n,E,W,hn,hI,hok,h4,hB,h⟩
      unfold stopT
      replace h:=Zd h;have F:=Zf7 h
      replace h:=Zd h;have F:=Zf7 h;refine Zc1 (J g0 (J g3 (J g4 (J g5 (J g6 (J g7 (J g8 g9))))))) ?_
      refine Sep.bAdd T 0 0 y hI (by omega) hok h4 hB (by omega) h rfl ?_
      clear h F hI hok h4
      intro r0 E0 W0 w7 hI hok h4 hB h
      replace h:=Zd h;have F:=Zf7 h;refine Zc1 (J g0 (J g3 (J g4 (J g5 (J g6 (J g7 (J g8 g9))))))) ?_
      refine Sep.bAdd T 0 X y hI (by omega) hok h4 hB (by omega) h rfl ?_
      clear h F hI hok h4
      intro r1 E1 W1 w8 hI hok h4 hB h
      replace h:=Zd h;have F:=Zf7 h;try simp -dsimp only [↓vcA,vcB,vcD,↓pureT_lenS,↓iteT,↓iteF,cond_true,cond_false,eq_self,argE,Env.get,Env.push,ev,evs,evo,retV,Value.cells,Value.oneCell',setR,overR,fillL,zl,places,allSizes,heldC,ne_eq,Int.reduceLE,Int.reduceLT,Int.reduceEq,Int.reduceNe,Int.reduceToNat,Int.cast_ofNat_Int,Nat.reduceMul,Nat.reduceLeDiff,reduceIte,Nat.reduceEqDiff,Nat.reduceAdd,↓reduceIte,Tryz.vcT,F,h.cell0,gets,vsD,if_true,if_false,Bool.false_eq_true,cellsAt,g0,g3,g4,g5,g6,g7,g8,g9,↓stop_if 12,isReg_hit 12]
      refine keyN _ _ ?_
      exact ⟨by (repeat' apply And.intro)<;>first | assumption | rfl,n + 1 + 1,E1,W1,by omega,hI,hok,by omega,by omega,h⟩
  apply viaStop (P:=Tryz.prog) (fun E' w'=>BaseSt I w v X Y x y kd bc b8 5 14 E' w')
  case a=>
    intro keyN
    apply viaStop (P:=Tryz.prog) (fun E' w'=>BaseSt I w v X Y x y kd bc b8 4 12 E' w')
    case a=>
      intro keyA
      rintro E' w' ⟨⟨g0,g3,g4,g5,g6,g7,g8,g9⟩,n,E,W,hn,hI,hok,h4,hB,h⟩
      unfold stopT
      replace h:=Zd h;have F:=Zf7 h
      by_cases k3 : kd = 3
      · replace h:=Zd h;have F:=Zf7 h;try simp -dsimp only [↓vcA,vcB,vcD,↓pureT_lenS,↓iteT,↓iteF,cond_true,cond_false,eq_self,argE,Env.get,Env.push,ev,evs,evo,retV,Value.cells,Value.oneCell',setR,overR,fillL,zl,places,allSizes,heldC,ne_eq,Int.reduceLE,Int.reduceLT,Int.reduceEq,Int.reduceNe,Int.reduceToNat,Int.cast_ofNat_Int,Nat.reduceMul,Nat.reduceLeDiff,reduceIte,Nat.reduceEqDiff,Nat.reduceAdd,↓reduceIte,Tryz.vcT,F,h.cell0,gets,vsD,if_true,if_false,Bool.false_eq_true,cellsAt,g0,g3,g4,g5,g6,g7,g8,g9,decide_eq_true k3,↓stop_if 13,isReg_hit 13,↓stop_if 14,isReg_hit 14]
        refine keyA _ _ ?_
        exact ⟨by (repeat' apply And.intro)<;>first | assumption | rfl,n,E,W,by omega,hI,hok,by omega,by omega,h⟩
      · replace h:=Zd h;have F:=Zf7 h;try simp -dsimp only [↓vcA,vcB,vcD,↓pureT_lenS,↓iteT,↓iteF,cond_true,cond_false,eq_self,argE,Env.get,Env.push,ev,evs,evo,retV,Value.cells,Value.oneCell',setR,overR,fillL,zl,places,allSizes,heldC,ne_eq,Int.reduceLE,Int.reduceLT,Int.reduceEq,Int.reduceNe,Int.reduceToNat,Int.cast_ofNat_Int,Nat.reduceMul,Nat.reduceLeDiff,reduceIte,Nat.reduceEqDiff,Nat.reduceAdd,↓reduceIte,Tryz.vcT,F,h.cell0,gets,vsD,if_true,if_false,Bool.false_eq_true,cellsAt,g0,g3,g4,g5,g6,g7,g8,g9,decide_eq_false k3,↓stop_if 13,isReg_hit 13,↓stop_if 14,isReg_hit 14]
        refine keyN _ _ ?_
        exact ⟨by (repeat' apply And.intro)<;>first | assumption | rfl,n,E,W,by omega,hI,hok,by omega,by omega,h⟩
    case b=>
      rintro E' w' ⟨⟨g0,g3,g4,g5,g6,g7,g8,g9⟩,n,E,W,hn,hI,hok,h4,hB,h⟩
      unfold stopT
      replace h:=Zd h;have F:=Zf7 h
      replace h:=Zd h;have F:=Zf7 h;refine Zc1 (J g0 (J g3 (J g4 (J g5 (J g6 (J g7 (J g8 g9))))))) ?_
      refine Sep.bAdd T 0 x y hI (by omega) hok h4 hB (by omega) h rfl ?_
      clear h F hI hok h4
      intro r0 E0 W0 w7 hI hok h4 hB h
      replace h:=Zd h;have F:=Zf7 h;try simp -dsimp only [↓vcA,vcB,vcD,↓pureT_lenS,↓iteT,↓iteF,cond_true,cond_false,eq_self,argE,Env.get,Env.push,ev,evs,evo,retV,Value.cells,Value.oneCell',setR,overR,fillL,zl,places,allSizes,heldC,ne_eq,Int.reduceLE,Int.reduceLT,Int.reduceEq,Int.reduceNe,Int.reduceToNat,Int.cast_ofNat_Int,Nat.reduceMul,Nat.reduceLeDiff,reduceIte,Nat.reduceEqDiff,Nat.reduceAdd,↓reduceIte,Tryz.vcT,F,h.cell0,gets,vsD,if_true,if_false,Bool.false_eq_true,cellsAt,g0,g3,g4,g5,g6,g7,g8,g9,↓stop_if 14,isReg_hit 14]
      refine keyN _ _ ?_
      exact ⟨by (repeat' apply And.intro)<;>first | assumption | rfl,n + 1,E0,W0,by omega,hI,hok,by omega,by omega,h⟩
  apply viaStop (P:=Tryz.prog) (fun E' w'=>BaseSt I w v X Y x y kd bc b8 5 620 E' w')
  case a=>
    intro keyN
    apply viaStop (P:=Tryz.prog) (fun E' w'=>BaseSt I w v X Y x y kd bc b8 5 14 E' w')
    case a=>
      intro keyA
      rintro E' w' ⟨⟨g0,g3,g4,g5,g6,g7,g8,g9⟩,n,E,W,hn,hI,hok,h4,hB,h⟩
      unfold stopT
      replace h:=Zd h;have F:=Zf7 h
      by_cases k1 : kd = 1
      · replace h:=Zd h;have F:=Zf7 h;try simp -dsimp only [↓vcA,vcB,vcD,↓pureT_lenS,↓iteT,↓iteF,cond_true,cond_false,eq_self,argE,Env.get,Env.push,ev,evs,evo,retV,Value.cells,Value.oneCell',setR,overR,fillL,zl,places,allSizes,heldC,ne_eq,Int.reduceLE,Int.reduceLT,Int.reduceEq,Int.reduceNe,Int.reduceToNat,Int.cast_ofNat_Int,Nat.reduceMul,Nat.reduceLeDiff,reduceIte,Nat.reduceEqDiff,Nat.reduceAdd,↓reduceIte,Tryz.vcT,F,h.cell0,gets,vsD,if_true,if_false,Bool.false_eq_true,cellsAt,g0,g3,g4,g5,g6,g7,g8,g9,decide_eq_true k1,↓stop_if 15,isReg_hit 15,↓stop_if 16,isReg_hit 16]
        refine keyA _ _ ?_
        exact ⟨by (repeat' apply And.intro)<;>first | assumption | rfl,n,E,W,by omega,hI,hok,by omega,by omega,h⟩
      · replace h:=Zd h;have F:=Zf7 h;try simp -dsimp only [↓vcA,vcB,vcD,↓pureT_lenS,↓iteT,↓iteF,cond_true,cond_false,eq_self,argE,Env.get,Env.push,ev,evs,evo,retV,Value.cells,Value.oneCell',setR,overR,fillL,zl,places,allSizes,heldC,ne_eq,Int.reduceLE,Int.reduceLT,Int.reduceEq,Int.reduceNe,Int.reduceToNat,Int.cast_ofNat_Int,Nat.reduceMul,Nat.reduceLeDiff,reduceIte,Nat.reduceEqDiff,Nat.reduceAdd,↓reduceIte,Tryz.vcT,F,h.cell0,gets,vsD,if_true,if_false,Bool.false_eq_true,cellsAt,g0,g3,g4,g5,g6,g7,g8,g9,decide_eq_false k1,↓stop_if 15,isReg_hit 15,↓stop_if 16,isReg_hit 16]
        by_cases k3 : kd = 3
        · replace h:=Zd h;have F:=Zf7 h;try simp -dsimp only [↓vcA,vcB,vcD,↓pureT_lenS,↓iteT,↓iteF,cond_true,cond_false,eq_self,argE,Env.get,Env.push,ev,evs,evo,retV,Value.cells,Value.oneCell',setR,overR,fillL,zl,places,allSizes,heldC,ne_eq,Int.reduceLE,Int.reduceLT,Int.reduceEq,Int.reduceNe,Int.reduceToNat,Int.cast_ofNat_Int,Nat.reduceMul,Nat.reduceLeDiff,reduceIte,Nat.reduceEqDiff,Nat.reduceAdd,↓reduceIte,Tryz.vcT,F,h.cell0,gets,vsD,if_true,if_false,Bool.false_eq_true,cellsAt,g0,g3,g4,g5,g6,g7,g8,g9,decide_eq_true k3,↓stop_if 15,isReg_hit 15,↓stop_if 16,isReg_hit 16]
          refine keyA _ _ ?_
          exact ⟨by (repeat' apply And.intro)<;>first | assumption | rfl,n,E,W,by omega,hI,hok,by omega,by omega,h⟩
        · replace h:=Zd h;have F:=Zf7 h;try simp -dsimp only [↓vcA,vcB,vcD,↓pureT_lenS,↓iteT,↓iteF,cond_true,cond_false,eq_self,argE,Env.get,Env.push,ev,evs,evo,retV,Value.cells,Value.oneCell',setR,overR,fillL,zl,places,allSizes,heldC,ne_eq,Int.reduceLE,Int.reduceLT,Int.reduceEq,Int.reduceNe,Int.reduceToNat,Int.cast_ofNat_Int,Nat.reduceMul,Nat.reduceLeDiff,reduceIte,Nat.reduceEqDiff,Nat.reduceAdd,↓reduceIte,Tryz.vcT,F,h.cell0,gets,vsD,if_true,if_false,Bool.false_eq_true,cellsAt,g0,g3,g4,g5,g6,g7,g8,g9,decide_eq_false k3,↓stop_if 15,isReg_hit 15,↓stop_if 16,isReg_hit 16]
          refine keyN _ _ ?_
          exact ⟨by (repeat' apply And.intro)<;>first | assumption | rfl,n,E,W,by omega,hI,hok,by omega,by omega,h⟩
    case b=>
      rintro E' w' ⟨⟨g0,g3,g4,g5,g6,g7,g8,g9⟩,n,E,W,hn,hI,hok,h4,hB,h⟩
      unfold stopT
      replace h:=Zd h;have F:=Zf7 h
      replace h:=Zd h;have F:=Zf7 h;refine Zc1 (J g0 (J g3 (J g4 (J g5 (J g6 (J g7 (J g8 g9))))))) ?_
      refine Sep.bWall T 0 x 0 x Y 2 hI (by omega) hok h4 hB (by omega) h rfl ?_
      clear h F hI hok h4
      intro r0 E0 W0 w7 hI hok h4 hB h
      replace h:=Zd h;have F:=Zf7 h;try simp -dsimp only [↓vcA,vcB,vcD,↓pureT_lenS,↓iteT,↓iteF,cond_true,cond_false,eq_self,argE,Env.get,Env.push,ev,evs,evo,retV,Value.cells,Value.oneCell',setR,overR,fillL,zl,places,allSizes,heldC,ne_eq,Int.reduceLE,Int.reduceLT,Int.reduceEq,Int.reduceNe,Int.reduceToNat,Int.cast_ofNat_Int,Nat.reduceMul,Nat.reduceLeDiff,reduceIte,Nat.reduceEqDiff,Nat.reduceAdd,↓reduceIte,Tryz.vcT,F,h.cell0,gets,vsD,if_true,if_false,Bool.false_eq_true,cellsAt,g0,g3,g4,g5,g6,g7,g8,g9,↓stop_if 16,isReg_hit 16]
      refine keyN _ _ ?_
      exact ⟨by (repeat' apply And.intro)<;>first | assumption | rfl,n,E0,W0,by omega,hI,hok,by omega,by omega,h⟩
  apply viaStop (P:=Tryz.prog) (fun E' w'=>BaseSt I w v X Y x y kd bc b8 5 1226 E' w')
  case a=>
    intro keyN
    apply viaStop (P:=Tryz.prog) (fun E' w'=>BaseSt I w v X Y x y kd bc b8 5 620 E' w')
    case a=>
      intro keyA
      rintro E' w' ⟨⟨g0,g3,g4,g5,g6,g7,g8,g9⟩,n,E,W,hn,hI,hok,h4,hB,h⟩
      unfold stopT
      replace h:=Zd h;have F:=Zf7 h
      by_cases k1 : kd = 2
      · replace h:=Zd h;have F:=Zf7 h;try simp -dsimp only [↓vcA,vcB,vcD,↓pureT_lenS,↓iteT,↓iteF,cond_true,cond_false,eq_self,argE,Env.get,Env.push,ev,evs,evo,retV,Value.cells,Value.oneCell',setR,overR,fillL,zl,places,allSizes,heldC,ne_eq,Int.reduceLE,Int.reduceLT,Int.reduceEq,Int.reduceNe,Int.reduceToNat,Int.cast_ofNat_Int,Nat.reduceMul,Nat.reduceLeDiff,reduceIte,Nat.reduceEqDiff,Nat.reduceAdd,↓reduceIte,Tryz.vcT,F,h.cell0,gets,vsD,if_true,if_false,Bool.false_eq_true,cellsAt,g0,g3,g4,g5,g6,g7,g8,g9,decide_eq_true k1,↓stop_if 17,isReg_hit 17,↓stop_if 18,isReg_hit 18]
        refine keyA _ _ ?_
        exact ⟨by (repeat' apply And.intro)<;>first | assumption | rfl,n,E,W,by omega,hI,hok,by omega,by omega,h⟩
      · replace h:=Zd h;have F:=Zf7 h;try simp -dsimp only [↓vcA,vcB,vcD,↓pureT_lenS,↓iteT,↓iteF,cond_true,cond_false,eq_self,argE,Env.get,Env.push,ev,evs,evo,retV,Value.cells,Value.oneCell',setR,overR,fillL,zl,places,allSizes,heldC,ne_eq,Int.reduceLE,Int.reduceLT,Int.reduceEq,Int.reduceNe,Int.reduceToNat,Int.cast_ofNat_Int,Nat.reduceMul,Nat.reduceLeDiff,reduceIte,Nat.reduceEqDiff,Nat.reduceAdd,↓reduceIte,Tryz.vcT,F,h.cell0,gets,vsD,if_true,if_false,Bool.false_eq_true,cellsAt,g0,g3,g4,g5,g6,g7,g8,g9,decide_eq_false k1,↓stop_if 17,isReg_hit 17,↓stop_if 18,isReg_hit 18]
        by_cases k3 : kd = 3
        · replace h:=Zd h;have F:=Zf7 h;try simp -dsimp only [↓vcA,vcB,vcD,↓pureT_lenS,↓iteT,↓iteF,cond_true,cond_false,eq_self,argE,Env.get,Env.push,ev,evs,evo,retV,Value.cells,Value.oneCell',setR,overR,fillL,zl,places,allSizes,heldC,ne_eq,Int.reduceLE,Int.reduceLT,Int.reduceEq,Int.reduceNe,Int.reduceToNat,Int.cast_ofNat_Int,Nat.reduceMul,Nat.reduceLeDiff,reduceIte,Nat.reduceEqDiff,Nat.reduceAdd,↓reduceIte,Tryz.vcT,F,h.cell0,gets,vsD,if_true,if_false,Bool.false_eq_true,cellsAt,g0,g3,g4,g5,g6,g7,g8,g9,decide_eq_true k3,↓stop_if 17,isReg_hit 17,↓stop_if 18,isReg_hit 18]
          refine keyA _ _ ?_
          exact ⟨by (repeat' apply And.intro)<;>first | assumption | rfl,n,E,W,by omega,hI,hok,by omega,by omega,h⟩
        · replace h:=Zd h;have F:=Zf7 h;try simp -dsimp only [↓vcA,vcB,vcD,↓pureT_lenS,↓iteT,↓iteF,cond_true,cond_false,eq_self,argE,Env.get,Env.push,ev,evs,evo,retV,Value.cells,Value.oneCell',setR,overR,fillL,zl,places,allSizes,heldC,ne_eq,Int.reduceLE,Int.reduceLT,Int.reduceEq,Int.reduceNe,Int.reduceToNat,Int.cast_ofNat_Int,Nat.reduceMul,Nat.reduceLeDiff,reduceIte,Nat.reduceEqDiff,Nat.reduceAdd,↓reduceIte,Tryz.vcT,F,h.cell0,gets,vsD,if_true,if_false,Bool.false_eq_true,cellsAt,g0,g3,g4,g5,g6,g7,g8,g9,decide_eq_false k3,↓stop_if 17,isReg_hit 17,↓stop_if 18,isReg_hit 18]
          refine keyN _ _ ?_
          exact ⟨by (repeat' apply And.intro)<;>first | assumption | rfl,n,E,W,by omega,hI,hok,by omega,by omega,h⟩
    case b=>
      rintro E' w' ⟨⟨g0,g3,g4,g5,g6,g7,g8,g9⟩,n,E,W,hn,hI,hok,h4,hB,h⟩
      unfold stopT
      replace h:=Zd h;have F:=Zf7 h
      replace h:=Zd h;have F:=Zf7 h;refine Zc1 (J g0 (J g3 (J g4 (J g5 (J g6 (J g7 (J g8 g9))))))) ?_
      refine Sep.bWall T 0 0 y X y 2 hI (by omega) hok h4 hB (by omega) h rfl ?_
      clear h F hI hok h4
      intro r0 E0 W0 w7 hI hok h4 hB h
      replace h:=Zd h;have F:=Zf7 h;try simp -dsimp only [↓vcA,vcB,vcD,↓pureT_lenS,↓iteT,↓iteF,cond_true,cond_false,eq_self,argE,Env.get,Env.push,ev,evs,evo,retV,Value.cells,Value.oneCell',setR,overR,fillL,zl,places,allSizes,heldC,ne_eq,Int.reduceLE,Int.reduceLT,Int.reduceEq,Int.reduceNe,Int.reduceToNat,Int.cast_ofNat_Int,Nat.reduceMul,Nat.reduceLeDiff,reduceIte,Nat.reduceEqDiff,Nat.reduceAdd,↓reduceIte,Tryz.vcT,F,h.cell0,gets,vsD,if_true,if_false,Bool.false_eq_true,cellsAt,g0,g3,g4,g5,g6,g7,g8,g9,↓stop_if 18,isReg_hit 18]
      refine keyN _ _ ?_
      exact ⟨by (repeat' apply And.intro)<;>first | assumption | rfl,n,E0,W0,by omega,hI,hok,by omega,by omega,h⟩
  rintro E' w' ⟨⟨g0,g3,g4,g5,g6,g7,g8,g9⟩,n,E,W,hn,hI,hok,h4,hB,h⟩
  have h:=h.erase 1
  unfold stopT
  replace h:=Zd h;have F:=Zf7 h
  replace h:=Zd h;have F:=Zf7 h;refine Zc1 (J g0 (J g3 (J g4 (J g5 (J g6 (J g7 (J g8 g9))))))) ?_
  refine walkLoop [0,3,4,5] [10] (fun m vs w'=>∃ (i n : Nat) (E : MeshE) (W : List (List Int)),i≤11∧m = 12 - i∧vs = [.int .i64 i]∧n≤5 + i∧I n E∧okWs W∧4≤W.length∧W.length≤1226 + 2 * i∧Sep w (fun _=>False) [cdt bc X Y E W] w') (by kernel_rfl) ?_ ?_
  · refine Zv1 (J g0 (J g3 (J g4 (J g5 (J g6 (J g7 (J g8 g9))))))) ?_
    exact ⟨_,0,n,E,W,by omega,rfl,rfl,by omega,hI,hok,h4,by omega,h⟩
  clear h hI hok h4 hB hn
  try clear F
  intro ks hk m vs w6 hi
  obtain ⟨i,n,E,W,hi,rfl,rfl,hn,hI,hok,h4,hB,h⟩ :=hi
  simp -dsimp only [gets,argE,List.zip_cons_cons,List.zip_nil_left,List.cons_append,List.nil_append,Env.get,Env.push,Option.bind_some,Option.map_some,Option.some.injEq,reduceIte,Nat.reduceEqDiff,Nat.reduceAdd,↓reduceIte,g0,g3,g4,g5,g6,g7,g8,g9] at hk;subst hk
  replace h:=Zd h;have F:=Zf7 h;refine Zc ?_
  refine h.at12 hv 5 12 (by omega) (by omega) ?_
  clear h F
  intro _ h
  have a5:=atI_in (l:=l) (i:=((5 : Nat) : Int)) (n:=12) (by omega)
  generalize atI l ((5 : Nat) : Int) 12 = p5 at *
  by_cases hlt : (i : Int) < p5
  case pos=>
    have ei : IntKind.i64.wrap ((i : Int) + 1) = ((i + 1 : Nat) : Int):=by rw [i64w _ (by omega) (by omega)];omega
    have e20 : IntKind.i64.wrap (20 + (i : Int)) = ((20 + i : Nat) : Int):=by rw [i64w _ (by omega) (by omega)];omega
    replace h:=Zd h;have F:=Zf7 h;refine Zc1 (J (decide_eq_true hlt) e20) ?_
    refine h.at12 hv (20 + i) 1000 (by omega) (by omega) ?_
    clear h F
    intro _ h
    replace h:=Zd h;have F:=Zf7 h;refine Zc ?_
    refine h.callp (grid76 X Y (atI l ((20 + i : Nat) : Int) 1000) (by omega) (by omega) _) ?_
    clear h F
    intro _ h
    replace h:=Zd h;have F:=Zf7 h;refine Zc ?_
    refine Sep.bAdd T 0 _ _ hI (by omega) hok h4 hB (by omega) h rfl ?_
    clear h hI hok h4
    try clear F
    intro r E1 W1 w9 hI hok h4 hB h
    replace h:=Zd h;have F:=Zf7 h;refine Zc1 ei ?_
    exact ⟨_,by omega,i + 1,n + 1,E1,W1,by omega,rfl,rfl,by omega,hI,hok,h4,by omega,h⟩
  replace h:=Zd h;have F:=Zf7 h;refine Zc1 (decide_eq_false hlt) ?_
  refine walkLoop [0,5] [11] (fun m vs w'=>∃ (i n : Nat) (E : MeshE) (W : List (List Int)),i≤5∧m = 6 - i∧vs = [.int .i64 i]∧n≤16∧I n E∧okWs W∧4≤W.length∧W.length≤1248 + 606 * i∧Sep w (fun _=>False) [cdt bc X Y E W] w') (by kernel_rfl) ?_ ?_
  · refine Zv ?_
    exact ⟨_,0,n,E,W,by omega,rfl,rfl,by omega,hI,hok,h4,by omega,h⟩
  clear h hI hok h4 hB hn hlt a5 hi
  try clear F
  intro ks hk m vs w6 hi
  obtain ⟨i,n,E,W,hi,rfl,rfl,hn,hI,hok,h4,hB,h⟩ :=hi
  replace hk:=Zk hk;subst hk
  replace h:=Zd h;have F:=Zf7 h;refine Zc ?_
  refine h.at12 hv 6 6 (by omega) (by omega) ?_
  clear h F
  intro _ h
  have a6:=atI_in (l:=l) (i:=((6 : Nat) : Int)) (n:=6) (by omega)
  generalize atI l ((6 : Nat) : Int) 6 = p6 at *
  by_cases hlt : (i : Int) < p6
  case neg=>
    replace h:=Zd h;have F:=Zf7 h;refine Zc1 (decide_eq_false hlt) ?_
    exact ⟨bc,X,Y,n,E,W,hX,hY,hn,hI,hok,h4,by omega,rfl,h⟩
  have ei : IntKind.i64.wrap ((i : Int) + 1) = ((i + 1 : Nat) : Int):=by rw [i64w _ (by omega) (by omega)];omega
  have e40 : IntKind.i64.wrap (40 + (i : Int)) = ((40 + i : Nat) : Int):=by rw [i64w _ (by omega) (by omega)];omega
  have e60 : IntKind.i64.wrap (60 + (i : Int)) = ((60 + i : Nat) : Int):=by rw [i64w _ (by omega) (by omega)];omega
  have hEl:=T.len n E hI
  have hP:=T.pts n E hI
  replace h:=Zd h;have F:=Zf7 h;refine Zc1 (decide_eq_true hlt) ?_
  refine Sep.c1t 0 h rfl (fun A k=>points13 (by omega) k) (fun _ f=>f) ?_
  clear h F
  intro a c w7 h
  have hPl : (pointsE E).length≤3 * E.length:=by
    have h1:=sortP_len (cornP (sortT (sel fTris E)))
    rw [cornP_len,(sortT_perm _).length_eq] at h1
    have h2:=sel_len fTris E
    unfold pointsE
    omega
  generalize pointsE E = P at *
  replace h:=Zd h;have F:=Zf7 h;refine Zc ?_
  obtain ⟨q1,hq1,eq1⟩ :=atI_nat l (40 + i) P.length hP
  obtain ⟨q2,hq2,eq2⟩ :=atI_nat l (60 + i) P.length hP
  obtain ⟨bb,oo,x0,x1,rfl,_,kc⟩ :=h.facts.2.1.twoAt hq1
  obtain ⟨bb',oo',y0,y1,ea,_,kd'⟩ :=h.facts.2.1.twoAt hq2
  injection ea with ea
  injection ea with ea1 ea2
  subst ea1 ea2
  refine walkDrawI (.q 0 (.q 1 (.q 2 (.q 3 (.q 4 (.q 5 (.q 9 (.q 10 (.q 11 (.q 12 (.q 13 (.q 14 .fin)))))))))))) [⟨6,some 0,[]⟩,⟨7,some 1,[6]⟩,⟨8,some 2,[7]⟩,⟨15,some 3,[6]⟩,⟨16,some 4,[15]⟩,⟨17,some 5,[16]⟩,⟨18,some 6,[]⟩,⟨19,some 7,[]⟩,⟨20,none,[6,7,8,15,18,19]⟩,⟨21,none,[6,7,8,15,16,17,18,19,20]⟩] [129,130,131,138,139,140,13,14] [0,5,11,123,124,126,128,132,133,135,137] [] (by kernel_rfl) (by simp [Holds_nil,Holds_cons,F]) ?_
  refine h.draw ?_
  clear h F
  intro _ h
  replace h:=Zd h;have F:=Zf7 h;refine Zc1 (J e40 (J e60 (J (kc _ h.facts.2.1) (kd' _ h.facts.2.1)))) ?_
  refine ⟨fun l vs w'=>∃ v6 v7 v8 v15 v16 v17 v18 v19 : Value,vs = [v6,v7,v8,v15,v16,v17,v18,v19]∧(l 6 = true→v6 = .int .i64 (q1 : Int))∧(l 7 = true→v7 = .pointer (some ⟨bb,oo + q1 * 2,none⟩))∧(l 8 = true→v8 = .agg #[.int .i64 x0,.int .i64 x1])∧(l 15 = true→v15 = .int .i64 (q2 : Int))∧(l 16 = true→v16 = .pointer (some ⟨bb,oo + q2 * 2,none⟩))∧(l 17 = true→v17 = .agg #[.int .i64 y0,.int .i64 y1])∧(l 20 = true→l 18 = true)∧(l 21 = true→l 19 = true)∧∃ b13 b14 : Nat,(l 18 = true→v18 = .pointer (some ⟨b13,0,none⟩))∧(l 19 = true→v19 = .pointer (some ⟨b14,0,none⟩))∧Sep w (fun _=>False) [cdt bc X Y E W,tab 45 2 (.slice (some ⟨bb,oo,none⟩) P.length c) P,(if l 18 = true then blk b13 45 (if l 20 = true then [.int .i64 x0,.int .i64 x1] else [.int .i64 0,.int .i64 0]) else emp),(if l 19 = true then blk b14 45 (if l 21 = true then [.int .i64 y0,.int .i64 y1] else [.int .i64 0,.int .i64 0]) else emp)] w',?_,?_,⟨?_,?_,?_,?_,?_,?_,?_,?_,?_,?_,trivial⟩,?_⟩
  · clear h F;intro l vs w1 hI
    obtain ⟨v6,v7,v8,v15,v16,v17,v18,v19,rfl,e6,e7,e8,e15,e16,e17,o20,o21,b13,b14,e18,e19,h⟩ :=hI
    replace h:=Zd h;have F:=Zf7 h
    exact (by simp [Holds_nil,Holds_cons,F])
  · intro us0 hv0
    obtain ⟨v6,us1,rfl,hv1⟩ :=cons_of_len hv0
    obtain ⟨v7,us2,rfl,hv2⟩ :=cons_of_len hv1
    obtain ⟨v8,us3,rfl,hv3⟩ :=cons_of_len hv2
    obtain ⟨v15,us4,rfl,hv4⟩ :=cons_of_len hv3
    obtain ⟨v16,us5,rfl,hv5⟩ :=cons_of_len hv4
    obtain ⟨v17,us6,rfl,hv6⟩ :=cons_of_len hv5
    obtain ⟨v18,us7,rfl,hv7⟩ :=cons_of_len hv6
    obtain ⟨v19,us8,rfl,hv8⟩ :=cons_of_len hv7
    obtain rfl:=nil_of_len hv8
    exact ⟨v6,v7,v8,v15,v16,v17,v18,v19,rfl,(fun e=>by cases e),(fun e=>by cases e),(fun e=>by cases e),(fun e=>by cases e),(fun e=>by cases e),(fun e=>by cases e),(fun e=>by cases e),(fun e=>by cases e),0,0,(fun e=>by cases e),(fun e=>by cases e),h.addEmp.addEmp⟩
  · clear h F;intro l vs w1 hI hl hp
    obtain ⟨v6,v7,v8,v15,v16,v17,v18,v19,rfl,e6,e7,e8,e15,e16,e17,o20,o21,b13,b14,e18,e19,h⟩ :=hI
    replace h:=Zd h;have F:=Zf7 h
    replace h:=Zd h;have F:=Zf7 h;refine Zc1 (J e40 (J e60 (J (kc _ h.facts.2.1) (kd' _ h.facts.2.1)))) ?_
    refine h.at12q hv (40 + i) P.length (by omega) (by omega) eq1 ?_
    clear F;intro w2 h
    exact ⟨_,_,_,_,_,_,_,_,rfl,(fun _=>rfl),e7,e8,e15,e16,e17,o20,o21,b13,b14,e18,e19,h⟩
  · clear h F;intro l vs w1 hI hl hp
    obtain ⟨v6,v7,v8,v15,v16,v17,v18,v19,rfl,e6,e7,e8,e15,e16,e17,o20,o21,b13,b14,e18,e19,h⟩ :=hI
    obtain rfl:=e6 (hp 6 (by simp))
    have f6 : l 6 = true:=hp 6 (by simp)
    replace h:=Zd h;have F:=Zf7 h
    replace h:=Zd h;have F:=Zf7 h;refine Zc1 (J f6 (J e40 (J e60 (J (kc _ h.facts.2.1) (kd' _ h.facts.2.1))))) ?_
    refine ⟨by omega,?_⟩
    exact ⟨_,_,_,_,_,_,_,_,rfl,(fun _=>rfl),(fun _=>rfl),e8,e15,e16,e17,o20,o21,b13,b14,e18,e19,h⟩
  · clear h F;intro l vs w1 hI hl hp
    obtain ⟨v6,v7,v8,v15,v16,v17,v18,v19,rfl,e6,e7,e8,e15,e16,e17,o20,o21,b13,b14,e18,e19,h⟩ :=hI
    obtain rfl:=e7 (hp 7 (by simp))
    have f7 : l 7 = true:=hp 7 (by simp)
    replace h:=Zd h;have F:=Zf7 h
    replace h:=Zd h;have F:=Zf7 h;refine Zc1 (J f7 (J e40 (J e60 (J (kc _ h.facts.2.1) (kd' _ h.facts.2.1))))) ?_
    exact ⟨_,_,_,_,_,_,_,_,rfl,e6,(fun _=>rfl),(fun _=>rfl),e15,e16,e17,o20,o21,b13,b14,e18,e19,h⟩
  · clear h F;intro l vs w1 hI hl hp
    obtain ⟨v6,v7,v8,v15,v16,v17,v18,v19,rfl,e6,e7,e8,e15,e16,e17,o20,o21,b13,b14,e18,e19,h⟩ :=hI
    obtain rfl:=e6 (hp 6 (by simp))
    have f6 : l 6 = true:=hp 6 (by simp)
    replace h:=Zd h;have F:=Zf7 h
    replace h:=Zd h;have F:=Zf7 h;refine Zc1 (J e40 (J e60 (J (kc _ h.facts.2.1) (kd' _ h.facts.2.1)))) ?_
    refine h.at12q hv (60 + i) P.length (by omega) (by omega) eq2 ?_
    clear F;intro w2 h
    exact ⟨_,_,_,_,_,_,_,_,rfl,(fun _=>rfl),e7,e8,(fun _=>rfl),e16,e17,o20,o21,b13,b14,e18,e19,h⟩
  · clear h F;intro l vs w1 hI hl hp
    obtain ⟨v6,v7,v8,v15,v16,v17,v18,v19,rfl,e6,e7,e8,e15,e16,e17,o20,o21,b13,b14,e18,e19,h⟩ :=hI
    obtain rfl:=e15 (hp 15 (by simp))
    have f15 : l 15 = true:=hp 15 (by simp)
    replace h:=Zd h;have F:=Zf7 h
    replace h:=Zd h;have F:=Zf7 h;refine Zc1 (J f15 (J e40 (J e60 (J (kc _ h.facts.2.1) (kd' _ h.facts.2.1))))) ?_
    refine ⟨by omega,?_⟩
    exact ⟨_,_,_,_,_,_,_,_,rfl,e6,e7,e8,(fun _=>rfl),(fun _=>rfl),e17,o20,o21,b13,b14,e18,e19,h⟩
  · clear h F;intro l vs w1 hI hl hp
    obtain ⟨v6,v7,v8,v15,v16,v17,v18,v19,rfl,e6,e7,e8,e15,e16,e17,o20,o21,b13,b14,e18,e19,h⟩ :=hI
    obtain rfl:=e16 (hp 16 (by simp))
    have f16 : l 16 = true:=hp 16 (by simp)
    replace h:=Zd h;have F:=Zf7 h
    replace h:=Zd h;have F:=Zf7 h;refine Zc1 (J f16 (J e40 (J e60 (J (kc _ h.facts.2.1) (kd' _ h.facts.2.1))))) ?_
    exact ⟨_,_,_,_,_,_,_,_,rfl,e6,e7,e8,e15,(fun _=>rfl),(fun _=>rfl),o20,o21,b13,b14,e18,e19,h⟩
  · clear h F;intro l vs w1 hI hl hp
    obtain ⟨v6,v7,v8,v15,v16,v17,v18,v19,rfl,e6,e7,e8,e15,e16,e17,o20,o21,b13,b14,e18,e19,h⟩ :=hI
    replace h:=Zd h;have F:=Zf7 h
    have n20 : l 20 = false:=by
      cases hq : l 20 with
      | false=>rfl
      | true=>exact Bool.noConfusion ((o20 hq).symm.trans hl)
    replace h:=Zd h;have F:=Zf7 h;refine Zc1 (J hl (J e40 (J e60 (J (kc _ h.facts.2.1) (kd' _ h.facts.2.1))))) ?_
    simp only [hl,n20,Bool.false_eq_true,if_false] at h
    refine Sep.newAt 2 h rfl ?_
    clear F;intro w2 b13 h
    refine ⟨_,_,_,_,_,_,_,_,rfl,e6,e7,e8,e15,e16,e17,(fun _=>rfl),o21,b13,b14,(fun _=>rfl),e19,?_⟩
    simp only [flag,n20,Nat.reduceBEq,beq_self_eq_true,Bool.true_or,Bool.false_or,Bool.false_eq_true,if_false,if_true];exact h
  · clear h F;intro l vs w1 hI hl hp
    obtain ⟨v6,v7,v8,v15,v16,v17,v18,v19,rfl,e6,e7,e8,e15,e16,e17,o20,o21,b13,b14,e18,e19,h⟩ :=hI
    replace h:=Zd h;have F:=Zf7 h
    have n21 : l 21 = false:=by
      cases hq : l 21 with
      | false=>rfl
      | true=>exact Bool.noConfusion ((o21 hq).symm.trans hl)
    replace h:=Zd h;have F:=Zf7 h;refine Zc1 (J hl (J e40 (J e60 (J (kc _ h.facts.2.1) (kd' _ h.facts.2.1))))) ?_
    simp only [hl,n21,Bool.false_eq_true,if_false] at h
    refine Sep.newAt 3 h rfl ?_
    clear F;intro w2 b14 h
    refine ⟨_,_,_,_,_,_,_,_,rfl,e6,e7,e8,e15,e16,e17,o20,(fun _=>rfl),b13,b14,e18,(fun _=>rfl),?_⟩
    simp only [flag,n21,Nat.reduceBEq,beq_self_eq_true,Bool.true_or,Bool.false_or,Bool.false_eq_true,if_false,if_true];exact h
  · clear h F;intro l vs w1 hI hl hp
    obtain ⟨v6,v7,v8,v15,v16,v17,v18,v19,rfl,e6,e7,e8,e15,e16,e17,o20,o21,b13,b14,e18,e19,h⟩ :=hI
    obtain rfl:=e6 (hp 6 (by simp))
    obtain rfl:=e7 (hp 7 (by simp))
    obtain rfl:=e8 (hp 8 (by simp))
    obtain rfl:=e15 (hp 15 (by simp))
    obtain rfl:=e18 (hp 18 (by simp))
    obtain rfl:=e19 (hp 19 (by simp))
    have f6 : l 6 = true:=hp 6 (by simp)
    have f7 : l 7 = true:=hp 7 (by simp)
    have f8 : l 8 = true:=hp 8 (by simp)
    have f15 : l 15 = true:=hp 15 (by simp)
    have f18 : l 18 = true:=hp 18 (by simp)
    have f19 : l 19 = true:=hp 19 (by simp)
    replace h:=Zd h;have F:=Zf7 h
    simp only [f6,f7,f8,f15,f18,f19,hl,Bool.false_eq_true,if_false,if_true] at h
    replace h:=Zd h;have F:=Zf7 h;refine Zc1 (J f6 (J f7 (J f8 (J f15 (J f18 (J f19 (J e40 (J e60 (J (kc _ h.facts.2.1) (kd' _ h.facts.2.1)))))))))) ?_
    refine Sep.put 2 h rfl ?_
    clear F;intro w2 h
    refine ⟨_,_,_,_,_,_,_,_,rfl,(fun _=>rfl),(fun _=>rfl),(fun _=>rfl),(fun _=>rfl),e16,e17,(fun _=>f18),o21,b13,b14,(fun _=>rfl),(fun _=>rfl),?_⟩
    simp only [flag,f6,f7,f8,f15,f18,f19,Nat.reduceBEq,beq_self_eq_true,Bool.true_or,Bool.false_or,if_true];exact h
  · clear h F;intro l vs w1 hI hl hp
    obtain ⟨v6,v7,v8,v15,v16,v17,v18,v19,rfl,e6,e7,e8,e15,e16,e17,o20,o21,b13,b14,e18,e19,h⟩ :=hI
    obtain rfl:=e6 (hp 6 (by simp))
    obtain rfl:=e7 (hp 7 (by simp))
    obtain rfl:=e8 (hp 8 (by simp))
    obtain rfl:=e15 (hp 15 (by simp))
    obtain rfl:=e16 (hp 16 (by simp))
    obtain rfl:=e17 (hp 17 (by simp))
    obtain rfl:=e18 (hp 18 (by simp))
    obtain rfl:=e19 (hp 19 (by simp))
    have f6 : l 6 = true:=hp 6 (by simp)
    have f7 : l 7 = true:=hp 7 (by simp)
    have f8 : l 8 = true:=hp 8 (by simp)
    have f15 : l 15 = true:=hp 15 (by simp)
    have f16 : l 16 = true:=hp 16 (by simp)
    have f17 : l 17 = true:=hp 17 (by simp)
    have f18 : l 18 = true:=hp 18 (by simp)
    have f19 : l 19 = true:=hp 19 (by simp)
    have f20 : l 20 = true:=hp 20 (by simp)
    replace h:=Zd h;have F:=Zf7 h
    simp only [f6,f7,f8,f15,f16,f17,f18,f19,f20,hl,Bool.false_eq_true,if_false,if_true] at h
    replace h:=Zd h;have F:=Zf7 h;refine Zc1 (J f6 (J f7 (J f8 (J f15 (J f16 (J f17 (J f18 (J f19 (J f20 (J e40 (J e60 (J (kc _ h.facts.2.1) (kd' _ h.facts.2.1))))))))))))) ?_
    refine Sep.put 3 h rfl ?_
    clear F;intro w2 h
    refine ⟨_,_,_,_,_,_,_,_,rfl,(fun _=>rfl),(fun _=>rfl),(fun _=>rfl),(fun _=>rfl),(fun _=>rfl),(fun _=>rfl),o20,(fun _=>f19),b13,b14,(fun _=>rfl),(fun _=>rfl),?_⟩
    simp only [flag,f6,f7,f8,f15,f16,f17,f18,f19,f20,Nat.reduceBEq,beq_self_eq_true,Bool.true_or,Bool.false_or,if_true];exact h
  clear h F;intro l vs w1 hI hall
  obtain ⟨v6,v7,v8,v15,v16,v17,v18,v19,rfl,e6,e7,e8,e15,e16,e17,o20,o21,b13,b14,e18,e19,h⟩ :=hI
  have f6 : l 6 = true:=hall ⟨6,some 0,[]⟩ (by simp)
  have f7 : l 7 = true:=hall ⟨7,some 1,[6]⟩ (by simp)
  have f8 : l 8 = true:=hall ⟨8,some 2,[7]⟩ (by simp)
  have f15 : l 15 = true:=hall ⟨15,some 3,[6]⟩ (by simp)
  have f16 : l 16 = true:=hall ⟨16,some 4,[15]⟩ (by simp)
  have f17 : l 17 = true:=hall ⟨17,some 5,[16]⟩ (by simp)
  have f18 : l 18 = true:=hall ⟨18,some 6,[]⟩ (by simp)
  have f19 : l 19 = true:=hall ⟨19,some 7,[]⟩ (by simp)
  have f20 : l 20 = true:=hall ⟨20,none,[6,7,8,15,18,19]⟩ (by simp)
  have f21 : l 21 = true:=hall ⟨21,none,[6,7,8,15,16,17,18,19,20]⟩ (by simp)
  obtain rfl:=e6 f6
  obtain rfl:=e7 f7
  obtain rfl:=e8 f8
  obtain rfl:=e15 f15
  obtain rfl:=e16 f16
  obtain rfl:=e17 f17
  obtain rfl:=e18 f18
  obtain rfl:=e19 f19
  simp only [f6,f7,f8,f15,f16,f17,f18,f19,f20,f21,if_true] at h
  clear hall f6 f7 f8 f15 f16 f17 f18 f19 f20 f21 o20 o21
  replace h:=Zd h;have F:=Zf7 h;refine Zc1 (J e40 (J e60 (J (kc _ h.facts.2.1) (kd' _ h.facts.2.1)))) ?_
  refine Sep.bWall T 0 x0 x1 y0 y1 1 hI (by omega) hok h4 hB (by omega) h rfl ?_
  clear h hI hok h4 hEl
  try clear F
  intro r E1 W1 w9 hI hok h4 hB h
  replace h:=Zd h;have F:=Zf7 h;refine Zc1 ei ?_
  exact ⟨_,by omega,i + 1,n,E1,W1,by omega,rfl,rfl,hn,hI,hok,h4,by omega,((h.erase 3).erase 2).erase 1⟩
end Go.Proofs.YtnhgjgoglmadnaaGreat
