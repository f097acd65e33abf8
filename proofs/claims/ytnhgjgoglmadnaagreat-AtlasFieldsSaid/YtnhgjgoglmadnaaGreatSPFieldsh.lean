/- Joined texts of this claim (part 8), printed by a program of this work. The last part holds the claimed theorem: the law answers true at every input of its row. -/
import Derived.Test.YtnhgjgoglmadnaaGreatSPFieldsg
namespace Go.Proofs.YtnhgjgoglmadnaaGreat
open Go.RowKit
set_option maxRecDepth 100000
set_option linter.unusedSimpArgs false
set_option linter.unusedVariables false
abbrev RetP (x : Value) (w : World) : Ending→World→Prop:=RetK fun r w'=>r = x∧Chg (fun _=>False) w w'
theorem callsK_new {P : Program} {f : FuncId} {args : Array Value} {w : World} {x : Value} {K : Value→World→Prop} (h : Calls P f args w (RetP x w)) (hk : ∀ w',Chg (fun _=>False) w w'→K x w') : callsK P f args w K:=
  callsK_use h fun _ _ ⟨e1,e2⟩ =>by rw [e1];exact hk _ e2
theorem chg_blk {w w' : World} {b : Nat} {x : List Value×TypeId} (c : Chg (fun _=>False) w w') (h : blkOf w b = some x) : blkOf w' b = some x:=c.blkOf h id
def vpt (x y : Int) : Bool:=decide (0≤x∧x < 16777216∧0≤y∧y < 16777216)
theorem valid47 (x y : Int) (w : World) : Calls Tryz.prog 102 [.agg #[.int .i64 x,.int .i64 y]].toArray w (RetP (.bool (vpt x y)) w):=by
  refine walk Tryz.func102 rfl (by kernel_rfl) (by rw [Tryz.nt102];simp) ?_
  refine Zv ?_
  intro w1 b hb
  by_cases a1 : 0≤x
  · by_cases a2 : x < 16777216
    · by_cases a3 : 0≤y
      · by_cases a4 : y < 16777216
        · have e : vpt x y = true:=by simp [vpt];omega
          refine Zv1 (J hb.cell (J (decide_eq_true a1) (J (decide_eq_true a2) (J (decide_eq_true a3) (J (decide_eq_true a4) e))))) ?_
          exact hb.chg
        · have e : vpt x y = false:=by simp [vpt];omega
          refine Zv1 (J hb.cell (J (decide_eq_true a1) (J (decide_eq_true a2) (J (decide_eq_true a3) (J (decide_eq_false a4) e))))) ?_
          exact hb.chg
      · have e : vpt x y = false:=by simp [vpt];omega
        refine Zv1 (J hb.cell (J (decide_eq_true a1) (J (decide_eq_true a2) (J (decide_eq_false a3) e)))) ?_
        exact hb.chg
    · have e : vpt x y = false:=by simp [vpt];omega
      refine Zv1 (J hb.cell (J (decide_eq_true a1) (J (decide_eq_false a2) e))) ?_
      exact hb.chg
  · have e : vpt x y = false:=by simp [vpt];omega
    refine Zv1 (J hb.cell (J (decide_eq_false a1) e)) ?_
    exact hb.chg
theorem valid150 (x y : Int) (w : World) : Calls Tryz.prog 135 [.agg #[.int .i64 x,.int .i64 y]].toArray w (RetP (.bool (vpt x y)) w):=by
  refine walk Tryz.func135 rfl (by kernel_rfl) (by rw [Tryz.nt135];simp) ?_
  refine Zv ?_
  intro w1 b hb
  by_cases a1 : 0≤x
  · by_cases a2 : x < 16777216
    · by_cases a3 : 0≤y
      · by_cases a4 : y < 16777216
        · have e : vpt x y = true:=by simp [vpt];omega
          refine Zv1 (J hb.cell (J (decide_eq_true a1) (J (decide_eq_true a2) (J (decide_eq_true a3) (J (decide_eq_true a4) e))))) ?_
          exact hb.chg
        · have e : vpt x y = false:=by simp [vpt];omega
          refine Zv1 (J hb.cell (J (decide_eq_true a1) (J (decide_eq_true a2) (J (decide_eq_true a3) (J (decide_eq_false a4) e))))) ?_
          exact hb.chg
      · have e : vpt x y = false:=by simp [vpt];omega
        refine Zv1 (J hb.cell (J (decide_eq_true a1) (J (decide_eq_true a2) (J (decide_eq_false a3) e)))) ?_
        exact hb.chg
    · have e : vpt x y = false:=by simp [vpt];omega
      refine Zv1 (J hb.cell (J (decide_eq_true a1) (J (decide_eq_false a2) e))) ?_
      exact hb.chg
  · have e : vpt x y = false:=by simp [vpt];omega
    refine Zv1 (J hb.cell (J (decide_eq_false a1) e)) ?_
    exact hb.chg
def cmpI (x y : Int) : Int:=if x < y then -1 else if y < x then 1 else 0
theorem isNaN (x : Int) (w : World) : Calls Tryz.prog 136 [.int .i64 x].toArray w (RetK fun r w'=>r = .bool false∧w' = w):=by
  refine walk Tryz.func136 rfl (by kernel_rfl) (by rw [Tryz.nt136];simp) ?_
  (refine Zv ?_;try exact trivial)
theorem compare (x y : Int) (w : World) : Calls Tryz.prog 124 [.int .i64 x,.int .i64 y].toArray w (RetK fun r w'=>r = .int .i64 (cmpI x y)∧w' = w):=by
  refine walk Tryz.func124 rfl (by kernel_rfl) (by rw [Tryz.nt124];simp) ?_
  simp -dsimp only [↓vcA,vcB,vcD,↓pureT_lenS,↓iteT,↓iteF,cond_true,cond_false,eq_self,argE,Env.get,Env.push,ev,evs,evo,retV,Value.cells,Value.oneCell',setR,overR,fillL,zl,places,allSizes,heldC,ne_eq,Int.reduceLE,Int.reduceLT,Int.reduceEq,Int.reduceNe,Int.reduceToNat,Int.cast_ofNat_Int,Nat.reduceMul,Nat.reduceLeDiff,reduceIte,Nat.reduceEqDiff,Nat.reduceAdd,↓reduceIte,Tryz.vcT]
  refine callsK_pure (isNaN x w) ?_
  simp -dsimp only [↓vcA,vcB,vcD,↓pureT_lenS,↓iteT,↓iteF,cond_true,cond_false,eq_self,argE,Env.get,Env.push,ev,evs,evo,retV,Value.cells,Value.oneCell',setR,overR,fillL,zl,places,allSizes,heldC,ne_eq,Int.reduceLE,Int.reduceLT,Int.reduceEq,Int.reduceNe,Int.reduceToNat,Int.cast_ofNat_Int,Nat.reduceMul,Nat.reduceLeDiff,reduceIte,Nat.reduceEqDiff,Nat.reduceAdd,↓reduceIte,Tryz.vcT]
  refine callsK_pure (isNaN y w) ?_
  by_cases h1 : x < y
  · have e : cmpI x y = -1:=by simp [cmpI,h1]
    simp -dsimp only [↓vcA,vcB,vcD,↓pureT_lenS,↓iteT,↓iteF,cond_true,cond_false,eq_self,argE,Env.get,Env.push,ev,evs,evo,retV,Value.cells,Value.oneCell',setR,overR,fillL,zl,places,allSizes,heldC,ne_eq,Int.reduceLE,Int.reduceLT,Int.reduceEq,Int.reduceNe,Int.reduceToNat,Int.cast_ofNat_Int,Nat.reduceMul,Nat.reduceLeDiff,reduceIte,Nat.reduceEqDiff,Nat.reduceAdd,↓reduceIte,Tryz.vcT,decide_eq_true h1,e]
  · by_cases h2 : y < x
    · have e : cmpI x y = 1:=by simp [cmpI,h1,h2]
      simp -dsimp only [↓vcA,vcB,vcD,↓pureT_lenS,↓iteT,↓iteF,cond_true,cond_false,eq_self,argE,Env.get,Env.push,ev,evs,evo,retV,Value.cells,Value.oneCell',setR,overR,fillL,zl,places,allSizes,heldC,ne_eq,Int.reduceLE,Int.reduceLT,Int.reduceEq,Int.reduceNe,Int.reduceToNat,Int.cast_ofNat_Int,Nat.reduceMul,Nat.reduceLeDiff,reduceIte,Nat.reduceEqDiff,Nat.reduceAdd,↓reduceIte,Tryz.vcT,decide_eq_false h1,decide_eq_true h2,e]
    · have e : cmpI x y = 0:=by simp [cmpI,h1,h2]
      (refine Zv1 (J (decide_eq_false h1) (J (decide_eq_false h2) e)) ?_;try exact trivial)
theorem or2 (a c : Int) (b : Nat) (w : World) (h0 : w.cell? ⟨b, 0, none⟩ = some (.int .i64 a)) (h1 : w.cell? ⟨b, 1, none⟩ = some (.int .i64 c)) :
    Calls Tryz.prog 125 [.slice (some ⟨b,0,none⟩) 2 2].toArray w (RetK fun r w'=>r = .int .i64 (if a = 0 then c else a)∧w' = w):=by
  refine walk Tryz.func125 rfl (by kernel_rfl) (by rw [Tryz.nt125];simp) ?_
  simp -dsimp only [↓vcA,vcB,vcD,↓pureT_lenS,↓iteT,↓iteF,cond_true,cond_false,eq_self,argE,Env.get,Env.push,ev,evs,evo,retV,Value.cells,Value.oneCell',setR,overR,fillL,zl,places,allSizes,heldC,ne_eq,Int.reduceLE,Int.reduceLT,Int.reduceEq,Int.reduceNe,Int.reduceToNat,Int.cast_ofNat_Int,Nat.reduceMul,Nat.reduceLeDiff,reduceIte,Nat.reduceEqDiff,Nat.reduceAdd,↓reduceIte,Tryz.vcT]
  refine walkLoop [3,6,7] [8] (fun q vs w'=>w' = w∧∃ i : Nat,i≤2∧q = 2 - i∧vs = [.int .i64 i]∧(0 < i→a = 0)∧(1 < i→c = 0)) (by kernel_rfl) ?_ ?_
  · simp -dsimp only [↓vcA,vcB,vcD,↓pureT_lenS,↓iteT,↓iteF,cond_true,cond_false,eq_self,argE,Env.get,Env.push,ev,evs,evo,retV,Value.cells,Value.oneCell',setR,overR,fillL,zl,places,allSizes,heldC,ne_eq,Int.reduceLE,Int.reduceLT,Int.reduceEq,Int.reduceNe,Int.reduceToNat,Int.cast_ofNat_Int,Nat.reduceMul,Nat.reduceLeDiff,reduceIte,Nat.reduceEqDiff,Nat.reduceAdd,↓reduceIte,Tryz.vcT,gets]
    exact ⟨_,0,by omega,rfl,rfl,by omega,by omega⟩
  · intro ks hk q vs w1 hi
    obtain ⟨rfl,i,hi,rfl,rfl,ha,hc⟩ :=hi
    simp -dsimp only [gets,argE,List.zip_cons_cons,List.zip_nil_left,List.cons_append,List.nil_append,Env.get,Env.push,Option.bind_some,Option.map_some,Option.some.injEq,reduceIte,Nat.reduceEqDiff,Nat.reduceAdd,↓reduceIte] at hk;subst hk
    have hcs : i = 0∨i = 1∨i = 2:=by omega
    rcases hcs with rfl | rfl | rfl
    · by_cases h : a = 0
      · simp -dsimp only [↓vcA,vcB,vcD,↓pureT_lenS,↓iteT,↓iteF,cond_true,cond_false,eq_self,argE,Env.get,Env.push,ev,evs,evo,retV,Value.cells,Value.oneCell',setR,overR,fillL,zl,places,allSizes,heldC,ne_eq,Int.reduceLE,Int.reduceLT,Int.reduceEq,Int.reduceNe,Int.reduceToNat,Int.cast_ofNat_Int,Nat.reduceMul,Nat.reduceLeDiff,reduceIte,Nat.reduceEqDiff,Nat.reduceAdd,↓reduceIte,Tryz.vcT,gets,h0,decide_eq_true h,Int.natCast_zero,Int.toNat_zero,Nat.zero_mul]
        exact ⟨_,by decide,1,by omega,rfl,rfl,fun _=>h,by omega⟩
      · simp -dsimp only [↓vcA,vcB,vcD,↓pureT_lenS,↓iteT,↓iteF,cond_true,cond_false,eq_self,argE,Env.get,Env.push,ev,evs,evo,retV,Value.cells,Value.oneCell',setR,overR,fillL,zl,places,allSizes,heldC,ne_eq,Int.reduceLE,Int.reduceLT,Int.reduceEq,Int.reduceNe,Int.reduceToNat,Int.cast_ofNat_Int,Nat.reduceMul,Nat.reduceLeDiff,reduceIte,Nat.reduceEqDiff,Nat.reduceAdd,↓reduceIte,Tryz.vcT,gets,h0,decide_eq_false h,Int.natCast_zero,Int.toNat_zero,Nat.zero_mul]
        simp [h]
    · have ha:=ha (by omega)
      subst ha
      by_cases h : c = 0
      · simp -dsimp only [↓vcA,vcB,vcD,↓pureT_lenS,↓iteT,↓iteF,cond_true,cond_false,eq_self,argE,Env.get,Env.push,ev,evs,evo,retV,Value.cells,Value.oneCell',setR,overR,fillL,zl,places,allSizes,heldC,ne_eq,Int.reduceLE,Int.reduceLT,Int.reduceEq,Int.reduceNe,Int.reduceToNat,Int.cast_ofNat_Int,Nat.reduceMul,Nat.reduceLeDiff,reduceIte,Nat.reduceEqDiff,Nat.reduceAdd,↓reduceIte,Tryz.vcT,gets,h1,decide_eq_true h,Int.natCast_one,Int.toNat_one,Nat.one_mul]
        exact ⟨_,by decide,2,by omega,rfl,rfl,fun _=>trivial,fun _=>h⟩
      · simp -dsimp only [↓vcA,vcB,vcD,↓pureT_lenS,↓iteT,↓iteF,cond_true,cond_false,eq_self,argE,Env.get,Env.push,ev,evs,evo,retV,Value.cells,Value.oneCell',setR,overR,fillL,zl,places,allSizes,heldC,ne_eq,Int.reduceLE,Int.reduceLT,Int.reduceEq,Int.reduceNe,Int.reduceToNat,Int.cast_ofNat_Int,Nat.reduceMul,Nat.reduceLeDiff,reduceIte,Nat.reduceEqDiff,Nat.reduceAdd,↓reduceIte,Tryz.vcT,gets,h1,decide_eq_false h,Int.natCast_one,Int.toNat_one,Nat.one_mul]
    · have ha:=ha (by omega)
      have hc:=hc (by omega)
      subst ha hc
      (refine Zv ?_;try exact trivial)
theorem round_eq (k n : Int) (h0 : 0 < n) (h1 : n≤1000000000000) : (IntKind.i64.wrap (k.tmod n + n)).tmod n = k % n:=by
  have h2:=Int.tmod_lt_of_pos k h0
  have h3 : -n < k.tmod n:=Int.lt_tmod_of_pos k h0
  rw [IntWalk.i64_in _ (by omega)]
  rw [Int.tmod_eq_emod_of_nonneg (by omega),Int.add_emod_right]
  rw [Int.tmod_eq_emod]
  split
  · simp
  · have e : (n.natAbs : Int) = n:=by omega
    rw [e,show k % n - n = k % n + n * (-1) by omega,Int.add_mul_emod_self_left,Int.emod_emod]
theorem round (k n : Int) (w : World) (h0 : 0 < n) (h1 : n ≤ 1000000000000) :
    Calls Tryz.prog 10 [.int .i64 k,.int .i64 n].toArray w (RetK fun r w'=>r = .int .i64 (k % n)∧w' = w):=by
  refine walk Tryz.func10 rfl (by kernel_rfl) (by rw [Tryz.nt10];simp) ?_
  refine Zv ?_
  refine ⟨by omega,by omega,?_⟩
  rw [round_eq k n h0 h1]
theorem Own.form {w : World} {v : Value} {xs : List Int} (h : Own w v xs) (hp : 0 < xs.length) : ∃ g cap cur,v = .slice (some ⟨g,0,none⟩) xs.length cap∧blkOf w g = some (cur,5)∧xs.length≤cap∧cap≤maxLen∧cur.length = cap∧cur.take xs.length = u8s xs:=by
  rcases h.2 with ⟨_,h0⟩ | ⟨g,cap,cur,rfl,hb,hg,hn,hm,hs,ht⟩
  · omega
  · exact ⟨g,cap,cur.toList,rfl,blkOf_of hg,hn,hm,by simpa using hs,by simpa using ht⟩
theorem Rd.cell {w : World} {b o n c : Nat} {xs : List Int} (h : Rd w (.slice (some ⟨b,o,none⟩) n c) xs) (j : Nat) (hj : j < xs.length) : w.cell? ⟨b,o + j,none⟩ = some (.int .u8 (xs.getD j 0)):=by
  obtain ⟨a,c',e,h1,h2,h3,h4⟩ :=h
  injection e with e1 e2 e3
  obtain ⟨b',o',e4,hc⟩ :=h4 (by omega)
  rw [← e1] at e4
  injection e4 with e4
  injection e4 with e5 e6 _
  subst e5 e6
  exact hc j hj
def cmp2 (x y x' y' : Int) : Int:=if cmpI x x' = 0 then cmpI y y' else cmpI x x'
theorem cmp143 (x y x' y' : Int) (w : World) : Calls Tryz.prog 97 [.agg #[.int .i64 x,.int .i64 y],.agg #[.int .i64 x',.int .i64 y']].toArray w (RetP (.int .i64 (cmp2 x y x' y')) w):=by
  refine walk Tryz.func97 rfl (by kernel_rfl) (by rw [Tryz.nt97];simp) ?_
  refine Zv ?_
  intro w1 b1 n1 w2 b2 n2
  have hb1:=chg_blk n2.chg n1.blkOf
  have hL : Holds [(b1,0,.int .i64 x),(b2,0,.int .i64 x'),(b1,1,.int .i64 y),(b2,1,.int .i64 y')] w2:=by
    simp [Holds_nil,Holds_cons,cell_of_blkOf hb1,n2.cell]
  refine walkDraw (.q 0 (.q 2 (.q 5 (.q 7 (.h 1 0 (.h 3 1 (.h 6 2 (.h 8 3 (.l 4 (.l 9 (.l 10 (.l 11 (.q 12 .fin))))))))))))) [(b1,0,.int .i64 x),(b2,0,.int .i64 x'),(b1,1,.int .i64 y),(b2,1,.int .i64 y')] (by kernel_rfl) hL ?_
  intro w3 e3 c3
  have L3:=c3.holds hL
  refine Zv ?_
  refine callsK_pure (compare x x' w3) ?_
  refine Zv1 L3 ?_
  refine callsK_pure (compare y y' w3) ?_
  refine Zv1 L3 ?_
  intro w4 b4 n4
  have L4:=n4.chg.holds L3
  refine ⟨L4,?_⟩
  refine callsK_pure (or2 _ _ b4 w4 (n4.cell 0) (n4.cell 1)) ?_
  refine Zv1 L4 ?_
  exact ⟨rfl,((n1.chg.seq n2.chg).seq c3).seq n4.chg⟩
theorem cmpPoint (x y x' y' : Int) (w : World) : Calls Tryz.prog 99 [.agg #[.int .i64 x,.int .i64 y],.agg #[.int .i64 x',.int .i64 y']].toArray w (RetP (.int .i64 (cmp2 x y x' y')) w):=by
  refine walk Tryz.func99 rfl (by kernel_rfl) (by rw [Tryz.nt99];simp) ?_
  refine Zv ?_
  intro w1 b1 n1 w2 b2 n2
  have hb1:=chg_blk n2.chg n1.blkOf
  have cc:=n1.chg.seq n2.chg
  by_cases h1 : x < x'
  · have e : cmp2 x y x' y' = -1:=by simp [cmp2,cmpI,h1]
    refine Zv1 (J (cell_of_blkOf hb1) (J n2.cell (J (decide_eq_true h1) e))) ?_
    exact cc
  · by_cases h2 : x = x'
    · by_cases h3 : y < y'
      · have e : cmp2 x y x' y' = -1:=by simp [cmp2,cmpI,h2,h3]
        refine Zv1 (J (cell_of_blkOf hb1) (J n2.cell (J (decide_eq_false h1) (J (decide_eq_true h2) (J (decide_eq_true h3) e))))) ?_
        exact cc
      · by_cases h4 : y = y'
        · have e : cmp2 x y x' y' = 0:=by simp [cmp2,cmpI,h2,h4]
          refine Zw1 (J (cell_of_blkOf hb1) (J n2.cell (J (decide_eq_false h1) (J (decide_eq_true h2) (J (decide_eq_false h3) (J e (J eql_pt (decide_eq_true h4)))))))) ?_
          exact cc
        · have e : cmp2 x y x' y' = 1:=by simp [cmp2,cmpI,h2,h3];omega
          simp -dsimp only [↓vcA,vcB,vcD,↓pureT_lenS,↓iteT,↓iteF,cond_true,cond_false,eq_self,argE,Env.get,Env.push,ev,evs,evo,retV,Value.cells,Value.oneCell',setR,overR,fillL,zl,places,allSizes,heldC,ne_eq,Int.reduceLE,Int.reduceLT,Int.reduceEq,Int.reduceNe,Int.reduceToNat,Int.cast_ofNat_Int,Nat.reduceMul,Nat.reduceLeDiff,reduceIte,Nat.reduceEqDiff,Nat.reduceAdd,↓reduceIte,Tryz.vcT,cell_of_blkOf hb1,n2.cell,decide_eq_false h1,decide_eq_true h2,decide_eq_false h3,e,cellsAt,eql_pt,decide_eq_false h4,Bool.and_false]
          exact cc
    · have e : cmp2 x y x' y' = 1 := by
        have : x' < x:=by omega
        simp [cmp2,cmpI,h1,this]
      simp -dsimp only [↓vcA,vcB,vcD,↓pureT_lenS,↓iteT,↓iteF,cond_true,cond_false,eq_self,argE,Env.get,Env.push,ev,evs,evo,retV,Value.cells,Value.oneCell',setR,overR,fillL,zl,places,allSizes,heldC,ne_eq,Int.reduceLE,Int.reduceLT,Int.reduceEq,Int.reduceNe,Int.reduceToNat,Int.cast_ofNat_Int,Nat.reduceMul,Nat.reduceLeDiff,reduceIte,Nat.reduceEqDiff,Nat.reduceAdd,↓reduceIte,Tryz.vcT,cell_of_blkOf hb1,n2.cell,decide_eq_false h1,decide_eq_false h2,e,cellsAt,eql_pt,Bool.false_and]
      exact cc
theorem all147 (ax ay bx by' cx cy : Int) (b : Nat) (w : World) (h : blkOf w b = some ([.int .i64 ax, .int .i64 ay, .int .i64 bx, .int .i64 by', .int .i64 cx, .int .i64 cy], 45)) :
    Calls Tryz.prog 123 [.slice (some ⟨b,0,none⟩) 3 3].toArray w (RetP (.bool (vpt ax ay && vpt bx by' && vpt cx cy)) w):=by
  refine walk Tryz.func123 rfl (by kernel_rfl) (by rw [Tryz.nt123];simp) ?_
  refine Zv ?_
  refine walkLoop [5,6] [7] (fun q vs w'=>Chg (fun _=>False) w w'∧∃ i : Nat,i≤3∧q = 3 - i∧vs = [.int .i64 i]∧(0 < i→vpt ax ay = true)∧(1 < i→vpt bx by' = true)∧(2 < i→vpt cx cy = true)) (by kernel_rfl) ?_ ?_
  · refine Zv ?_
    exact ⟨_,Chg.refl _ _,0,by omega,rfl,rfl,by omega,by omega,by omega⟩
  · intro ks hk q vs w1 hi
    obtain ⟨cc,i,hi,rfl,rfl,h1,h2,h3⟩ :=hi
    replace hk:=Zk hk;subst hk
    have hb:=chg_blk cc h
    have hcs : i = 0∨i = 1∨i = 2∨i = 3:=by omega
    rcases hcs with rfl | rfl | rfl | rfl
    · have F1 : Fr w.heap.size w w1:=⟨Nat.le_refl _,cc.mono fun _ f=>f.elim⟩
      simp -dsimp only [↓vcA,vcB,vcD,↓pureT_lenS,↓iteT,↓iteF,cond_true,cond_false,eq_self,argE,Env.get,Env.push,ev,evs,evo,retV,Value.cells,Value.oneCell',setR,overR,fillL,zl,places,allSizes,heldC,ne_eq,Int.reduceLE,Int.reduceLT,Int.reduceEq,Int.reduceNe,Int.reduceToNat,Int.cast_ofNat_Int,Nat.reduceMul,Nat.reduceLeDiff,reduceIte,Nat.reduceEqDiff,Nat.reduceAdd,↓reduceIte,Tryz.vcT,gets,cell_of_blkOf hb,cellsAt,Int.natCast_zero,Int.toNat_zero,Nat.zero_mul]
      intro w2 b2 n2
      refine Zv1 n2.blkOf ?_
      intro w3 p3
      have F3:=(F1.new n2).one p3.chg (F1.newUp n2)
      try refine Zw1 p3.cell ?_
      refine callsK_new (valid150 ax ay w3) ?_
      intro w4 c4
      have F4:=F3.nil c4
      cases hv : vpt ax ay with
      | false=>
        refine Zv ?_
        exact ⟨by simp [hv],F4.done⟩
      | true=>
        refine Zv ?_
        exact ⟨_,by decide,F4.done,1,by omega,rfl,rfl,fun _=>trivial,by omega,by omega⟩
    · have F1 : Fr w.heap.size w w1:=⟨Nat.le_refl _,cc.mono fun _ f=>f.elim⟩
      have e1:=h1 (by omega)
      simp -dsimp only [↓vcA,vcB,vcD,↓pureT_lenS,↓iteT,↓iteF,cond_true,cond_false,eq_self,argE,Env.get,Env.push,ev,evs,evo,retV,Value.cells,Value.oneCell',setR,overR,fillL,zl,places,allSizes,heldC,ne_eq,Int.reduceLE,Int.reduceLT,Int.reduceEq,Int.reduceNe,Int.reduceToNat,Int.cast_ofNat_Int,Nat.reduceMul,Nat.reduceLeDiff,reduceIte,Nat.reduceEqDiff,Nat.reduceAdd,↓reduceIte,Tryz.vcT,gets,cell_of_blkOf hb,cellsAt,Int.natCast_one,Int.toNat_one,Nat.one_mul]
      intro w2 b2 n2
      refine Zv1 n2.blkOf ?_
      intro w3 p3
      have F3:=(F1.new n2).one p3.chg (F1.newUp n2)
      try refine Zw1 p3.cell ?_
      refine callsK_new (valid150 bx by' w3) ?_
      intro w4 c4
      have F4:=F3.nil c4
      cases hv : vpt bx by' with
      | false=>
        refine Zv ?_
        exact ⟨by simp [hv,e1],F4.done⟩
      | true=>
        refine Zv ?_
        exact ⟨_,by decide,F4.done,2,by omega,rfl,rfl,fun _=>e1,fun _=>trivial,by omega⟩
    · have F1 : Fr w.heap.size w w1:=⟨Nat.le_refl _,cc.mono fun _ f=>f.elim⟩
      have e1:=h1 (by omega)
      have e2:=h2 (by omega)
      refine Zw1 (cell_of_blkOf hb) ?_
      intro w2 b2 n2
      refine Zv1 n2.blkOf ?_
      intro w3 p3
      have F3:=(F1.new n2).one p3.chg (F1.newUp n2)
      try refine Zw1 p3.cell ?_
      refine callsK_new (valid150 cx cy w3) ?_
      intro w4 c4
      have F4:=F3.nil c4
      cases hv : vpt cx cy with
      | false=>
        refine Zv ?_
        exact ⟨by simp [hv,e1,e2],F4.done⟩
      | true=>
        refine Zv ?_
        exact ⟨_,by decide,F4.done,3,by omega,rfl,rfl,fun _=>e1,fun _=>e2,fun _=>trivial⟩
    · have e1:=h1 (by omega)
      have e2:=h2 (by omega)
      have e3:=h3 (by omega)
      refine Zv ?_
      exact ⟨by simp [e1,e2,e3],cc⟩
def orientI (ax ay bx by' cx cy : Int) : Int:=if vpt ax ay && vpt bx by' && vpt cx cy then cmpI ((bx - ax) * (cy - ay)) ((by' - ay) * (cx - ax)) else 0
theorem vpt_iff (x y : Int) : vpt x y = true↔0≤x∧x < 16777216∧0≤y∧y < 16777216:=by simp [vpt]
theorem mul_bound {a b : Int} (ha : -16777216 < a∧a < 16777216) (hb : -16777216 < b∧b < 16777216) : -281474976710656≤a * b∧a * b≤281474976710656:=by
  have h : (a * b).natAbs≤16777216 * 16777216:=by
    rw [Int.natAbs_mul];exact Nat.mul_le_mul (by omega) (by omega)
  omega
theorem orient142 (ax ay bx by' cx cy : Int) (w : World) : Calls Tryz.prog 96 [.agg #[.int .i64 ax,.int .i64 ay],.agg #[.int .i64 bx,.int .i64 by'],.agg #[.int .i64 cx,.int .i64 cy]].toArray w (RetP (.int .i64 (orientI ax ay bx by' cx cy)) w):=by
  refine walk Tryz.func96 rfl (by kernel_rfl) (by rw [Tryz.nt96];simp) ?_
  refine Zv ?_
  intro w1 b1 n1 w2 b2 n2 w3 b3 n3
  have h1:=chg_blk n3.chg (chg_blk n2.chg n1.blkOf)
  have h2:=chg_blk n3.chg n2.blkOf
  have c13:=(n1.chg.seq n2.chg).seq n3.chg
  refine Zw1 (J (cell_of_blkOf h1) (J (cell_of_blkOf h2) n3.cell)) ?_
  intro w4 b4 n4
  refine callsK_new (all147 ax ay bx by' cx cy b4 w4 n4.blkOf) ?_
  intro w5 c5
  have g1:=chg_blk c5 (chg_blk n4.chg h1)
  have g2:=chg_blk c5 (chg_blk n4.chg h2)
  have g3:=chg_blk c5 (chg_blk n4.chg n3.blkOf)
  have c15:=(c13.seq n4.chg).seq c5
  cases hv : (vpt ax ay && vpt bx by' && vpt cx cy) with
  | false=>
    have e : orientI ax ay bx by' cx cy = 0:=by simp [orientI,hv]
    refine Zv1 e ?_
    exact c15
  | true=>
    have e : orientI ax ay bx by' cx cy = cmpI ((bx - ax) * (cy - ay)) ((by' - ay) * (cx - ax)):=by simp only [orientI,hv,if_true]
    simp only [Bool.and_eq_true,vpt_iff] at hv
    obtain ⟨⟨⟨a1,a2,a3,a4⟩,b1',b2',b3',b4'⟩,d1,d2,d3,d4⟩ :=hv
    have m1:=mul_bound (a:=bx - ax) (b:=cy - ay) (by omega) (by omega)
    have m2:=mul_bound (a:=by' - ay) (b:=cx - ax) (by omega) (by omega)
    have e1 : IntKind.i64.wrap (bx - ax) = bx - ax:=i64w _ (by omega) (by omega)
    have e2 : IntKind.i64.wrap (cy - ay) = cy - ay:=i64w _ (by omega) (by omega)
    have e3 : IntKind.i64.wrap (by' - ay) = by' - ay:=i64w _ (by omega) (by omega)
    have e4 : IntKind.i64.wrap (cx - ax) = cx - ax:=i64w _ (by omega) (by omega)
    have e5 : IntKind.i64.wrap ((bx - ax) * (cy - ay)) = (bx - ax) * (cy - ay):=i64w _ (by omega) (by omega)
    have e6 : IntKind.i64.wrap ((by' - ay) * (cx - ax)) = (by' - ay) * (cx - ax):=i64w _ (by omega) (by omega)
    refine Zw1 (J (cell_of_blkOf g1) (J (cell_of_blkOf g2) (J (cell_of_blkOf g3) (J e1 (J e2 (J e3 (J e4 (J e5 e6)))))))) ?_
    refine callsK_pure (compare _ _ w5) ?_
    refine Zv1 e ?_
    exact c15
theorem sign140 (n : Int) (w : World) : Calls Tryz.prog 126 [.int .i64 n].toArray w (RetK fun r w'=>r = .int .i64 (cmpI n 0)∧w' = w):=by
  refine walk Tryz.func126 rfl (by kernel_rfl) (by rw [Tryz.nt126];simp) ?_
  by_cases h1 : n < 0
  · have e : cmpI n 0 = -1:=by simp [cmpI,h1]
    simp -dsimp only [↓vcA,vcB,vcD,↓pureT_lenS,↓iteT,↓iteF,cond_true,cond_false,eq_self,argE,Env.get,Env.push,ev,evs,evo,retV,Value.cells,Value.oneCell',setR,overR,fillL,zl,places,allSizes,heldC,ne_eq,Int.reduceLE,Int.reduceLT,Int.reduceEq,Int.reduceNe,Int.reduceToNat,Int.cast_ofNat_Int,Nat.reduceMul,Nat.reduceLeDiff,reduceIte,Nat.reduceEqDiff,Nat.reduceAdd,↓reduceIte,Tryz.vcT,decide_eq_true h1,e]
  · by_cases h2 : 0 < n
    · have e : cmpI n 0 = 1:=by simp [cmpI,h1,h2]
      simp -dsimp only [↓vcA,vcB,vcD,↓pureT_lenS,↓iteT,↓iteF,cond_true,cond_false,eq_self,argE,Env.get,Env.push,ev,evs,evo,retV,Value.cells,Value.oneCell',setR,overR,fillL,zl,places,allSizes,heldC,ne_eq,Int.reduceLE,Int.reduceLT,Int.reduceEq,Int.reduceNe,Int.reduceToNat,Int.cast_ofNat_Int,Nat.reduceMul,Nat.reduceLeDiff,reduceIte,Nat.reduceEqDiff,Nat.reduceAdd,↓reduceIte,Tryz.vcT,decide_eq_false h1,decide_eq_true h2,e]
    · have e : cmpI n 0 = 0:=by simp [cmpI,h1,h2]
      (refine Zv1 (J (decide_eq_false h1) (J (decide_eq_false h2) e)) ?_;try exact trivial)
theorem twice141 (ax ay bx by' cx cy : Int) (w : World) (hv : (vpt ax ay && vpt bx by' && vpt cx cy) = true) : Calls Tryz.prog 127 [.agg #[.int .i64 ax, .int .i64 ay], .agg #[.int .i64 bx, .int .i64 by'], .agg #[.int .i64 cx, .int .i64 cy]].toArray w
    (RetP (.int .i64 ((bx - ax) * (cy - ay) - (by' - ay) * (cx - ax))) w):=by
  simp only [Bool.and_eq_true,vpt_iff] at hv
  obtain ⟨⟨⟨a1,a2,a3,a4⟩,b1',b2',b3',b4'⟩,d1,d2,d3,d4⟩ :=hv
  have m1:=mul_bound (a:=bx - ax) (b:=cy - ay) (by omega) (by omega)
  have m2:=mul_bound (a:=by' - ay) (b:=cx - ax) (by omega) (by omega)
  have e1 : IntKind.i64.wrap (bx - ax) = bx - ax:=i64w _ (by omega) (by omega)
  have e2 : IntKind.i64.wrap (cy - ay) = cy - ay:=i64w _ (by omega) (by omega)
  have e3 : IntKind.i64.wrap (by' - ay) = by' - ay:=i64w _ (by omega) (by omega)
  have e4 : IntKind.i64.wrap (cx - ax) = cx - ax:=i64w _ (by omega) (by omega)
  have e5 : IntKind.i64.wrap ((bx - ax) * (cy - ay)) = (bx - ax) * (cy - ay):=i64w _ (by omega) (by omega)
  have e6 : IntKind.i64.wrap ((by' - ay) * (cx - ax)) = (by' - ay) * (cx - ax):=i64w _ (by omega) (by omega)
  have e7 : IntKind.i64.wrap ((bx - ax) * (cy - ay) - (by' - ay) * (cx - ax)) = (bx - ax) * (cy - ay) - (by' - ay) * (cx - ax):=i64w _ (by omega) (by omega)
  refine walk Tryz.func127 rfl (by kernel_rfl) (by rw [Tryz.nt127];simp) ?_
  refine Zv ?_
  intro w1 b1 n1 w2 b2 n2 w3 b3 n3
  have h1:=chg_blk n3.chg (chg_blk n2.chg n1.blkOf)
  have h2:=chg_blk n3.chg n2.blkOf
  have c13:=(n1.chg.seq n2.chg).seq n3.chg
  refine Zv1 (J (cell_of_blkOf h1) (J (cell_of_blkOf h2) (J n3.cell (J e1 (J e2 (J e3 (J e4 (J e5 (J e6 e7))))))))) ?_
  exact c13
theorem cmpI_sub (p q : Int) : cmpI (p - q) 0 = cmpI p q:=by
  unfold cmpI
  split<;>split<;>(try split)<;>(try split)<;>omega
theorem orient134 (ax ay bx by' cx cy : Int) (w : World) : Calls Tryz.prog 98 [.agg #[.int .i64 ax,.int .i64 ay],.agg #[.int .i64 bx,.int .i64 by'],.agg #[.int .i64 cx,.int .i64 cy]].toArray w (RetP (.int .i64 (orientI ax ay bx by' cx cy)) w):=by
  refine walk Tryz.func98 rfl (by kernel_rfl) (by rw [Tryz.nt98];simp) ?_
  refine Zv ?_
  intro w1 b1 n1 w2 b2 n2 w3 b3 n3
  have h1:=chg_blk n3.chg (chg_blk n2.chg n1.blkOf)
  have h2:=chg_blk n3.chg n2.blkOf
  have c13:=(n1.chg.seq n2.chg).seq n3.chg
  refine Zw1 (J (cell_of_blkOf h1) (J (cell_of_blkOf h2) n3.cell)) ?_
  refine callsK_new (valid47 ax ay w3) ?_
  intro w4 c4
  cases ha : vpt ax ay with
  | false=>
    have e : orientI ax ay bx by' cx cy = 0:=by simp [orientI,ha]
    refine Zv1 e ?_
    exact c13.seq c4
  | true=>
  have h14:=chg_blk c4 h1
  have h24:=chg_blk c4 h2
  have h34:=chg_blk c4 n3.blkOf
  refine Zw1 (cell_of_blkOf h24) ?_
  refine callsK_new (valid47 bx by' w4) ?_
  intro w5 c5
  cases hb : vpt bx by' with
  | false=>
    have e : orientI ax ay bx by' cx cy = 0:=by simp [orientI,hb]
    refine Zv1 e ?_
    exact (c13.seq c4).seq c5
  | true=>
  have h15:=chg_blk c5 h14
  have h25:=chg_blk c5 h24
  have h35:=chg_blk c5 h34
  refine Zw1 (cell_of_blkOf h35) ?_
  refine callsK_new (valid47 cx cy w5) ?_
  intro w6 c6
  cases hc : vpt cx cy with
  | false=>
    have e : orientI ax ay bx by' cx cy = 0:=by simp [orientI,hc]
    refine Zv1 e ?_
    exact ((c13.seq c4).seq c5).seq c6
  | true=>
  have h16:=chg_blk c6 h15
  have h26:=chg_blk c6 h25
  have h36:=chg_blk c6 h35
  have hv : (vpt ax ay && vpt bx by' && vpt cx cy) = true:=by simp [ha,hb,hc]
  have e : orientI ax ay bx by' cx cy = cmpI ((bx - ax) * (cy - ay)) ((by' - ay) * (cx - ax)):=by simp only [orientI,hv,if_true]
  refine Zw1 (J (cell_of_blkOf h16) (J (cell_of_blkOf h26) (cell_of_blkOf h36))) ?_
  refine callsK_new (twice141 ax ay bx by' cx cy w6 hv) ?_
  intro w7 c7
  refine Zv ?_
  refine callsK_pure (sign140 _ w7) ?_
  refine Zv1 (J cmpI_sub e) ?_
  exact (((c13.seq c4).seq c5).seq c6).seq c7
theorem Rd.old {w w1 : World} {v : Value} {xs : List Int} (h : Rd w v xs) (f : Fr w.heap.size w w1) : Rd w1 v xs:=by
  obtain ⟨a,c,rfl,h1,h2,h3,h4⟩ :=h
  refine ⟨a,c,rfl,h1,h2,h3,fun hp=>?_⟩
  obtain ⟨b,o,rfl,hc⟩ :=h4 hp
  refine ⟨b,o,rfl,fun j hj=>f.done.cell (hc j hj) id⟩
end Go.Proofs.YtnhgjgoglmadnaaGreat
