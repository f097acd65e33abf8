/- Joined texts of this claim (part 22), printed by a program of this work. The last part holds the claimed theorem: the law answers true at every input of its row. -/
import Derived.DeepKeys3
import Derived.Maps.RangeRun
import Derived.Test.YtnhgjgoglmadnaaGreatSPFieldsu
set_option maxHeartbeats 4000000
namespace Go.Proofs.YtnhgjgoglmadnaaGreat
open Go.RowKit
theorem MapV.same_iff {m o : MapV} : m.same o = true↔m = o:=by
  cases m;cases o
  simp [MapV.same,MapV.ns,MapV.mesh,and_assoc]
theorem MapV.same_no {m o : MapV} (h : ¬ m = o) : m.same o = false:=by
  rw [Bool.eq_false_iff];exact fun e=>h (MapV.same_iff.1 e)
set_option maxRecDepth 100000
set_option linter.unusedSimpArgs false
set_option linter.unusedVariables false
def mW (n : Int) : MapV:=⟨n,0,0,0,0,0,0,[],[],[],[],[],[],[],[]⟩
theorem mW_R (n : Int) (w : World) : MapR w (mW n) MapS.zero:=⟨Tab.nil 2 w,Tab.nil 5 w,Tab.nil 2 w,Tab.nil 10 w,Tab.nil 9 w,Tab.nil 3 w,Tab.nil 3 w,Chn.nil w⟩
theorem mW_ok (n : Int) (h : -9223372036854775808≤n∧n≤9223372036854775807) : (mW n).Ok:=by
  refine ⟨?_,fun x hx=>?_,fun x hx=>?_,fun x hx=>?_,fun x hx=>?_,fun x hx=>?_,fun x hx=>?_,fun x hx=>?_,fun x hx=>?_⟩
  · simp only [mW,Ok64,List.forall_mem_cons,List.not_mem_nil,false_implies,implies_true,and_true];omega
  all_goals exact absurd hx (by simp [mW])
theorem mW_room (n : Int) : (mW n).room≤800000:=by simp [MapV.room,mW,roomC]
theorem mW_ch (n : Int) : ∀ c ∈ (mW n).ch,Byt c.b:=fun c hc=>absurd hc (by simp [mW])
theorem mW_len : (mW 1).bytes.length = 33:=by decide +kernel
theorem mW_fine : (mW 1).Fine:=⟨⟨fun x hx=>absurd hx (by simp [mW]),fun x hx=>absurd hx (by simp [mW]),fun x hx=>absurd hx (by simp [mW]),fun x hx=>absurd hx (by simp [mW]),fun x hx=>absurd hx (by simp [mW]),fun x hx=>absurd hx (by simp [mW]),fun x hx=>absurd hx (by simp [mW])⟩,fun x hx=>absurd hx (by simp [mW]),by decide +kernel⟩
theorem mW_neg : (mW (-1)).fails = true:=by decide +kernel
theorem awake57 (w : World) : Calls Tryz.prog 5 [].toArray w (RetK fun r w'=>r = .bool true∧Chg (fun _=>False) w w'):=by
  have hby:=(mW 1).bytes_byt (mW_ch 1)
  have hlen:=mW_len
  have hlen' : ((mW 1).bytes.length : Int) = 33:=by rw [hlen];rfl
  have hf:=mW_fine.ok
  obtain ⟨d1,d2,_,_⟩ :=mW_fine.dec
  have hcut : decOk ((mW 1).bytes.take 3) = false:=mW_fine.cut hby (by omega)
  have h:=Sep.nil w
  refine walk Tryz.func5 rfl (by kernel_rfl) (by rw [Tryz.nt5];simp) ?_
  replace h:=Zd h;have F:=Zf4 h
  refine Zv ?_
  refine Sep.callN h (encode58 (mW 1) MapS.zero w (mW_R 1 _) (mW_ok 1 (by omega)) (mW_room 1)) ?_
  clear h F
  intro e N w2 hQ h
  rw [hf] at hQ
  obtain ⟨a,c,rfl,rfl⟩ :=hQ
  replace h:=Zd h;have F:=Zf4 h;refine Zs ?_
  refine Sep.callN h (decode60 _ _ w2 F.1 hby (by omega)) ?_
  clear h F
  intro e N w3 hQ h
  rw [d1,d2] at hQ
  obtain ⟨s,rfl,rfl⟩ :=hQ
  replace h:=Zd h;have F:=Zf4 h
  have R:=F.2.1
  obtain ⟨sp,swa,spa,sre,sca,sis,sco,sch⟩ :=s
  obtain ⟨asp,csp,qsp⟩ :=R.p.shape
  dsimp only at qsp
  subst qsp
  obtain ⟨aswa,cswa,qswa⟩ :=R.wa.shape
  dsimp only at qswa
  subst qswa
  obtain ⟨aspa,cspa,qspa⟩ :=R.pa.shape
  dsimp only at qspa
  subst qspa
  obtain ⟨asre,csre,qsre⟩ :=R.re.shape
  dsimp only at qsre
  subst qsre
  obtain ⟨asca,csca,qsca⟩ :=R.ca.shape
  dsimp only at qsca
  subst qsca
  obtain ⟨asis,csis,qsis⟩ :=R.is.shape
  dsimp only at qsis
  subst qsis
  obtain ⟨asco,csco,qsco⟩ :=R.co.shape
  dsimp only at qsco
  subst qsco
  obtain ⟨asch,csch,qsch⟩ :=R.ch.shape
  dsimp only at qsch
  subst qsch
  replace h:=Zd h;have F:=Zf4 h;refine Zs1 (@MapV.cells.eq_1) ?_
  refine h.new ?_
  clear h F
  intro w4 b4 h
  replace h:=Zd h;have F:=Zf4 h;refine Zs1 (@MapV.cells.eq_1) ?_
  refine Sep.put 2 h rfl ?_
  clear h F
  intro w5 h
  replace h:=Zd h;have F:=Zf4 h;refine Zs1 hlen' ?_
  have hc33 : 33≤c:=by
    obtain ⟨_,_,e,k1,_⟩ :=F.1
    injection e with _ _ e
    omega
  refine ⟨by omega,?_⟩
  have hr3:=F.1.cut (l:=0) (m:=3) (by omega) (by omega)
  rw [List.drop_zero] at hr3
  refine Sep.callN h (decode60 _ _ w5 hr3 (fun x hx=>hby x (List.mem_of_mem_take hx)) (by rw [List.length_take];omega)) ?_
  clear h F
  intro e N w6 hQ h
  have d3 : dec ((mW 1).bytes.take 3) = MapV.zero:=by unfold dec;rw [hcut];rfl
  rw [hcut,d3] at hQ
  obtain ⟨t,rfl,rfl⟩ :=hQ
  replace h:=Zd h;have F:=Zf4 h
  have R2:=F.2.2.2.1
  obtain ⟨tp,twa,tpa,tre,tca,tis,tco,tch⟩ :=t
  obtain ⟨atp,ctp,qtp⟩ :=R2.p.shape
  dsimp only at qtp
  subst qtp
  obtain ⟨atwa,ctwa,qtwa⟩ :=R2.wa.shape
  dsimp only at qtwa
  subst qtwa
  obtain ⟨atpa,ctpa,qtpa⟩ :=R2.pa.shape
  dsimp only at qtpa
  subst qtpa
  obtain ⟨atre,ctre,qtre⟩ :=R2.re.shape
  dsimp only at qtre
  subst qtre
  obtain ⟨atca,ctca,qtca⟩ :=R2.ca.shape
  dsimp only at qtca
  subst qtca
  obtain ⟨atis,ctis,qtis⟩ :=R2.is.shape
  dsimp only at qtis
  subst qtis
  obtain ⟨atco,ctco,qtco⟩ :=R2.co.shape
  dsimp only at qtco
  subst qtco
  obtain ⟨atch,ctch,qtch⟩ :=R2.ch.shape
  dsimp only at qtch
  subst qtch
  replace h:=Zd h;have F:=Zf4 h;refine Zs1 (@MapV.cells.eq_1) ?_
  refine h.new ?_
  clear h F
  intro w7 b7 h
  replace h:=Zd h;have F:=Zf4 h;refine Zs1 (@MapV.cells.eq_1) ?_
  refine Sep.put 4 h rfl ?_
  clear h F
  intro w8 h
  replace h:=Zd h;have F:=Zf4 h;refine Zs ?_
  refine Sep.callN h (encode58 (mW (-1)) MapS.zero w8 (mW_R (-1) _) (mW_ok (-1) (by omega)) (mW_room (-1))) ?_
  clear h F
  intro e N w9 hQ h
  rw [mW_neg] at hQ
  obtain ⟨a9,c9,rfl,rfl⟩ :=hQ
  have hw1 : decide ((mW 1).w = 1) = true:=rfl
  replace h:=Zd h;have F:=Zf4 h;refine Zc1 (J hlen' (J hw1 (@MapV.cells.eq_1))) ?_
  have k1:=same63 (mW 1) (mW 1) _ MapS.zero w9 F.2.1 (mW_R 1 _) (mW_ch 1) (mW_ch 1)
  rw [MapV.same_iff.2 rfl] at k1
  simp only [MapV.cells,MapS.zero] at k1
  refine Sep.callp h k1 ?_
  clear h F k1
  intro w10 h
  replace h:=Zd h;have F:=Zf4 h;refine Zc1 (@MapV.cells.eq_1) ?_
  have k2:=same63 (mW 1) (mW 0) _ MapS.zero w10 F.2.1 (mW_R 0 _) (mW_ch 1) (mW_ch 0)
  rw [MapV.same_no (m:=mW 1) (o:=mW 0) (fun e=>by have:=congrArg MapV.w e;simp [mW] at this)] at k2
  simp only [MapV.cells,MapS.zero] at k2
  refine Sep.callp h k2 ?_
  clear h F k2
  intro w11 h
  replace h:=Zd h;have F:=Zf4 h;refine Zs ?_
  exact h.done
theorem index_rule {P : Program} {t e : TypeId} {len n : Nat} {cs : Array Value} {i : Int} {w : World} {K : Value → World → Prop} (l : List Value) (ht : P.underlying t = some (.array len e)) (hu : P.underlying e = some (.struct (P.fieldsOf e))) (hn : P.cellsOf e = n) (hi : 0 ≤ i ∧ i < len)
    (hl : (cs.toList.drop (i.toNat * n)).take n = l) (hk : K (.agg l.toArray) w) : RunK P (Instr.index t (.agg cs) (.int .i64 i)) w K:=by
  obtain ⟨inf,hinf⟩ :=info_of_underlying hu
  subst hn hl
  refine ⟨_,w,?_,hk⟩
  simp [Instr.index,asIntOf,run_underlying ht,hi,part,isAgg,run_underlying hu,run_sizeOf w hinf]
  apply Array.toList_inj.1
  simp
def T3.pt (t : T3) : Nat→List Int
  | 0=>[t.ax,t.ay]
  | 1=>[t.bx,t.by']
  | 2=>[t.cx,t.cy]
  | 3=>[t.ax,t.ay]
  | _=>[t.bx,t.by']
theorem corner122 (t : T3) (i : Int) (hi : 0≤i∧i < 5) (w : World) : Calls Tryz.prog 122 [.agg t.cells.toArray,.int .i64 i].toArray w (RetP (.agg (cellsI (t.pt i.toNat)).toArray) w):=by
  have h:=Sep.nil w
  have hi' : i = 0∨i = 1∨i = 2∨i = 3∨i = 4:=by omega
  refine walk Tryz.func122 rfl (by kernel_rfl) (by rw [Tryz.nt122];simp) ?_
  replace h:=Zd h;have F:=Zf2 h
  refine Zv1 (@T3.cells.eq_1) ?_
  refine h.new ?_
  clear h F
  intro w1 b1 h
  replace h:=Zd h;have F:=Zf2 h;refine Zs ?_
  refine h.new ?_
  clear h F
  intro w2 b2 h
  rcases hi' with rfl | rfl | rfl | rfl | rfl
  all_goals
    replace h:=Zd h;have F:=Zf2 h;try simp -dsimp only [↓vcA,vcB,vcD,↓pureT_lenS,↓iteT,↓iteF,cond_true,cond_false,eq_self,argE,Env.get,Env.push,ev,evs,evo,retV,Value.cells,Value.oneCell',setR,overR,fillL,zl,places,allSizes,heldC,ne_eq,Int.reduceLE,Int.reduceLT,Int.reduceEq,Int.reduceNe,Int.reduceToNat,Int.cast_ofNat_Int,Nat.reduceMul,Nat.reduceLeDiff,reduceIte,Nat.reduceEqDiff,Nat.reduceAdd,↓reduceIte,Tryz.vcT,F,h.cell0,gets,vsD,if_true,if_false,Bool.false_eq_true,cellsAt,Int.reduceTMod,i64wrap,Int.reduceAdd,Int.reduceMod,Int.reduceSub]
  all_goals
    refine index_rule [_,_] Tryz.underlying197 (by kernel_rfl) (n:=2) (by kernel_rfl) (by decide) rfl ?_
    replace h:=Zd h;have F:=Zf2 h;refine Zc ?_
    refine Sep.put 1 h rfl ?_
    clear h F
    intro w3 h
    replace h:=Zd h;have F:=Zf2 h;refine Zc ?_
    exact ⟨rfl,h.done⟩
theorem edges128 (t : T3) (w : World) : Calls Tryz.prog 128 [.agg t.cells.toArray].toArray w (RetP (.agg (cellsI [t.ax,t.ay,t.bx,t.by',t.bx,t.by',t.cx,t.cy,t.cx,t.cy,t.ax,t.ay]).toArray) w):=by
  have h:=Sep.nil w
  refine walk Tryz.func128 rfl (by kernel_rfl) (by rw [Tryz.nt128];simp) ?_
  replace h:=Zd h;have F:=Zf2 h
  refine Zv1 (@T3.cells.eq_1) ?_
  repeat ((first | (refine Sep.new h ?_;clear h F;intro _ _ h) | (refine Sep.put 0 h rfl ?_;clear h F;intro _ h) | (refine Sep.put 1 h rfl ?_;clear h F;intro _ h) | (refine Sep.put 2 h rfl ?_;clear h F;intro _ h) | (refine Sep.put 3 h rfl ?_;clear h F;intro _ h) | (refine Sep.put 4 h rfl ?_;clear h F;intro _ h) | (refine Sep.put 5 h rfl ?_;clear h F;intro _ h));replace h:=Zd h;have F:=Zf2 h;refine Zc ?_)
  replace h:=Zd h;have F:=Zf2 h;refine Zc ?_
  exact ⟨rfl,h.done⟩
def ptMin (x y x' y' : Int) : List Int:=if cmp2 x y x' y' < 0 then [x,y] else [x',y']
def ptMax (x y x' y' : Int) : List Int:=if cmp2 x y x' y' < 0 then [x',y'] else [x,y]
theorem lesser103 (x y x' y' : Int) (w : World) : Calls Tryz.prog 103 [.agg #[.int .i64 x,.int .i64 y],.agg #[.int .i64 x',.int .i64 y']].toArray w (RetP (.agg (cellsI (ptMin x y x' y')).toArray) w):=by
  have h:=Sep.nil w
  refine walk Tryz.func103 rfl (by kernel_rfl) (by rw [Tryz.nt103];simp) ?_
  replace h:=Zd h;have F:=Zf2 h
  refine Zv ?_
  repeat ((first | (refine Sep.new h ?_;clear h F;intro _ _ h) | (refine Sep.put 0 h rfl ?_;clear h F;intro _ h) | (refine Sep.put 1 h rfl ?_;clear h F;intro _ h) | (refine Sep.put 2 h rfl ?_;clear h F;intro _ h) | (refine Sep.put 3 h rfl ?_;clear h F;intro _ h) | (refine Sep.put 4 h rfl ?_;clear h F;intro _ h) | (refine Sep.put 5 h rfl ?_;clear h F;intro _ h) | (refine Sep.callp h (cmpPoint x y x' y' _) ?_;clear F;(try clear h);intros;rename_i h));replace h:=Zd h;have F:=Zf2 h;refine Zc ?_)
  unfold ptMin
  by_cases hc : cmp2 x y x' y' < 0
  case' pos=>replace h:=Zd h;have F:=Zf2 h;refine Zc1 (decide_eq_true hc) ?_
  case' neg=>replace h:=Zd h;have F:=Zf2 h;refine Zc1 (decide_eq_false hc) ?_
  all_goals
    repeat ((first | (refine Sep.new h ?_;clear h F;intro _ _ h) | (refine Sep.put 0 h rfl ?_;clear h F;intro _ h) | (refine Sep.put 1 h rfl ?_;clear h F;intro _ h) | (refine Sep.put 2 h rfl ?_;clear h F;intro _ h) | (refine Sep.put 3 h rfl ?_;clear h F;intro _ h) | (refine Sep.put 4 h rfl ?_;clear h F;intro _ h) | (refine Sep.put 5 h rfl ?_;clear h F;intro _ h));replace h:=Zd h;have F:=Zf2 h;refine Zc ?_)
    replace h:=Zd h;have F:=Zf2 h;refine Zc ?_
    exact ⟨by simp [hc,cellsI],h.done⟩
theorem greater104 (x y x' y' : Int) (w : World) : Calls Tryz.prog 104 [.agg #[.int .i64 x,.int .i64 y],.agg #[.int .i64 x',.int .i64 y']].toArray w (RetP (.agg (cellsI (ptMax x y x' y')).toArray) w):=by
  have h:=Sep.nil w
  refine walk Tryz.func104 rfl (by kernel_rfl) (by rw [Tryz.nt104];simp) ?_
  replace h:=Zd h;have F:=Zf2 h
  refine Zv ?_
  repeat ((first | (refine Sep.new h ?_;clear h F;intro _ _ h) | (refine Sep.put 0 h rfl ?_;clear h F;intro _ h) | (refine Sep.put 1 h rfl ?_;clear h F;intro _ h) | (refine Sep.put 2 h rfl ?_;clear h F;intro _ h) | (refine Sep.put 3 h rfl ?_;clear h F;intro _ h) | (refine Sep.put 4 h rfl ?_;clear h F;intro _ h) | (refine Sep.put 5 h rfl ?_;clear h F;intro _ h) | (refine Sep.callp h (cmpPoint x y x' y' _) ?_;clear F;(try clear h);intros;rename_i h));replace h:=Zd h;have F:=Zf2 h;refine Zc ?_)
  unfold ptMax
  by_cases hc : cmp2 x y x' y' < 0
  case' pos=>replace h:=Zd h;have F:=Zf2 h;refine Zc1 (decide_eq_true hc) ?_
  case' neg=>replace h:=Zd h;have F:=Zf2 h;refine Zc1 (decide_eq_false hc) ?_
  all_goals
    repeat ((first | (refine Sep.new h ?_;clear h F;intro _ _ h) | (refine Sep.put 0 h rfl ?_;clear h F;intro _ h) | (refine Sep.put 1 h rfl ?_;clear h F;intro _ h) | (refine Sep.put 2 h rfl ?_;clear h F;intro _ h) | (refine Sep.put 3 h rfl ?_;clear h F;intro _ h) | (refine Sep.put 4 h rfl ?_;clear h F;intro _ h) | (refine Sep.put 5 h rfl ?_;clear h F;intro _ h));replace h:=Zd h;have F:=Zf2 h;refine Zc ?_)
    replace h:=Zd h;have F:=Zf2 h;refine Zc ?_
    exact ⟨by simp [hc,cellsI],h.done⟩
theorem square85 (x y : Int) (w : World) : Calls Tryz.prog 85 [.int .i64 x,.int .i64 y].toArray w (RetP (.agg (cellsI [0,0,x,0,x,y,0,y]).toArray) w):=by
  have h:=Sep.nil w
  refine walk Tryz.func85 rfl (by kernel_rfl) (by rw [Tryz.nt85];simp) ?_
  replace h:=Zd h;have F:=Zf2 h
  refine Zv ?_
  repeat ((first | (refine Sep.new h ?_;clear h F;intro _ _ h) | (refine Sep.put 0 h rfl ?_;clear h F;intro _ h) | (refine Sep.put 1 h rfl ?_;clear h F;intro _ h) | (refine Sep.put 2 h rfl ?_;clear h F;intro _ h) | (refine Sep.put 3 h rfl ?_;clear h F;intro _ h) | (refine Sep.put 4 h rfl ?_;clear h F;intro _ h) | (refine Sep.put 5 h rfl ?_;clear h F;intro _ h));replace h:=Zd h;have F:=Zf2 h;refine Zc ?_)
  replace h:=Zd h;have F:=Zf2 h;refine Zc ?_
  exact ⟨rfl,h.done⟩
def cmpW (v w : List Int) : Int:=match v,w with
  | [a0,a1,a2,a3,a4],[c0,c1,c2,c3,c4]=>if cmp2 a0 a1 c0 c1 = 0 then (if cmp2 a2 a3 c2 c3 = 0 then cmpI (IntKind.i64.wrap (a4 - c4)) 0 else cmp2 a2 a3 c2 c3) else cmp2 a0 a1 c0 c1
  | _,_=>0
theorem cmpWall (a0 a1 a2 a3 a4 c0 c1 c2 c3 c4 : Int) (w : World) : Calls Tryz.prog 105 [.agg #[.int .i64 a0,.int .i64 a1,.int .i64 a2,.int .i64 a3,.int .i64 a4],.agg #[.int .i64 c0,.int .i64 c1,.int .i64 c2,.int .i64 c3,.int .i64 c4]].toArray w (RetP (.int .i64 (cmpW [a0,a1,a2,a3,a4] [c0,c1,c2,c3,c4])) w):=by
  have h:=Sep.nil w
  refine walk Tryz.func105 rfl (by kernel_rfl) (by rw [Tryz.nt105];simp) ?_
  replace h:=Zd h;have F:=Zf2 h
  refine Zv ?_
  repeat ((first | (refine Sep.new h ?_;clear h F;intro _ _ h) | (refine Sep.put 0 h rfl ?_;clear h F;intro _ h) | (refine Sep.put 1 h rfl ?_;clear h F;intro _ h) | (refine Sep.put 2 h rfl ?_;clear h F;intro _ h) | (refine Sep.put 3 h rfl ?_;clear h F;intro _ h) | (refine Sep.put 4 h rfl ?_;clear h F;intro _ h) | (refine Sep.put 5 h rfl ?_;clear h F;intro _ h) | (refine Sep.callp h (cmpPoint a0 a1 c0 c1 _) ?_;clear F;(try clear h);intros;rename_i h));replace h:=Zd h;have F:=Zf2 h;refine Zc ?_)
  have e0 : cmpW [a0,a1,a2,a3,a4] [c0,c1,c2,c3,c4] = if cmp2 a0 a1 c0 c1 = 0 then (if cmp2 a2 a3 c2 c3 = 0 then cmpI (IntKind.i64.wrap (a4 - c4)) 0 else cmp2 a2 a3 c2 c3) else cmp2 a0 a1 c0 c1:=rfl
  by_cases h1 : cmp2 a0 a1 c0 c1 = 0
  case neg=>
    replace h:=Zd h;have F:=Zf2 h;refine Zc1 (decide_eq_false h1) ?_
    exact ⟨by rw [e0,if_neg h1],h.done⟩
  replace h:=Zd h;have F:=Zf2 h;refine Zc1 (decide_eq_true h1) ?_
  refine Sep.callp h (cmpPoint a2 a3 c2 c3 _) ?_
  clear h F
  intro w3 h
  by_cases h2 : cmp2 a2 a3 c2 c3 = 0
  case neg=>
    replace h:=Zd h;have F:=Zf2 h;refine Zc1 (decide_eq_false h2) ?_
    exact ⟨by rw [e0,if_pos h1,if_neg h2],h.done⟩
  replace h:=Zd h;have F:=Zf2 h;refine Zc1 (decide_eq_true h2) ?_
  refine Sep.callp h ((sign140 _ _).mono fun e w' ⟨r,e,er,ew⟩ =>⟨r,e,er,ew▸Chg.refl _ _⟩) ?_
  clear h F
  intro w4 h
  replace h:=Zd h;have F:=Zf2 h;refine Zs ?_
  exact ⟨by rw [e0,if_pos h1,if_pos h2],h.done⟩
def cmpT (s t : T3) : Int:=if cmp2 s.ax s.ay t.ax t.ay = 0 then (if cmp2 s.bx s.by' t.bx t.by' = 0 then cmp2 s.cx s.cy t.cx t.cy else cmp2 s.bx s.by' t.bx t.by') else cmp2 s.ax s.ay t.ax t.ay
theorem cmpTri (s t : T3) (w : World) : Calls Tryz.prog 118 [.agg s.cells.toArray,.agg t.cells.toArray].toArray w (RetP (.int .i64 (cmpT s t)) w):=by
  have h:=Sep.nil w
  refine walk Tryz.func118 rfl (by kernel_rfl) (by rw [Tryz.nt118];simp) ?_
  replace h:=Zd h;have F:=Zf2 h
  refine Zv1 (@T3.cells.eq_1) ?_
  repeat ((first | (refine Sep.new h ?_;clear h F;intro _ _ h) | (refine Sep.put 0 h rfl ?_;clear h F;intro _ h) | (refine Sep.put 1 h rfl ?_;clear h F;intro _ h) | (refine Sep.put 2 h rfl ?_;clear h F;intro _ h) | (refine Sep.put 3 h rfl ?_;clear h F;intro _ h) | (refine Sep.put 4 h rfl ?_;clear h F;intro _ h) | (refine Sep.put 5 h rfl ?_;clear h F;intro _ h) | (refine Sep.callp h (cmpPoint s.ax s.ay t.ax t.ay _) ?_;clear F;(try clear h);intros;rename_i h));replace h:=Zd h;have F:=Zf2 h;refine Zc ?_)
  unfold cmpT
  by_cases h1 : cmp2 s.ax s.ay t.ax t.ay = 0
  case neg=>
    replace h:=Zd h;have F:=Zf2 h;refine Zc1 (decide_eq_false h1) ?_
    exact ⟨by rw [if_neg h1],h.done⟩
  replace h:=Zd h;have F:=Zf2 h;refine Zc1 (decide_eq_true h1) ?_
  refine Sep.callp h (cmpPoint s.bx s.by' t.bx t.by' _) ?_
  clear h F
  intro w3 h
  by_cases h2 : cmp2 s.bx s.by' t.bx t.by' = 0
  case neg=>
    replace h:=Zd h;have F:=Zf2 h;refine Zc1 (decide_eq_false h2) ?_
    exact ⟨by rw [if_pos h1,if_neg h2],h.done⟩
  replace h:=Zd h;have F:=Zf2 h;refine Zc1 (decide_eq_true h2) ?_
  refine Sep.callp h (cmpPoint s.cx s.cy t.cx t.cy _) ?_
  clear h F
  intro w4 h
  replace h:=Zd h;have F:=Zf2 h;refine Zs ?_
  exact ⟨by rw [if_pos h1,if_pos h2],h.done⟩
theorem checkKey_struct {P : Program} {em : Bool} {n : Nat} {t : TypeId} {cs : Array Value} {w : World} (hu : P.underlying t = some (.struct (P.fieldsOf t))) {l : List (Bool × TypeId × Nat)} (hl : sigF P t = l)
    (h : ∀ f ∈ l,∃ v,(part f.2.1 cs f.2.2).run P w = .ok v w∧(Instr.checkKey em n f.2.1 v).run P w = .ok () w) : (Instr.checkKey em (n + 1) t (.agg cs)).run P w = .ok () w:=by
  subst hl
  rw [Instr.checkKey]
  simp only [Sem.run_bind,run_underlying hu,Result.andThen_ok]
  rw [← Array.forIn_toList]
  have each : ∀ f ∈ (P.fieldsOf t).toList,∃ v,(part f.type cs f.offset).run P w = .ok v w∧(Instr.checkKey em n f.type v).run P w = .ok () w:=fun f hf=>h (f.name != "_",f.type,f.offset) (List.mem_map.2 ⟨f,hf,rfl⟩)
  clear h
  generalize (P.fieldsOf t).toList = L at each
  induction L with
  | nil=>simp
  | cons f L ih=>
    obtain ⟨v,p1,p2⟩ :=each f (by simp)
    have ih:=ih (fun y hy=>each y (by simp [hy]))
    by_cases hn : f.name = "_"
    · simp only [List.forIn_cons,Sem.run_bind,hn,ne_eq,not_true_eq_false,if_false,Result.andThen_ok,Sem.run_pure]
      exact ih
    · simp only [List.forIn_cons,Sem.run_bind,hn,ne_eq,not_false_eq_true,if_true,Result.andThen_ok,p1,p2,Sem.run_pure]
      exact ih
theorem checkKey_int {P : Program} {em : Bool} {n : Nat} {t : TypeId} {k : IntKind} {a : Int} {w : World} (hu : P.underlying t = some (.int k)) : (Instr.checkKey em (n + 1) t (.int k a)).run P w = .ok () w:=by
  unfold Instr.checkKey
  simp [Sem.run_bind,run_underlying hu,Result.andThen_ok]
theorem part_agg {P : Program} {t : TypeId} {cs : Array Value} {o n : Nat} {w : World} (hu : P.underlying t = some (.struct (P.fieldsOf t))) (hn : P.cellsOf t = n) : (part t cs o).run P w = .ok (.agg (cs.extract o (o + n))) w:=by
  obtain ⟨i,hi⟩ :=info_of_underlying hu
  subst hn
  simp [part,isAgg,run_underlying hu,run_sizeOf w hi]
theorem part_int {P : Program} {t : TypeId} {k : IntKind} {cs : Array Value} {o : Nat} {v : Value} {w : World} (hu : P.underlying t = some (.int k)) (hx : cs[o]? = some v) : (part t cs o).run P w = .ok v w:=
  run_part_plain w (by simp [Program.plainKey,hu]) hx
theorem ckPt {em : Bool} {n : Nat} {a b : Int} {w : World} : (Instr.checkKey em (n + 2) 45 (.agg #[.int .i64 a,.int .i64 b])).run Tryz.prog w = .ok () w:=by
  refine checkKey_struct (n:=n + 1) (by kernel_rfl) (l:=[(true,3,0),(true,3,1)]) (by kernel_rfl) fun f hf=>?_
  simp only [List.mem_cons,List.not_mem_nil,or_false] at hf
  rcases hf with rfl | rfl
  · exact ⟨_,part_int (show Tryz.prog.underlying 3 = some (.int .i64) by kernel_rfl) rfl,checkKey_int (by kernel_rfl)⟩
  · exact ⟨_,part_int (show Tryz.prog.underlying 3 = some (.int .i64) by kernel_rfl) rfl,checkKey_int (by kernel_rfl)⟩
abbrev Ent:=List Int×Value
def keyV (k : List Int) : Value:=.agg (cellsI k).toArray
structure MapB (w : World) (b : Nat) (L : List Ent) : Prop where
  of : ∃ es clock,w.heap[b]? = some (.map es clock)∧es.toList.map (fun e=>(e.key,e.val)) = L.map (fun p=>(keyV p.1,p.2))∧(es.toList.map (·.born)).Nodup∧∀ x ∈ es.toList,x.born < clock
def mpx (b : Nat) (L : List Ent) : Res where
  on w A:=MapB w b L∧A = fun x=>x = b
  rd _:=False
  fact w:=MapB w b L
  lt:=fun ⟨h,e⟩ x hx=>by subst e;subst hx;obtain ⟨_,_,h,_⟩ :=h.of;exact (Array.getElem?_eq_some_iff.1 h).1
  chg:=fun {w w' A} ⟨h,e⟩ hs hc=>⟨by
    obtain ⟨es,clock,h,r⟩ :=h.of
    exact ⟨es,clock,(hc b (Array.getElem?_eq_some_iff.1 h).1 (.inl (by rw [e]))).trans h,r⟩,e⟩
  ok:=fun h=>h.1
theorem mpx_fact (b : Nat) (L : List Ent) (w : World) : (mpx b L).fact w = MapB w b L:=(rfl)
def look (L : List Ent) (k : List Int) : Option Value:=(L.find? fun p=>p.1 == k).map (·.2)
structure KeyT (P : Program) (k : TypeId) (n : Nat) : Prop where
  wide : (match P.underlying k with | some (.array _ _) | some (.struct _)=>true | _=>false) = true
  chk : ∀ em w (x : List Int),x.length = n→(Instr.checkKey em 10000 k (keyV x)).run P w = .ok () w
  eq : ∀ w (x y : List Int),x.length = n→y.length = n→(Op.equal k (keyV x) (keyV y)).run P w = .ok (decide (x = y)) w
theorem findAsk {P : Program} {kt : TypeId} {n : Nat} (hk : KeyT P kt n) {w : World} {k : List Int} (hn : k.length = n) : ∀ (L : List Ent) (es : List MapEntry) (i : Nat), (∀ p ∈ L, p.1.length = n) → es.map (fun e => (e.key, e.val)) = L.map (fun p => (keyV p.1, p.2)) →
    ∃ r,(Instr.findAsking kt (keyV k) es i).run P w = .ok r w∧r.map (·.2) = look L k∧(∀ j v,r = some (j,v)→i≤j∧∃ p,L[j - i]? = some p∧p.1 = k)
  | [],es,i,_,he=>by
    have : es = []:=by simpa using he
    subst this
    exact ⟨none,by simp [Instr.findAsking],rfl,fun _ _ h=>by cases h⟩
  | p :: L,es,i,hl,he=>by
    match es,he with
    | e :: es,he=>
      simp only [List.map_cons,List.cons.injEq,Prod.mk.injEq] at he
      obtain ⟨⟨he1,he2⟩,he3⟩ :=he
      have h1:=hk.eq w k p.1 hn (hl p (.head _))
      by_cases hp : p.1 = k
      · refine ⟨some (i,e.val),?_,?_,fun j v h=>?_⟩
        · subst hp
          simp [Instr.findAsking,he1,h1]
        · simp [look,hp,he2]
        · injection h with h;injection h with h _;subst h
          exact ⟨Nat.le_refl _,p,by simp,hp⟩
      · obtain ⟨r,r1,r2,r3⟩ :=findAsk hk hn L es (i + 1) (fun q hq=>hl q (.tail _ hq)) he3
        refine ⟨r,?_,?_,fun j v h=>?_⟩
        · have : ¬ k = p.1:=fun e=>hp e.symm
          simp [Instr.findAsking,he1,h1,this]
          exact r1
        · rw [r2];simp [look,hp]
        · obtain ⟨g1,q,g2,g3⟩ :=r3 j v h
          refine ⟨by omega,q,?_,g3⟩
          have : j - i = (j - (i + 1)) + 1:=by omega
          rw [this,List.getElem?_cons_succ];exact g2
theorem lookup_rule {P : Program} {T kt et : TypeId} {n : Nat} {w : World} {b : Nat} {L : List Ent} {k : List Int} {z : Value} {K : Value → World → Prop} (h : MapB w b L) (hk : KeyT P kt n) (ht : P.underlying T = some (.map kt et)) (hz : (zeroValue et).run P w = .ok z w) (hl : ∀ p ∈ L, p.1.length = n) (hn : k.length = n)
    (hK : K (.tuple #[(look L k).getD z,.bool (look L k).isSome]) w) : RunK P (Instr.lookup T (.map (some b)) (keyV k) true) w K:=by
  obtain ⟨es,clock,hb,he,_⟩ :=h.of
  obtain ⟨r,r1,r2,_⟩ :=findAsk hk (w:=w) hn L es.toList 0 hl he
  refine ⟨_,w,?_,hK⟩
  have hf : (Instr.findKey kt (keyV k) es.toList).run P w = .ok r w:=by rw [run_findKey_eq w hk.wide];exact r1
  simp only [Instr.lookup,Sem.run_bind,run_underlying ht,Result.andThen_ok,MapKept.run_getObj_map hb,hk.chk _ w k hn,hf,Sem.run_pure]
  rw [← r2]
  cases r with
  | none=>simp [hz]
  | some q=>simp
theorem lookup_rule1 {P : Program} {T kt et : TypeId} {n : Nat} {w : World} {b : Nat} {L : List Ent} {k : List Int} {z : Value} {K : Value → World → Prop} (h : MapB w b L) (hk : KeyT P kt n) (ht : P.underlying T = some (.map kt et)) (hz : (zeroValue et).run P w = .ok z w) (hl : ∀ p ∈ L, p.1.length = n) (hn : k.length = n)
    (hK : K ((look L k).getD z) w) : RunK P (Instr.lookup T (.map (some b)) (keyV k) false) w K:=by
  obtain ⟨es,clock,hb,he,_⟩ :=h.of
  obtain ⟨r,r1,r2,_⟩ :=findAsk hk (w:=w) hn L es.toList 0 hl he
  refine ⟨_,w,?_,hK⟩
  have hf : (Instr.findKey kt (keyV k) es.toList).run P w = .ok r w:=by rw [run_findKey_eq w hk.wide];exact r1
  simp only [Instr.lookup,Sem.run_bind,run_underlying ht,Result.andThen_ok,MapKept.run_getObj_map hb,hk.chk _ w k hn,hf,Sem.run_pure]
  rw [← r2]
  cases r with
  | none=>simp [hz]
  | some q=>simp
def setL : List Ent→List Int→Value→List Ent
  | [],k,v=>[(k,v)]
  | p :: L,k,v=>if p.1 = k then (k,v) :: L else p :: setL L k v
theorem findAsk2 {P : Program} {kt : TypeId} {n : Nat} (hk : KeyT P kt n) {w : World} {k : List Int} (hn : k.length = n) : ∀ (L : List Ent) (es : List MapEntry) (i : Nat), (∀ p ∈ L, p.1.length = n) → es.map (fun e => (e.key, e.val)) = L.map (fun p => (keyV p.1, p.2)) →
    ∃ r,(Instr.findAsking kt (keyV k) es i).run P w = .ok r w∧(r = none→∀ x,L ++ [(k,x)] = setL L k x)∧(∀ j v,r = some (j,v)→i≤j∧j - i < L.length∧(∀ x,L.set (j - i) (k,x) = setL L k x)∧(L[j - i]?).map (·.1) = some k)
  | [],es,i,_,he=>by
    have : es = []:=by simpa using he
    subst this
    exact ⟨none,by simp [Instr.findAsking],fun _ x=>rfl,fun _ _ h=>by cases h⟩
  | p :: L,es,i,hl,he=>by
    match es,he with
    | e :: es,he=>
      simp only [List.map_cons,List.cons.injEq,Prod.mk.injEq] at he
      obtain ⟨⟨he1,he2⟩,he3⟩ :=he
      have h1:=hk.eq w k p.1 hn (hl p (.head _))
      by_cases hp : p.1 = k
      · subst hp
        refine ⟨some (i,e.val),by simp [Instr.findAsking,he1,h1],fun h=>by (cases h),fun j v h=>?_⟩
        injection h with h;injection h with h _;subst h
        refine ⟨Nat.le_refl _,by simp,fun x=>?_,by simp⟩
        simp [setL]
      · obtain ⟨r,r1,r2,r3⟩ :=findAsk2 hk hn L es (i + 1) (fun q hq=>hl q (.tail _ hq)) he3
        have hpk : ¬ k = p.1:=fun e=>hp e.symm
        refine ⟨r,?_,fun h x=>?_,fun j v h=>?_⟩
        · simp [Instr.findAsking,he1,h1,hpk]
          exact r1
        · rw [List.cons_append,setL,if_neg hp,r2 h x]
        · obtain ⟨g1,g2,g3,g4⟩ :=r3 j v h
          have ej : j - i = (j - (i + 1)) + 1:=by omega
          refine ⟨by omega,by rw [ej,List.length_cons];omega,fun x=>?_,?_⟩
          · rw [ej,List.set_cons_succ,setL,if_neg hp,g3 x]
          · rw [ej,List.getElem?_cons_succ];exact g4
theorem sameBits_key (n : Nat) (k : List Int) : Instr.sameBits (n + 1) (keyV k) (keyV k) = true:=by
  unfold keyV
  rw [Instr.sameBits]
  simp only [beq_self_eq_true,Bool.true_and]
  have : ∀ l : List Int,((cellsI l).zip (cellsI l)).all (fun x=>match x with | (x,y)=>Instr.sameBits n x y) = true:=fun l=>by
    induction l with
    | nil=>rfl
    | cons a l ih=>
      simp only [cellsI,List.map_cons,List.zip_cons_cons,List.all_cons,Bool.and_eq_true] at ih ⊢
      exact ⟨by simp [Instr.sameBits],ih⟩
  exact this k
theorem map_modify {α β : Type} {f : α→α} {g : α→β} {c : β} (hf : ∀ e,g (f e) = c) : ∀ (l : List α) (j : Nat),(l.modify j f).map g = (l.map g).set j c
  | [],j=>by simp
  | a :: l,0=>by simp [hf]
  | a :: l,j + 1=>by simp [map_modify hf l j]
theorem map_modify' {α β : Type} {f : α→α} {g : α→β} (hf : ∀ e,g (f e) = g e) : ∀ (l : List α) (j : Nat),(l.modify j f).map g = l.map g
  | [],j=>by simp
  | a :: l,0=>by simp [hf]
  | a :: l,j + 1=>by simp [map_modify' hf l j]
theorem Sep.mapSet (i : Nat) {P : Program} {T kt et : TypeId} {n : Nat} {w0 w : World} {S : Nat → Prop} {M : List Res} {b : Nat} {L : List Ent} {k : List Int} {v : Value} {K : World → Prop} (h : Sep w0 S M w) (hi : M[i]? = some (mpx b L)) (hk : KeyT P kt n) (ht : P.underlying T = some (.map kt et)) (hl : ∀ p ∈ L, p.1.length = n) (hn : k.length = n)
    (hK : ∀ w1,Sep w0 S (M.set i (mpx b (setL L k v))) w1→K w1) : RunU P (Instr.mapUpdate T (.map (some b)) (keyV k) v) w K:=by
  obtain ⟨A,⟨hm,hA⟩,_,h3⟩ :=h.at hi
  obtain ⟨es,clock,hb,he,hnd,hbn⟩ :=hm.of
  obtain ⟨r,r1,r2,r3⟩ :=findAsk2 hk (w:=w) hn L es.toList 0 hl he
  have hf : (Instr.findKey kt (keyV k) es.toList).run P w = .ok r w:=by rw [run_findKey_eq w hk.wide];exact r1
  have hc : ∀ o : Obj,Chg A w { w with heap:=w.heap.setIfInBounds b o }:=fun o=>by
    refine ⟨rfl,rfl,rfl,by simp,fun x hx hn=>?_⟩
    have hne : b≠x:=fun e=>hn (by rw [hA];exact e.symm)
    simp [hne]
  have hs : b < w.heap.size:=(Array.getElem?_eq_some_iff.1 hb).1
  have hin : ∀ o : Obj,({ w with heap:=w.heap.setIfInBounds b o } : World).heap[b]? = some o:=fun o=>by simp [hs]
  cases hr : r with
  | none=>
    subst hr
    have e:=r2 rfl v
    refine ⟨{ w with heap:=w.heap.setIfInBounds b (.map (es.push { key:=keyV k,val:=v,born:=clock }) (clock + 1)) },?_,hK _ (h3 _ A _ ⟨⟨_,_,hin _,?_,?_,?_⟩,hA⟩ (fun x hx=>.inl hx) (hc _) (fun _ f=>f))⟩
    · simp only [Instr.mapUpdate,Sem.run_bind,run_underlying ht,Result.andThen_ok,MapKept.run_getObj_map hb,hk.chk _ w k hn,hf]
      exact MapKept.run_setObj_map _ hb
    · rw [← e];simp [he]
    · simp only [Array.toList_push,List.map_append,List.map_cons,List.map_nil]
      refine List.nodup_append.2 ⟨hnd,by simp,fun x hx y hy=>?_⟩
      obtain ⟨q,hq,rfl⟩ :=List.mem_map.1 hx
      simp only [List.mem_cons,List.not_mem_nil,or_false] at hy
      have:=hbn q hq
      omega
    · intro x hx
      simp only [Array.toList_push,List.mem_append,List.mem_cons,List.not_mem_nil,or_false] at hx
      rcases hx with hx | rfl
      · have:=hbn x hx;omega
      · exact Nat.lt_succ_self _
  | some q=>
    obtain ⟨j,vo⟩ :=q
    subst hr
    obtain ⟨_,g1,g2,g3⟩ :=r3 j vo rfl
    rw [Nat.sub_zero] at g1 g2 g3
    have hkj : ((es[j]?).map (·.key)).getD (keyV k) = keyV k:=by
      have e:=congrArg (fun l=>l[j]?) he
      simp only [List.getElem?_map,Array.getElem?_toList] at e
      cases hl2 : L[j]? with
      | none=>rw [hl2] at g3;cases g3
      | some p=>
        rw [hl2] at g3 e
        simp only [Option.map_some,Option.some.injEq] at g3 e
        cases he2 : es[j]? with
        | none=>rfl
        | some x=>
          rw [he2] at e
          simp only [Option.map_some,Option.some.injEq,Prod.mk.injEq] at e
          simp [e.1,g3]
    refine ⟨{ w with heap:=w.heap.setIfInBounds b (.map (es.modify j fun e=>{ e with key:=keyV k,val:=v }) clock) },?_,hK _ (h3 _ A _ ⟨⟨_,_,hin _,?_,?_,?_⟩,hA⟩ (fun x hx=>.inl hx) (hc _) (fun _ f=>f))⟩
    · simp only [Instr.mapUpdate,Sem.run_bind,run_underlying ht,Result.andThen_ok,MapKept.run_getObj_map hb,hk.chk _ w k hn,hf,hkj,Instr.keyThatStays,sameBits_key 9999 k,if_true,Sem.run_pure]
      exact MapKept.run_setObj_map _ hb
    · rw [← g2 v,Array.toList_modify,map_modify (f:=fun e : MapEntry=>{ e with key:=keyV k,val:=v }) (g:=fun e : MapEntry=>(e.key,e.val)) (c:=(keyV k,v)) (fun e=>rfl),he,List.map_set]
    · rw [Array.toList_modify,map_modify' (f:=fun e : MapEntry=>{ e with key:=keyV k,val:=v }) (g:=fun x : MapEntry=>x.born) (fun e=>rfl)];exact hnd
    · intro x hx
      rw [Array.toList_modify] at hx
      have hx' : x.born ∈ (es.toList.modify j fun e : MapEntry=>{ e with key:=keyV k,val:=v }).map (fun x : MapEntry=>x.born):=List.mem_map.2 ⟨x,hx,rfl⟩
      rw [map_modify' (f:=fun e : MapEntry=>{ e with key:=keyV k,val:=v }) (g:=fun x : MapEntry=>x.born) (fun e=>rfl)] at hx'
      obtain ⟨y,hy,e⟩ :=List.mem_map.1 hx'
      have:=hbn y hy
      omega
theorem Sep.mapNew {P : Program} {T : TypeId} {w0 w : World} {S : Nat→Prop} {M : List Res} {K : Value→World→Prop} (h : Sep w0 S M w) (hK : ∀ b w1,Sep w0 S (M ++ [mpx b []]) w1→K (.map (some b)) w1) : RunK P (Instr.makeMap T Option.none) w K:=by
  refine ⟨.map (some w.heap.size),w.alloc (.map #[] 0),?_,hK _ _ (h.push ⟨rfl,rfl,rfl,?_,fun x hx _=>by first | exact heap_alloc_old w _ hx | exact heap_alloc_old w _ _ hx⟩ (A:=fun x=>x = w.heap.size) ⟨⟨#[],0,heap_alloc_new w _,rfl,by simp,fun x hx=>by simp at hx⟩,rfl⟩ (fun x hx=>by omega) (fun _ f=>f.elim))⟩
  · simp only [Instr.makeMap];rfl
  · show w.heap.size≤(w.heap.push _).size
    simp
structure RngB (w : World) (b r : Nat) (L Left : List Ent) : Prop where
  of : ∃ es clock since seen c0,w.heap[b]? = some (.map es clock)∧w.heap[r]? = some (.mapIter (some b) since seen c0)∧es.toList.map (fun e=>(e.key,e.val)) = L.map (fun p=>(keyV p.1,p.2))∧(es.toList.map (·.born)).Nodup∧(∀ x ∈ es.toList,x.born < clock)∧(∀ x ∈ es.toList,x.born < since)∧since≤c0∧since≤clock∧
    (leftOf es seen).toList.map (fun e=>(e.key,e.val)) = Left.map (fun p=>(keyV p.1,p.2))∧b≠r
theorem RngB.map {w : World} {b r : Nat} {L Left : List Ent} (h : RngB w b r L Left) : MapB w b L:=by
  obtain ⟨es,clock,_,_,_,h1,_,h2,h3,h4,_⟩ :=h.of
  exact ⟨es,clock,h1,h2,h3,h4⟩
def rng (b r : Nat) (L Left : List Ent) : Res where
  on w A:=RngB w b r L Left∧A = fun x=>x = b∨x = r
  rd _:=False
  fact w:=MapB w b L
  lt:=fun ⟨h,e⟩ x hx=>by
    subst e
    obtain ⟨_,_,_,_,_,h1,h2,_⟩ :=h.of
    rcases hx with rfl | rfl
    · exact (Array.getElem?_eq_some_iff.1 h1).1
    · exact (Array.getElem?_eq_some_iff.1 h2).1
  chg:=fun {w w' A} ⟨h,e⟩ hs hc=>⟨by
    obtain ⟨es,clock,since,seen,c0,h1,h2,q⟩ :=h.of
    exact ⟨es,clock,since,seen,c0,(hc b (Array.getElem?_eq_some_iff.1 h1).1 (.inl (by rw [e];exact .inl rfl))).trans h1,(hc r (Array.getElem?_eq_some_iff.1 h2).1 (.inl (by rw [e];exact .inr rfl))).trans h2,q⟩,e⟩
  ok:=fun h=>h.1.map
theorem rng_fact (b r : Nat) (L Left : List Ent) (w : World) : (rng b r L Left).fact w = MapB w b L:=(rfl)
theorem Sep.range (i : Nat) {P : Program} {T kt et : TypeId} {w0 w : World} {S : Nat → Prop} {M : List Res} {b : Nat} {L : List Ent} {K : Value → World → Prop} (h : Sep w0 S M w) (hi : M[i]? = some (mpx b L)) (ht : P.underlying T = some (.map kt et))
    (hK : ∀ r w1,Sep w0 S (M.set i (rng b r L L)) w1→K (.pointer (some ⟨r,0,Option.none⟩)) w1) : RunK P (Instr.range T (.map (some b))) w K:=by
  obtain ⟨A,⟨hm,hA⟩,_,h3⟩ :=h.at hi
  obtain ⟨es,clock,hb,he,hnd,hbn⟩ :=hm.of
  have hlt:=(Array.getElem?_eq_some_iff.1 hb).1
  refine ⟨_,_,run_range_map w T kt et b es clock ht hb,hK _ _ (h3 _ (fun x=>x = b∨x = w.heap.size) _ ⟨⟨es,clock,clock,#[],clock,by first | (rw [heap_alloc_old w _ hlt];exact hb) | (rw [heap_alloc_old w _ _ hlt];exact hb),heap_alloc_new w _,he,hnd,hbn,hbn,Nat.le_refl _,Nat.le_refl _,?_,by omega⟩,rfl⟩ (fun x hx=>?_) ⟨rfl,rfl,rfl,?_,fun x hx _=>by first | exact heap_alloc_old w _ hx | exact heap_alloc_old w _ _ hx⟩ (fun _ f=>f))⟩
  · have : leftOf es #[] = es:=by unfold leftOf;simp
    rw [this];exact he
  · rcases hx with rfl | rfl
    · exact .inl (by rw [hA])
    · exact .inr (Nat.le_refl _)
  · show w.heap.size≤(w.heap.push _).size
    simp
theorem filter_one {l : List MapEntry} {e : MapEntry} (hn : (l.map (·.born)).Nodup) (he : e ∈ l) : ∃ l1 l2,l = l1 ++ e :: l2∧l.filter (fun x=>!(x.born == e.born)) = l1 ++ l2:=by
  obtain ⟨l1,l2,rfl⟩ :=List.append_of_mem he
  refine ⟨l1,l2,rfl,?_⟩
  simp only [List.map_append,List.map_cons] at hn
  obtain ⟨_,h2,h3⟩ :=List.nodup_append.1 hn
  obtain ⟨h4,_⟩ :=List.nodup_cons.1 h2
  have a1 : l1.filter (fun x=>!(x.born == e.born)) = l1:=List.filter_eq_self.2 fun x hx=>by
    have:=h3 x.born (List.mem_map.2 ⟨x,hx,rfl⟩) e.born (.head _)
    simpa using this
  have a2 : l2.filter (fun x=>!(x.born == e.born)) = l2:=List.filter_eq_self.2 fun x hx=>by
    have : x.born≠e.born:=fun h=>h4 (by rw [← h];exact List.mem_map.2 ⟨x,hx,rfl⟩)
    simpa using this
  rw [List.filter_append,List.filter_cons,a1,a2]
  simp
theorem Sep.nextR (i : Nat) {P : Program} {w0 w : World} {S : Nat → Prop} {M : List Res} {b r : Nat} {L Left : List Ent} {ty : TypeId} {K : Value → World → Prop} (h : Sep w0 S M w) (hi : M[i]? = some (rng b r L Left))
    (hK0 : Left = []→K (.tuple #[.bool false]) w)
    (hK1 : ∀ L1 p L2 w1,Left = L1 ++ p :: L2→Sep w0 S (M.set i (rng b r L (L1 ++ L2))) w1→(Instr.entry (.pointer (some ⟨r,0,Option.none⟩))).run P w1 = .ok (.tuple #[keyV p.1,p.2]) w1→K (.tuple #[.bool true,keyV p.1,p.2]) w1) : RunK P (Instr.next (.pointer (some ⟨r,0,Option.none⟩)) false ty) w K:=by
  obtain ⟨A,⟨hm,hA⟩,_,h3⟩ :=h.at hi
  obtain ⟨es,clock,since,seen,c0,hb,hr,he,hnd,hbn,hbs,hsc,hscl,hlf,hne⟩ :=hm.of
  rcases run_next_at (P:=P) w ty r b since c0 seen es clock hr hb hbs hsc with ⟨h0,hrun⟩ | ⟨e,hel,w1,hal,hrun⟩
  · refine ⟨_,w,hrun,hK0 ?_⟩
    have : (leftOf es seen) = #[]:=Array.eq_empty_of_size_eq_zero h0
    rw [this] at hlf
    simpa using hlf.symm
  · have hnl : ((leftOf es seen).toList.map (·.born)).Nodup := by
      unfold leftOf
      rw [Array.toList_filter]
      exact hnd.sublist (List.filter_sublist.map _)
    obtain ⟨l1,l2,el,ef⟩ :=filter_one hnl hel
    rw [el,List.map_append,List.map_cons] at hlf
    obtain ⟨L1,R1,eL,e1,e2⟩ :=List.append_eq_map_iff.1 hlf
    match R1,e2 with
    | p :: L2,e2=>
      simp only [List.map_cons,List.cons.injEq,Prod.mk.injEq] at e2
      obtain ⟨⟨k1,k2⟩,k3⟩ :=e2
      have hsz : r < w.heap.size:=(Array.getElem?_eq_some_iff.1 hr).1
      have hw1 : w1.heap = w.heap:=by rcases hal with rfl | rfl<;>rfl
      have hos : w1.os = w.os∧w1.tape = w.tape∧w1.output = w.output:=by rcases hal with rfl | rfl<;>exact ⟨rfl,rfl,rfl⟩
      have hpush : (leftOf es (seen.push e.born)).toList = l1 ++ l2:=by
        rw [← ef]
        unfold leftOf
        rw [Array.toList_filter,Array.toList_filter,List.filter_filter]
        refine List.filter_congr fun x _=>?_
        rw [contains_push]
        cases seen.contains x.born<;>cases hq : (x.born == e.born)<;>rfl
      refine ⟨_,_,hrun,?_⟩
      rw [← k1,← k2]
      refine hK1 L1 p L2 _ eL (h3 _ A _ ⟨⟨es,clock,since,seen.push e.born,clock,?_,?_,he,hnd,hbn,hbs,hscl,hscl,?_,hne⟩,hA⟩ (fun x hx=>.inl hx) ⟨hos.1,hos.2.1,hos.2.2,?_,fun x hx hn=>?_⟩ (fun _ f=>f)) ?_
      · simp [ChangeMaps.setBlock,hw1,hne.symm,hb]
      · simp [ChangeMaps.setBlock,hw1,hsz]
      · rw [hpush,List.map_append,List.map_append,e1,k3]
      · simp [ChangeMaps.setBlock,hw1]
      · have : r≠x:=fun e=>hn (by rw [hA];exact .inr e.symm)
        simp [ChangeMaps.setBlock,hw1,this]
      · rw [k1,k2]
        refine run_entry_at _ r b since seen es clock e ?_ ?_ ?_ hnd
        · simp [ChangeMaps.setBlock,hw1,hsz]
        · simp [ChangeMaps.setBlock,hw1,hne.symm,hb]
        · unfold leftOf at hel
          rw [Array.toList_filter] at hel
          exact (List.mem_filter.1 hel).1
theorem Sep.rngEnd (i : Nat) {w0 w : World} {S : Nat→Prop} {M : List Res} {b r : Nat} {L Left : List Ent} (h : Sep w0 S M w) (hi : M[i]? = some (rng b r L Left)) : Sep w0 S (M.set i (mpx b L)) w:=by
  obtain ⟨A,⟨hm,hA⟩,_,h3⟩ :=h.at hi
  exact h3 _ (fun x=>x = b) w ⟨hm.map,rfl⟩ (fun x hx=>.inl (by rw [hA];exact .inl hx)) (Chg.refl _ _) (fun _ f=>f)
theorem len_4 {x : List Int} (h : x.length = 4) : ∃ a b c d,x = [a,b,c,d]:=by
  match x,h with
  | [a,b,c,d],_=>exact ⟨_,_,_,_,rfl⟩
theorem len_6 {x : List Int} (h : x.length = 6) : ∃ a b c d e f,x = [a,b,c,d,e,f]:=by
  match x,h with
  | [a,b,c,d,e,f],_=>exact ⟨_,_,_,_,_,_,rfl⟩
theorem edgeK : KeyT Tryz.prog 167 4 where
  wide:=by kernel_rfl
  chk:=fun em w x hx=>by
    obtain ⟨a,b,c,d,rfl⟩ :=len_4 hx
    refine checkKey_struct (n:=9999) (by kernel_rfl) (l:=[(true,45,0),(true,45,2)]) (by kernel_rfl) fun f hf=>?_
    simp only [List.mem_cons,List.not_mem_nil,or_false] at hf
    rcases hf with rfl | rfl
    · exact ⟨_,part_agg (n:=2) (by kernel_rfl) (by kernel_rfl),ckPt (n:=9997) (a:=a) (b:=b)⟩
    · exact ⟨_,part_agg (n:=2) (by kernel_rfl) (by kernel_rfl),ckPt (n:=9997) (a:=c) (b:=d)⟩
  eq:=fun w x y hx hy=>by
    obtain ⟨a,b,c,d,rfl⟩ :=len_4 hx
    obtain ⟨e,f,g,i,rfl⟩ :=len_4 hy
    have h:=equalIn_sig (P:=Tryz.prog) (d:=9999) (t:=167) (xs:=#[.int .i64 a,.int .i64 b,.int .i64 c,.int .i64 d]) (ys:=#[.int .i64 e,.int .i64 f,.int .i64 g,.int .i64 i]) (w:=w) (by kernel_rfl) (by kernel_rfl) (l:=[(true,45,0),(true,45,2)]) (by kernel_rfl) (eqF_agg (n:=2) (by kernel_rfl) (by kernel_rfl) (seqPt (d:=9997) a b e f w) (eqF_agg (n:=2) (by kernel_rfl) (by kernel_rfl) (seqPt (d:=9997) c d g i w) eqF_nil))
    refine Eq.trans h ?_
    simp [Bool.decide_and,Bool.and_assoc]
theorem triK : KeyT Tryz.prog 49 6 where
  wide:=by kernel_rfl
  chk:=fun em w x hx=>by
    obtain ⟨a,b,c,d,e,f,rfl⟩ :=len_6 hx
    refine checkKey_struct (n:=9999) (by kernel_rfl) (l:=[(true,45,0),(true,45,2),(true,45,4)]) (by kernel_rfl) fun f hf=>?_
    simp only [List.mem_cons,List.not_mem_nil,or_false] at hf
    rcases hf with rfl | rfl | rfl
    · exact ⟨_,part_agg (n:=2) (by kernel_rfl) (by kernel_rfl),ckPt (n:=9997) (a:=a) (b:=b)⟩
    · exact ⟨_,part_agg (n:=2) (by kernel_rfl) (by kernel_rfl),ckPt (n:=9997) (a:=c) (b:=d)⟩
    · exact ⟨_,part_agg (n:=2) (by kernel_rfl) (by kernel_rfl),ckPt (n:=9997)⟩
  eq:=fun w x y hx hy=>by
    obtain ⟨a0,a1,a2,a3,a4,a5,rfl⟩ :=len_6 hx
    obtain ⟨c0,c1,c2,c3,c4,c5,rfl⟩ :=len_6 hy
    exact seqTri (d:=9997) a0 a1 a2 a3 a4 a5 c0 c1 c2 c3 c4 c5 w
abbrev MeshE:=List (List Int×T3)
def ents (E : MeshE) : List Ent:=E.map fun p=>(p.1,.agg p.2.cells.toArray)
def lookE (E : MeshE) (k : List Int) : Option T3:=(E.find? fun p=>p.1 == k).map (·.2)
theorem look_ents (k : List Int) : ∀ E : MeshE,look (ents E) k = (lookE E k).map fun t=>.agg t.cells.toArray
  | []=>rfl
  | p :: E=>by
    have ih:=look_ents k E
    unfold look lookE ents at *
    simp only [List.map_cons,List.find?_cons]
    cases p.1 == k
    · exact ih
    · rfl
def MeshE.Wid (E : MeshE) : Prop:=∀ p ∈ E,p.1.length = 4
theorem ents_wid {E : MeshE} (h : E.Wid) : ∀ p ∈ ents E,p.1.length = 4:=fun p hp=>by
  obtain ⟨q,hq,rfl⟩ :=List.mem_map.1 hp
  exact h q hq
theorem zero_rule {P : Program} {t : TypeId} {z : Value} {w : World} (h : (P.info? t).map (·.zero) = some (some z)) : (zeroValue t).run P w = .ok z w:=by
  obtain ⟨i,hi,hz⟩ :=Option.map_eq_some_iff.1 h
  simp [zeroValue,run_typeInfo w hi,hz]
theorem zTri (w : World) : (zeroValue 49).run Tryz.prog w = .ok (.agg T3.zero.cells.toArray) w:=zero_rule (by kernel_rfl)
theorem look_mesh {w : World} {b : Nat} {E : MeshE} {a b' c d : Int} {K : Value → World → Prop} (h : MapB w b (ents E)) (hl : E.Wid)
    (hK : K (.tuple #[.agg ((lookE E [a,b',c,d]).getD T3.zero).cells.toArray,.bool (lookE E [a,b',c,d]).isSome]) w) : RunK Tryz.prog (Instr.lookup 163 (.map (some b)) (.agg #[.int .i64 a,.int .i64 b',.int .i64 c,.int .i64 d]) true) w K:=by
  refine lookup_rule (k:=[a,b',c,d]) h edgeK (et:=49) (by kernel_rfl) (zTri w) (ents_wid hl) rfl ?_
  rw [look_ents]
  generalize lookE E [a,b',c,d] = q at *
  cases q<;>exact hK
end Go.Proofs.YtnhgjgoglmadnaaGreat
