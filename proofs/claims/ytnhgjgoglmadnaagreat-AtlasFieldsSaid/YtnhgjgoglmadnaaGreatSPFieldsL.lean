/- Joined texts of this claim (part 38), printed by a program of this work. The last part holds the claimed theorem: the law answers true at every input of its row. -/
import Derived.Test.YtnhgjgoglmadnaaGreatSPFieldsK
set_option maxHeartbeats 4000000
namespace Go.Proofs.YtnhgjgoglmadnaaGreat
open Go.RowKit
set_option maxRecDepth 100000
set_option linter.unusedSimpArgs false
set_option linter.unusedVariables false
def PartsE (E : MeshE) (ps : List (Value×List T3)) : Prop:=ps.length≤(sel fTris E).length∧(0 < (sel fTris E).length→0 < ps.length)∧(∀ p ∈ ps,(0 < p.2.length∧p.2.length≤E.length)∧(∃ a c,p.1 = .slice a p.2.length c)∧∀ u ∈ p.2,hasE E u = true)∧∀ t ∈ sel fTris E,∃ p ∈ ps,t ∈ p.2
theorem partAt {ps : List (Value × List T3)} {E : MeshE} (hP : PartsE E ps) {a : Option Addr} {n c k : Nat} (hk : k < ps.length) {w0 : World} (h0 : w0.ownsRow 0 141 1 (.slice a n c) ps.length (ps.map (·.1))) : ∃ b o a' c', a = some ⟨b, o, none⟩ ∧ ps[k].1 = .slice a' ps[k].2.length c' ∧ 0 < ps[k].2.length ∧ (∀ u ∈ ps[k].2, hasE E u = true) ∧
    ∀ w : World,w.ownsRow 0 141 1 (.slice a n c) ps.length (ps.map (·.1))→w.cell? ⟨b,o + k,none⟩ = some (.slice a' ps[k].2.length c'):=by
  have one : ∀ u ∈ ps.map (·.1),u.oneCell' = true:=fun u hu=>by
    obtain ⟨p,hp,rfl⟩ :=List.mem_map.1 hu
    obtain ⟨_,_,e⟩ :=(hP.2.2.1 p hp).2.1
    rw [e];rfl
  obtain ⟨⟨h1,_⟩,⟨a',c',e'⟩,h3⟩ :=hP.2.2.1 _ (List.getElem_mem hk)
  have rd : ∀ w : World,w.ownsRow 0 141 1 (.slice a n c) ps.length (ps.map (·.1))→∃ b o,a = some ⟨b,o,none⟩ ∧w.cell? ⟨b,o + k,none⟩ = some (.slice a' ps[k].2.length c'):=fun w hw=>by
    obtain ⟨a1,c1,e,h4,h5,h6,h7⟩ :=(row_of_owns hw one).shape
    obtain ⟨b,o,e2,hc⟩ :=h7 (by omega)
    injection e with e3 e4 e5
    exact ⟨b,o,e3.trans e2,hc k _ (by rw [List.getElem?_map,List.getElem?_eq_getElem hk,← e'];rfl)⟩
  obtain ⟨b,o,rfl,_⟩ :=rd w0 h0
  refine ⟨b,o,a',c',rfl,e',h1,h3,fun w hw=>?_⟩
  obtain ⟨b2,o2,e2,h⟩ :=rd w hw
  injection e2 with e2
  injection e2 with e3 e4
  subst e3 e4
  exact h
theorem Sep.flood (i j : Nat) {bm bs : Nat} {E : MeshE} {W : List (List Int)} {w0 w : World} {S : Nat → Prop} {M : List Res} {K : Value → World → Prop} (kd : Int) (hW : W.length ≤ 1000000) (hE : E.length ≤ 1000000) (hc : ∀ p ∈ E, hasE E p.2 = true) (h : Sep w0 S M w) (hi : M[i]? = some (msh bm E)) (hj : M[j]? = some (wls bs W)) (hij : i ≠ j)
    (hk : ∀ (ps : List (Value×List T3)) (a : Option Addr) (c : Nat) (w1 : World),PartsE E ps→Sep w0 S (M ++ [row 141 1 (.slice a ps.length c) ps.length (ps.map (·.1)),tabsR ps.reverse]) w1→K (.slice a ps.length c) w1) : callsK Tryz.prog 79 #[.pointer (some ⟨bm,0,Option.none⟩),.pointer (some ⟨bs,0,Option.none⟩),.int .i64 kd] w K:=by
  refine h.call2 i j (Q:=fun v r' q' N=>∃ (ps : List (Value×List T3)) (a : Option Addr) (c : Nat),PartsE E ps∧v = .slice a ps.length c∧r' = msh bm E∧q' = wls bs W∧N = [row 141 1 v ps.length (ps.map (·.1)),tabsR ps.reverse]) hi hj hij (fun A _ k=>(flood79 kd hW hE hc k).mono fun ex w' ⟨v,er,ps,a,c,ev,h1,h2,h3,h4,k⟩ =>⟨v,er,_,_,_,k,fun _ f=>f,fun _ f=>f,fun q hq x hx=>?_,ps,a,c,⟨h1,h2,h3,h4⟩,ev,rfl,rfl,rfl⟩) ?_
  · simp only [List.mem_cons,List.not_mem_nil,or_false] at hq
    rcases hq with rfl | rfl
    · exact hx
    · exact tabsR_rd _ _ hx
  rintro _ _ _ _ w1 ⟨ps,a,c,hP,rfl,rfl,rfl,rfl⟩ k
  obtain ⟨hl,e1⟩ :=List.getElem?_eq_some_iff.1 hi
  obtain ⟨hl2,e2⟩ :=List.getElem?_eq_some_iff.1 hj
  rw [← e1,List.set_getElem_self,← e2,List.set_getElem_self] at k
  exact hk ps a c w1 hP k
def okR (E : MeshE) (r : List Int) : Prop:=∃ (pa la ro ow : Int) (t : T3),r = pa :: la :: ro :: ow :: t.row∧(1≤pa∧pa≤200)∧(0≤la∧la≤201)∧(0≤ro∧ro≤64)∧(0≤ow∧ow≤2)∧hasE E t = true
theorem hasE_sel {E : MeshE} {t : T3} (h : hasE E t = true) : t ∈ sel fTris E:=by
  unfold hasE at h
  rw [Bool.and_eq_true] at h
  obtain ⟨h1,h2⟩ :=h
  obtain ⟨u,hu⟩ :=Option.isSome_iff_exists.1 h1
  rw [hu] at h2
  have e : u = t:=T3.ext_row (of_decide_eq_true h2)
  subst e
  unfold lookE at hu
  obtain ⟨p,hp,rfl⟩ :=Option.map_eq_some_iff.1 hu
  have hk:=List.find?_some hp
  exact List.mem_map.2 ⟨p,List.mem_filter.2 ⟨List.mem_of_find?_eq_some hp,by rw [eq_of_beq hk];simp [fTris]⟩,rfl⟩
theorem takeS {qs : List (Value×List T3)} {t0 : T3} {k j : Nat} (hk : k < qs.length) (hj : qs[k].2.length≤j) (h : ∃ p ∈ qs.take (k + 1),t0 ∈ p.2) : (∃ p ∈ qs.take k,t0 ∈ p.2)∨t0 ∈ qs[k].2.take j:=by
  obtain ⟨p,hp,h⟩ :=h
  rw [List.take_add_one,List.getElem?_eq_getElem hk] at hp
  rcases List.mem_append.1 hp with hp | hp
  · exact .inl ⟨p,hp,h⟩
  · obtain rfl : p = qs[k]:=by simpa using hp
    exact .inr (by rw [List.take_of_length_le hj];exact h)
theorem takeN {R : Prop} {L : List T3} {t0 : T3} {j : Nat} (hj : j < L.length) (hn : ¬ t0 = L[j]) (h : R∨t0 ∈ L.take (j + 1)) : R∨t0 ∈ L.take j:=by
  rcases h with h | h
  · exact .inl h
  · rw [List.take_add_one,List.getElem?_eq_getElem hj] at h
    rcases List.mem_append.1 h with h | h
    · exact .inr h
    · exact absurd (by simpa using h) hn
def z300 : Value:=.agg (Array.replicate 300 (.int .i64 0))
theorem z300_zero : (tinfo Tryz.prog 143).zero = some z300:=by kernel_rfl
theorem ti300 : tinfo Tryz.prog 143 = ⟨true,true,some 300,some z300,none,some (300,some 1,false),none,none,false,false,false,false⟩ :=by kernel_rfl
theorem z300_cells : z300.cells.toList = cellsI (List.replicate 300 0):=by
  unfold z300 cellsI
  rw [List.map_replicate]
  simp [Value.cells]
theorem named14 {w : World} {A : Nat → Prop} {bc : Nat} {X Y : Int} {E : MeshE} {W : List (List Int)} {v : Value} (l : List Int) (hE : E.length ≤ 200) (hW : W.length ≤ 100000) (hc : ∀ p ∈ E, hasE E p.2 = true) (h0 : 0 < (sel fTris E).length) (hvS : ∀ {M : List Res} {w' : World}, Sep w A M w' → Ints w' v l) (h : Sep w A [cdt bc X Y E W] w) : Calls Tryz.prog 14 [.pointer (some ⟨bc, 0, none⟩), v, .slice none 0 0, .slice none 0 0].toArray w
    (RetK fun r w'=>∃ (Rs : List (List Int)) (a : Option Addr) (c : Nat),r = .slice a Rs.length c∧0 < Rs.length∧Rs.length≤E.length∧(∀ r ∈ Rs,okR E r)∧Sep w A [cdt bc X Y E W,tab 51 10 r Rs] w'):=by
  obtain ⟨bm,bs,h⟩ :=h.cdtOpen
  refine walk Tryz.func14 rfl (by kernel_rfl) (by rw [Tryz.nt14];simp) ?_
  replace h:=Zd h;have F:=Zf7 h
  refine Zv ?_
  replace h:=Zd h;have F:=Zf7 h;try simp -dsimp only [↓vcA,vcB,vcD,↓pureT_lenS,↓iteT,↓iteF,cond_true,cond_false,eq_self,argE,Env.get,Env.push,ev,evs,evo,retV,Value.cells,Value.oneCell',setR,overR,fillL,zl,places,allSizes,heldC,ne_eq,Int.reduceLE,Int.reduceLT,Int.reduceEq,Int.reduceNe,Int.reduceToNat,Int.cast_ofNat_Int,Nat.reduceMul,Nat.reduceLeDiff,reduceIte,Nat.reduceEqDiff,Nat.reduceAdd,↓reduceIte,Tryz.vcT,F,h.cell0,gets,vsD,if_true,if_false,Bool.false_eq_true,cellsAt,z300_zero,↓z300_cells]
  refine h.new ?_
  clear h F
  intro _ b10 h
  replace h:=Zd h;have F:=Zf7 h;refine Zc ?_
  refine walkDraw (.q 0 (.q 1 (.q 2 (.q 4 (.q 5 (.q 6 (.q 9 (.q 10 (.q 11 (.q 13 (.q 14 (.q 15 (.h 3 2 (.h 7 3 (.h 12 2 (.h 16 3 (.l 8 (.l 17 (.q 18 (.q 19 .fin)))))))))))))))))))) [(bc,0,.int .i64 X),(bc,1,.int .i64 Y),(bc,2,.pointer (some ⟨bm,0,none⟩)),(bc,3,.pointer (some ⟨bs,0,none⟩))] (by kernel_rfl) (by simp [Holds_nil,Holds_cons,F]) ?_
  refine h.draw ?_
  clear h F
  intro _ h
  replace h:=Zd h;have F:=Zf7 h;refine Zc ?_
  refine Sep.flood 1 2 1 (by omega) (by omega) hc h rfl rfl (by decide) ?_
  clear h F
  intro ps a c w2 hps h
  replace h:=Zd h;have F:=Zf7 h;refine Zc ?_
  refine Sep.flood 1 2 2 (by omega) (by omega) hc h rfl rfl (by decide) ?_
  clear h F
  intro qs a2 c2 w3 hqs h
  have hsl:=sel_len fTris E
  replace h:=Zd h;have F:=Zf7 h;refine Zc ?_
  have h:=h.cdtShut
  clear F
  have hpl:=hps.1
  have hql:=hqs.1
  have hp0:=hps.2.1 h0
  refine walkLoop [0,1,3,2,10,11,12] [9,13] (fun m vs w'=>∃ (i : Nat) (ns : List Int) (Rs : List (List Int)) (ar : Option Addr) (cr : Nat),i≤ps.length∧m = ps.length - i∧vs = [.slice ar Rs.length cr,.int .i64 i]∧ns.length = 300∧(∀ x ∈ ns,0≤x∧x≤i)∧Rs.length = i∧(∀ r ∈ Rs,okR E r)∧Sep w A [cdt bc X Y E W,blk b10 143 (cellsI ns),row 141 1 (.slice a ps.length c) ps.length (ps.map (·.1)),tabsR ps.reverse,row 141 1 (.slice a2 qs.length c2) qs.length (qs.map (·.1)),tabsR qs.reverse,tab 51 10 (.slice ar Rs.length cr) Rs] w') (by kernel_rfl) ?_ ?_
  · refine Zv ?_
    exact ⟨_,0,List.replicate 300 0,[],none,0,Nat.zero_le _,rfl,rfl,by simp,fun x hx=>by rw [List.eq_of_mem_replicate hx];omega,rfl,fun r hr=>(by cases hr),h.tabNil _ _⟩
  clear h
  try clear F
  intro ks hk m vs w4 hi
  obtain ⟨i,ns,Rs,ar,cr,hi,rfl,rfl,hns,hnx,hRl,hok,h⟩ :=hi
  replace hk:=Zk hk;subst hk
  replace h:=Zd h;have F:=Zf7 h;refine Zc ?_
  by_cases hlt : (i : Int) < ps.length
  case neg=>
    generalize hz : decide ((i : Int) < ps.length) = z
    obtain rfl : z = false:=hz.symm.trans (decide_eq_false hlt)
    clear hz
    replace h:=Zd h;have F:=Zf7 h;refine Zc ?_
    refine ⟨Rs,ar,cr,rfl,by omega,by omega,hok,?_⟩
    exact ((((h.erase 1).erase 1).erase 1).erase 1).erase 1
  have hil : i < ps.length:=by omega
  obtain ⟨t0,ht0⟩ : ∃ t0,t0 = ps[i].2[0]'((hps.2.2.1 _ (List.getElem_mem hil)).1.1):=⟨_,rfl⟩
  have ei : IntKind.i64.wrap ((i : Int) + 1) = ((i + 1 : Nat) : Int):=by rw [i64w _ (by omega) (by omega)];omega
  generalize hz : decide ((i : Int) < ps.length) = z
  obtain rfl : z = true:=hz.symm.trans (decide_eq_true hlt)
  clear hz
  replace h:=Zd h;have F:=Zf7 h;refine Zc ?_
  refine walkLoop [0,1,2,3,9,10,11,12,13] [14,15] (fun m vs w'=>∃ (pa k : Nat),k≤qs.length∧pa≤qs.length∧((∃ p ∈ qs.take k,t0 ∈ p.2)→1≤pa)∧m = qs.length - k∧vs = [.int .i64 pa,.int .i64 k]∧Sep w A [cdt bc X Y E W,blk b10 143 (cellsI ns),row 141 1 (.slice a ps.length c) ps.length (ps.map (·.1)),tabsR ps.reverse,row 141 1 (.slice a2 qs.length c2) qs.length (qs.map (·.1)),tabsR qs.reverse,tab 51 10 (.slice ar Rs.length cr) Rs] w') (by kernel_rfl) ?_ ?_
  · refine Zv ?_
    exact ⟨_,0,0,Nat.zero_le _,Nat.zero_le _,fun ⟨p,hp,_⟩ =>(by cases hp),rfl,rfl,h⟩
  clear h hlt
  try clear F
  intro ks hk m vs w5 hi2
  obtain ⟨pa,k,hkq,hpa,hcv,rfl,rfl,h⟩ :=hi2
  replace hk:=Zk hk;subst hk
  have ek : IntKind.i64.wrap ((k : Int) + 1) = ((k + 1 : Nat) : Int):=by rw [i64w _ (by omega) (by omega)];omega
  replace h:=Zd h;have F:=Zf7 h;refine Zc ?_
  by_cases hlk : (k : Int) < qs.length
  case pos=>
    have hkl : k < qs.length:=by omega
    generalize hz : decide ((k : Int) < qs.length) = z
    obtain rfl : z = true:=hz.symm.trans (decide_eq_true hlk)
    clear hz
    replace h:=Zd h;have F:=Zf7 h;refine Zc ?_
    refine walkLoop [0,1,2,3,9,10,11,12,13,15] [14,16] (fun m vs w'=>∃ (pa j : Nat),j≤qs[k].2.length∧pa≤qs.length∧(((∃ p ∈ qs.take k,t0 ∈ p.2)∨t0 ∈ qs[k].2.take j)→1≤pa)∧m = qs[k].2.length - j∧vs = [.int .i64 pa,.int .i64 j]∧Sep w A [cdt bc X Y E W,blk b10 143 (cellsI ns),row 141 1 (.slice a ps.length c) ps.length (ps.map (·.1)),tabsR ps.reverse,row 141 1 (.slice a2 qs.length c2) qs.length (qs.map (·.1)),tabsR qs.reverse,tab 51 10 (.slice ar Rs.length cr) Rs] w') (by kernel_rfl) ?_ ?_
    · refine Zv ?_
      exact ⟨_,pa,0,Nat.zero_le _,hpa,fun e=>hcv (e.elim id fun e=>by cases e),rfl,rfl,h⟩
    clear h hpa hcv
    try clear F
    intro ks hk m vs w6 hi3
    obtain ⟨pa,j,hj,hpa,hcv,rfl,rfl,h⟩ :=hi3
    replace hk:=Zk hk;subst hk
    obtain ⟨bb,oo,a5,c5,e2,eq5,hq0,hqh,kc⟩ :=partAt hqs hkl h.facts.2.2.2.2.1
    replace h:=Zd h;have F:=Zf7 h;refine Zc1 (J e2 (kc _ h.facts.2.2.2.2.1)) ?_
    refine ⟨by omega,?_⟩
    by_cases hlj : (j : Int) < qs[k].2.length
    case neg=>
      generalize hz : decide ((j : Int) < qs[k].2.length) = z
      obtain rfl : z = false:=hz.symm.trans (decide_eq_false hlj)
      clear hz
      replace h:=Zd h;have F:=Zf7 h;refine Zc1 ek ?_
      exact ⟨_,by omega,pa,k + 1,by omega,hpa,fun e=>hcv (takeS hkl (by omega) e),rfl,rfl,h⟩
    have hjl : j < qs[k].2.length:=by omega
    have ej : IntKind.i64.wrap ((j : Int) + 1) = ((j + 1 : Nat) : Int):=by
      have h1:=(tabsR_at h.facts.2.2.2.2.2.1 qs[k] (List.mem_reverse.2 (List.getElem_mem hkl))).len
      rw [List.length_map] at h1
      simp only [maxLen] at h1
      rw [i64w _ (by omega) (by omega)];omega
    have tq:=tabsR_at h.facts.2.2.2.2.2.1 qs[k] (List.mem_reverse.2 (List.getElem_mem hkl))
    rw [eq5] at tq
    obtain ⟨b6,o6,ea6,kq⟩ :=tq.sixAt hjl
    obtain ⟨b7,o7,a7,c7,ep7,eq7,hp7,_,kp⟩ :=partAt hps hil h.facts.2.2.1
    have tp:=tabsR_at h.facts.2.2.2.1 ps[i] (List.mem_reverse.2 (List.getElem_mem hil))
    rw [eq7] at tp
    obtain ⟨b8,o8,ea8,kr⟩ :=tp.sixAt hp7
    rw [Nat.zero_mul,Nat.add_zero] at kr
    generalize hz : decide ((j : Int) < qs[k].2.length) = z
    obtain rfl : z = true:=hz.symm.trans (decide_eq_true hlj)
    clear hz
    replace h:=Zd h;have F:=Zf7 h;refine Zc ?_
    have f1:=kc _ h.facts.2.2.2.2.1
    have f2:=kp _ h.facts.2.2.1
    obtain ⟨k0,k1,k2,k3,k4,k5⟩ :=kq _ tq
    obtain ⟨j0,j1,j2,j3,j4,j5⟩ :=kr _ tp
    subst ea6 ea8
    refine walkDraw (.q 0 (.q 1 (.q 2 (.q 4 (.q 7 (.q 8 (.q 9 (.h 3 0 (.q 5 (.h 6 1 (.h 10 7 (.q 11 (.h 12 8 (.q 13 .fin)))))))))))))) [(bb,oo + k,.slice (some ⟨b6,o6,none⟩) qs[k].2.length c5),(b6,o6 + j * 6,.int .i64 qs[k].2[j].ax),(b6,o6 + j * 6 + 1,.int .i64 qs[k].2[j].ay),(b6,o6 + j * 6 + 2,.int .i64 qs[k].2[j].bx),(b6,o6 + j * 6 + 3,.int .i64 qs[k].2[j].by'),(b6,o6 + j * 6 + 4,.int .i64 qs[k].2[j].cx),(b6,o6 + j * 6 + 5,.int .i64 qs[k].2[j].cy),(b7,o7 + i,.slice (some ⟨b8,o8,none⟩) ps[i].2.length c7),(b8,o8,.int .i64 ps[i].2[0].ax),(b8,o8 + 1,.int .i64 ps[i].2[0].ay),(b8,o8 + 2,.int .i64 ps[i].2[0].bx),(b8,o8 + 3,.int .i64 ps[i].2[0].by'),(b8,o8 + 4,.int .i64 ps[i].2[0].cx),(b8,o8 + 5,.int .i64 ps[i].2[0].cy)] (by kernel_rfl) (by simp [Holds_nil,Holds_cons,F,f1,f2,k0,k1,k2,k3,k4,k5,j0,j1,j2,j3,j4,j5]) ?_
    refine h.draw ?_
    clear h F f1 f2 k0 k1 k2 k3 k4 k5 j0 j1 j2 j3 j4 j5
    intro _ h
    replace h:=Zd h;have F:=Zf7 h;refine Zc1 (J e2 ep7) ?_
    refine ⟨by omega,by omega,by omega,by omega,?_⟩
    refine binK_eql_agg (by kernel_rfl) (fun w=>seqTri (d:=9997) qs[k].2[j].ax qs[k].2[j].ay qs[k].2[j].bx qs[k].2[j].by' qs[k].2[j].cx qs[k].2[j].cy ps[i].2[0].ax ps[i].2[0].ay ps[i].2[0].bx ps[i].2[0].by' ps[i].2[0].cx ps[i].2[0].cy w) ?_
    have hz : decide ([qs[k].2[j].ax,qs[k].2[j].ay,qs[k].2[j].bx,qs[k].2[j].by',qs[k].2[j].cx,qs[k].2[j].cy] = [ps[i].2[0].ax,ps[i].2[0].ay,ps[i].2[0].bx,ps[i].2[0].by',ps[i].2[0].cx,ps[i].2[0].cy]) = decide (t0 = qs[k].2[j]):=by
      rw [ht0]
      refine decide_eq_decide.2 ⟨fun e=>(T3.ext_row e).symm,fun e=>by rw [e]⟩
    rw [hz]
    cases hd : decide (t0 = qs[k].2[j])
    · have hd:=of_decide_eq_false hd
      replace h:=Zd h;have F:=Zf7 h;refine Zc1 ej ?_
      exact ⟨_,by omega,pa,j + 1,by omega,hpa,fun e=>hcv (takeN hjl hd e),rfl,rfl,h⟩
    · replace h:=Zd h;have F:=Zf7 h;refine Zc1 (J ej ek) ?_
      exact ⟨_,by omega,k + 1,j + 1,by omega,by omega,fun _=>by omega,rfl,rfl,h⟩
  generalize hz : decide ((k : Int) < qs.length) = z
  obtain rfl : z = false:=hz.symm.trans (decide_eq_false hlk)
  clear hz
  replace h:=Zd h;have F:=Zf7 h;refine Zc ?_
  replace h:=Zd h;have F:=Zf7 h;refine Zc1 ti300 ?_
  have hpa1 : 1≤pa:=hcv (by
    rw [List.take_of_length_le (by omega)]
    refine hqs.2.2.2 t0 (hasE_sel ?_)
    rw [ht0]
    exact (hps.2.2.1 _ (List.getElem_mem hil)).2.2 _ (List.getElem_mem _))
  clear hlk hcv
  have hpn : pa < ns.length:=by omega
  have hx:=hnx _ (List.getElem_mem hpn)
  have en : (cellsI ns)[pa]? = some (.int .i64 ns[pa]):=by unfold cellsI;rw [List.getElem?_map,List.getElem?_eq_getElem hpn];rfl
  have ex : IntKind.i64.wrap (ns[pa] + 1) = ns[pa] + 1:=by rw [i64w _ (by omega) (by omega)]
  refine ⟨by omega,?_⟩
  replace h:=Zd h;have F:=Zf7 h;refine Zc1 (J ti300 (J en ex)) ?_
  refine ⟨by omega,by rw [cellsI_len];omega,?_⟩
  refine Sep.put 1 h rfl ?_
  clear h F
  intro _ h
  rw [setR_cons,setR_nil,show (cellsI ns).set pa (.int .i64 (ns[pa] + 1)) = cellsI (ns.set pa (ns[pa] + 1)) from (List.map_set ..).symm] at h
  have hn2 : (ns.set pa (ns[pa] + 1)).length = 300:=by rw [List.length_set,hns]
  have en2 : (cellsI (ns.set pa (ns[pa] + 1)))[pa]? = some (.int .i64 (ns[pa] + 1)):=by unfold cellsI;rw [List.getElem?_map,List.getElem?_set_self (by omega)];rfl
  have hnx2 : ∀ x ∈ ns.set pa (ns[pa] + 1),0≤x∧x≤((i + 1 : Nat) : Int):=fun x hm=>by
    rcases List.mem_or_eq_of_mem_set hm with hm | rfl
    · have:=hnx x hm;omega
    · omega
  generalize ns.set pa (ns[pa] + 1) = ns2 at *
  replace h:=Zd h;have F:=Zf7 h;refine Zc1 ti300 ?_
  obtain ⟨b7,o7,a7,c7,ep7,eq7,hp7,hph,kp⟩ :=partAt hps hil h.facts.2.2.1
  have tp:=tabsR_at h.facts.2.2.2.1 ps[i] (List.mem_reverse.2 (List.getElem_mem hil))
  rw [eq7] at tp
  obtain ⟨b8,o8,ea8,kr⟩ :=tp.sixAt hp7
  rw [Nat.zero_mul,Nat.add_zero] at kr
  subst ea8
  have ht0:=hph _ (List.getElem_mem hp7)
  refine viaEnd (fun E' w'=>∃ (b17 : Nat) (ro ow : Int),(0≤ro∧ro≤64)∧(0≤ow∧ow≤2)∧(E'.get 0 = some (.pointer (some ⟨bc,0,none⟩))∧E'.get 1 = some v∧E'.get 2 = some (.slice none 0 0)∧E'.get 3 = some (.slice none 0 0)∧E'.get 9 = some (.slice ar Rs.length cr)∧E'.get 10 = some (.pointer (some ⟨b10,0,none⟩))∧E'.get 11 = some (.slice a ps.length c)∧E'.get 12 = some (.slice a2 qs.length c2)∧E'.get 13 = some (.int .i64 (i : Int))∧E'.get 14 = some (.int .i64 (pa : Int))∧E'.get 17 = some (.pointer (some ⟨b17,0,none⟩)))∧Sep w A [cdt bc X Y E W,blk b10 143 (cellsI ns2),row 141 1 (.slice a ps.length c) ps.length (ps.map (·.1)),tabsR ps.reverse,row 141 1 (.slice a2 qs.length c2) qs.length (qs.map (·.1)),tabsR qs.reverse,tab 51 10 (.slice ar Rs.length cr) Rs,blk b17 51 (cellsI ((pa : Int) :: (ns[pa] + 1) :: ro :: ow :: ps[i].2[0].row))] w') ?_ ?_
  · have f2:=kp _ h.facts.2.2.1
    obtain ⟨j0,j1,j2,j3,j4,j5⟩ :=kr _ tp
    replace h:=Zd h;have F:=Zf7 h
    refine walkDraw (.q 0 (.q 1 (.q 2 (.q 4 (.q 5 (.q 6 (.q 10 (.q 11 (.q 12 (.q 17 (.q 18 (.q 19 (.q 21 (.q 22 (.q 23 (.h 3 0 (.h 7 1 (.h 24 2 (.q 25 (.h 26 3 (.ll 8 (.q 9 (.ll 13 (.q 14 (.q 15 (.q 16 (.ll 20 (.q 27 (.l 28 (.l 29 .fin))) 28 (.l 20 (.q 27 (.l 29 .fin))))))) 28 (.l 13 (.q 14 (.q 15 (.q 16 (.l 20 (.q 27 (.l 29 .fin))))))))) 28 (.l 8 (.q 9 (.l 13 (.q 14 (.q 15 (.q 16 (.l 20 (.q 27 (.l 29 .fin)))))))))))))))))))))))))))))) [(b10,pa,.int .i64 (ns[pa] + 1)),(b7,o7 + i,.slice (some ⟨b8,o8,none⟩) ps[i].2.length c7),(b7,o7 + i,.slice (some ⟨b8,o8,none⟩) ps[i].2.length c7),(b8,o8,.int .i64 ps[i].2[0].ax),(b8,o8 + 1,.int .i64 ps[i].2[0].ay),(b8,o8 + 2,.int .i64 ps[i].2[0].bx),(b8,o8 + 3,.int .i64 ps[i].2[0].by'),(b8,o8 + 4,.int .i64 ps[i].2[0].cx),(b8,o8 + 5,.int .i64 ps[i].2[0].cy)] (by kernel_rfl) (by simp [Holds_nil,Holds_cons,F,f2,j0,j1,j2,j3,j4,j5,en2]) ?_
    refine h.draw ?_
    clear h F f2 j0 j1 j2 j3 j4 j5
    intro _ h
    have e8 : IntKind.i64.wrap (8 + (i : Int)) = ((8 + i : Nat) : Int):=by rw [i64w _ (by omega) (by omega)];omega
    have e9 : IntKind.i64.wrap (9 + (i : Int)) = ((9 + i : Nat) : Int):=by rw [i64w _ (by omega) (by omega)];omega
    replace h:=Zd h;have F:=Zf7 h;refine Zc1 (J ti300 (J ep7 (J e8 e9))) ?_
    refine ⟨⟨by omega,by omega⟩,⟨by omega,by omega⟩,⟨by omega,by omega⟩,by omega,?_⟩
    have hpE:=(hps.2.2.1 _ (List.getElem_mem hil)).1.2
    have hcl:=sortP_len (cornP ps[i].2)
    rw [cornP_len] at hcl
    have q8:=atI_in (l:=l) (i:=((8 + i : Nat) : Int)) (n:=7) (by omega)
    have q9:=atI_in (l:=l) (i:=((9 + i : Nat) : Int)) (n:=3) (by omega)
    refine ⟨?_,?_⟩
    · have tp:=tabsR_at h.facts.2.2.2.1 ps[i] (List.mem_reverse.2 (List.getElem_mem hil))
      rw [eq7] at tp
      refine h.c0t (corners77 ps[i].2 (by omega) tp) ?_
      clear h F
      intro a9 c9 _ h
      have f2:=kp _ h.facts.2.2.1
      have tp:=tabsR_at h.facts.2.2.2.1 ps[i] (List.mem_reverse.2 (List.getElem_mem hil))
      rw [eq7] at tp
      obtain ⟨j0,j1,j2,j3,j4,j5⟩ :=kr _ tp
      replace h:=Zd h;have F:=Zf7 h;refine Zc1 (J f2 (J j0 (J j1 (J j2 (J j3 (J j4 (J j5 en2))))))) ?_
      refine ⟨?_,?_⟩
      · refine h.callp (at12 l (8 + i) 7 (by omega) (by omega) _ (hvS h)) ?_
        clear h F
        intro _ h
        have f2:=kp _ h.facts.2.2.1
        have tp:=tabsR_at h.facts.2.2.2.1 ps[i] (List.mem_reverse.2 (List.getElem_mem hil))
        rw [eq7] at tp
        obtain ⟨j0,j1,j2,j3,j4,j5⟩ :=kr _ tp
        replace h:=Zd h;have F:=Zf7 h;refine Zc1 (J f2 (J j0 (J j1 (J j2 (J j3 (J j4 (J j5 en2))))))) ?_
        refine ⟨?_,?_⟩
        · refine h.callp (at12 l (9 + i) 3 (by omega) (by omega) _ (hvS h)) ?_
          clear h F
          intro _ h
          have f2:=kp _ h.facts.2.2.1
          have tp:=tabsR_at h.facts.2.2.2.1 ps[i] (List.mem_reverse.2 (List.getElem_mem hil))
          rw [eq7] at tp
          obtain ⟨j0,j1,j2,j3,j4,j5⟩ :=kr _ tp
          replace h:=Zd h;have F:=Zf7 h;refine Zc1 (J f2 (J j0 (J j1 (J j2 (J j3 (J j4 (J j5 en2))))))) ?_
          refine h.new ?_
          clear h F
          intro _ b17 h
          have f2:=kp _ h.facts.2.2.1
          have tp:=tabsR_at h.facts.2.2.2.1 ps[i] (List.mem_reverse.2 (List.getElem_mem hil))
          rw [eq7] at tp
          obtain ⟨j0,j1,j2,j3,j4,j5⟩ :=kr _ tp
          replace h:=Zd h;have F:=Zf7 h;refine Zc1 (J f2 (J j0 (J j1 (J j2 (J j3 (J j4 (J j5 en2))))))) ?_
          refine Sep.put 8 h rfl ?_
          clear h F
          intro _ h
          have f2:=kp _ h.facts.2.2.1
          have tp:=tabsR_at h.facts.2.2.2.1 ps[i] (List.mem_reverse.2 (List.getElem_mem hil))
          rw [eq7] at tp
          obtain ⟨j0,j1,j2,j3,j4,j5⟩ :=kr _ tp
          replace h:=Zd h;have F:=Zf7 h;refine Zc1 (J f2 (J j0 (J j1 (J j2 (J j3 (J j4 (J j5 en2))))))) ?_
          refine ⟨b17,_,_,?_,?_,rfl,h.erase 7⟩
          · split<;>(try split)<;>omega
          · omega
        · refine h.new ?_
          clear h F
          intro _ b17 h
          have f2:=kp _ h.facts.2.2.1
          have tp:=tabsR_at h.facts.2.2.2.1 ps[i] (List.mem_reverse.2 (List.getElem_mem hil))
          rw [eq7] at tp
          obtain ⟨j0,j1,j2,j3,j4,j5⟩ :=kr _ tp
          replace h:=Zd h;have F:=Zf7 h;refine Zc1 (J f2 (J j0 (J j1 (J j2 (J j3 (J j4 (J j5 en2))))))) ?_
          refine h.callp (at12 l (9 + i) 3 (by omega) (by omega) _ (hvS h)) ?_
          clear h F
          intro _ h
          have f2:=kp _ h.facts.2.2.1
          have tp:=tabsR_at h.facts.2.2.2.1 ps[i] (List.mem_reverse.2 (List.getElem_mem hil))
          rw [eq7] at tp
          obtain ⟨j0,j1,j2,j3,j4,j5⟩ :=kr _ tp
          replace h:=Zd h;have F:=Zf7 h;refine Zc1 (J f2 (J j0 (J j1 (J j2 (J j3 (J j4 (J j5 en2))))))) ?_
          refine Sep.put 8 h rfl ?_
          clear h F
          intro _ h
          have f2:=kp _ h.facts.2.2.1
          have tp:=tabsR_at h.facts.2.2.2.1 ps[i] (List.mem_reverse.2 (List.getElem_mem hil))
          rw [eq7] at tp
          obtain ⟨j0,j1,j2,j3,j4,j5⟩ :=kr _ tp
          replace h:=Zd h;have F:=Zf7 h;refine Zc1 (J f2 (J j0 (J j1 (J j2 (J j3 (J j4 (J j5 en2))))))) ?_
          refine ⟨b17,_,_,?_,?_,rfl,h.erase 7⟩
          · split<;>(try split)<;>omega
          · omega
      · refine h.new ?_
        clear h F
        intro _ b17 h
        have f2:=kp _ h.facts.2.2.1
        have tp:=tabsR_at h.facts.2.2.2.1 ps[i] (List.mem_reverse.2 (List.getElem_mem hil))
        rw [eq7] at tp
        obtain ⟨j0,j1,j2,j3,j4,j5⟩ :=kr _ tp
        replace h:=Zd h;have F:=Zf7 h;refine Zc1 (J f2 (J j0 (J j1 (J j2 (J j3 (J j4 (J j5 en2))))))) ?_
        refine h.callp (at12 l (8 + i) 7 (by omega) (by omega) _ (hvS h)) ?_
        clear h F
        intro _ h
        have f2:=kp _ h.facts.2.2.1
        have tp:=tabsR_at h.facts.2.2.2.1 ps[i] (List.mem_reverse.2 (List.getElem_mem hil))
        rw [eq7] at tp
        obtain ⟨j0,j1,j2,j3,j4,j5⟩ :=kr _ tp
        replace h:=Zd h;have F:=Zf7 h;refine Zc1 (J f2 (J j0 (J j1 (J j2 (J j3 (J j4 (J j5 en2))))))) ?_
        refine h.callp (at12 l (9 + i) 3 (by omega) (by omega) _ (hvS h)) ?_
        clear h F
        intro _ h
        have f2:=kp _ h.facts.2.2.1
        have tp:=tabsR_at h.facts.2.2.2.1 ps[i] (List.mem_reverse.2 (List.getElem_mem hil))
        rw [eq7] at tp
        obtain ⟨j0,j1,j2,j3,j4,j5⟩ :=kr _ tp
        replace h:=Zd h;have F:=Zf7 h;refine Zc1 (J f2 (J j0 (J j1 (J j2 (J j3 (J j4 (J j5 en2))))))) ?_
        refine Sep.put 8 h rfl ?_
        clear h F
        intro _ h
        have f2:=kp _ h.facts.2.2.1
        have tp:=tabsR_at h.facts.2.2.2.1 ps[i] (List.mem_reverse.2 (List.getElem_mem hil))
        rw [eq7] at tp
        obtain ⟨j0,j1,j2,j3,j4,j5⟩ :=kr _ tp
        replace h:=Zd h;have F:=Zf7 h;refine Zc1 (J f2 (J j0 (J j1 (J j2 (J j3 (J j4 (J j5 en2))))))) ?_
        refine ⟨b17,_,_,?_,?_,rfl,h.erase 7⟩
        · split<;>(try split)<;>omega
        · omega
    · refine h.new ?_
      clear h F
      intro _ b17 h
      have f2:=kp _ h.facts.2.2.1
      have tp:=tabsR_at h.facts.2.2.2.1 ps[i] (List.mem_reverse.2 (List.getElem_mem hil))
      rw [eq7] at tp
      obtain ⟨j0,j1,j2,j3,j4,j5⟩ :=kr _ tp
      replace h:=Zd h;have F:=Zf7 h;refine Zc1 (J f2 (J j0 (J j1 (J j2 (J j3 (J j4 (J j5 en2))))))) ?_
      have tp:=tabsR_at h.facts.2.2.2.1 ps[i] (List.mem_reverse.2 (List.getElem_mem hil))
      rw [eq7] at tp
      refine h.c0t (corners77 ps[i].2 (by omega) tp) ?_
      clear h F
      intro a9 c9 _ h
      have f2:=kp _ h.facts.2.2.1
      have tp:=tabsR_at h.facts.2.2.2.1 ps[i] (List.mem_reverse.2 (List.getElem_mem hil))
      rw [eq7] at tp
      obtain ⟨j0,j1,j2,j3,j4,j5⟩ :=kr _ tp
      replace h:=Zd h;have F:=Zf7 h;refine Zc1 (J f2 (J j0 (J j1 (J j2 (J j3 (J j4 (J j5 en2))))))) ?_
      refine h.callp (at12 l (8 + i) 7 (by omega) (by omega) _ (hvS h)) ?_
      clear h F
      intro _ h
      have f2:=kp _ h.facts.2.2.1
      have tp:=tabsR_at h.facts.2.2.2.1 ps[i] (List.mem_reverse.2 (List.getElem_mem hil))
      rw [eq7] at tp
      obtain ⟨j0,j1,j2,j3,j4,j5⟩ :=kr _ tp
      replace h:=Zd h;have F:=Zf7 h;refine Zc1 (J f2 (J j0 (J j1 (J j2 (J j3 (J j4 (J j5 en2))))))) ?_
      refine h.callp (at12 l (9 + i) 3 (by omega) (by omega) _ (hvS h)) ?_
      clear h F
      intro _ h
      have f2:=kp _ h.facts.2.2.1
      have tp:=tabsR_at h.facts.2.2.2.1 ps[i] (List.mem_reverse.2 (List.getElem_mem hil))
      rw [eq7] at tp
      obtain ⟨j0,j1,j2,j3,j4,j5⟩ :=kr _ tp
      replace h:=Zd h;have F:=Zf7 h;refine Zc1 (J f2 (J j0 (J j1 (J j2 (J j3 (J j4 (J j5 en2))))))) ?_
      refine Sep.put 7 h rfl ?_
      clear h F
      intro _ h
      have f2:=kp _ h.facts.2.2.1
      have tp:=tabsR_at h.facts.2.2.2.1 ps[i] (List.mem_reverse.2 (List.getElem_mem hil))
      rw [eq7] at tp
      obtain ⟨j0,j1,j2,j3,j4,j5⟩ :=kr _ tp
      replace h:=Zd h;have F:=Zf7 h;refine Zc1 (J f2 (J j0 (J j1 (J j2 (J j3 (J j4 (J j5 en2))))))) ?_
      refine ⟨b17,_,_,?_,?_,rfl,h.erase 8⟩
      · split<;>(try split)<;>omega
      · omega
  rintro E' w' ⟨b17,ro,ow,hro,how,⟨g0,g1,g2,g3,g9,g10,g11,g12,g13,g14,g17⟩,h⟩
  clear F
  replace h:=Zd h;have F:=Zf7 h;refine Zc1 (J g0 (J g1 (J g2 (J g3 (J g9 (J g10 (J g11 (J g12 (J g13 (J g14 g17)))))))))) ?_
  refine Sep.callp h (has80 (pa : Int) _) ?_
  clear h F
  intro _ h
  replace h:=Zd h;have F:=Zf7 h;refine Zc1 (J g0 (J g1 (J g2 (J g3 (J g9 (J g10 (J g11 (J g12 (J g13 (J g14 g17)))))))))) ?_
  obtain ⟨rw',hrw⟩ : ∃ z : List Int,z = (pa : Int) :: (ns[pa] + 1) :: ro :: ow :: ps[i].2[0].row:=⟨_,rfl⟩
  have hr10 : rw'.length = 10:=by rw [hrw];rfl
  have hokr : okR E rw':=⟨pa,ns[pa] + 1,ro,ow,ps[i].2[0],hrw,by omega,by omega,hro,how,ht0⟩
  rw [← hrw] at h
  clear hrw
  refine walkLoop [0,1,2,3,9,10,11,12,13,17] [18] (fun m vs w'=>m = 0∧vs = [.int .i64 0]∧Sep w A [cdt bc X Y E W,blk b10 143 (cellsI ns2),row 141 1 (.slice a ps.length c) ps.length (ps.map (·.1)),tabsR ps.reverse,row 141 1 (.slice a2 qs.length c2) qs.length (qs.map (·.1)),tabsR qs.reverse,tab 51 10 (.slice ar Rs.length cr) Rs,blk b17 51 (cellsI rw')] w') (by kernel_rfl) ?_ ?_
  · refine Zv1 (J g0 (J g1 (J g2 (J g3 (J g9 (J g10 (J g11 (J g12 (J g13 (J g14 g17)))))))))) ?_
    exact ⟨0,rfl,h⟩
  clear h
  try clear F
  intro ks hk m vs w8 hi4
  obtain ⟨rfl,rfl,h⟩ :=hi4
  simp -dsimp only [gets,argE,List.zip_cons_cons,List.zip_nil_left,List.cons_append,List.nil_append,Env.get,Env.push,Option.bind_some,Option.map_some,Option.some.injEq,reduceIte,Nat.reduceEqDiff,Nat.reduceAdd,↓reduceIte,g0,g1,g2,g3,g9,g10,g11,g12,g13,g14,g17] at hk;subst hk
  replace h:=Zd h;have F:=Zf7 h;refine Zc1 (decide_eq_false (show ¬ (0 : Int) < ((0 : Nat) : Int) by omega)) ?_
  obtain ⟨r0,r1,r2,r3,r4,r5,r6,r7,r8,r9,rfl⟩ :=len_10 hr10
  replace h:=Zd h;have F:=Zf7 h;refine Zc1 (J (decide_eq_false (show ¬ (0 : Int) < ((0 : Nat) : Int) by omega)) (@cellsI.eq_1)) ?_
  refine h.new ?_
  clear h F
  intro _ b18 h
  replace h:=Zd h;have F:=Zf7 h;refine Zc ?_
  refine Sep.appTab 6 8 infoRe Tryz.underlying27 rfl (by decide) [r0,r1,r2,r3,r4,r5,r6,r7,r8,r9] h rfl rfl rfl (by omega) (by simp only [maxLen];omega) ?_
  clear h F
  intro a9 c9 w9 h
  replace h:=Zd h;have F:=Zf7 h;refine Zc1 ei ?_
  refine ⟨_,by omega,i + 1,ns2,Rs ++ [[r0,r1,r2,r3,r4,r5,r6,r7,r8,r9]],a9,c9,by omega,rfl,rfl,hn2,hnx2,by rw [List.length_append,hRl];rfl,fun r hr=>?_,(h.erase 8).erase 7⟩
  rcases List.mem_append.1 hr with hr | hr
  · exact hok r hr
  · rw [List.mem_singleton.1 hr];exact hokr
theorem Sep.last (i : Nat) {w0 w : World} {S : Nat→Prop} {M : List Res} {r : Res} (h : Sep w0 S (M ++ [r]) w) (hi : M[i]? = some Go.Proofs.YtnhgjgoglmadnaaGreat.emp) : Sep w0 S (M.set i r) w:=by
  have hl : i < M.length:=(List.getElem?_eq_some_iff.1 hi).1
  have e1 : (M ++ [r]).set M.length Go.Proofs.YtnhgjgoglmadnaaGreat.emp = M ++ [Go.Proofs.YtnhgjgoglmadnaaGreat.emp]:=by rw [List.set_append_right _ _ (Nat.le_refl _),Nat.sub_self];rfl
  have h1:=h.two i M.length (by rw [e1,List.getElem?_append_left hl];exact hi) (by rw [List.getElem?_append_right (Nat.le_refl _),Nat.sub_self];rfl)
  rw [e1] at h1
  have h2:=h1.conv i (r:=Go.Proofs.YtnhgjgoglmadnaaGreat.two Go.Proofs.YtnhgjgoglmadnaaGreat.emp r) (r':=r) (by rw [List.getElem?_set_self (by simp;omega)]) (fun A ⟨B,C,hB,hC,hd,e⟩ =>by
    have : A = C:=by rw [e];funext x;rw [show B = fun _=>False from hB];simp
    rw [this];exact hC) (fun x hx=>.inr hx)
  rw [List.set_set] at h2
  have h3:=h2.erase M.length
  rw [List.set_append_left _ _ hl,List.eraseIdx_append_of_length_le (by simp),List.length_set,Nat.sub_self] at h3
  simpa using h3
theorem Sep.goto (i j : Nat) {w0 w : World} {S : Nat→Prop} {M : List Res} {r : Res} (h : Sep w0 S M w) (hi : M[i]? = some r) (hj : (M.set i Go.Proofs.YtnhgjgoglmadnaaGreat.emp)[j]? = some Go.Proofs.YtnhgjgoglmadnaaGreat.emp) : Sep w0 S ((M.set i Go.Proofs.YtnhgjgoglmadnaaGreat.emp).set j r) w:=by
  have h1:=h.two j i hj hi
  have hl : j < (M.set i Go.Proofs.YtnhgjgoglmadnaaGreat.emp).length:=(List.getElem?_eq_some_iff.1 hj).1
  have h2:=h1.conv j (r:=Go.Proofs.YtnhgjgoglmadnaaGreat.two Go.Proofs.YtnhgjgoglmadnaaGreat.emp r) (r':=r) (by rw [List.getElem?_set_self hl]) (fun A ⟨B,C,hB,hC,hd,e⟩ =>by
    have : A = C:=by rw [e];funext x;rw [show B = fun _=>False from hB];simp
    rw [this];exact hC) (fun x hx=>.inr hx)
  rwa [List.set_set] at h2
theorem Sep.appNew (i j : Nat) {P : Program} {t e : TypeId} {z : Value} {s by' : Nat} (hinf : (P.info? e).map (fun i => (i.zero, i.size, i.bytes)) = some (some z, s, by')) (ht : P.underlying t = some (.slice e)) (hzs : z.cells.size = s) (hs : 0 < s)
    {w0 w : World} {S : Nat→Prop} {M : List Res} {b : Nat} {src : Value} (ys : List (List Int)) {ty : TypeId} {K : Value→World→Prop} (h : Sep w0 S M w) (hi : M[i]? = some (blk b e [])) (hj : (M.set i Go.Proofs.YtnhgjgoglmadnaaGreat.emp)[j]? = some Go.Proofs.YtnhgjgoglmadnaaGreat.emp) (hsrc : Tab s w src ys)
    (hl : ys.length * by'≤140737488355328) (h63 : ys.length≤maxLen)
    (hK : ∀ a c w',Sep w0 S ((M.set i Go.Proofs.YtnhgjgoglmadnaaGreat.emp).set j (tab e s (.slice a ys.length c) ys)) w'→K (.slice a ys.length c) w') : RunK P (Builtin.append_ #[t,t] ty #[.slice (some ⟨b,0,Option.none⟩) 0 0,src]) w K:=by
  have hl' : i < M.length:=(List.getElem?_eq_some_iff.1 hi).1
  refine Sep.appTabs i hinf ht hzs hs ys (h.toTab i s [] hi (fun _ h=>by cases h) rfl (Nat.zero_le _)) (by rw [List.getElem?_set_self hl'];rfl) hsrc (by simpa using hl) (by simpa using h63) fun a c w' h=>?_
  rw [List.nil_append] at h ⊢
  rw [List.set_set] at h
  have hg:=h.goto i j (by rw [List.getElem?_set_self hl']) (by rw [List.set_set];exact hj)
  rw [List.set_set] at hg
  exact hK a c w' hg
theorem Sep.appNewV (i j : Nat) {P : Program} {t e : TypeId} {z : Value} {s by' : Nat} (hinf : (P.info? e).map (fun i => (i.zero, i.size, i.bytes)) = some (some z, s, by')) (ht : P.underlying t = some (.slice e)) (hzs : z.cells.size = s) (hs : 0 < s)
    {w0 w : World} {S : Nat→Prop} {M : List Res} {b : Nat} {src : Value} (ys : List (List Int)) {ty : TypeId} {K : Value→World→Prop} (h : Sep w0 S M w) (hi : M[i]? = some (blk b e [])) (hj : (M.set i Go.Proofs.YtnhgjgoglmadnaaGreat.emp)[j]? = some Go.Proofs.YtnhgjgoglmadnaaGreat.emp) (hsrc : Tab s w src ys)
    (hl : ys.length * by'≤140737488355328) (h63 : ys.length≤maxLen)
    (hK : ∀ v w',Sep w0 S ((M.set i Go.Proofs.YtnhgjgoglmadnaaGreat.emp).set j (tab e s v ys)) w'→K v w') : RunK P (Builtin.append_ #[t,t] ty #[.slice (some ⟨b,0,Option.none⟩) 0 0,src]) w K:=
  Sep.appNew i j hinf ht hzs hs ys h hi hj hsrc hl h63 fun a c w' h=>hK _ w' h
theorem Sep.cdtAt (i : Nat) {bc : Nat} {x y : Int} {E : MeshE} {W : List (List Int)} {w0 w : World} {S : Nat→Prop} {M : List Res} (h : Sep w0 S M w) (hi : M[i]? = some (cdt bc x y E W)) : ∃ bm bs,Sep w0 S (M.set i (blk bc 62 [.int .i64 x,.int .i64 y,.pointer (some ⟨bm,0,Option.none⟩),.pointer (some ⟨bs,0,Option.none⟩)]) ++ [Go.Proofs.YtnhgjgoglmadnaaGreat.two (msh bm E) (wls bs W)]) w:=by
  obtain ⟨A,⟨bm,bs,B,C,h1,h2,h3,rfl⟩,k⟩ :=h.split i hi
  exact ⟨bm,bs,k _ _ B C h1 h2 (fun x hx=>.inl hx) (fun x hx=>⟨.inr hx,fun hb=>h3 x hb hx⟩) (fun _ f=>f) (fun _ f=>f.elim id id)⟩
theorem Sep.splitTwo (i : Nat) {w0 w : World} {S : Nat→Prop} {M : List Res} {r q : Res} (h : Sep w0 S M w) (hi : M[i]? = some (Go.Proofs.YtnhgjgoglmadnaaGreat.two r q)) : Sep w0 S (M.set i r ++ [q]) w:=by
  obtain ⟨A,⟨B,C,h1,h2,h3,rfl⟩,k⟩ :=h.split i hi
  exact k r q B C h1 h2 (fun x hx=>.inl hx) (fun x hx=>⟨.inr hx,fun hb=>h3 x hb hx⟩) (fun x hx=>.inl hx) (fun x hx=>.inr hx)
theorem Sep.atT (i : Nat) {w0 w : World} {M : List Res} {v : Value} {l : List Int} {k n : Int} {K : Value → World → Prop} (h : Sep w0 (fun _ => False) M w) (hv : Ints w0 v l) (hk : (i : Int) = k) (hi : i ≤ 1000000) (hn : 0 < n ∧ n ≤ 1000000000000)
    (hK : ∀ w1,Sep w0 (fun _=>False) M w1→K (.int .i64 (atI l k n)) w1) : callsK Tryz.prog 12 #[v,.int .i64 k,.int .i64 n] w K:=by
  subst hk
  exact h.callp (Go.Proofs.YtnhgjgoglmadnaaGreat.at12 l i n hi hn w (Tab.sep hv h fun _ _ f=>f)) hK
theorem Ints.far {w w1 w2 : World} {A : Nat→Prop} {M : List Res} {v : Value} {l : List Int} (hv : Ints w v l) (h1 : Ints w1 v l) (hA : ∀ x,A x→False∨w.heap.size≤x) (h : Sep w1 A M w2) : Ints w2 v l:=by
  cases l with
  | nil=>
    obtain ⟨q0,q1,q2,a,c,rfl,h3,h4,h5,h6⟩ :=h1
    exact ⟨q0,q1,q2,a,c,rfl,h3,h4,h5,fun hp=>absurd hp (by simp)⟩
  | cons x l=>
    refine ⟨h1.wid,h1.row.sep h fun k hk ha=>?_⟩
    obtain ⟨q0,q1,q2,a,c,rfl,h3,h4,h5,h6⟩ :=hv
    obtain ⟨b,o,rfl,hc⟩ :=h6 (by simp)
    simp [Value.ownBlock] at hk
    subst hk
    have:=World.block_lt_of_cell? w _ (hc 0 (.int .i64 x) rfl)
    exact (hA b ha).elim id fun hge=>by dsimp only at this;omega
theorem points13o {w : World} {A : Nat → Prop} {bc bm bs : Nat} {wx wy : Int} {E : MeshE} (hE : E.length ≤ 300000) (h : Sep w A [blk bc 62 [.int .i64 wx, .int .i64 wy, .pointer (some ⟨bm, 0, none⟩), .pointer (some ⟨bs, 0, none⟩)], msh bm E] w) : Calls Tryz.prog 13 [.pointer (some ⟨bc, 0, none⟩)].toArray w
    (RetK fun r w'=>∃ a c,r = .slice a (pointsE E).length c∧Sep w A [blk bc 62 [.int .i64 wx,.int .i64 wy,.pointer (some ⟨bm,0,none⟩),.pointer (some ⟨bs,0,none⟩)],msh bm E,tab 45 2 r (pointsE E)] w'):=by
  refine walk Tryz.func13 rfl (by kernel_rfl) (by rw [Tryz.nt13];simp) ?_
  replace h:=Zd h;have F:=Zf7 h
  refine Zv ?_
  replace h:=Zd h;have F:=Zf7 h;refine Zc ?_
  have hsl : (sortT (sel fTris E)).length = (sel fTris E).length:=(sortT_perm _).length_eq
  have hs2:=sel_len fTris E
  refine Sep.c1t 1 h rfl (fun A k=>tris78 (by omega) k) (fun _ f=>f) ?_
  clear h F
  intro a c w2 h
  replace h:=Zd h;have F:=Zf7 h;refine Zc ?_
  refine h.c0t (corners77 (sortT (sel fTris E)) (by omega) h.facts.2.2.1) ?_
  clear h F
  intro a2 c2 w3 h
  replace h:=Zd h;have F:=Zf7 h;refine Zc ?_
  exact ⟨_,_,rfl,h.erase 2⟩
theorem Sep.pts (i j : Nat) {w0 w : World} {S : Nat → Prop} {M : List Res} {bc bm bs : Nat} {wx wy : Int} {E : MeshE} {K : Value → World → Prop} (hE : E.length ≤ 300000) (h : Sep w0 S M w) (hi : M[i]? = some (blk bc 62 [.int .i64 wx, .int .i64 wy, .pointer (some ⟨bm, 0, Option.none⟩), .pointer (some ⟨bs, 0, Option.none⟩)])) (hj : M[j]? = some (msh bm E)) (hij : i ≠ j)
    (hk : ∀ v w1,Sep w0 S (M ++ [tab 45 2 v (pointsE E)]) w1→K v w1) : callsK Tryz.prog 13 #[.pointer (some ⟨bc,0,Option.none⟩)] w K:=by
  refine h.call2 i j (Q:=fun v r' q' N=>r' = blk bc 62 [.int .i64 wx,.int .i64 wy,.pointer (some ⟨bm,0,Option.none⟩),.pointer (some ⟨bs,0,Option.none⟩)]∧q' = msh bm E∧N = [tab 45 2 v (pointsE E)]) hi hj hij (fun A _ k=>(points13o hE k).mono fun ex w' ⟨v,er,a,c,ev,k⟩ =>⟨v,er,_,_,_,k,fun _ f=>f,fun _ f=>f,fun q hq=>(by simp at hq;subst hq;exact fun _ f=>f),rfl,rfl,rfl⟩) ?_
  rintro v _ _ _ w1 ⟨rfl,rfl,rfl⟩ k
  obtain ⟨hl,e1⟩ :=List.getElem?_eq_some_iff.1 hi
  obtain ⟨hl2,e2⟩ :=List.getElem?_eq_some_iff.1 hj
  rw [← e1,List.set_getElem_self,← e2,List.set_getElem_self] at k
  exact hk v w1 k
end Go.Proofs.YtnhgjgoglmadnaaGreat
