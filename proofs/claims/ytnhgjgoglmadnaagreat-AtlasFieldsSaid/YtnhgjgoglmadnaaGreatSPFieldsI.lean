/- Joined texts of this claim (part 35), printed by a program of this work. The last part holds the claimed theorem: the law answers true at every input of its row. -/
import Derived.Test.YtnhgjgoglmadnaaGreatSPFieldsH
set_option maxHeartbeats 4000000
namespace Go.Proofs.YtnhgjgoglmadnaaGreat
open Go.RowKit
set_option maxRecDepth 100000
set_option linter.unusedSimpArgs false
set_option linter.unusedVariables false
def tabsR : List (Value×List T3)→Res
  | []=>emp
  | p :: ps=>two (tab 49 6 p.1 (rowsT p.2)) (tabsR ps)
theorem tabsR_rd : ∀ (ps : List (Value×List T3)) (x : Nat),¬ (tabsR ps).rd x
  | [],_=>fun f=>f
  | p :: ps,x=>fun f=>f.elim id (tabsR_rd ps x)
theorem tabsR_at : ∀ {ps : List (Value×List T3)} {w : World},(tabsR ps).fact w→∀ p ∈ ps,Tab 6 w p.1 (rowsT p.2)
  | p :: ps,w,h,q,hq=>by
    rcases List.mem_cons.1 hq with rfl | hq
    · exact h.1
    · exact tabsR_at h.2 q hq
theorem Sep.appVal (i k : Nat) {P : Program} {t e : TypeId} {z : Value} {by' : Nat} (hinf : (P.info? e).map (fun i => (i.zero, i.size, i.bytes)) = some (some z, 1, by')) (ht : P.underlying t = some (.slice e)) (hzs : z.cells.size = 1)
    {w0 w : World} {S : Nat→Prop} {M : List Res} {v u : Value} {n b : Nat} {xs : List Value} {ty : TypeId} {K : Value→World→Prop} (h : Sep w0 S M w) (hi : M[i]? = some (row e 1 v n xs)) (hk : M[k]? = some (blk b e [u])) (hu : u.oneCell' = true)
    (hl : (n + 1) * by'≤140737488355328) (h63 : n + 1≤maxLen)
    (hK : ∀ a c w',Sep w0 S (M.set i (row e 1 (.slice a (n + 1) c) (n + 1) (xs ++ [u]))) w'→K (.slice a (n + 1) c) w') : RunK P (Builtin.append_ #[t,t] ty #[v,.slice (some ⟨b,0,Option.none⟩) 1 1]) w K:=by
  obtain ⟨C,⟨c1,_⟩,_,_⟩ :=h.at hk
  have hrow : Row 1 w (.slice (some ⟨b,0,Option.none⟩) 1 1) 1 [u]:=⟨rfl,fun x hx=>by simp at hx;subst hx;exact hu,_,_,rfl,Nat.le_refl _,by simp [maxLen],fun e=>by (cases e),fun _=>⟨b,0,rfl,fun j x hj=>by rw [cell_of_row w b _ _ _ _ c1,Nat.zero_add];simpa using hj⟩⟩
  exact h.app i hinf ht hzs (by decide) hi hrow hl h63 hK
theorem infoRT : (Tryz.prog.info? 141).map (fun i=>(i.zero,i.size,i.bytes)) = some (some (.slice none 0 0),1,24):=by kernel_rfl
theorem T3.ext_row {s t : T3} (h : s.row = t.row) : s = t:=by
  cases s;cases t
  simp only [T3.row,List.cons.injEq,and_true] at h
  simp only [T3.mk.injEq];exact h
instance : DecidableEq T3:=fun s t=>decidable_of_iff (s.row = t.row) ⟨T3.ext_row,fun h=>by rw [h]⟩
def Cov (L : List T3) (i : Nat) (S : List T3) (ps : List (Value×List T3)) : Prop:=(∀ t ∈ S,∃ p ∈ ps,t ∈ p.2)∧∀ t ∈ L.take i,t ∈ S
theorem Cov.nil (L : List T3) : Cov L 0 [] []:=⟨fun t h=>(by cases h),fun t h=>(by cases h)⟩
theorem Cov.all {L : List T3} {i : Nat} {S : List T3} {ps : List (Value×List T3)} (h : Cov L i S ps) (hi : L.length≤i) (t : T3) (ht : t ∈ L) : ∃ p ∈ ps,t ∈ p.2:=h.1 t (h.2 t (by rw [List.take_of_length_le hi];exact ht))
theorem Cov.skip {L : List T3} {i : Nat} {S : List T3} {ps : List (Value×List T3)} (h : Cov L i S ps) (hi : i < L.length) (hm : L[i].row ∈ rowsT S) : Cov L (i + 1) S ps:=by
  refine ⟨h.1,fun t ht=>?_⟩
  rw [List.take_add_one,List.getElem?_eq_getElem hi] at ht
  rcases List.mem_append.1 ht with ht | ht
  · exact h.2 t ht
  · obtain ⟨u,hu,e⟩ :=List.mem_map.1 hm
    obtain rfl : t = L[i]:=by simpa using ht
    rw [← T3.ext_row e];exact hu
theorem Cov.add {L : List T3} {i : Nat} {S : List T3} {ps : List (Value×List T3)} (h : Cov L i S ps) (hi : i < L.length) {Q : List T3} (v : Value) (hq : L[i] ∈ Q) : Cov L (i + 1) (S ++ Q) (ps ++ [(v,Q)]):=by
  refine ⟨fun t ht=>?_,fun t ht=>?_⟩
  · rcases List.mem_append.1 ht with ht | ht
    · obtain ⟨p,hp,h⟩ :=h.1 t ht
      exact ⟨p,List.mem_append_left _ hp,h⟩
    · exact ⟨_,List.mem_append_right _ (.head _),ht⟩
  · rw [List.take_add_one,List.getElem?_eq_getElem hi] at ht
    rcases List.mem_append.1 ht with ht | ht
    · exact List.mem_append_left _ (h.2 t ht)
    · obtain rfl : t = L[i]:=by simpa using ht
      exact List.mem_append_right _ hq
theorem flood79 {w : World} {A : Nat → Prop} {bm bs : Nat} {E : MeshE} {W : List (List Int)} (kd : Int) (hW : W.length ≤ 1000000) (hE : E.length ≤ 1000000) (hc : ∀ p ∈ E, hasE E p.2 = true) (h : Sep w A [msh bm E, wls bs W] w) : Calls Tryz.prog 79 [.pointer (some ⟨bm, 0, none⟩), .pointer (some ⟨bs, 0, none⟩), .int .i64 kd].toArray w
    (RetK fun r w'=>∃ (ps : List (Value×List T3)) (a : Option Addr) (c : Nat),r = .slice a ps.length c∧ps.length≤(sel fTris E).length∧(0 < (sel fTris E).length→0 < ps.length)∧(∀ p ∈ ps,(0 < p.2.length∧p.2.length≤E.length)∧(∃ a c,p.1 = .slice a p.2.length c)∧∀ u ∈ p.2,hasE E u = true)∧(∀ t ∈ sel fTris E,∃ p ∈ ps,t ∈ p.2)∧
      Sep w A [msh bm E,wls bs W,row 141 1 r ps.length (ps.map (·.1)),tabsR ps.reverse] w'):=by
  refine walk Tryz.func79 rfl (by kernel_rfl) (by rw [Tryz.nt79];simp) ?_
  replace h:=Zd h;have F:=Zf7 h
  refine Zv ?_
  refine Sep.mapNew h ?_
  clear h F
  intro bq w1 h
  replace h:=Zd h;have F:=Zf7 h;refine Zc ?_
  refine Sep.c1t 0 h rfl (fun A k=>tris78 hE k) (fun _ f=>f) ?_
  clear h F
  intro a c w2 h
  have hsl : (sortT (sel fTris E)).length = (sel fTris E).length:=(sortT_perm _).length_eq
  have hs2:=sel_len fTris E
  have hmem : ∀ u ∈ sortT (sel fTris E),hasE E u = true:=fun u hu=>by
    have:=(sortT_perm (sel fTris E)).mem_iff.1 hu
    unfold sel at this
    obtain ⟨p,hp,rfl⟩ :=List.mem_map.1 this
    exact hc p (List.mem_filter.1 hp).1
  have hLm : ∀ t ∈ sel fTris E,t ∈ sortT (sel fTris E):=fun t ht=>(sortT_perm _).mem_iff.2 ht
  rw [← hsl] at h hs2 ⊢
  clear hsl
  generalize sortT (sel fTris E) = L at *
  have h:=(h.fresh (e:=141) (s:=1)).emp
  replace h:=Zd h;have F:=Zf7 h;refine Zc ?_
  refine walkLoop [0,1,2,8,9] [7,10] (fun m vs w'=>∃ (ps : List (Value×List T3)) (Ls : List Ent) (S : List T3) (ao : Option Addr) (co i : Nat),i≤L.length∧m = L.length - i∧vs = [.slice ao ps.length co,.int .i64 i]∧ps.length≤i∧(ps.length = 0→S = []∧i = 0)∧(∀ p ∈ ps,(0 < p.2.length∧p.2.length≤E.length)∧(∃ a c,p.1 = .slice a p.2.length c)∧∀ u ∈ p.2,hasE E u = true)∧SeenOk Ls S∧Cov L i S ps∧Sep w A [msh bm E,wls bs W,mpx bq Ls,tab 49 6 (.slice a L.length c) (rowsT L),row 141 1 (.slice ao ps.length co) ps.length (ps.map (·.1)),tabsR ps.reverse] w') (by kernel_rfl) ?_ ?_
  · refine Zv ?_
    exact ⟨_,[],[],[],none,0,0,Nat.zero_le _,rfl,rfl,Nat.le_refl _,fun _=>⟨rfl,rfl⟩,fun p hp=>(by cases hp),SeenOk.nil,Cov.nil L,h⟩
  clear h
  try clear F
  intro ks hk m vs w3 hi
  obtain ⟨ps,Ls,S,ao,co,i,hi,rfl,rfl,hpl,hp0,hps,hS,hC,h⟩ :=hi
  replace hk:=Zk hk;subst hk
  by_cases hlt : (i : Int) < L.length
  case neg=>
    replace h:=Zd h;have F:=Zf7 h;refine Zc1 (decide_eq_false hlt) ?_
    exact ⟨ps,ao,co,rfl,by omega,fun hL=>(Nat.eq_zero_or_pos ps.length).elim (fun e=>absurd hL (by have:=(hp0 e).2;omega)) id,hps,fun t ht=>hC.all (by omega) t (hLm t ht),(h.erase 2).erase 2⟩
  have hil : i < L.length:=by omega
  have ei : IntKind.i64.wrap ((i : Int) + 1) = ((i + 1 : Nat) : Int):=by rw [i64w _ (by omega) (by omega)];omega
  obtain ⟨bb,oo,rfl,kc⟩ :=h.facts.2.2.2.1.sixAt hil
  have hu:=hmem _ (List.getElem_mem hil)
  replace h:=Zd h;have F:=Zf7 h;refine Zc1 (J (decide_eq_true hlt) (kc _ h.facts.2.2.2.1)) ?_
  refine ⟨by omega,?_⟩
  refine lookup_rule1 (k:=L[i].row) F.2.2.1 triK (et:=4) (by kernel_rfl) (zero_rule (z:=.bool false) (by kernel_rfl)) hS.1 rfl ?_
  rw [hS.2 L[i]]
  cases hin : decide (L[i].row ∈ rowsT S) with
  | true=>
    have hin:=of_decide_eq_true hin
    have hpn : ps.length≠0:=fun e=>by rw [(hp0 e).1] at hin;cases hin
    replace h:=Zd h;have F:=Zf7 h;refine Zc1 ei ?_
    exact ⟨_,by omega,ps,Ls,S,ao,co,i + 1,by omega,rfl,rfl,by omega,fun e=>(hpn e).elim,hps,hS,hC.skip hil hin,h⟩
  | false=>
  replace h:=Zd h;have F:=Zf7 h;refine Zc1 (kc _ h.facts.2.2.2.1) ?_
  refine ⟨by omega,?_⟩
  have hcl : ∀ q u,lookE E q = some u→hasE E u = true:=fun q u e=>by
    unfold lookE at e
    obtain ⟨p,hp,rfl⟩ :=Option.map_eq_some_iff.1 e
    exact hc p (List.mem_of_find?_eq_some hp)
  refine h.callN (Q:=fun v N=>∃ (Q : List T3) (a3 : Option Addr) (c3 : Nat),L[i] ∈ Q∧(∀ u ∈ Q,hasE E u = true)∧Q.length≤E.length∧v = .slice a3 Q.length c3∧N = [tab 49 6 v (rowsT Q)]) ((from13 L[i] kd h.facts.1 h.facts.2.1 hW hE hcl hu).mono fun ex w' ⟨v,er,P,a3,c3,h1,h2,h3,ev,k⟩ =>⟨v,er,_,k,fun q hq x hx=>(by simp at hq;subst hq;exact hx),sortT P,a3,c3,(sortT_perm P).mem_iff.2 h1,fun u hu=>h3 u ((sortT_perm P).mem_iff.1 hu),by rw [(sortT_perm P).length_eq];exact seen_len h2 h3,by rw [(sortT_perm P).length_eq];exact ev,rfl⟩) ?_
  clear h F
  rintro _ _ w4 ⟨Q,a3,c3,hQ1,hQ2,hQl,rfl,rfl⟩ h
  have hQ0 : 0 < Q.length:=List.length_pos_of_mem hQ1
  replace h:=Zd h;have F:=Zf7 h;refine Zc ?_
  refine walkLoop [0,1,2,7,8,9,10,11] [12] (fun m vs w'=>∃ (k : Nat) (Ls : List Ent),k≤Q.length∧m = Q.length - k∧vs = [.int .i64 k]∧SeenOk Ls (S ++ Q.take k)∧Sep w A [msh bm E,wls bs W,mpx bq Ls,tab 49 6 (.slice (some ⟨bb,oo,none⟩) L.length c) (rowsT L),row 141 1 (.slice ao ps.length co) ps.length (ps.map (·.1)),tabsR ps.reverse,tab 49 6 (.slice a3 Q.length c3) (rowsT Q)] w') (by kernel_rfl) ?_ ?_
  · refine Zv ?_
    exact ⟨_,0,Ls,Nat.zero_le _,rfl,rfl,by rw [List.take_zero,List.append_nil];exact hS,h⟩
  clear h hS
  try clear F
  intro ks hk m vs w5 hi2
  obtain ⟨k,Ls,hkQ,rfl,rfl,hS,h⟩ :=hi2
  replace hk:=Zk hk;subst hk
  by_cases hlk : (k : Int) < Q.length
  case pos=>
    have hkl : k < Q.length:=by omega
    have ek : IntKind.i64.wrap ((k : Int) + 1) = ((k + 1 : Nat) : Int):=by rw [i64w _ (by omega) (by omega)];omega
    obtain ⟨b2,o2,rfl,kq⟩ :=h.facts.2.2.2.2.2.2.1.sixAt hkl
    replace h:=Zd h;have F:=Zf7 h;refine Zc1 (J (decide_eq_true hlk) (kq _ h.facts.2.2.2.2.2.2.1)) ?_
    refine ⟨by omega,?_⟩
    refine Sep.mapSet 2 (et:=4) (k:=Q[k].row) (v:=.bool true) h rfl triK (by kernel_rfl) hS.1 rfl ?_
    clear h F
    intro _ h
    replace h:=Zd h;have F:=Zf7 h;refine Zc1 ek ?_
    have eT : S ++ Q.take (k + 1) = (S ++ Q.take k) ++ [Q[k]]:=by rw [List.take_add_one,List.getElem?_eq_getElem hkl,List.append_assoc];rfl
    exact ⟨_,by omega,k + 1,_,by omega,rfl,rfl,by rw [eT];exact hS.add Q[k],h⟩
  have ekQ : k = Q.length:=by omega
  subst ekQ
  rw [List.take_length] at hS
  replace h:=Zd h;have F:=Zf7 h;refine Zc1 (decide_eq_false hlk) ?_
  refine h.new ?_
  clear h F
  intro _ b7 h
  replace h:=Zd h;have F:=Zf7 h;refine Zc ?_
  refine Sep.appVal 4 7 infoRT Tryz.underlying144 rfl h rfl rfl rfl (by omega) (by simp only [maxLen];omega) ?_
  clear h F
  intro a8 c8 w8 h
  have h:=((h.two 6 5 rfl rfl).erase 7).erase 5
  replace h:=Zd h;have F:=Zf7 h;refine Zc1 ei ?_
  refine ⟨_,by omega,ps ++ [(.slice a3 Q.length c3,Q)],Ls,S ++ Q,a8,c8,i + 1,by omega,rfl,by rw [List.length_append];rfl,by rw [List.length_append];simp;omega,fun e=>by rw [List.length_append] at e;simp at e,fun p hp=>?_,hS,hC.add hil _ hQ1,?_⟩
  · rcases List.mem_append.1 hp with hp | hp
    · exact hps p hp
    · rw [List.mem_singleton.1 hp]
      exact ⟨⟨hQ0,hQl⟩,⟨a3,c3,rfl⟩,hQ2⟩
  · rw [List.length_append,List.map_append,List.reverse_append]
    exact h
def roundI (k n : Int) : Int:=(k.tmod n + n).tmod n
theorem roundI_in {k n : Int} (h : 0 < n) : 0≤roundI k n∧roundI k n < n:=by
  have h1:=Int.lt_tmod_of_pos k h
  unfold roundI
  exact ⟨Int.tmod_nonneg _ (by omega),Int.tmod_lt_of_pos _ h⟩
theorem round15 (k n : Int) (h : 0 < n∧n≤1000000000000) (w : World) : Calls Tryz.prog 15 [.int .i64 k,.int .i64 n].toArray w (RetP (.int .i64 (roundI k n)) w):=by
  have h1:=Int.lt_tmod_of_pos k h.1
  have h2:=Int.tmod_lt_of_pos k h.1
  have e1 : IntKind.i64.wrap (k.tmod n + n) = k.tmod n + n:=by rw [i64w _ (by omega) (by omega)]
  refine walk Tryz.func15 rfl (by kernel_rfl) (by rw [Tryz.nt15];simp) ?_
  refine Zv1 e1 ?_
  exact ⟨by omega,by omega,rfl,Chg.refl _ _⟩
theorem round10 (k n : Int) (h : 0 < n∧n≤1000000000000) (w : World) : Calls Tryz.prog 10 [.int .i64 k,.int .i64 n].toArray w (RetP (.int .i64 (roundI k n)) w):=by
  have h1:=Int.lt_tmod_of_pos k h.1
  have h2:=Int.tmod_lt_of_pos k h.1
  have e1 : IntKind.i64.wrap (k.tmod n + n) = k.tmod n + n:=by rw [i64w _ (by omega) (by omega)]
  refine walk Tryz.func10 rfl (by kernel_rfl) (by rw [Tryz.nt10];simp) ?_
  refine Zv1 e1 ?_
  exact ⟨by omega,by omega,rfl,Chg.refl _ _⟩
def Ints (w : World) (v : Value) (l : List Int) : Prop:=Tab 1 w v (l.map fun x=>[x])
theorem Ints.at {w : World} {a : Option Addr} {n c i : Nat} {l : List Int} (h : Ints w (.slice a n c) l) (hi : i < l.length) : ∃ b o,a = some ⟨b,o,none⟩ ∧w.cell? ⟨b,o + i,none⟩ = some (.int .i64 (l.getD i 0)):=by
  have hi' : i < (l.map fun x=>[x]).length:=by simpa using hi
  obtain ⟨b,o,e,hc⟩ :=Tab.at h hi' (by decide)
  refine ⟨b,o,e,?_⟩
  have:=Tab.cell hc 0 (by simp)
  rw [Nat.mul_one] at this
  rw [List.getD_eq_getElem?_getD,List.getElem?_eq_getElem hi]
  simpa using this
def atI (l : List Int) (i n : Int) : Int:=if l.length = 0 then 0 else roundI (IntKind.i64.wrap (l.getD (i.toNat % l.length) 0 + ((i.toNat / l.length : Nat) : Int))) n
theorem atI_in {l : List Int} {i n : Int} (h : 0 < n) : 0≤atI l i n∧atI l i n < n:=by
  unfold atI
  split
  · omega
  · exact roundI_in h
theorem at12 {v : Value} (l : List Int) (i : Nat) (n : Int) (hi : i≤1000000) (hn : 0 < n∧n≤1000000000000) (w : World) (hv : Ints w v l) : Calls Tryz.prog 12 [v,.int .i64 (i : Int),.int .i64 n].toArray w (RetP (.int .i64 (atI l i n)) w):=by
  have h:=Sep.nil w
  obtain ⟨a,c,rfl⟩ :=Tab.shape hv
  rw [List.length_map] at hv ⊢
  refine walk Tryz.func12 rfl (by kernel_rfl) (by rw [Tryz.nt12];simp) ?_
  replace h:=Zd h;have F:=Zf7 h
  by_cases h0 : l.length = 0
  · have e0 : atI l i n = 0:=if_pos h0
    rw [e0]
    refine Zv1 (decide_eq_true (show (l.length : Int) = 0 by omega)) ?_
    exact Chg.refl _ _
  have hpos : 0 < l.length:=Nat.pos_of_ne_zero h0
  have e0 : atI l i n = roundI (IntKind.i64.wrap (l.getD (i % l.length) 0 + ((i / l.length : Nat) : Int))) n:=by unfold atI;rw [if_neg h0,Int.toNat_natCast]
  rw [e0]
  have hm:=Nat.mod_lt i hpos
  obtain ⟨b,o,rfl,hc⟩ :=hv.at hm
  refine Zv1 (decide_eq_false (show ¬ (l.length : Int) = 0 by omega)) ?_
  have e1 : (i : Int).tmod (l.length : Int) = ((i % l.length : Nat) : Int):=rfl
  have e2 : (i : Int).tdiv (l.length : Int) = ((i / l.length : Nat) : Int):=rfl
  have hd : i / l.length≤i:=Nat.div_le_self _ _
  have e3' : ∀ q : Nat,q≤1000000→IntKind.i64.wrap (q : Int) = (q : Int):=fun q hq=>by rw [i64w _ (by omega) (by omega)]
  have e3:=e3' _ (Nat.le_trans hd hi)
  refine walkDraw (.q 0 (.q 1 (.q 2 (.q 3 (.q 4 (.q 5 (.q 7 (.q 8 (.q 9 (.q 10 (.q 12 (.l 6 (.q 11 (.l 13 (.q 14 .fin))))))))))))))) [] (by kernel_rfl) (by simp [Holds_nil,Holds_cons,F]) ?_
  refine h.draw ?_
  clear h F
  intro _ h
  replace h:=Zd h;have F:=Zf7 h;try simp -dsimp only [↓vcA,vcB,vcD,↓pureT_lenS,↓iteT,↓iteF,cond_true,cond_false,eq_self,argE,Env.get,Env.push,ev,evs,evo,retV,Value.cells,Value.oneCell',setR,overR,fillL,zl,places,allSizes,heldC,ne_eq,Int.reduceLE,Int.reduceLT,Int.reduceEq,Int.reduceNe,Int.reduceToNat,Int.cast_ofNat_Int,Nat.reduceMul,Nat.reduceLeDiff,reduceIte,Nat.reduceEqDiff,Nat.reduceAdd,↓reduceIte,Tryz.vcT,F,h.cell0,gets,vsD,if_true,if_false,Bool.false_eq_true,cellsAt,e1,e2,e3,hc,Int.toNat_natCast]
  refine ⟨by omega,⟨by omega,by omega⟩,by omega,?_⟩
  refine Sep.callp h (round15 _ n hn _) ?_
  clear h F
  intro _ h
  replace h:=Zd h;have F:=Zf7 h;try simp -dsimp only [↓vcA,vcB,vcD,↓pureT_lenS,↓iteT,↓iteF,cond_true,cond_false,eq_self,argE,Env.get,Env.push,ev,evs,evo,retV,Value.cells,Value.oneCell',setR,overR,fillL,zl,places,allSizes,heldC,ne_eq,Int.reduceLE,Int.reduceLT,Int.reduceEq,Int.reduceNe,Int.reduceToNat,Int.cast_ofNat_Int,Nat.reduceMul,Nat.reduceLeDiff,reduceIte,Nat.reduceEqDiff,Nat.reduceAdd,↓reduceIte,Tryz.vcT,F,h.cell0,gets,vsD,if_true,if_false,Bool.false_eq_true,cellsAt,e1,e2,e3,hc,Int.toNat_natCast]
  exact h.done
theorem grid76 (x y n : Int) (hx : 0≤x∧x≤100000) (hy : 0≤y∧y≤100000) (w : World) : Calls Tryz.prog 76 [.int .i64 x,.int .i64 y,.int .i64 n].toArray w (RetP (.agg #[.int .i64 ((roundI n ((x + 1) * (y + 1))).tmod (x + 1)),.int .i64 ((roundI n ((x + 1) * (y + 1))).tdiv (x + 1))]) w):=by
  have h:=Sep.nil w
  have e1 : IntKind.i64.wrap (x + 1) = x + 1:=by rw [i64w _ (by omega) (by omega)]
  have e2 : IntKind.i64.wrap (y + 1) = y + 1:=by rw [i64w _ (by omega) (by omega)]
  refine walk Tryz.func76 rfl (by kernel_rfl) (by rw [Tryz.nt76];simp) ?_
  replace h:=Zd h;have F:=Zf7 h
  refine Zv1 (J e1 e2) ?_
  have hm : (x + 1) * (y + 1)≤100001 * 100001:=Int.mul_le_mul (by omega) (by omega) (by omega) (by omega)
  have hm0 : 0 < (x + 1) * (y + 1):=Int.mul_pos (by omega) (by omega)
  have e3 : IntKind.i64.wrap ((x + 1) * (y + 1)) = (x + 1) * (y + 1):=by rw [i64w _ (by omega) (by omega)]
  refine h.new ?_
  clear h F
  intro _ b6 h
  replace h:=Zd h;have F:=Zf7 h;refine Zc1 (J e1 (J e2 e3)) ?_
  refine Sep.callp h (round15 n ((x + 1) * (y + 1)) ⟨hm0,by omega⟩ _) ?_
  clear h F
  intro _ h
  replace h:=Zd h;have F:=Zf7 h;refine Zc1 (J e1 (J e2 e3)) ?_
  have hq:=roundI_in (k:=n) hm0
  generalize roundI n ((x + 1) * (y + 1)) = q at *
  have d1 : 0≤q.tdiv (x + 1):=Int.tdiv_nonneg hq.1 (by omega)
  have d2 : q.tdiv (x + 1)≤q:=Int.tdiv_le_self _ hq.1
  have e4 : IntKind.i64.wrap (q.tdiv (x + 1)) = q.tdiv (x + 1):=by rw [i64w _ (by omega) (by omega)]
  refine walkDraw (.q 0 (.q 1 (.q 2 (.q 3 (.q 4 (.q 5 (.q 6 (.q 7 (.q 8 (.l 9 .fin)))))))))) [] (by kernel_rfl) (by simp [Holds_nil,Holds_cons,F]) ?_
  refine h.draw ?_
  clear h F
  intro _ h
  replace h:=Zd h;have F:=Zf7 h;refine Zc1 (J e1 (J e2 (J e3 e4))) ?_
  refine ⟨by omega,by omega,?_⟩
  refine Sep.put 0 h rfl ?_
  clear h F
  intro _ h
  replace h:=Zd h;have F:=Zf7 h;refine Zc1 (J e1 (J e2 (J e3 e4))) ?_
  exact h.done
theorem has80 (k : Int) (w : World) : Calls Tryz.prog 80 [.slice none 0 0,.int .i64 k].toArray w (RetP (.bool false) w):=by
  have h:=Sep.nil w
  refine walk Tryz.func80 rfl (by kernel_rfl) (by rw [Tryz.nt80];simp) ?_
  replace h:=Zd h;have F:=Zf7 h
  refine Zv ?_
  refine walkLoop [0] [5] (fun m vs w'=>m = 0∧vs = [.int .i64 0]∧Sep w (fun _=>False) [] w') (by kernel_rfl) ?_ ?_
  · refine Zv ?_
    exact ⟨0,rfl,h⟩
  clear h
  try clear F
  intro ks hk m vs w3 hi
  obtain ⟨rfl,rfl,h⟩ :=hi
  replace hk:=Zk hk;subst hk
  replace h:=Zd h;have F:=Zf7 h;refine Zc1 (decide_eq_false (show ¬ (0 : Int) < ((0 : Nat) : Int) by omega)) ?_
  exact h.done
structure LandT (I : Nat→MeshE→Prop) (Φ : MeshE→Nat) : Prop where
  rep : ∀ n W,n≤10000→Rep1 W (I n) Φ
  flp : ∀ n,n≤10000→Flp (I n)
  add : ∀ n E x y,I n E→addC E x y = 0→I (n + 1) (addE E x y)
  mono : ∀ n E,I n E→I (n + 1) E
  len : ∀ n E,I n E→E.length≤6 + 6 * n
  pts : ∀ n E,I n E→0 < (pointsE E).length
  sq : ∀ x y,(1≤x∧x < 16777216)→(1≤y∧y < 16777216)→∃ E,newE [sqX x y,sqY x y] [] = some E∧I 0 E
def okW (x : List Int) : Prop:=∃ a b c d k : Int,x = [a,b,c,d,k]∧(0≤a∧a < 16777216)∧(0≤b∧b < 16777216)∧(0≤c∧c < 16777216)∧(0≤d∧d < 16777216)∧0≤k∧k < 256
def okWs (W : List (List Int)) : Prop:=∀ x ∈ W,okW x
theorem okW_wallV (ax ay bx by' k : Int) : okW (wallV ax ay bx by' k):=by
  unfold wallV
  by_cases h : wallOk ax ay bx by' k = true
  · rw [if_pos h]
    unfold wallOk at h
    simp only [Bool.and_eq_true,Bool.or_eq_true,decide_eq_true_eq] at h
    obtain ⟨h1,h2,_,h3⟩ :=h
    rw [vpt_iff] at h1 h2
    unfold ptMin ptMax
    split
    · exact ⟨ax,ay,bx,by',k,rfl,by omega,by omega,by omega,by omega,by omega⟩
    · exact ⟨bx,by',ax,ay,k,rfl,by omega,by omega,by omega,by omega,by omega⟩
  · rw [if_neg h]
    exact ⟨0,0,0,0,0,rfl,by omega,by omega,by omega,by omega,by omega⟩
theorem okWs.ins {W : List (List Int)} {x : List Int} (h : okWs W) (hx : okW x) : okWs (insW W x):=fun y hy=>(insW_mem hy).elim (h y) fun e=>e▸hx
theorem okWs.made {k : Int} {W W' : List (List Int)} (h : okWs W) (hm : madeW k W W') : okWs W':=fun x hx=>(hm x hx).elim (h x) fun ⟨a,b,c,d,e⟩ =>e▸okW_wallV a b c d k
theorem rmW_mem {m1 m2 y : List Int} : ∀ {W : List (List Int)},y ∈ (rmW m1 m2 W).getD W→y ∈ W
  | [],h=>h
  | x :: W,h=>by
    unfold rmW at h
    split at h
    · exact .tail _ h
    · cases e : rmW m1 m2 W with
      | none=>rw [e] at h;exact h
      | some V=>
        rw [e] at h
        rcases List.mem_cons.1 h with h | h
        · exact h▸.head _
        · exact .tail _ (rmW_mem (by rw [e];exact h))
theorem rmW_ge (m1 m2 : List Int) : ∀ W,W.length≤((rmW m1 m2 W).getD W).length + 1
  | []=>Nat.zero_le _
  | x :: W=>by
    have:=rmW_ge m1 m2 W
    unfold rmW
    split
    · simp
    · cases e : rmW m1 m2 W with
      | none=>simp
      | some V=>rw [e] at this;simp at this ⊢;omega
theorem addW_ge (E : MeshE) (W : List (List Int)) (x y : Int) : W.length≤(addW E W x y).length:=by
  unfold addW
  split
  · unfold splitW
    split
    · exact Nat.le_refl _
    · rw [insW_len,insW_len]
      exact Nat.le_trans (rmW_ge _ _ W) (Nat.le_succ _)
  · exact Nat.le_refl _
theorem viaStop {P : Program} {N : Nat} {C : Code} {K : XQ} {G : Prop} (Q : Env→World→Prop) (a : (∀ E w,Q E w→stopT P N C E w K)→G) (b : ∀ E w,Q E w→stopT P N C E w K) : G:=a b
theorem atL_mem {E : MeshE} {x y : Int} {t : T3} (h : t ∈ atL E x y) : hasPE t x y = true:=by
  have:=(sortT_perm _).mem_iff.1 h
  unfold sel at this
  obtain ⟨p,hp,rfl⟩ :=List.mem_map.1 this
  have:=(List.mem_filter.1 hp).2
  unfold fAt at this
  rw [Bool.and_eq_true] at this
  exact this.2
theorem addC_vpt {E : MeshE} {x y : Int} (h : addC E x y = 0) : vpt x y = true:=by
  unfold addC at h
  by_cases h0 : (atL E x y).length = 0
  · rw [if_pos h0] at h;cases h
  · obtain ⟨t,ht⟩ :=List.exists_mem_of_length_pos (Nat.pos_of_ne_zero h0)
    have:=atL_mem ht
    unfold hasPE at this
    simp only [Bool.and_eq_true] at this
    exact this.2.1
theorem okWs.add {E : MeshE} {W : List (List Int)} {x y : Int} (h : okWs W) : okWs (addW E W x y):=by
  unfold addW
  by_cases h0 : addC E x y = 0
  · rw [if_pos h0]
    have hv:=(vpt_iff x y).1 (addC_vpt h0)
    unfold splitW
    cases e : onW W (x,y) with
    | none=>exact h
    | some w=>
      obtain ⟨a,b,c,d,k,rfl,ha,hb,hc,hd,hk⟩ :=h w (List.mem_of_find?_eq_some e)
      refine (okWs.ins (okWs.ins (fun z hz=>h z (rmW_mem hz)) ?_) ?_)
      · exact ⟨a,b,x,y,k,rfl,ha,hb,by omega,by omega,hk⟩
      · exact ⟨x,y,c,d,k,rfl,by omega,by omega,hc,hd,hk⟩
  · rw [if_neg h0];exact h
theorem okWs.sq (x y : Int) : ∀ i,okWs (sqW x y i)
  | 0=>fun z hz=>by cases hz
  | i + 1=>(okWs.sq x y i).ins (okW_wallV _ _ _ _ _)
theorem Sep.bAdd {I : Nat → MeshE → Prop} {Φ : MeshE → Nat} (T : LandT I Φ) (i : Nat) {n B : Nat} {bc : Nat} {X Y : Int} {E : MeshE} {W : List (List Int)} {w0 w : World} {S : Nat → Prop} {M : List Res} {K : Value → World → Prop} (x y : Int) (hI : I n E) (hn : n ≤ 1000) (hok : okWs W) (h4 : 4 ≤ W.length) (hB : W.length ≤ B) (hB2 : B ≤ 800000) (h : Sep w0 S M w) (hi : M[i]? = some (cdt bc X Y E W))
    (hk : ∀ (r : Int) (E' : MeshE) (W' : List (List Int)) (w1 : World),I (n + 1) E'→okWs W'→4≤W'.length→W'.length≤B + 2→Sep w0 S (M.set i (cdt bc X Y E' W')) w1→K (.int .i64 r) w1) : callsK Tryz.prog 74 #[.pointer (some ⟨bc,0,Option.none⟩),.agg #[.int .i64 x,.int .i64 y]] w K:=by
  have hE:=T.len n E hI
  have hl:=addW_len E W x y
  have hg:=addW_ge E W x y
  refine h.call1 i (Q:=fun v r' N=>∃ E',v = .int .i64 (addC E x y)∧I (n + 1) E'∧r' = cdt bc X Y E' (addW E W x y)∧N = []) hi (fun A _ k=>(cAddPoint74 (fun W=>T.rep (n + 1) W (by omega)) x y (by omega) (fun _=>T.mono n E hI) (fun e=>T.add n E x y hI e) (by omega) k).mono fun ex w' ⟨v,er,ev,E',hI',k⟩ =>⟨v,er,_,[],k,fun _ f=>f,fun q hq=>(by cases hq),E',ev,hI',rfl,rfl⟩) ?_
  rintro _ _ _ w1 ⟨E',rfl,hI',rfl,rfl⟩ k
  rw [List.append_nil] at k
  exact hk _ E' _ w1 hI' (hok.add) (by omega) (by omega) k
theorem Sep.bWall {I : Nat → MeshE → Prop} {Φ : MeshE → Nat} (T : LandT I Φ) (i : Nat) {n B : Nat} {bc : Nat} {X Y : Int} {E : MeshE} {W : List (List Int)} {w0 w : World} {S : Nat → Prop} {M : List Res} {K : Value → World → Prop} (ax ay bx by' kd : Int) (hI : I n E) (hn : n ≤ 100) (hok : okWs W) (h4 : 4 ≤ W.length) (hB : W.length ≤ B) (hB2 : B ≤ 800000) (h : Sep w0 S M w) (hi : M[i]? = some (cdt bc X Y E W))
    (hk : ∀ (r : Int) (E' : MeshE) (W' : List (List Int)) (w1 : World),I n E'→okWs W'→4≤W'.length→W'.length≤B + 606→Sep w0 S (M.set i (cdt bc X Y E' W')) w1→K (.int .i64 r) w1) : callsK Tryz.prog 75 #[.pointer (some ⟨bc,0,Option.none⟩),.agg #[.int .i64 ax,.int .i64 ay],.agg #[.int .i64 bx,.int .i64 by'],.int .i64 kd] w K:=by
  have hE:=T.len n E hI
  refine h.call1 i (Q:=fun v r' N=>∃ (e : Int) (E' : MeshE) (W' : List (List Int)),v = .int .i64 e∧I n E'∧(W.length≤W'.length∧W'.length≤W.length + E.length)∧madeW kd W W'∧r' = cdt bc X Y E' W'∧N = []) hi (fun A _ k=>(cAddWall75 (fun W=>T.rep n W (by omega)) (T.flp n (by omega)) hI ax ay bx by' kd (by omega) k).mono fun ex w' ⟨v,er,e,E',W',ev,hI',hl,hm,k⟩ =>⟨v,er,_,[],k,fun _ f=>f,fun q hq=>(by cases hq),e,E',W',ev,hI',hl,hm,rfl,rfl⟩) ?_
  rintro _ _ _ w1 ⟨e,E',W',rfl,hI',hl,hm,rfl,rfl⟩ k
  rw [List.append_nil] at k
  exact hk _ E' _ w1 hI' (hok.made hm) (by omega) (by omega) k
end Go.Proofs.YtnhgjgoglmadnaaGreat
