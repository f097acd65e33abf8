/- Joined texts of this claim (part 30), printed by a program of this work. The last part holds the claimed theorem: the law answers true at every input of its row. -/
import Derived.Test.YtnhgjgoglmadnaaGreatSPFieldsC
set_option maxHeartbeats 4000000
namespace Go.Proofs.YtnhgjgoglmadnaaGreat
open Go.RowKit
set_option maxRecDepth 100000
set_option linter.unusedSimpArgs false
set_option linter.unusedVariables false
theorem viaEnd {P : Program} {n : Nat} {ops : Array Oper} {E : Env} {w : World} {K : Env→World→Prop} (Q : Env→World→Prop) (a : drawT P n ops E w Q) (b : ∀ E w,Q E w→K E w) : drawT P n ops E w K:=fun id act hA=>
  wp_mono (a id act hA) fun e a' w' he=>by
    cases e with
    | normal=>obtain ⟨E',h1,h2⟩ :=he;exact ⟨E',h1,b _ _ h2⟩
    | panic=>exact he
    | outgrown=>exact he
    | _=>obtain ⟨E',h1,h2⟩ :=he;exact h2.elim
theorem setR_take : ∀ (vs l : List Value) (n m : Nat),(setR l n vs).take m = setR (l.take m) n vs
  | [],l,n,m=>by rw [setR_nil,setR_nil]
  | v :: vs,l,n,m=>by rw [setR_cons,setR_cons,setR_take vs,List.take_set]
theorem setR_skip : ∀ (a r : List Value) (k : Nat) (b : List Value),setR (a ++ r) (a.length + k) b = a ++ setR r k b
  | [],r,k,b=>by simp
  | x :: a,r,k,b=>by
    rw [List.cons_append,List.length_cons,show a.length + 1 + k = a.length + k + 1 by omega]
    show x :: setR (a ++ r) (a.length + k) b = _
    rw [setR_skip a r k b];rfl
theorem setR_over : ∀ (a r b : List Value),a.length = b.length→setR (a ++ r) 0 b = b ++ r
  | [],r,[],_=>setR_nil _ _
  | x :: a,r,v :: b,h=>by
    rw [setR_cons]
    show setR ((x :: (a ++ r)).set 0 v) 1 b = _
    rw [List.set_cons_zero]
    show v :: setR (a ++ r) 0 b = _
    rw [setR_over a r b (by simpa using h)];rfl
theorem flatT_set {s : Nat} : ∀ {xs : List (List Int)} {j : Nat} {x : List Int},(∀ y ∈ xs,y.length = s)→j < xs.length→x.length = s→setR (flatT xs) (j * s) (cellsI x) = flatT (xs.set j x)
  | y :: xs,0,x,h,hj,hx=>by
    have hy:=h y (.head _)
    rw [Nat.zero_mul]
    exact setR_over (cellsI y) (flatT xs) (cellsI x) (by rw [cellsI_len,cellsI_len,hy,hx])
  | y :: xs,j + 1,x,h,hj,hx=>by
    have hy:=h y (.head _)
    have e : (j + 1) * s = (cellsI y).length + j * s:=by rw [cellsI_len,hy,Nat.succ_mul];omega
    rw [e]
    exact (setR_skip (cellsI y) (flatT xs) (j * s) (cellsI x)).trans (congrArg (cellsI y ++ ·) (flatT_set (fun z hz=>h z (.tail _ hz)) (Nat.lt_of_succ_lt_succ hj) hx))
theorem Sep.tabSet (i : Nat) {e s : Nat} {w0 w : World} {S : Nat → Prop} {M : List Res} {b o n c : Nat} {xs : List (List Int)} (j : Nat) (x : List Int) {K : World → Prop} (h : Sep w0 S M w) (hi : M[i]? = some (tab e s (.slice (some ⟨b, o, Option.none⟩) n c) xs)) (hj : j < xs.length) (hx : x.length = s)
    (hK : ∀ w1,Sep w0 S (M.set i (tab e s (.slice (some ⟨b,o,Option.none⟩) n c) (xs.set j x))) w1→K w1) : storeK w b (o + j * s) (cellsI x) K:=by
  obtain ⟨A,⟨h0,⟨hl,h1⟩,rfl⟩,_,h3⟩ :=h.at hi
  rcases h1 with ⟨e1,_⟩ | ⟨g,cap,cur,e1,_,hg,hnc,hcm,hcs,ht⟩
  · cases e1
  injection e1 with e1 e2 e3
  injection e1 with e1
  injection e1 with e4 e5
  subst e4 e5 e3 e2
  have hb:=blkOf_of hg
  have hle : j * s + s≤xs.length * s:=by rw [← Nat.succ_mul];exact Nat.mul_le_mul_right s hj
  have hle2 : xs.length * s≤c * s:=Nat.mul_le_mul_right s hnc
  unfold storeK
  rw [hb]
  refine ⟨by rw [cellsI_len,hx,Array.length_toList,hcs];omega,fun w1 p=>hK w1 (h3 _ _ w1 ⟨fun y hy=>?_,⟨?_,.inr ⟨b,c,_,by rw [List.length_set],Nat.zero_le _,p.blk,by rw [List.length_set];exact hnc,hcm,?_,?_⟩⟩,rfl⟩ (fun y hy=>.inl hy) (p.chg.mono fun k hk=>by subst hk;rfl) (fun _ f=>f))⟩
  · rcases List.mem_or_eq_of_mem_set hy with hy | rfl
    · exact h0 y hy
    · exact hx
  · rw [← flatT_set h0 hj hx,setR_length,hl,List.length_set]
  · rw [List.size_toArray,setR_length,Array.length_toList,hcs]
  · rw [List.length_set,setR_take,ht,Nat.zero_add,flatT_set h0 hj hx]
theorem Tab.twoAt {n c i : Nat} {aa : Option Addr} {S : List (List Int)} (hi : i < S.length) {w0 : World} (h0 : Tab 2 w0 (.slice aa n c) S) : ∃ b o a0 a1, aa = some ⟨b, o, Option.none⟩ ∧ S.getD i [] = [a0, a1] ∧ ∀ w, Tab 2 w (.slice aa n c) S →
    (w.cell? ⟨b,o + i * 2,Option.none⟩ = some (.int .i64 a0)∧w.cell? ⟨b,o + i * 2 + 1,Option.none⟩ = some (.int .i64 a1)):=by
  obtain ⟨b,o,rfl,_⟩ :=h0.at hi (by decide)
  obtain ⟨a0,a1,e⟩ :=len_2 (h0.wid _ (List.getElem_mem hi))
  refine ⟨b,o,a0,a1,rfl,by rw [List.getD_eq_getElem?_getD,List.getElem?_eq_getElem hi,e];rfl,fun w hw=>?_⟩
  obtain ⟨b',o',eb,hc⟩ :=hw.at hi (by decide)
  injection eb with eb
  injection eb with e1 e2
  subst e1 e2
  rw [e] at hc
  exact ⟨Tab.cell hc 0 (by simp),Tab.cell hc 1 (by simp)⟩
def cmpR (x y : List Int) : Int:=cmp2 (x.getD 0 0) (x.getD 1 0) (y.getD 0 0) (y.getD 1 0)
def plcP (O : List (List Int)) (x : List Int) : Nat→Nat
  | 0=>0
  | n + 1=>if 0 < cmpR (O.getD n []) x then plcP O x n else n + 1
theorem plcP_le (O : List (List Int)) (x : List Int) : ∀ n,plcP O x n≤n
  | 0=>Nat.le_refl _
  | n + 1=>by
    unfold plcP
    split
    · exact Nat.le_succ_of_le (plcP_le O x n)
    · exact Nat.le_refl _
def insAt (O : List (List Int)) (x : List Int) : Nat→List (List Int)
  | 0=>x :: O
  | n + 1=>if O.getD n [] = x then O else O.take (n + 1) ++ x :: O.drop (n + 1)
def fndP (O : List (List Int)) (x : List Int) (n : Nat) : Bool:=decide (n≠0) && decide (O.getD (n - 1) [] = x)
theorem insAt_eq (O : List (List Int)) (x : List Int) (n : Nat) : insAt O x n = if fndP O x n = true then O else O.take n ++ x :: O.drop n:=by
  cases n with
  | zero=>rfl
  | succ n=>
    rw [insAt]
    by_cases h : O.getD n [] = x
    · rw [if_pos h,if_pos (by simp [fndP,-List.getD_eq_getElem?_getD,h])]
    · rw [if_neg h,if_neg (by simp [fndP,-List.getD_eq_getElem?_getD,h])]
def insP (O : List (List Int)) (x : List Int) : List (List Int):=insAt O x (plcP O x O.length)
def sortP (L : List (List Int)) : List (List Int):=L.foldl insP []
theorem insP_len (O : List (List Int)) (x : List Int) : (insP O x).length≤O.length + 1:=by
  unfold insP
  have:=plcP_le O x O.length
  cases e : plcP O x O.length with
  | zero=>simp [insAt]
  | succ n=>
    rw [e] at this
    rw [insAt]
    split
    · omega
    · rw [List.length_append,List.length_cons,List.length_take,List.length_drop];omega
theorem shift_set {O : List (List Int)} {k : Nat} (y z : List Int) (hk : k≤O.length) : (O.take k ++ y :: O.drop k).set k z = O.take k ++ z :: O.drop k:=by
  rw [List.set_append_right _ _ (by rw [List.length_take];omega),List.length_take,Nat.min_eq_left hk,Nat.sub_self];rfl
theorem shift_get {O : List (List Int)} {k : Nat} (y : List Int) (hk : k < O.length) : (O.take (k + 1) ++ y :: O.drop (k + 1)).getD k [] = O.getD k []:=by
  rw [List.getD_eq_getElem?_getD,List.getElem?_append_left (by simp;omega),List.getElem?_take_of_lt (by omega),List.getD_eq_getElem?_getD]
theorem shift_down {O : List (List Int)} {k : Nat} (hk : k < O.length) : O.take (k + 1) ++ O.getD k [] :: O.drop (k + 1) = O.take k ++ O.getD k [] :: O.drop k:=by
  have e : O.take (k + 1) = O.take k ++ [O[k]]:=by rw [List.take_add_one,List.getElem?_eq_getElem hk];rfl
  rw [e,List.getD_eq_getElem?_getD,List.getElem?_eq_getElem hk,List.drop_eq_getElem_cons hk,List.append_assoc];rfl
theorem sortPoints93 {w : World} {v : Value} (L : List (List Int)) (hL : L.length ≤ 1000000) (hv : Tab 2 w v L) : Calls Tryz.prog 93 [v].toArray w
    (RetK fun r w'=>∃ a c,r = .slice a (sortP L).length c∧Sep w (fun _=>False) [tab 45 2 r (sortP L)] w'):=by
  obtain ⟨aa,cc,rfl⟩ :=hv.shape
  have h:=(Sep.nil w).tabNil 45 2
  refine walk Tryz.func93 rfl (by kernel_rfl) (by rw [Tryz.nt93];simp) ?_
  replace h:=Zd h;have F:=Zf6 h
  refine Zv ?_
  refine walkLoop [0] [3,4] (fun m vs w'=>∃ (i : Nat) (O : List (List Int)) (a : Option Addr) (c : Nat),i≤L.length∧m = L.length - i∧vs = [.slice a O.length c,.int .i64 i]∧sortP L = (L.drop i).foldl insP O∧O.length≤i∧Sep w (fun _=>False) [tab 45 2 (.slice a O.length c) O] w') (by kernel_rfl) ?_ ?_
  · refine Zv ?_
    exact ⟨_,0,[],none,0,Nat.zero_le _,rfl,rfl,rfl,Nat.le_refl _,h⟩
  clear h
  try clear F
  intro ks hk m vs w3 hi
  obtain ⟨i,O,a,c,hi,rfl,rfl,hd,hO,h⟩ :=hi
  replace hk:=Zk hk;subst hk
  by_cases hlt : (i : Int) < L.length
  case neg=>
    have e0 : L.drop i = []:=List.drop_eq_nil_of_le (by omega)
    rw [e0] at hd
    replace h:=Zd h;have F:=Zf6 h;refine Zc1 (decide_eq_false hlt) ?_
    rw [hd]
    exact ⟨_,_,rfl,h⟩
  have hil : i < L.length:=by omega
  have ei : IntKind.i64.wrap ((i : Int) + 1) = ((i + 1 : Nat) : Int):=by rw [i64w _ (by omega) (by omega)];omega
  obtain ⟨bb,oo,x0,x1,rfl,eL,kc⟩ :=hv.twoAt hil
  have hd' : sortP L = (L.drop (i + 1)).foldl insP (insP O [x0,x1]):=by
    rw [hd,List.drop_eq_getElem_cons hil,List.foldl_cons]
    rw [List.getD_eq_getElem?_getD,List.getElem?_eq_getElem hil] at eL
    rw [show L[i] = [x0,x1] from eL]
  clear hd
  replace h:=Zd h;have F:=Zf6 h;refine Zc1 (decide_eq_true hlt) ?_
  have hzero : ¬ (0 : Int) < ((0 : Nat) : Int):=by omega
  have hpos : ∀ n : Nat,(0 : Int) < ((n + 1 : Nat) : Int):=fun n=>by omega
  have en : ∀ n : Nat,n≤L.length→IntKind.i64.wrap (((n + 1 : Nat) : Int) - 1) = (n : Int):=fun n hn=>by rw [i64w _ (by omega) (by omega)];omega
  refine walkLoop [0,3,4] [5] (fun m vs w'=>∃ n : Nat,n≤O.length∧m = n∧vs = [.int .i64 n]∧plcP O [x0,x1] O.length = plcP O [x0,x1] n∧Sep w (fun _=>False) [tab 45 2 (.slice a O.length c) O] w') (by kernel_rfl) ?_ ?_
  · refine Zv ?_
    exact ⟨_,O.length,Nat.le_refl _,rfl,rfl,rfl,h⟩
  clear h
  try clear F
  apply viaDraw (P:=Tryz.prog) (fun E w'=>∃ n : Nat,n≤O.length∧plcP O [x0,x1] O.length = n∧E.get 0 = some (.slice (some ⟨bb,oo,none⟩) L.length cc)∧E.get 3 = some (.slice a O.length c)∧E.get 4 = some (.int .i64 (i : Int))∧E.get 5 = some (.int .i64 (n : Int))∧Sep w (fun _=>False) [tab 45 2 (.slice a O.length c) O] w')
  case a=>
    intro key ks hk m vs w3 hi
    obtain ⟨n,hn,rfl,rfl,hp,h⟩ :=hi
    replace hk:=Zk hk;subst hk
    replace h:=Zd h;have F:=Zf6 h;refine Zc ?_
    cases m with
    | zero=>
      obtain ⟨k0,k1⟩ :=kc _ (hv.sep h fun _ _ f=>f)
      refine walkDraw (.q 0 (.q 1 (.q 2 (.q 3 (.q 4 (.q 5 (.q 6 (.q 8 (.q 9 (.q 10 (.h 11 0 (.l 7 (.l 12 (.q 13 (.q 14 .fin))))))))))))))) [(bb,oo + i * 2,.int .i64 x0),(bb,oo + i * 2 + 1,.int .i64 x1)] (by kernel_rfl) (by simp [Holds_nil,Holds_cons,F,k0,k1]) ?_
      refine h.draw ?_
      clear h F k0 k1
      intro _ h
      replace h:=Zd h;have F:=Zf6 h;refine Zc1 (decide_eq_false hzero) ?_
      refine key _ _ ?_
      exact ⟨0,Nat.zero_le _,hp,rfl,rfl,rfl,rfl,h⟩
    | succ n=>
      have hnl : n < O.length:=hn
      obtain ⟨bo,ob,y0,y1,ea,eO,ko⟩ :=F.1.twoAt hnl
      obtain ⟨k0,k1⟩ :=kc _ (hv.sep h fun _ _ f=>f)
      obtain ⟨k2,k3⟩ :=ko _ F.1
      refine walkDraw (.q 0 (.q 1 (.q 2 (.q 3 (.q 4 (.q 5 (.q 6 (.q 8 (.q 9 (.q 10 (.h 7 0 (.h 11 2 (.l 12 (.q 13 (.q 14 .fin))))))))))))))) [(bo,ob + n * 2,.int .i64 y0),(bo,ob + n * 2 + 1,.int .i64 y1),(bb,oo + i * 2,.int .i64 x0),(bb,oo + i * 2 + 1,.int .i64 x1)] (by kernel_rfl) (by simp [Holds_nil,Holds_cons,F,k0,k1,k2,k3]) ?_
      refine h.draw ?_
      clear h F k0 k1 k2 k3
      intro _ h
      replace h:=Zd h;have F:=Zf6 h;refine Zc1 (J (decide_eq_true (hpos n)) (J (en n (by omega)) ea)) ?_
      refine ⟨by omega,by omega,?_⟩
      refine h.callp (cmpPoint y0 y1 x0 x1 _) ?_
      clear h F
      intro _ h
      obtain ⟨k0,k1⟩ :=kc _ (hv.sep h fun _ _ f=>f)
      obtain ⟨k2,k3⟩ :=ko _ h.facts.1
      have ep : plcP O [x0,x1] (n + 1) = if 0 < cmp2 y0 y1 x0 x1 then plcP O [x0,x1] n else n + 1:=by rw [plcP,eO];rfl
      by_cases hc : 0 < cmp2 y0 y1 x0 x1
      · rw [if_pos hc] at ep
        replace h:=Zd h;have F:=Zf6 h;refine Zc1 (J k0 (J k1 (J k2 (J k3 (J (decide_eq_true hc) (en n (by omega))))))) ?_
        exact ⟨n,Nat.lt_succ_self n,n,by omega,rfl,rfl,hp.trans ep,h⟩
      · rw [if_neg hc] at ep
        replace h:=Zd h;have F:=Zf6 h;refine Zc1 (J k0 (J k1 (J k2 (J k3 (decide_eq_false hc))))) ?_
        refine key _ _ ?_
        exact ⟨n + 1,hn,hp.trans ep,rfl,rfl,rfl,rfl,h⟩
  case b=>
    rintro E w' ⟨n,hn,hp,g0,g3,g4,g5,h⟩
    refine viaEnd (fun E' w'=>(E'.get 45 = some (.bool (fndP O [x0,x1] n))∧E'.get 0 = some (.slice (some ⟨bb,oo,none⟩) L.length cc)∧E'.get 3 = some (.slice a O.length c)∧E'.get 4 = some (.int .i64 (i : Int))∧E'.get 5 = some (.int .i64 (n : Int)))∧Sep w (fun _=>False) [tab 45 2 (.slice a O.length c) O] w') ?_ ?_
    · obtain ⟨k0,k1⟩ :=kc _ (hv.sep h fun _ _ f=>f)
      cases n with
      | zero=>
        replace h:=Zd h;have F:=Zf6 h
        refine walkDraw (.q 0 (.q 1 (.q 2 (.q 3 (.q 4 (.q 5 (.q 6 (.q 8 (.q 9 (.q 10 (.h 11 0 (.l 7 (.q 12 (.q 13 .fin)))))))))))))) [(bb,oo + i * 2,.int .i64 x0),(bb,oo + i * 2 + 1,.int .i64 x1)] (by kernel_rfl) (by simp [Holds_nil,Holds_cons,F,k0,k1]) ?_
        refine h.draw ?_
        clear h F k0 k1
        intro _ h
        replace h:=Zd h;have F:=Zf6 h;refine Zc1 (J g0 (J g3 (J g4 (J g5 (decide_eq_false hzero))))) ?_
        exact ⟨rfl,h⟩
      | succ n=>
        replace h:=Zd h;have F:=Zf6 h
        have hnl : n < O.length:=hn
        obtain ⟨bo,ob,y0,y1,ea,eO,ko⟩ :=F.1.twoAt hnl
        obtain ⟨k2,k3⟩ :=ko _ F.1
        refine walkDraw (.q 0 (.q 1 (.q 2 (.q 3 (.q 4 (.q 5 (.q 6 (.q 8 (.q 9 (.q 10 (.h 7 0 (.h 11 2 (.q 12 (.q 13 .fin)))))))))))))) [(bo,ob + n * 2,.int .i64 y0),(bo,ob + n * 2 + 1,.int .i64 y1),(bb,oo + i * 2,.int .i64 x0),(bb,oo + i * 2 + 1,.int .i64 x1)] (by kernel_rfl) (by simp [Holds_nil,Holds_cons,F,k0,k1,k2,k3]) ?_
        refine h.draw ?_
        clear h F k0 k1 k2 k3
        intro _ h
        replace h:=Zd h;have F:=Zf6 h;refine Zc1 (J g0 (J g3 (J g4 (J g5 (J (decide_eq_true (hpos n)) (J (en n (by omega)) ea)))))) ?_
        refine ⟨by omega,by omega,?_⟩
        refine binK_eql_agg (by kernel_rfl) (fun w=>seqPt (d:=9998) y0 y1 x0 x1 w) ?_
        replace h:=Zd h;have F:=Zf6 h;refine Zc1 (J g0 (J g3 (J g4 (J g5 (decide_eq_true (hpos n)))))) ?_
        exact ⟨by rw [fndP,show O.getD (n + 1 - 1) [] = [y0,y1] from eO];rfl,h⟩
    · rintro E' w' ⟨⟨g45,g0,g3,g4,g5⟩,h⟩
      have ei0 : insP O [x0,x1] = if fndP O [x0,x1] n = true then O else O.take n ++ [x0,x1] :: O.drop n:=by rw [insP,hp,insAt_eq]
      rw [ei0] at hd'
      obtain ⟨k0,k1⟩ :=kc _ (hv.sep h fun _ _ f=>f)
      cases hf : fndP O [x0,x1] n with
      | true=>
        rw [if_pos hf] at hd'
        replace h:=Zd h;have F:=Zf6 h;refine Zc1 (J g45 (J g0 (J g3 (J g4 (J g5 (J hf ei)))))) ?_
        exact ⟨_,by omega,i + 1,O,a,c,by omega,rfl,rfl,hd',by omega,h⟩
      | false=>
      rw [if_neg (by rw [hf];simp)] at hd'
      replace h:=Zd h;have F:=Zf6 h;refine Zc1 (J g45 (J g0 (J g3 (J g4 (J g5 (J hf (J k0 k1))))))) ?_
      refine ⟨by omega,?_⟩
      refine h.new ?_
      clear h F
      intro _ b9 h
      replace h:=Zd h;have F:=Zf6 h;refine Zc ?_
      refine Sep.appTab 0 1 infoP Tryz.underlying24 rfl (by decide) [x0,x1] h rfl rfl rfl (by omega) (by simp only [maxLen];omega) ?_
      clear h F
      intro a9 c9 w9 h
      have h:=h.erase 1
      have el : (O ++ [[x0,x1]]).length = O.length + 1:=by simp
      rw [el] at h ⊢
      have e1 : IntKind.i64.wrap (((O.length + 1 : Nat) : Int) - 1) = (O.length : Int):=en _ (by omega)
      replace h:=Zd h;have F:=Zf6 h;refine Zc1 e1 ?_
      refine walkLoop [0,3,4,5] [6] (fun m vs w'=>∃ (k : Nat) (y : List Int),n≤k∧k≤O.length∧m = k - n∧vs = [.int .i64 (k : Int)]∧y.length = 2∧Sep w (fun _=>False) [tab 45 2 (.slice a9 (O.length + 1) c9) (O.take k ++ y :: O.drop k)] w') (by kernel_rfl) ?_ ?_
      · refine Zv1 (J g0 (J g4 g5)) ?_
        exact ⟨_,O.length,[x0,x1],hn,Nat.le_refl _,rfl,rfl,rfl,by rw [List.take_length,List.drop_length];exact h⟩
      clear h
      try clear F
      intro ks hk m vs w10 hi2
      obtain ⟨k,y,hnk,hkO,rfl,rfl,hy,h⟩ :=hi2
      simp -dsimp only [gets,argE,List.zip_cons_cons,List.zip_nil_left,List.cons_append,List.nil_append,Env.get,Env.push,Option.bind_some,Option.map_some,Option.some.injEq,reduceIte,Nat.reduceEqDiff,Nat.reduceAdd,↓reduceIte,g0,g4,g5] at hk;subst hk
      have hlen : ∀ y : List Int,(O.take k ++ y :: O.drop k).length = O.length + 1:=fun y=>by rw [List.length_append,List.length_cons,List.length_take,List.length_drop];omega
      by_cases hkn : (n : Int) < (k : Int)
      case neg=>
        have ekn : k = n:=by omega
        subst ekn
        have hkl : k < (O.take k ++ y :: O.drop k).length:=by rw [hlen];omega
        obtain ⟨k0,k1⟩ :=kc _ (hv.sep h fun _ _ f=>f)
        obtain ⟨b2,o2,y0,y1,rfl,_,_⟩ :=h.facts.1.twoAt hkl
        replace h:=Zd h;have F:=Zf6 h;refine Zc1 (J (decide_eq_false hkn) (J g0 (J g3 (J g4 (J g5 (J k0 (J k1 ei))))))) ?_
        refine ⟨by omega,by omega,?_⟩
        refine Sep.tabSet 0 k [x0,x1] h rfl hkl rfl ?_
        clear h F
        intro _ h
        rw [shift_set _ _ hkO] at h
        replace h:=Zd h;have F:=Zf6 h;refine Zc1 ei ?_
        exact ⟨_,by omega,i + 1,_,_,_,by omega,rfl,by rw [hlen],hd',by rw [hlen];omega,by rw [hlen];exact h⟩
      obtain ⟨k,rfl⟩ : ∃ k',k = k' + 1:=⟨k - 1,by omega⟩
      have hkl : k < (O.take (k + 1) ++ y :: O.drop (k + 1)).length:=by rw [hlen];omega
      obtain ⟨b2,o2,y0,y1,rfl,eY,kY⟩ :=h.facts.1.twoAt hkl
      rw [shift_get _ (by omega)] at eY
      obtain ⟨k2,k3⟩ :=kY _ h.facts.1
      replace h:=Zd h;have F:=Zf6 h;refine Zc1 (J (decide_eq_true hkn) (J (en k (by omega)) (J k2 k3))) ?_
      refine ⟨by omega,by omega,?_⟩
      refine Sep.tabSet 0 (k + 1) [y0,y1] h rfl (by rw [hlen];omega) rfl ?_
      clear h F
      intro _ h
      rw [shift_set _ _ hkO,← eY,shift_down (by omega),eY] at h
      replace h:=Zd h;have F:=Zf6 h;refine Zc1 (en k (by omega)) ?_
      exact ⟨_,by omega,k,[y0,y1],by omega,by omega,rfl,rfl,rfl,h⟩
theorem Sep.c0t {P : Program} {f : FuncId} {args : Array Value} {w0 w : World} {S : Nat → Prop} {M : List Res} {n e s : Nat} {xs : List (List Int)} {K : Value → World → Prop} (h : Sep w0 S M w)
    (hc : Calls P f args w (RetK fun v w'=>∃ a c,v = .slice a n c∧Sep w (fun _=>False) [tab e s v xs] w')) (hk : ∀ a c w1,Sep w0 S (M ++ [tab e s (.slice a n c) xs]) w1→K (.slice a n c) w1) : callsK P f args w K:=by
  refine h.callN (Q:=fun v N=>∃ a c,v = .slice a n c∧N = [tab e s v xs]) (hc.mono fun ex w' ⟨v,er,a,c,ev,k⟩ =>⟨v,er,_,k,fun q hq x hx=>(by simp at hq;subst hq;exact hx),a,c,ev,rfl⟩) ?_
  rintro v _ w1 ⟨a,c,rfl,rfl⟩ k
  exact hk _ _ _ k
def T3.pts (t : T3) : List (List Int):=[[t.ax,t.ay],[t.bx,t.by'],[t.cx,t.cy]]
def cornP (L : List T3) : List (List Int):=L.flatMap T3.pts
theorem cornP_len : ∀ L : List T3,(cornP L).length = 3 * L.length
  | []=>rfl
  | t :: L=>by
    show (t.pts ++ cornP L).length = _
    rw [List.length_append,cornP_len L,List.length_cons];show 3 + _ = _;omega
theorem sortP_len (L : List (List Int)) : (sortP L).length≤L.length:=by
  have : ∀ (L O : List (List Int)),(L.foldl insP O).length≤O.length + L.length:=by
    intro L
    induction L with
    | nil=>intro O;exact Nat.le_refl _
    | cons x L ih=>
      intro O
      have h1:=ih (insP O x)
      have h2:=insP_len O x
      rw [List.foldl_cons,List.length_cons]
      omega
  have:=this L []
  simpa [sortP] using this
theorem corners77 {w : World} {v : Value} (L : List T3) (hL : L.length ≤ 300000) (hv : Tab 6 w v (rowsT L)) : Calls Tryz.prog 77 [v].toArray w
    (RetK fun r w'=>∃ a c,r = .slice a (sortP (cornP L)).length c∧Sep w (fun _=>False) [tab 45 2 r (sortP (cornP L))] w'):=by
  obtain ⟨aa,cc,rfl⟩ :=hv.shape
  have h:=(Sep.nil w).tabNil 45 2
  refine walk Tryz.func77 rfl (by kernel_rfl) (by rw [Tryz.nt77];simp) ?_
  replace h:=Zd h;have F:=Zf6 h
  refine Zv ?_
  refine walkLoop [0] [3,4] (fun m vs w'=>∃ (i : Nat) (O : List (List Int)) (a : Option Addr) (c : Nat),i≤L.length∧m = L.length - i∧vs = [.slice a O.length c,.int .i64 i]∧cornP L = O ++ cornP (L.drop i)∧Sep w (fun _=>False) [tab 45 2 (.slice a O.length c) O] w') (by kernel_rfl) ?_ ?_
  · refine Zv ?_
    exact ⟨_,0,[],none,0,Nat.zero_le _,rfl,rfl,rfl,h⟩
  clear h
  try clear F
  intro ks hk m vs w3 hi
  obtain ⟨i,O,a,c,hi,rfl,rfl,hd,h⟩ :=hi
  replace hk:=Zk hk;subst hk
  rw [List.length_map] at *
  by_cases hlt : (i : Int) < L.length
  case neg=>
    have e0 : L.drop i = []:=List.drop_eq_nil_of_le (by omega)
    rw [e0] at hd
    have hd : cornP L = O:=by rw [hd];exact List.append_nil O
    subst hd
    have hlen:=cornP_len L
    replace h:=Zd h;have F:=Zf6 h;refine Zc1 (decide_eq_false hlt) ?_
    refine h.c0t (sortPoints93 (cornP L) (by omega) h.facts.1) ?_
    clear h F
    intro a2 c2 w2 h
    replace h:=Zd h;have F:=Zf6 h;refine Zc ?_
    exact ⟨_,_,rfl,h.erase 0⟩
  have hil : i < L.length:=by omega
  have ei : IntKind.i64.wrap ((i : Int) + 1) = ((i + 1 : Nat) : Int):=by rw [i64w _ (by omega) (by omega)];omega
  obtain ⟨bb,oo,rfl,kc⟩ :=hv.sixAt hil
  obtain ⟨k0,k1,k2,k3,k4,k5⟩ :=kc _ (hv.sep h fun _ _ f=>f)
  replace h:=Zd h;have F:=Zf6 h;refine Zc1 (decide_eq_true hlt) ?_
  refine walkDraw (.q 0 (.q 1 (.q 2 (.q 3 (.q 4 (.q 6 (.q 7 (.q 8 (.q 9 (.q 11 (.q 12 (.q 13 (.q 14 (.h 5 0 (.h 10 4 (.h 15 10 (.l 16 (.l 17 (.q 18 .fin))))))))))))))))))) [(bb,oo + i * 6,.int .i64 L[i].ax),(bb,oo + i * 6 + 1,.int .i64 L[i].ay),(bb,oo + i * 6,.int .i64 L[i].ax),(bb,oo + i * 6 + 1,.int .i64 L[i].ay),(bb,oo + i * 6 + 2,.int .i64 L[i].bx),(bb,oo + i * 6 + 3,.int .i64 L[i].by'),(bb,oo + i * 6,.int .i64 L[i].ax),(bb,oo + i * 6 + 1,.int .i64 L[i].ay),(bb,oo + i * 6 + 2,.int .i64 L[i].bx),(bb,oo + i * 6 + 3,.int .i64 L[i].by'),(bb,oo + i * 6 + 4,.int .i64 L[i].cx),(bb,oo + i * 6 + 5,.int .i64 L[i].cy)] (by kernel_rfl) (by simp [Holds_nil,Holds_cons,F,k0,k1,k2,k3,k4,k5]) ?_
  refine h.draw ?_
  clear h F k0 k1 k2 k3 k4 k5
  intro _ h
  replace h:=Zd h;have F:=Zf6 h;refine Zc ?_
  have hOl : O.length + 3 * (L.length - i) = 3 * L.length:=by
    have:=congrArg List.length hd
    rw [cornP_len,List.length_append,cornP_len,List.length_drop] at this
    omega
  refine ⟨by omega,by omega,by omega,?_⟩
  refine h.new ?_
  clear h F
  intro _ b1 h
  replace h:=Zd h;have F:=Zf6 h;refine Zc1 (kc _ (hv.sep h fun _ _ f=>f)) ?_
  have h2:=h.toTab 1 2 L[i].pts rfl (fun x hx=>by simp [T3.pts] at hx;rcases hx with rfl | rfl | rfl<;>rfl) rfl (by show 3≤maxLen;decide)
  refine Sep.appTabs 0 infoP Tryz.underlying24 rfl (by decide) L[i].pts h2 rfl h2.facts.2.1 (by show (O.length + 3) * _≤_;omega) (by show O.length + 3≤_;simp only [maxLen];omega) ?_
  clear h h2 F
  intro a2 c2 w2 h
  replace h:=Zd h;have F:=Zf6 h;refine Zc1 (J ei (kc _ (hv.sep h fun _ _ f=>f))) ?_
  refine ⟨_,by omega,i + 1,O ++ L[i].pts,a2,c2,by omega,rfl,rfl,?_,h.erase 1⟩
  rw [hd,List.append_assoc,List.drop_eq_getElem_cons hil];rfl
def stopT (P : Program) (n : Nat) (c : Code) (E : Env) (w : World) (Q : XQ) (_t : Tg (n,c,E,Q):=.mk) : Prop:=codevT P n c E w Q
def isReg (k : Nat) : Code→Bool
  | .region i _ _=>i == k
  | _=>false
theorem isReg_hit (k : Nat) (ops : Array Oper) (d : Bool) : isReg k (.region k ops d) = true:=by simp [isReg]
theorem stop_if {P : Program} {n : Nat} {c : Code} {E : Env} {w : World} {Q : XQ} (k : Nat) (hc : isReg k c = true) : codevT P n c E w Q = stopT P n c E w Q:=(rfl)
theorem stop_via {P : Program} {n id : Nat} {ops : List Oper} {E : Env} {w : World} {Q : XQ} (R : Env→World→Prop) (a : ∀ K : Env→World→Prop,(∀ E w,R E w→K E w)→opsvT P ops.toArray ops E w K) (b : ∀ E w,R E w→exitT Q .normal E w) : stopT P n (.region id ops.toArray false) E w Q:=by
  unfold stopT
  rw [codevT_region]
  exact a _ b
theorem Sep.hd {w0 w : World} {S : Nat→Prop} {r : Res} : ∀ {M : List Res},Sep w0 S (r :: M) w→Sep w0 S [r] w
  | [],h=>h
  | _ :: M,h=>Sep.hd (h.erase 1)
theorem look_some (E : MeshE) (k : List Int) : ∃ (o : Option T3) (s : T3),lookE E k = o∧o.getD T3.zero = s∧∀ b,o.isSome = b→(b = true→o = some s)∧(b = false→o = none):=⟨_,_,rfl,rfl,fun b hb=>by
  cases h : lookE E k with
  | none=>rw [h] at hb;subst hb;exact ⟨fun f=>(by cases f),fun _=>rfl⟩
  | some s=>rw [h] at hb;subst hb;exact ⟨fun _=>rfl,fun f=>(by cases f)⟩⟩
theorem leftE {bm : Nat} {E : MeshE} {w : World} (hm : ∃ b, MeshAt w bm b E) (ax ay bx by' : Int) : Calls Tryz.prog 129 [.pointer (some ⟨bm, 0, none⟩), .agg #[.int .i64 ax, .int .i64 ay], .agg #[.int .i64 bx, .int .i64 by']].toArray w
    (RetP (.tuple #[.agg ((lookE E [ax,ay,bx,by']).getD T3.zero).cells.toArray,.bool (lookE E [ax,ay,bx,by']).isSome]) w):=hm.elim fun _ h=>left129 ax ay bx by' w h
theorem leftN {bm : Nat} {E : MeshE} {w : World} (hm : ∃ b, MeshAt w bm b E) {ax ay bx by' : Int} {o : Option T3} {s : T3} {b : Bool} (e : lookE E [ax, ay, bx, by'] = o) (es : o.getD T3.zero = s) (eb : o.isSome = b) : Calls Tryz.prog 129 [.pointer (some ⟨bm, 0, none⟩), .agg #[.int .i64 ax, .int .i64 ay], .agg #[.int .i64 bx, .int .i64 by']].toArray w
    (RetP (.tuple #[.agg s.cells.toArray,.bool b]) w):=by
  subst e es eb
  exact leftE hm ax ay bx by'
theorem farE_two (t : T3) (ax ay bx by' : Int) : ∃ x y,farE t ax ay bx by' = [x,y]:=by
  unfold farE
  split
  · exact t.pt_two 0
  · split
    · exact t.pt_two 1
    · exact t.pt_two 2
def otherE (o : Option T3) (s t : T3) : Bool:=o.isSome && (!decide ((o.getD T3.zero).row = s.row) && !decide ((o.getD T3.zero).row = t.row))
def flipC (E : MeshE) (s t : T3) (ax ay bx by' cx cy dx dy : Int) : Int×MeshE:=
  if orientI ax ay dx dy cx cy≤0∨orientI dx dy bx by' cx cy≤0 then (2,E)
  else if (otherE (lookE E [dx,dy,cx,cy]) s t || otherE (lookE E [cx,cy,dx,dy]) s t) = true then (2,E)
  else (0,putE (putE (takeE (takeE E s) t) (T3.mk' ⟨ax,ay,dx,dy,cx,cy⟩)) (T3.mk' ⟨dx,dy,bx,by',cx,cy⟩))
def flipE (E : MeshE) (ax ay bx by' : Int) : Int×MeshE:=
  match lookE E [ax,ay,bx,by'],lookE E [bx,by',ax,ay] with
  | some s,some t=>flipC E s t ax ay bx by' ((farE s ax ay bx by').getD 0 0) ((farE s ax ay bx by').getD 1 0) ((farE t ax ay bx by').getD 0 0) ((farE t ax ay bx by').getD 1 0)
  | _,_=>(16,E)
theorem flip108 {w : World} {A : Nat → Prop} {bm : Nat} {E : MeshE} (ax ay bx by' : Int) (h : Sep w A [msh bm E] w) : Calls Tryz.prog 108 [.pointer (some ⟨bm, 0, none⟩), .agg #[.int .i64 ax, .int .i64 ay], .agg #[.int .i64 bx, .int .i64 by']].toArray w
    (RetK fun r w'=>r = .int .i64 (flipE E ax ay bx by').1∧Sep w A [msh bm (flipE E ax ay bx by').2] w'):=by
  obtain ⟨o1,s,e1,es1,f1⟩ :=look_some E [ax,ay,bx,by']
  obtain ⟨o2,t,e2,es2,f2⟩ :=look_some E [bx,by',ax,ay]
  refine walk Tryz.func108 rfl (by kernel_rfl) (by rw [Tryz.nt108];simp) ?_
  replace h:=Zd h;have F:=Zf6 h
  refine Zv ?_
  refine h.new ?_
  clear h F
  intro _ b1 h
  replace h:=Zd h;have F:=Zf6 h;refine Zc ?_
  refine h.new ?_
  clear h F
  intro _ b2 h
  replace h:=Zd h;have F:=Zf6 h;refine Zc ?_
  obtain ⟨z1,hz1⟩ : ∃ b,o1.isSome = b:=⟨_,rfl⟩
  obtain ⟨z2,hz2⟩ : ∃ b,o2.isSome = b:=⟨_,rfl⟩
  refine Sep.callp h (leftN h.facts.1 e1 es1 hz1) ?_
  clear h F
  intro _ h
  replace h:=Zd h;have F:=Zf6 h;refine Zc1 (@T3.cells.eq_1) ?_
  refine h.new ?_
  clear h F
  intro _ b3 h
  replace h:=Zd h;have F:=Zf6 h;refine Zc ?_
  refine Sep.put 3 h rfl ?_
  clear h F
  intro _ h
  replace h:=Zd h;have F:=Zf6 h;refine Zc ?_
  refine Sep.callp h (leftN h.facts.1 e2 es2 hz2) ?_
  clear h F
  intro _ h
  replace h:=Zd h;have F:=Zf6 h;refine Zc1 (@T3.cells.eq_1) ?_
  refine h.new ?_
  clear h F
  intro _ b4 h
  replace h:=Zd h;have F:=Zf6 h;refine Zc ?_
  refine Sep.put 4 h rfl ?_
  clear h F
  intro _ h
  replace h:=Zd h;have F:=Zf6 h;refine Zc ?_
  cases z1 with
  | false=>
    have ef : flipE E ax ay bx by' = (16,E):=by unfold flipE;rw [e1,(f1 _ hz1).2 rfl]
    rw [ef]
    replace h:=Zd h;have F:=Zf6 h;refine Zc ?_
    exact h.hd
  | true=>
  replace h:=Zd h;have F:=Zf6 h;refine Zc ?_
  cases z2 with
  | false=>
    have ef : flipE E ax ay bx by' = (16,E):=by unfold flipE;rw [e1,e2,(f1 _ hz1).1 rfl,(f2 _ hz2).2 rfl]
    rw [ef]
    replace h:=Zd h;have F:=Zf6 h;refine Zc ?_
    exact h.hd
  | true=>
  obtain ⟨cx,cy,ec⟩ :=farE_two s ax ay bx by'
  obtain ⟨dx,dy,ed⟩ :=farE_two t ax ay bx by'
  have ef : flipE E ax ay bx by' = flipC E s t ax ay bx by' cx cy dx dy:=by unfold flipE;rw [e1,e2,(f1 _ hz1).1 rfl,(f2 _ hz2).1 rfl];simp only [ec,ed];rfl
  rw [ef]
  have q1:=far131 s ax ay bx by'
  have q2:=far131 t ax ay bx by'
  rw [ec] at q1
  rw [ed] at q2
  clear ef e1 e2 ec ed f1 f2
  replace h:=Zd h;have F:=Zf6 h;refine Zc ?_
  refine walkDrawI (.h 0 0 (.h 1 6 (.h 2 8 (.h 4 10 (.h 5 6 (.h 6 8 .fin)))))) [⟨3,some 0,[]⟩,⟨7,some 1,[3]⟩,⟨8,some 2,[]⟩,⟨9,some 3,[]⟩,⟨10,none,[3,7,8,9]⟩,⟨11,none,[3,7,8,9,10]⟩] [44,48,11,12] [0,4,5,7,9,41,42,43,45,46,47] [(b3,0,.int .i64 s.ax),(b3,1,.int .i64 s.ay),(b3,2,.int .i64 s.bx),(b3,3,.int .i64 s.by'),(b3,4,.int .i64 s.cx),(b3,5,.int .i64 s.cy),(b1,0,.int .i64 ax),(b1,1,.int .i64 ay),(b2,0,.int .i64 bx),(b2,1,.int .i64 by'),(b4,0,.int .i64 t.ax),(b4,1,.int .i64 t.ay),(b4,2,.int .i64 t.bx),(b4,3,.int .i64 t.by'),(b4,4,.int .i64 t.cx),(b4,5,.int .i64 t.cy)] (by kernel_rfl) (by simp [Holds_nil,Holds_cons,F]) ?_
  refine h.draw ?_
  clear h F
  intro _ h
  replace h:=Zd h;have F:=Zf6 h;refine Zc1 (@T3.cells.eq_1) ?_
  refine ⟨fun l vs w'=>∃ v3 v7 v8 v9 : Value,vs = [v3,v7,v8,v9]∧(l 3 = true→v3 = .agg #[.int .i64 cx,.int .i64 cy])∧(l 7 = true→v7 = .agg #[.int .i64 dx,.int .i64 dy])∧(l 10 = true→l 8 = true)∧(l 11 = true→l 9 = true)∧∃ b5 b6 : Nat,(l 8 = true→v8 = .pointer (some ⟨b5,0,none⟩))∧(l 9 = true→v9 = .pointer (some ⟨b6,0,none⟩))∧Sep w A [msh bm E,blk b1 45 [.int .i64 ax,.int .i64 ay],blk b2 45 [.int .i64 bx,.int .i64 by'],blk b3 49 [.int .i64 s.ax,.int .i64 s.ay,.int .i64 s.bx,.int .i64 s.by',.int .i64 s.cx,.int .i64 s.cy],blk b4 49 [.int .i64 t.ax,.int .i64 t.ay,.int .i64 t.bx,.int .i64 t.by',.int .i64 t.cx,.int .i64 t.cy],(if l 8 = true then blk b5 45 (if l 10 = true then [.int .i64 cx,.int .i64 cy] else [.int .i64 0,.int .i64 0]) else emp),(if l 9 = true then blk b6 45 (if l 11 = true then [.int .i64 dx,.int .i64 dy] else [.int .i64 0,.int .i64 0]) else emp)] w',?_,?_,⟨?_,?_,?_,?_,?_,?_,trivial⟩,?_⟩
  · clear h F;intro l vs w1 hI
    obtain ⟨v3,v7,v8,v9,rfl,e3,e7,o10,o11,b5,b6,e8,e9,h⟩ :=hI
    replace h:=Zd h;have F:=Zf6 h
    exact (by simp [Holds_nil,Holds_cons,F])
  · intro us0 hv0
    obtain ⟨v3,us1,rfl,hv1⟩ :=cons_of_len hv0
    obtain ⟨v7,us2,rfl,hv2⟩ :=cons_of_len hv1
    obtain ⟨v8,us3,rfl,hv3⟩ :=cons_of_len hv2
    obtain ⟨v9,us4,rfl,hv4⟩ :=cons_of_len hv3
    obtain rfl:=nil_of_len hv4
    exact ⟨v3,v7,v8,v9,rfl,(fun e=>by cases e),(fun e=>by cases e),(fun e=>by cases e),(fun e=>by cases e),0,0,(fun e=>by cases e),(fun e=>by cases e),h.addEmp.addEmp⟩
  · clear h F;intro l vs w1 hI hl hp
    obtain ⟨v3,v7,v8,v9,rfl,e3,e7,o10,o11,b5,b6,e8,e9,h⟩ :=hI
    replace h:=Zd h;have F:=Zf6 h
    replace h:=Zd h;have F:=Zf6 h;refine Zc1 (@T3.cells.eq_1) ?_
    refine Sep.callp h (q1 _) ?_
    clear F;intro w2 h
    exact ⟨_,_,_,_,rfl,(fun _=>rfl),e7,o10,o11,b5,b6,e8,e9,h⟩
  · clear h F;intro l vs w1 hI hl hp
    obtain ⟨v3,v7,v8,v9,rfl,e3,e7,o10,o11,b5,b6,e8,e9,h⟩ :=hI
    obtain rfl:=e3 (hp 3 (by simp))
    have f3 : l 3 = true:=hp 3 (by simp)
    replace h:=Zd h;have F:=Zf6 h
    replace h:=Zd h;have F:=Zf6 h;refine Zc1 (@T3.cells.eq_1) ?_
    refine Sep.callp h (q2 _) ?_
    clear F;intro w2 h
    exact ⟨_,_,_,_,rfl,(fun _=>rfl),(fun _=>rfl),o10,o11,b5,b6,e8,e9,h⟩
  · clear h F;intro l vs w1 hI hl hp
    obtain ⟨v3,v7,v8,v9,rfl,e3,e7,o10,o11,b5,b6,e8,e9,h⟩ :=hI
    replace h:=Zd h;have F:=Zf6 h
    replace h:=Zd h;have F:=Zf6 h;refine Zc1 (J hl (@T3.cells.eq_1)) ?_
    simp only [hl,Bool.false_eq_true,if_false] at h
    refine Sep.newAt 5 h rfl ?_
    clear F;intro w2 b5 h
    have n10 : l 10 = false:=by
      cases hq : l 10 with
      | false=>rfl
      | true=>rw [o10 hq] at hl;cases hl
    refine ⟨_,_,_,_,rfl,e3,e7,(fun _=>rfl),o11,b5,b6,(fun _=>rfl),e9,?_⟩
    simp only [flag,n10,Nat.reduceBEq,beq_self_eq_true,Bool.true_or,Bool.false_or,Bool.false_eq_true,if_false,if_true];exact h
  · clear h F;intro l vs w1 hI hl hp
    obtain ⟨v3,v7,v8,v9,rfl,e3,e7,o10,o11,b5,b6,e8,e9,h⟩ :=hI
    replace h:=Zd h;have F:=Zf6 h
    replace h:=Zd h;have F:=Zf6 h;refine Zc1 (J hl (@T3.cells.eq_1)) ?_
    simp only [hl,Bool.false_eq_true,if_false] at h
    refine Sep.newAt 6 h rfl ?_
    clear F;intro w2 b6 h
    have n11 : l 11 = false:=by
      cases hq : l 11 with
      | false=>rfl
      | true=>rw [o11 hq] at hl;cases hl
    refine ⟨_,_,_,_,rfl,e3,e7,o10,(fun _=>rfl),b5,b6,e8,(fun _=>rfl),?_⟩
    simp only [flag,n11,Nat.reduceBEq,beq_self_eq_true,Bool.true_or,Bool.false_or,Bool.false_eq_true,if_false,if_true];exact h
  · clear h F;intro l vs w1 hI hl hp
    obtain ⟨v3,v7,v8,v9,rfl,e3,e7,o10,o11,b5,b6,e8,e9,h⟩ :=hI
    obtain rfl:=e3 (hp 3 (by simp))
    obtain rfl:=e7 (hp 7 (by simp))
    obtain rfl:=e8 (hp 8 (by simp))
    obtain rfl:=e9 (hp 9 (by simp))
    have f3 : l 3 = true:=hp 3 (by simp)
    have f7 : l 7 = true:=hp 7 (by simp)
    have f8 : l 8 = true:=hp 8 (by simp)
    have f9 : l 9 = true:=hp 9 (by simp)
    replace h:=Zd h;have F:=Zf6 h
    simp only [f3,f7,f8,f9,hl,Bool.false_eq_true,if_false,if_true] at h
    replace h:=Zd h;have F:=Zf6 h;refine Zc1 (J f3 (J f7 (J f8 (J f9 (@T3.cells.eq_1))))) ?_
    refine Sep.put 5 h rfl ?_
    clear F;intro w2 h
    refine ⟨_,_,_,_,rfl,(fun _=>rfl),(fun _=>rfl),(fun _=>f8),o11,b5,b6,(fun _=>rfl),(fun _=>rfl),?_⟩
    simp only [flag,f3,f7,f8,f9,Nat.reduceBEq,beq_self_eq_true,Bool.true_or,Bool.false_or,if_true];exact h
  · clear h F;intro l vs w1 hI hl hp
    obtain ⟨v3,v7,v8,v9,rfl,e3,e7,o10,o11,b5,b6,e8,e9,h⟩ :=hI
    obtain rfl:=e3 (hp 3 (by simp))
    obtain rfl:=e7 (hp 7 (by simp))
    obtain rfl:=e8 (hp 8 (by simp))
    obtain rfl:=e9 (hp 9 (by simp))
    have f3 : l 3 = true:=hp 3 (by simp)
    have f7 : l 7 = true:=hp 7 (by simp)
    have f8 : l 8 = true:=hp 8 (by simp)
    have f9 : l 9 = true:=hp 9 (by simp)
    have f10 : l 10 = true:=hp 10 (by simp)
    replace h:=Zd h;have F:=Zf6 h
    simp only [f3,f7,f8,f9,f10,hl,Bool.false_eq_true,if_false,if_true] at h
    replace h:=Zd h;have F:=Zf6 h;refine Zc1 (J f3 (J f7 (J f8 (J f9 (J f10 (@T3.cells.eq_1)))))) ?_
    refine Sep.put 6 h rfl ?_
    clear F;intro w2 h
    refine ⟨_,_,_,_,rfl,(fun _=>rfl),(fun _=>rfl),o10,(fun _=>f9),b5,b6,(fun _=>rfl),(fun _=>rfl),?_⟩
    simp only [flag,f3,f7,f8,f9,f10,Nat.reduceBEq,beq_self_eq_true,Bool.true_or,Bool.false_or,if_true];exact h
  clear h F;intro l vs w1 hI hall
  obtain ⟨v3,v7,v8,v9,rfl,e3,e7,o10,o11,b5,b6,e8,e9,h⟩ :=hI
  have f3 : l 3 = true:=hall ⟨3,some 0,[]⟩ (by simp)
  have f7 : l 7 = true:=hall ⟨7,some 1,[3]⟩ (by simp)
  have f8 : l 8 = true:=hall ⟨8,some 2,[]⟩ (by simp)
  have f9 : l 9 = true:=hall ⟨9,some 3,[]⟩ (by simp)
  have f10 : l 10 = true:=hall ⟨10,none,[3,7,8,9]⟩ (by simp)
  have f11 : l 11 = true:=hall ⟨11,none,[3,7,8,9,10]⟩ (by simp)
  obtain rfl:=e3 f3
  obtain rfl:=e7 f7
  obtain rfl:=e8 f8
  obtain rfl:=e9 f9
  simp only [f3,f7,f8,f9,f10,f11,if_true] at h
  clear hall f3 f7 f8 f9 f10 f11 o10 o11
  replace h:=Zd h;have F:=Zf6 h;refine Zc1 (@T3.cells.eq_1) ?_
  refine Sep.callp h (orient134 ax ay dx dy cx cy _) ?_
  clear h F
  intro _ h
  replace h:=Zd h;have F:=Zf6 h;refine Zc ?_
  by_cases g1 : orientI ax ay dx dy cx cy≤0
  · rw [show flipC E s t ax ay bx by' cx cy dx dy = (2,E) from if_pos (.inl g1)]
    generalize hz : decide (orientI ax ay dx dy cx cy≤0) = z
    obtain rfl : z = true:=hz.symm.trans (decide_eq_true g1)
    clear hz
    replace h:=Zd h;have F:=Zf6 h;refine Zc ?_
    exact h.hd
  generalize hz : decide (orientI ax ay dx dy cx cy≤0) = z
  obtain rfl : z = false:=hz.symm.trans (decide_eq_false g1)
  clear hz
  replace h:=Zd h;have F:=Zf6 h;refine Zc ?_
  refine Sep.callp h (orient134 dx dy bx by' cx cy _) ?_
  clear h F
  intro _ h
  replace h:=Zd h;have F:=Zf6 h;refine Zc ?_
  by_cases g2 : orientI dx dy bx by' cx cy≤0
  · rw [show flipC E s t ax ay bx by' cx cy dx dy = (2,E) from if_pos (.inr g2)]
    generalize hz : decide (orientI dx dy bx by' cx cy≤0) = z
    obtain rfl : z = true:=hz.symm.trans (decide_eq_true g2)
    clear hz
    replace h:=Zd h;have F:=Zf6 h;refine Zc ?_
    exact h.hd
  generalize hz : decide (orientI dx dy bx by' cx cy≤0) = z
  obtain rfl : z = false:=hz.symm.trans (decide_eq_false g2)
  clear hz
  replace h:=Zd h;have F:=Zf6 h;refine Zc ?_
  unfold flipC
  rw [if_neg (fun g=>g.elim g1 g2)]
  have m1:=make78 ⟨ax,ay,dx,dy,cx,cy⟩
  have m2:=make78 ⟨dx,dy,bx,by',cx,cy⟩
  generalize T3.mk' ⟨ax,ay,dx,dy,cx,cy⟩ = x at *
  generalize T3.mk' ⟨dx,dy,bx,by',cx,cy⟩ = y at *
  generalize T3.ok ⟨ax,ay,dx,dy,cx,cy⟩ = ox at *
  generalize T3.ok ⟨dx,dy,bx,by',cx,cy⟩ = oy at *
  obtain ⟨o3,u,e3,es3,f3⟩ :=look_some E [dx,dy,cx,cy]
  obtain ⟨o4,v,e4,es4,f4⟩ :=look_some E [cx,cy,dx,dy]
  obtain ⟨z3,hz3⟩ : ∃ b,o3.isSome = b:=⟨_,rfl⟩
  obtain ⟨z4,hz4⟩ : ∃ b,o4.isSome = b:=⟨_,rfl⟩
  refine Sep.callp h (m1 _) ?_
  clear h F
  intro _ h
  replace h:=Zd h;have F:=Zf6 h;refine Zc1 (@T3.cells.eq_1) ?_
  refine h.new ?_
  clear h F
  intro _ b7 h
  replace h:=Zd h;have F:=Zf6 h;refine Zc ?_
  refine Sep.put 7 h rfl ?_
  clear h F
  intro _ h
  replace h:=Zd h;have F:=Zf6 h;refine Zc ?_
  refine Sep.callp h (m2 _) ?_
  clear h F
  intro _ h
  replace h:=Zd h;have F:=Zf6 h;refine Zc1 (@T3.cells.eq_1) ?_
  refine h.new ?_
  clear h F
  intro _ b8 h
  replace h:=Zd h;have F:=Zf6 h;refine Zc ?_
  refine Sep.put 8 h rfl ?_
  clear h F
  intro _ h
  replace h:=Zd h;have F:=Zf6 h;refine Zc ?_
  refine Sep.callp h (leftN h.facts.1 e3 es3 hz3) ?_
  clear h F
  intro _ h
  replace h:=Zd h;have F:=Zf6 h;refine Zc1 (@T3.cells.eq_1) ?_
  refine h.new ?_
  clear h F
  intro _ b9 h
  replace h:=Zd h;have F:=Zf6 h;refine Zc ?_
  refine Sep.put 9 h rfl ?_
  clear h F
  intro _ h
  replace h:=Zd h;have F:=Zf6 h;refine Zc ?_
  refine Sep.callp h (leftN h.facts.1 e4 es4 hz4) ?_
  clear h F
  intro _ h
  replace h:=Zd h;have F:=Zf6 h;refine Zc1 (@T3.cells.eq_1) ?_
  refine h.new ?_
  clear h F
  intro _ b10 h
  replace h:=Zd h;have F:=Zf6 h;try simp -dsimp only [↓vcA,vcB,vcD,↓pureT_lenS,↓iteT,↓iteF,cond_true,cond_false,eq_self,argE,Env.get,Env.push,ev,evs,evo,retV,Value.cells,Value.oneCell',setR,overR,fillL,zl,places,allSizes,heldC,ne_eq,Int.reduceLE,Int.reduceLT,Int.reduceEq,Int.reduceNe,Int.reduceToNat,Int.cast_ofNat_Int,Nat.reduceMul,Nat.reduceLeDiff,reduceIte,Nat.reduceEqDiff,Nat.reduceAdd,↓reduceIte,Tryz.vcT,F,h.cell0,gets,vsD,if_true,if_false,Bool.false_eq_true,cellsAt,↓stop_if 12,isReg_hit 12]
  refine Sep.put 10 h rfl ?_
  clear h F
  intro w9 h
  replace h:=Zd h;have F:=Zf6 h;try simp -dsimp only [↓vcA,vcB,vcD,↓pureT_lenS,↓iteT,↓iteF,cond_true,cond_false,eq_self,argE,Env.get,Env.push,ev,evs,evo,retV,Value.cells,Value.oneCell',setR,overR,fillL,zl,places,allSizes,heldC,ne_eq,Int.reduceLE,Int.reduceLT,Int.reduceEq,Int.reduceNe,Int.reduceToNat,Int.cast_ofNat_Int,Nat.reduceMul,Nat.reduceLeDiff,reduceIte,Nat.reduceEqDiff,Nat.reduceAdd,↓reduceIte,Tryz.vcT,F,h.cell0,gets,vsD,if_true,if_false,Bool.false_eq_true,cellsAt,↓stop_if 12,isReg_hit 12]
  refine stop_via (fun E' w'=>w' = w9∧E'.get 112 = some (.bool (otherE o3 s t || otherE o4 s t))∧E'.get 0 = some (.pointer (some ⟨bm,0,none⟩))∧E'.get 7 = some (.pointer (some ⟨b3,0,none⟩))∧E'.get 9 = some (.pointer (some ⟨b4,0,none⟩))∧E'.get 13 = some (.pointer (some ⟨b7,0,none⟩))∧E'.get 15 = some (.pointer (some ⟨b8,0,none⟩))) (fun K hk=>?_) ?_
  · unfold otherE T3.row at hk
    rw [hz3,hz4,es3,es4] at hk
    cases z3
    case' true=>
      replace h:=Zd h;have F:=Zf6 h;refine Zc ?_
      refine binK_neq_agg (by kernel_rfl) (fun w=>seqTri (d:=9997) u.ax u.ay u.bx u.by' u.cx u.cy s.ax s.ay s.bx s.by' s.cx s.cy w) ?_
      generalize decide ([u.ax,u.ay,u.bx,u.by',u.cx,u.cy] = [s.ax,s.ay,s.bx,s.by',s.cx,s.cy]) = n1 at *
      cases n1
      case' false=>
        replace h:=Zd h;have F:=Zf6 h;refine Zc ?_
        refine binK_neq_agg (by kernel_rfl) (fun w=>seqTri (d:=9997) u.ax u.ay u.bx u.by' u.cx u.cy t.ax t.ay t.bx t.by' t.cx t.cy w) ?_
        generalize decide ([u.ax,u.ay,u.bx,u.by',u.cx,u.cy] = [t.ax,t.ay,t.bx,t.by',t.cx,t.cy]) = n2 at *
        cases n2
    all_goals replace h:=Zd h;have F:=Zf6 h;refine Zc ?_
    case true.false.false=>exact hk _ _ ⟨rfl,rfl,rfl,rfl,rfl,rfl,rfl⟩
    all_goals
      cases z4
      case' true=>
        replace h:=Zd h;have F:=Zf6 h;refine Zc ?_
        refine binK_neq_agg (by kernel_rfl) (fun w=>seqTri (d:=9997) v.ax v.ay v.bx v.by' v.cx v.cy s.ax s.ay s.bx s.by' s.cx s.cy w) ?_
        generalize decide ([v.ax,v.ay,v.bx,v.by',v.cx,v.cy] = [s.ax,s.ay,s.bx,s.by',s.cx,s.cy]) = n3 at *
        cases n3
        case' false=>
          replace h:=Zd h;have F:=Zf6 h;refine Zc ?_
          refine binK_neq_agg (by kernel_rfl) (fun w=>seqTri (d:=9997) v.ax v.ay v.bx v.by' v.cx v.cy t.ax t.ay t.bx t.by' t.cx t.cy w) ?_
      all_goals replace h:=Zd h;have F:=Zf6 h;refine Zc ?_
      all_goals exact hk _ _ ⟨rfl,rfl,rfl,rfl,rfl,rfl,rfl⟩
  · rintro E' _ ⟨rfl,g112,g0,g7,g9,g13,g15⟩
    rw [e3,e4]
    cases ho : (otherE o3 s t || otherE o4 s t) with
    | true=>
      rw [ho] at g112
      rw [if_pos rfl]
      replace h:=Zd h;have F:=Zf6 h;refine Zc1 g112 ?_
      exact h.hd
    | false=>
    rw [ho] at g112
    rw [if_neg (by simp)]
    replace h:=Zd h;have F:=Zf6 h;refine Zc1 (J g112 (J g0 (J g7 (J g9 (J g13 g15))))) ?_
    refine Sep.c10 0 (x:=.tuple #[]) (r':=msh bm (takeE E s)) h rfl (fun A k=>take111 s k) (fun _ f=>f) ?_
    clear h F
    intro _ h
    replace h:=Zd h;have F:=Zf6 h;refine Zc1 (J g0 (J g7 (J g9 (J g13 g15)))) ?_
    refine Sep.c10 0 (x:=.tuple #[]) (r':=msh bm (takeE (takeE E s) t)) h rfl (fun A k=>take111 t k) (fun _ f=>f) ?_
    clear h F
    intro _ h
    replace h:=Zd h;have F:=Zf6 h;refine Zc1 (J g0 (J g7 (J g9 (J g13 g15)))) ?_
    refine Sep.c10 0 (x:=.bool (putOk (takeE (takeE E s) t) x)) (r':=msh bm (putE (takeE (takeE E s) t) x)) h rfl (fun A k=>put101 x k) (fun _ f=>f) ?_
    clear h F
    intro _ h
    replace h:=Zd h;have F:=Zf6 h;refine Zc1 (J g0 (J g7 (J g9 (J g13 g15)))) ?_
    refine Sep.c10 0 (x:=.bool (putOk (putE (takeE (takeE E s) t) x) y)) (r':=msh bm (putE (putE (takeE (takeE E s) t) x) y)) h rfl (fun A k=>put101 y k) (fun _ f=>f) ?_
    clear h F
    intro _ h
    replace h:=Zd h;have F:=Zf6 h;refine Zc1 g0 ?_
    exact h.hd
end Go.Proofs.YtnhgjgoglmadnaaGreat
