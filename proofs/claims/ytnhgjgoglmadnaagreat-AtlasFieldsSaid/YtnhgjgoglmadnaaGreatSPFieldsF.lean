/- Joined texts of this claim (part 32), printed by a program of this work. The last part holds the claimed theorem: the law answers true at every input of its row. -/
import Derived.Test.YtnhgjgoglmadnaaGreatSPFieldsE
set_option maxHeartbeats 4000000
namespace Go.Proofs.YtnhgjgoglmadnaaGreat
open Go.RowKit
set_option maxRecDepth 100000
set_option linter.unusedSimpArgs false
set_option linter.unusedVariables false
theorem rmW_len (m1 m2 : List Int) : ∀ W,((rmW m1 m2 W).getD W).length≤W.length
  | []=>Nat.le_refl _
  | x :: W=>by
    have:=rmW_len m1 m2 W
    unfold rmW
    split
    · simp
    · cases h : rmW m1 m2 W with
      | none=>simp
      | some V=>rw [h] at this;simpa using this
theorem foldl_take {α β : Type} (f : α→β→α) (L : List β) (a : α) {i : Nat} (hi : i < L.length) : (L.take (i + 1)).foldl f a = f ((L.take i).foldl f a) L[i]:=by
  have e : L.take (i + 1) = L.take i ++ [L[i]]:=by rw [List.take_add_one,List.getElem?_eq_getElem hi];rfl
  rw [e,List.foldl_append];rfl
def atL (E : MeshE) (x y : Int) : List T3:=sortT (sel (fAt x y) E)
def putL (E : MeshE) (L : List T3) : MeshE:=L.foldl putE E
def splitE (E : MeshE) (T : List T3) (x y : Int) : MeshE:=T.foldl (fun E t=>putL E (sortT (cutE t x y))) E
def splitW (W : List (List Int)) (x y : Int) : List (List Int):=match onW W (x,y) with
  | none=>W
  | some w=>insW (insW ((rmW (ptMin (w.getD 0 0) (w.getD 1 0) (w.getD 2 0) (w.getD 3 0)) (ptMax (w.getD 0 0) (w.getD 1 0) (w.getD 2 0) (w.getD 3 0)) W).getD W) [w.getD 0 0,w.getD 1 0,x,y,w.getD 4 0]) [x,y,w.getD 2 0,w.getD 3 0,w.getD 4 0]
def addC (E : MeshE) (x y : Int) : Int:=if (atL E x y).length = 0 then 1 else if 0 < (sel (fStar x y) E).length then 5 else 0
def addE (E : MeshE) (x y : Int) : MeshE:=if addC E x y = 0 then splitE ((atL E x y).foldl takeE E) (atL E x y) x y else E
def addW (E : MeshE) (W : List (List Int)) (x y : Int) : List (List Int):=if addC E x y = 0 then splitW W x y else W
theorem addPoint91 {w : World} {A : Nat → Prop} {bm bs : Nat} {E : MeshE} {W : List (List Int)} (x y : Int) (hE : E.length ≤ 1000000) (hW : W.length ≤ 900000) (h : Sep w A [msh bm E, wls bs W] w) : Calls Tryz.prog 91 [.pointer (some ⟨bm, 0, none⟩), .pointer (some ⟨bs, 0, none⟩), .agg #[.int .i64 x, .int .i64 y]].toArray w
    (RetK fun r w'=>r = .int .i64 (addC E x y)∧Sep w A [msh bm (addE E x y),wls bs (addW E W x y)] w'):=by
  refine walk Tryz.func91 rfl (by kernel_rfl) (by rw [Tryz.nt91];simp) ?_
  replace h:=Zd h;have F:=Zf6 h
  refine Zv ?_
  refine h.new ?_
  clear h F
  intro _ b5 h
  replace h:=Zd h;have F:=Zf6 h;refine Zc ?_
  have hTl : (atL E x y).length = (sel (fAt x y) E).length:=(sortT_perm _).length_eq
  have hTm : (atL E x y).length≤1000000:=by rw [hTl];exact Nat.le_trans (sel_len _ _) hE
  refine Sep.c1t 0 h rfl (fun A k=>at109 x y hE k) (fun _ f=>f) ?_
  clear h F
  intro a c w2 h
  rw [← hTl] at h ⊢
  rw [show sortT (sel (fAt x y) E) = atL E x y from rfl] at h
  generalize hT : atL E x y = T at *
  replace h:=Zd h;have F:=Zf6 h;refine Zc ?_
  by_cases g1 : T.length = 0
  · have ec : addC E x y = 1:=by unfold addC;rw [hT,if_pos g1]
    rw [addE,addW,ec]
    generalize hz : decide ((T.length : Int) = 0) = z
    obtain rfl : z = true:=hz.symm.trans (decide_eq_true (by omega))
    clear hz
    replace h:=Zd h;have F:=Zf6 h;refine Zc ?_
    exact (h.erase 3).erase 2
  generalize hz : decide ((T.length : Int) = 0) = z
  obtain rfl : z = false:=hz.symm.trans (decide_eq_false (by omega))
  clear hz
  replace h:=Zd h;have F:=Zf6 h;refine Zc ?_
  refine Sep.c1t 0 h rfl (fun A k=>star110 x y hE k) (fun _ f=>f) ?_
  clear h F
  intro a3 c3 w3 h
  have h:=h.erase 4
  replace h:=Zd h;have F:=Zf6 h;refine Zc ?_
  by_cases g2 : 0 < (sel (fStar x y) E).length
  · have ec : addC E x y = 5:=by unfold addC;rw [hT,if_neg g1,if_pos g2]
    rw [addE,addW,ec]
    generalize hz : decide ((0 : Int) < ((sel (fStar x y) E).length : Int)) = z
    obtain rfl : z = true:=hz.symm.trans (decide_eq_true (by omega))
    clear hz
    replace h:=Zd h;have F:=Zf6 h;refine Zc ?_
    exact (h.erase 3).erase 2
  have ec : addC E x y = 0:=by unfold addC;rw [hT,if_neg g1,if_neg g2]
  rw [addE,addW,ec,if_pos rfl,if_pos rfl,hT]
  generalize hz : decide ((0 : Int) < ((sel (fStar x y) E).length : Int)) = z
  obtain rfl : z = false:=hz.symm.trans (decide_eq_false (by omega))
  clear hz
  replace h:=Zd h;have F:=Zf6 h;refine Zc ?_
  clear g1 g2 ec hTl
  refine walkLoop [0,1,5,7] [8] (fun m vs w'=>∃ i : Nat,i≤T.length∧m = T.length - i∧vs = [.int .i64 i]∧Sep w A [msh bm ((T.take i).foldl takeE E),wls bs W,blk b5 45 [.int .i64 x,.int .i64 y],tab 49 6 (.slice a T.length c) (rowsT T)] w') (by kernel_rfl) ?_ ?_
  · refine Zv ?_
    exact ⟨_,0,Nat.zero_le _,rfl,rfl,h⟩
  clear h
  try clear F
  intro ks hk m vs w4 hi
  obtain ⟨i,hi,rfl,rfl,h⟩ :=hi
  replace hk:=Zk hk;subst hk
  have ei : i < T.length→IntKind.i64.wrap ((i : Int) + 1) = ((i + 1 : Nat) : Int):=fun hil=>by rw [i64w _ (by omega) (by omega)];omega
  by_cases hlt : (i : Int) < T.length
  case pos=>
    have hil : i < T.length:=by omega
    obtain ⟨bb,oo,rfl,kc⟩ :=h.facts.2.2.2.1.sixAt hil
    replace h:=Zd h;have F:=Zf6 h;refine Zc1 (J (decide_eq_true hlt) (kc _ h.facts.2.2.2.1)) ?_
    refine ⟨by omega,?_⟩
    refine Sep.c10 0 (x:=.tuple #[]) (r':=msh bm (takeE ((T.take i).foldl takeE E) T[i])) h rfl (fun A k=>take111 T[i] k) (fun _ f=>f) ?_
    clear h F
    intro _ h
    rw [← foldl_take takeE T E hil] at h
    replace h:=Zd h;have F:=Zf6 h;refine Zc1 (ei hil) ?_
    exact ⟨_,by omega,i + 1,by omega,rfl,rfl,h⟩
  have eiT : i = T.length:=by omega
  subst eiT
  rw [List.take_length] at h
  replace h:=Zd h;have F:=Zf6 h;refine Zc1 (decide_eq_false hlt) ?_
  refine walkLoop [0,1,5,7] [9] (fun m vs w'=>∃ i : Nat,i≤T.length∧m = T.length - i∧vs = [.int .i64 i]∧Sep w A [msh bm (splitE (T.foldl takeE E) (T.take i) x y),wls bs W,blk b5 45 [.int .i64 x,.int .i64 y],tab 49 6 (.slice a T.length c) (rowsT T)] w') (by kernel_rfl) ?_ ?_
  · refine Zv ?_
    exact ⟨_,0,Nat.zero_le _,rfl,rfl,h⟩
  clear h ei hlt hi
  try clear F
  intro ks hk m vs w5 hi
  obtain ⟨i,hi,rfl,rfl,h⟩ :=hi
  replace hk:=Zk hk;subst hk
  have ei : i < T.length→IntKind.i64.wrap ((i : Int) + 1) = ((i + 1 : Nat) : Int):=fun hil=>by rw [i64w _ (by omega) (by omega)];omega
  by_cases hlt : (i : Int) < T.length
  case pos=>
    have hil : i < T.length:=by omega
    obtain ⟨bb,oo,rfl,kc⟩ :=h.facts.2.2.2.1.sixAt hil
    replace h:=Zd h;have F:=Zf6 h;refine Zc1 (decide_eq_true hlt) ?_
    obtain ⟨k0,k1,k2,k3,k4,k5⟩ :=kc _ F.2.2.2.1
    refine walkDraw (.q 0 (.q 1 (.q 2 (.h 3 2 (.h 4 0 (.l 5 (.q 6 .fin))))))) [(b5,0,.int .i64 x),(b5,1,.int .i64 y),(bb,oo + i * 6,.int .i64 T[i].ax),(bb,oo + i * 6 + 1,.int .i64 T[i].ay),(bb,oo + i * 6 + 2,.int .i64 T[i].bx),(bb,oo + i * 6 + 3,.int .i64 T[i].by'),(bb,oo + i * 6 + 4,.int .i64 T[i].cx),(bb,oo + i * 6 + 5,.int .i64 T[i].cy)] (by kernel_rfl) (by simp [Holds_nil,Holds_cons,F,k0,k1,k2,k3,k4,k5]) ?_
    refine h.draw ?_
    clear h F k0 k1 k2 k3 k4 k5
    intro _ h
    replace h:=Zd h;have F:=Zf6 h;refine Zc ?_
    refine ⟨by omega,?_⟩
    refine h.c0t (cut112 T[i] x y) ?_
    clear h F
    intro a6 c6 w6 h
    have hCl : (sortT (cutE T[i] x y)).length = (cutE T[i] x y).length:=(sortT_perm _).length_eq
    have hC3 : (sortT (cutE T[i] x y)).length≤3:=by
      rw [hCl];unfold cutE
      split
      · exact cutN_len T[i] x y 3
      · exact Nat.zero_le _
    have hst : splitE (T.foldl takeE E) (T.take (i + 1)) x y = putL (splitE (T.foldl takeE E) (T.take i) x y) (sortT (cutE T[i] x y)):=foldl_take (fun E t=>putL E (sortT (cutE t x y))) T _ hil
    rw [← hCl] at h ⊢
    clear hCl
    generalize sortT (cutE T[i] x y) = C at *
    replace h:=Zd h;have F:=Zf6 h;refine Zc1 (kc _ h.facts.2.2.2.1) ?_
    refine walkLoop [0,1,5,7,9,10] [11] (fun m vs w'=>∃ k : Nat,k≤C.length∧m = C.length - k∧vs = [.int .i64 k]∧Sep w A [msh bm (putL (splitE (T.foldl takeE E) (T.take i) x y) (C.take k)),wls bs W,blk b5 45 [.int .i64 x,.int .i64 y],tab 49 6 (.slice (some ⟨bb,oo,none⟩) T.length c) (rowsT T),tab 49 6 (.slice a6 C.length c6) (rowsT C)] w') (by kernel_rfl) ?_ ?_
    · refine Zv ?_
      exact ⟨_,0,Nat.zero_le _,rfl,rfl,h⟩
    clear h
    try clear F
    intro ks hk m vs w7 hi2
    obtain ⟨k,hk2,rfl,rfl,h⟩ :=hi2
    replace hk:=Zk hk;subst hk
    by_cases hlk : (k : Int) < C.length
    case pos=>
      have hkl : k < C.length:=by omega
      have ek : IntKind.i64.wrap ((k : Int) + 1) = ((k + 1 : Nat) : Int):=by rw [i64w _ (by omega) (by omega)];omega
      obtain ⟨b2,o2,rfl,kc2⟩ :=h.facts.2.2.2.2.1.sixAt hkl
      replace h:=Zd h;have F:=Zf6 h;refine Zc1 (J (decide_eq_true hlk) (kc2 _ h.facts.2.2.2.2.1)) ?_
      refine ⟨by omega,?_⟩
      refine Sep.c10 0 (x:=.bool (putOk (putL (splitE (T.foldl takeE E) (T.take i) x y) (C.take k)) C[k])) (r':=msh bm (putE (putL (splitE (T.foldl takeE E) (T.take i) x y) (C.take k)) C[k])) h rfl (fun A k=>put101 _ k) (fun _ f=>f) ?_
      clear h F
      intro _ h
      rw [show putE (putL (splitE (T.foldl takeE E) (T.take i) x y) (C.take k)) C[k] = putL (splitE (T.foldl takeE E) (T.take i) x y) (C.take (k + 1)) from (foldl_take putE C _ hkl).symm] at h
      replace h:=Zd h;have F:=Zf6 h;refine Zc1 ek ?_
      exact ⟨_,by omega,k + 1,by omega,rfl,rfl,h⟩
    have ekC : k = C.length:=by omega
    subst ekC
    rw [List.take_length,← hst] at h
    replace h:=Zd h;have F:=Zf6 h;refine Zc1 (J (decide_eq_false hlk) (ei hil)) ?_
    exact ⟨_,by omega,i + 1,by omega,rfl,rfl,h.erase 4⟩
  have eiT : i = T.length:=by omega
  subst eiT
  rw [List.take_length] at h
  replace h:=Zd h;have F:=Zf6 h;refine Zc1 (decide_eq_false hlt) ?_
  obtain ⟨v,hv⟩ :=h.facts.2.1
  have ko:=on113 (x,y) w5 hv (by omega)
  obtain ⟨c0,c1,c2,c3,c4,ew⟩ :=onW_wid hv.tab.wid (x,y)
  rw [ew] at ko
  obtain ⟨z,hz⟩ : ∃ b,(onW W (x,y)).isSome = b:=⟨_,rfl⟩
  rw [hz] at ko
  clear hv
  generalize splitE (T.foldl takeE E) T x y = E2 at *
  refine Sep.callp h (ko) ?_
  clear h F
  intro _ h
  replace h:=Zd h;have F:=Zf6 h;refine Zc1 (@cellsI.eq_1) ?_
  refine h.new ?_
  clear h F
  intro _ b6 h
  replace h:=Zd h;have F:=Zf6 h;refine Zc ?_
  refine Sep.put 4 h rfl ?_
  clear h F
  intro _ h
  replace h:=Zd h;have F:=Zf6 h;refine Zc ?_
  cases z with
  | false=>
    have e0 : onW W (x,y) = none:=by
      cases h : onW W (x,y) with
      | none=>rfl
      | some _=>rw [h] at hz;cases hz
    rw [show splitW W x y = W by unfold splitW;rw [e0]]
    replace h:=Zd h;have F:=Zf6 h;refine Zc ?_
    exact ((h.erase 4).erase 3).erase 2
  | true=>
  have e0 : onW W (x,y) = some [c0,c1,c2,c3,c4]:=by
    cases h : onW W (x,y) with
    | none=>rw [h] at hz;cases hz
    | some _=>rw [h] at ew;exact congrArg some ew
  rw [show splitW W x y = insW (insW ((rmW (ptMin c0 c1 c2 c3) (ptMax c0 c1 c2 c3) W).getD W) [c0,c1,x,y,c4]) [x,y,c2,c3,c4] by unfold splitW;rw [e0];rfl]
  have hr1:=rmW_len (ptMin c0 c1 c2 c3) (ptMax c0 c1 c2 c3) W
  replace h:=Zd h;have F:=Zf6 h;refine Zc ?_
  refine Sep.c10 1 (x:=.int .i64 (if (rmW (ptMin c0 c1 c2 c3) (ptMax c0 c1 c2 c3) W).isSome then 0 else 16)) (r':=wls bs ((rmW (ptMin c0 c1 c2 c3) (ptMax c0 c1 c2 c3) W).getD W)) h rfl (fun A k=>remove114 c0 c1 c2 c3 (by omega) k) (fun _ f=>f) ?_
  clear h F
  intro _ h
  generalize (rmW (ptMin c0 c1 c2 c3) (ptMax c0 c1 c2 c3) W).getD W = W1 at *
  replace h:=Zd h;have F:=Zf6 h;refine Zc ?_
  refine Sep.c10 1 (x:=.tuple #[]) (r':=wls bs (insW W1 [c0,c1,x,y,c4])) h rfl (fun A k=>put89 c0 c1 x y c4 (by omega) k) (fun _ f=>f) ?_
  clear h F
  intro _ h
  replace h:=Zd h;have F:=Zf6 h;refine Zc ?_
  refine Sep.c10 1 (x:=.tuple #[]) (r':=wls bs (insW (insW W1 [c0,c1,x,y,c4]) [x,y,c2,c3,c4])) h rfl (fun A k=>put89 x y c2 c3 c4 (by rw [insW_len];omega) k) (fun _ f=>f) ?_
  clear h F
  intro _ h
  replace h:=Zd h;have F:=Zf6 h;refine Zc ?_
  exact ((h.erase 4).erase 3).erase 2
def partBad (ax ay bx by' : Int) : Bool:=decide ([ax,ay] = [bx,by']) || (!vpt ax ay || !vpt bx by')
def partC (E : MeshE) (ax ay bx by' : Int) : Int:=if partBad ax ay bx by' = true then 2 else if (sel (fStar ax ay) E).length = 0∨(sel (fStar bx by') E).length = 0 then 16 else 0
def onS (ax ay bx by' : Int) (O : List (List Int)) (p : List Int×T3) : List (List Int):=if onE (p.1.getD 0 0) (p.1.getD 1 0) ax ay bx by' = true then O ++ [[p.1.getD 0 0,p.1.getD 1 0]] else O
def onL (ax ay bx by' : Int) (V : MeshE) : List (List Int):=V.foldl (onS ax ay bx by') []
theorem onL_snoc (ax ay bx by' : Int) (V : MeshE) (p : List Int×T3) : onL ax ay bx by' (V ++ [p]) = onS ax ay bx by' (onL ax ay bx by' V) p:=by
  rw [onL,List.foldl_append];rfl
theorem onL_fold (ax ay bx by' : Int) : ∀ (V : MeshE) (O : List (List Int)),V.foldl (onS ax ay bx by') O = O ++ onL ax ay bx by' V
  | [],O=>by simp [onL]
  | p :: V,O=>by
    have e : onL ax ay bx by' (p :: V) = V.foldl (onS ax ay bx by') (onS ax ay bx by' [] p):=rfl
    rw [List.foldl_cons,onL_fold ax ay bx by' V,e,onL_fold ax ay bx by' V,← List.append_assoc]
    congr 1
    unfold onS
    split<;>simp
theorem onL_len (ax ay bx by' : Int) : ∀ V : MeshE,(onL ax ay bx by' V).length≤V.length
  | []=>Nat.le_refl _
  | p :: V=>by
    have e : onL ax ay bx by' (p :: V) = onS ax ay bx by' [] p ++ onL ax ay bx by' V:=onL_fold ax ay bx by' V _
    have h1:=onL_len ax ay bx by' V
    have h2 : (onS ax ay bx by' [] p).length≤1:=by unfold onS;split<;>simp
    rw [e,List.length_append,List.length_cons];omega
theorem onL_mem (ax ay bx by' : Int) {V : MeshE} {k : List Int} {t : T3} (h : (k,t) ∈ V) (ho : onE (k.getD 0 0) (k.getD 1 0) ax ay bx by' = true) : [k.getD 0 0,k.getD 1 0] ∈ onL ax ay bx by' V:=by
  obtain ⟨V1,V2,rfl⟩ :=List.append_of_mem h
  have e : onL ax ay bx by' (V1 ++ (k,t) :: V2) = onS ax ay bx by' (onL ax ay bx by' V1) (k,t) ++ onL ax ay bx by' V2:=by
    rw [onL,List.foldl_append,List.foldl_cons,onL_fold];rfl
  rw [e]
  refine List.mem_append.2 (.inl ?_)
  unfold onS
  rw [if_pos ho]
  simp
theorem insP_ne (O : List (List Int)) (x : List Int) : insP O x≠[]:=by
  unfold insP
  rw [insAt_eq]
  split
  · rename_i h
    intro e
    subst e
    simp [plcP,fndP] at h
  · simp
theorem sortP_ne {L : List (List Int)} (h : L≠[]) : sortP L≠[]:=by
  have : ∀ (L O : List (List Int)),(O≠[]∨L≠[])→L.foldl insP O≠[]:=by
    intro L
    induction L with
    | nil=>intro O h;exact h.elim id fun f=>(f rfl).elim
    | cons x L ih=>intro O _;exact ih _ (.inl (insP_ne O x))
  exact this L [] (.inr h)
theorem onE_self {ax ay bx by' : Int} (h : partBad ax ay bx by' = false) : onE ax ay ax ay bx by' = true:=by
  unfold partBad at h
  rw [Bool.or_eq_false_iff,Bool.or_eq_false_iff,Bool.not_eq_false',Bool.not_eq_false'] at h
  unfold onE
  rw [h.2.1,h.2.2]
  simp [twI,btwE]
  omega
theorem onL_ne {E V : MeshE} {ax ay bx by' : Int} (hV : V.Perm E) (hb : partBad ax ay bx by' = false) (hs : (sel (fStar ax ay) E).length≠0) : onL ax ay bx by' V≠[]:=fun e=>by
  obtain ⟨t,ht⟩ :=List.exists_mem_of_length_pos (Nat.pos_of_ne_zero hs)
  unfold sel at ht
  obtain ⟨⟨k,u⟩,hm,rfl⟩ :=List.mem_map.1 ht
  obtain ⟨h1,h2⟩ :=List.mem_filter.1 hm
  have h3:=of_decide_eq_true h2
  injection h3 with h4 h5
  injection h5 with h5
  have:=onL_mem ax ay bx by' (hV.mem_iff.2 h1) (by rw [h4,h5];exact onE_self hb)
  rw [e] at this
  cases this
theorem parts115 {w : World} {A : Nat → Prop} {bm : Nat} {E : MeshE} (ax ay bx by' : Int) (hE : E.length ≤ 1000000) (h : Sep w A [msh bm E] w) : Calls Tryz.prog 115 [.pointer (some ⟨bm, 0, none⟩), .agg #[.int .i64 ax, .int .i64 ay], .agg #[.int .i64 bx, .int .i64 by']].toArray w
    (RetK fun r w'=>∃ (P : List (List Int)) (a : Option Addr) (c : Nat),r = .tuple #[.slice a P.length c,.int .i64 (partC E ax ay bx by')]∧(partC E ax ay bx by' = 0→∃ V : MeshE,V.Perm E∧(P = sortP (onL ax ay bx by' V)∨P = (sortP (onL ax ay bx by' V)).reverse))∧Sep w A [msh bm E,tab 45 2 (.slice a P.length c) P] w'):=by
  refine walk Tryz.func115 rfl (by kernel_rfl) (by rw [Tryz.nt115];simp) ?_
  replace h:=Zd h;have F:=Zf6 h
  simp -dsimp only [↓vcA,vcB,vcD,↓pureT_lenS,↓iteT,↓iteF,cond_true,cond_false,eq_self,argE,Env.get,Env.push,ev,evs,evo,retV,Value.cells,Value.oneCell',setR,overR,fillL,zl,places,allSizes,heldC,ne_eq,Int.reduceLE,Int.reduceLT,Int.reduceEq,Int.reduceNe,Int.reduceToNat,Int.cast_ofNat_Int,Nat.reduceMul,Nat.reduceLeDiff,reduceIte,Nat.reduceEqDiff,Nat.reduceAdd,↓reduceIte,Tryz.vcT,↓stop_if 1,isReg_hit 1]
  refine h.new ?_
  clear h F
  intro _ b1 h
  replace h:=Zd h;have F:=Zf6 h;try simp -dsimp only [↓vcA,vcB,vcD,↓pureT_lenS,↓iteT,↓iteF,cond_true,cond_false,eq_self,argE,Env.get,Env.push,ev,evs,evo,retV,Value.cells,Value.oneCell',setR,overR,fillL,zl,places,allSizes,heldC,ne_eq,Int.reduceLE,Int.reduceLT,Int.reduceEq,Int.reduceNe,Int.reduceToNat,Int.cast_ofNat_Int,Nat.reduceMul,Nat.reduceLeDiff,reduceIte,Nat.reduceEqDiff,Nat.reduceAdd,↓reduceIte,Tryz.vcT,F,h.cell0,gets,vsD,if_true,if_false,Bool.false_eq_true,cellsAt,↓stop_if 1,isReg_hit 1]
  refine h.new ?_
  clear h F
  intro _ b2 h
  replace h:=Zd h;have F:=Zf6 h;try simp -dsimp only [↓vcA,vcB,vcD,↓pureT_lenS,↓iteT,↓iteF,cond_true,cond_false,eq_self,argE,Env.get,Env.push,ev,evs,evo,retV,Value.cells,Value.oneCell',setR,overR,fillL,zl,places,allSizes,heldC,ne_eq,Int.reduceLE,Int.reduceLT,Int.reduceEq,Int.reduceNe,Int.reduceToNat,Int.cast_ofNat_Int,Nat.reduceMul,Nat.reduceLeDiff,reduceIte,Nat.reduceEqDiff,Nat.reduceAdd,↓reduceIte,Tryz.vcT,F,h.cell0,gets,vsD,if_true,if_false,Bool.false_eq_true,cellsAt,↓stop_if 1,isReg_hit 1]
  refine stop_via (fun E' w'=>(E'.get 24 = some (.bool (partBad ax ay bx by'))∧E'.get 0 = some (.pointer (some ⟨bm,0,none⟩))∧E'.get 4 = some (.pointer (some ⟨b1,0,none⟩))∧E'.get 5 = some (.pointer (some ⟨b2,0,none⟩)))∧Sep w A [msh bm E,blk b1 45 [.int .i64 ax,.int .i64 ay],blk b2 45 [.int .i64 bx,.int .i64 by']] w') (fun K hk=>?_) ?_
  · unfold partBad at hk
    replace h:=Zd h;have F:=Zf6 h;refine Zc ?_
    refine binK_eql_agg (by kernel_rfl) (fun w=>seqPt (d:=9998) ax ay bx by' w) ?_
    generalize decide ([ax,ay] = [bx,by']) = g1 at *
    cases g1 with
    | true=>
      replace h:=Zd h;have F:=Zf6 h;refine Zc ?_
      exact hk _ _ ⟨⟨rfl,rfl,rfl,rfl⟩,h⟩
    | false=>
    replace h:=Zd h;have F:=Zf6 h;refine Zc ?_
    refine Sep.callp h (valid47 ax ay _) ?_
    clear h F
    intro _ h
    replace h:=Zd h;have F:=Zf6 h;refine Zc ?_
    generalize vpt ax ay = g2 at *
    cases g2 with
    | false=>
      replace h:=Zd h;have F:=Zf6 h;refine Zc ?_
      exact hk _ _ ⟨⟨rfl,rfl,rfl,rfl⟩,h⟩
    | true=>
    replace h:=Zd h;have F:=Zf6 h;refine Zc ?_
    refine Sep.callp h (valid47 bx by' _) ?_
    clear h F
    intro _ h
    replace h:=Zd h;have F:=Zf6 h;refine Zc ?_
    exact hk _ _ ⟨⟨rfl,rfl,rfl,rfl⟩,h⟩
  rintro E' w' ⟨⟨g24,g0,g4,g5⟩,h⟩
  clear F
  cases hb : partBad ax ay bx by' with
  | true=>
    rw [hb] at g24
    rw [show partC E ax ay bx by' = 2 by unfold partC;rw [if_pos hb]]
    replace h:=Zd h;have F:=Zf6 h;refine Zc1 (J g24 (J g0 (J g4 g5))) ?_
    exact ⟨[],none,0,rfl,fun f=>(by cases f),((h.erase 2).erase 1).tabNil _ _⟩
  | false=>
  rw [hb] at g24
  replace h:=Zd h;have F:=Zf6 h;refine Zc1 (J g24 (J g0 (J g4 g5))) ?_
  refine Sep.c1t 0 h rfl (fun A k=>star110 ax ay hE k) (fun _ f=>f) ?_
  clear h F
  intro a3 c3 w3 h
  have h:=h.erase 3
  replace h:=Zd h;have F:=Zf6 h;refine Zc1 (J g0 (J g4 g5)) ?_
  by_cases s1 : (sel (fStar ax ay) E).length = 0
  · rw [show partC E ax ay bx by' = 16 by unfold partC;rw [if_neg (by rw [hb];simp),if_pos (.inl s1)]]
    generalize hz : decide (((sel (fStar ax ay) E).length : Int) = 0) = z
    obtain rfl : z = true:=hz.symm.trans (decide_eq_true (show ((sel (fStar ax ay) E).length : Int) = 0 by omega))
    clear hz
    replace h:=Zd h;have F:=Zf6 h;refine Zc1 (J g0 (J g4 g5)) ?_
    exact ⟨[],none,0,rfl,fun f=>(by cases f),((h.erase 2).erase 1).tabNil _ _⟩
  have s1' : ¬ ((sel (fStar ax ay) E).length : Int) = 0:=by omega
  generalize hz : decide (((sel (fStar ax ay) E).length : Int) = 0) = z
  obtain rfl : z = false:=hz.symm.trans (decide_eq_false s1')
  clear hz
  replace h:=Zd h;have F:=Zf6 h;refine Zc1 (J g0 (J g4 g5)) ?_
  refine Sep.c1t 0 h rfl (fun A k=>star110 bx by' hE k) (fun _ f=>f) ?_
  clear h F
  intro a4 c4 w4 h
  have h:=h.erase 3
  replace h:=Zd h;have F:=Zf6 h;refine Zc1 (J g0 (J g4 g5)) ?_
  by_cases s2 : (sel (fStar bx by') E).length = 0
  · rw [show partC E ax ay bx by' = 16 by unfold partC;rw [if_neg (by rw [hb];simp),if_pos (.inr s2)]]
    generalize hz : decide (((sel (fStar bx by') E).length : Int) = 0) = z
    obtain rfl : z = true:=hz.symm.trans (decide_eq_true (show ((sel (fStar bx by') E).length : Int) = 0 by omega))
    clear hz
    replace h:=Zd h;have F:=Zf6 h;refine Zc1 (J g0 (J g4 g5)) ?_
    exact ⟨[],none,0,rfl,fun f=>(by cases f),((h.erase 2).erase 1).tabNil _ _⟩
  have s2' : ¬ ((sel (fStar bx by') E).length : Int) = 0:=by omega
  rw [show partC E ax ay bx by' = 0 by unfold partC;rw [if_neg (by rw [hb];simp),if_neg (fun f=>f.elim s1 s2)]]
  obtain ⟨hw,b,h⟩ :=h.mshOpen 0 rfl
  generalize hz : decide (((sel (fStar bx by') E).length : Int) = 0) = z
  obtain rfl : z = false:=hz.symm.trans (decide_eq_false s2')
  clear hz
  replace h:=Zd h;have F:=Zf6 h;refine Zc1 (J g0 (J g4 g5)) ?_
  refine Sep.range 3 h rfl (kt:=167) (et:=49) (by kernel_rfl) ?_
  clear h F
  intro r w5 h
  have h:=h.tabNil 45 2
  replace h:=Zd h;have F:=Zf6 h;refine Zc1 (J g0 (J g4 g5)) ?_
  refine walkLoop [0,4,5,41] [8] (fun m vs w'=>∃ (E1 V : MeshE) (a : Option Addr) (c : Nat),m = E1.length∧vs = [.slice a (onL ax ay bx by' V).length c]∧(V ++ E1).Perm E∧E1.Wid∧Sep w A [blk bm 165 [.map (some b)],blk b1 45 [.int .i64 ax,.int .i64 ay],blk b2 45 [.int .i64 bx,.int .i64 by'],rng b r (ents E) (ents E1),tab 45 2 (.slice a (onL ax ay bx by' V).length c) (onL ax ay bx by' V)] w') (by kernel_rfl) ?_ ?_
  · refine Zv1 (J g0 (J g4 g5)) ?_
    exact ⟨_,E,[],none,0,rfl,rfl,List.Perm.refl _,hw,h⟩
  intro ks hk m vs w6 hi
  clear h F
  obtain ⟨E1,V,a,c,rfl,rfl,hO,hw1,h⟩ :=hi
  have hOl:=onL_len ax ay bx by' V
  have hVl:=hO.length_eq
  rw [List.length_append] at hVl
  simp -dsimp only [gets,argE,List.zip_cons_cons,List.zip_nil_left,List.cons_append,List.nil_append,Env.get,Env.push,Option.bind_some,Option.map_some,Option.some.injEq,reduceIte,Nat.reduceEqDiff,Nat.reduceAdd,↓reduceIte,g0,g4,g5] at hk;subst hk
  replace h:=Zd h;have F:=Zf6 h;refine Zc ?_
  refine Sep.nextR 3 h rfl (fun e0=>?_) fun L1 p L2 w4 eL h hent=>?_
  · have e1 : E1 = []:=List.length_eq_zero_iff.1 (by rw [← ents_len,e0];rfl)
    subst e1
    rw [List.append_nil] at hO
    have h:=(h.rngEnd 3 rfl).mshShut 0 3 rfl rfl hw
    have hne:=sortP_ne (onL_ne hO hb s1)
    have hSl:=sortP_len (onL ax ay bx by' V)
    replace h:=Zd h;have F:=Zf6 h;refine Zc ?_
    refine h.c0t (sortPoints93 (onL ax ay bx by' V) (by omega) h.facts.2.2.2.2.1) ?_
    clear h F
    intro a2 c2 w7 h
    have h:=(h.erase 4).erase 3
    generalize hPe : sortP (onL ax ay bx by' V) = P at *
    have hpos : 0 < P.length:=List.length_pos_iff.2 hne
    have eP : P = sortP (onL ax ay bx by' V):=hPe.symm
    obtain ⟨bb,oo,p0,p1,rfl,_,kc⟩ :=h.facts.2.2.2.1.twoAt hpos
    rw [Nat.zero_mul,Nat.add_zero] at kc
    replace h:=Zd h;have F:=Zf6 h;refine Zc ?_
    obtain ⟨k0,k1⟩ :=kc _ F.2.2.2.1
    refine walkDraw (.q 0 (.q 1 (.h 2 2 (.h 3 0 (.q 4 .fin))))) [(b1,0,.int .i64 ax),(b1,1,.int .i64 ay),(bb,oo,.int .i64 p0),(bb,oo + 1,.int .i64 p1)] (by kernel_rfl) (by simp [Holds_nil,Holds_cons,F,k0,k1]) ?_
    refine h.draw ?_
    clear h F k0 k1
    intro _ h
    replace h:=Zd h;have F:=Zf6 h;refine Zc ?_
    refine ⟨by omega,?_⟩
    refine binK_eql_agg (by kernel_rfl) (fun w=>seqPt (d:=9998) p0 p1 ax ay w) ?_
    cases hd : decide ([p0,p1] = [ax,ay]) with
    | true=>
      replace h:=Zd h;have F:=Zf6 h;refine Zc1 hd ?_
      exact ⟨P,_,c2,rfl,fun _=>⟨V,hO,.inl eP⟩,(h.erase 2).erase 1⟩
    | false=>
    have e1 : IntKind.i64.wrap ((P.length : Int) - 1) = (P.length : Int) - 1:=by rw [i64w _ (by omega) (by omega)]
    clear kc
    replace h:=Zd h;have F:=Zf6 h;refine Zc1 (J hd e1) ?_
    have h:=h.tabNil 45 2
    refine walkLoop [8] [10,11] (fun m vs w'=>∃ (k : Nat) (O : List (List Int)) (a : Option Addr) (c : Nat),k≤P.length∧m = k∧vs = [.slice a O.length c,.int .i64 ((k : Int) - 1)]∧O = (P.drop k).reverse∧Sep w A [msh bm E,blk b1 45 [.int .i64 ax,.int .i64 ay],blk b2 45 [.int .i64 bx,.int .i64 by'],tab 45 2 (.slice (some ⟨bb,oo,none⟩) P.length c2) P,tab 45 2 (.slice a O.length c) O] w') (by kernel_rfl) ?_ ?_
    · refine Zv ?_
      exact ⟨_,P.length,[],none,0,Nat.le_refl _,rfl,rfl,by simp,h⟩
    clear h
    try clear F
    intro ks hk m vs w8 hi
    obtain ⟨k,O,a3,c3,hk2,rfl,rfl,eO,h⟩ :=hi
    replace hk:=Zk hk;subst hk
    by_cases hlk : (0 : Int)≤(m : Int) - 1
    case neg=>
      have em : m = 0:=by omega
      subst em
      rw [List.drop_zero] at eO
      replace h:=Zd h;have F:=Zf6 h;refine Zc1 (decide_eq_false (show ¬ (0 : Int)≤0 - 1 by decide)) ?_
      exact ⟨O,a3,c3,rfl,fun _=>⟨V,hO,.inr (by rw [eO,eP])⟩,((h.erase 3).erase 2).erase 1⟩
    obtain ⟨k,rfl⟩ : ∃ k,m = k + 1:=⟨m - 1,by omega⟩
    have hkl : k < P.length:=hk2
    have ek : (((k + 1 : Nat) : Int) - 1) = (k : Int):=by omega
    have ek2 : IntKind.i64.wrap ((k : Int) - 1) = (k : Int) - 1:=by rw [i64w _ (by omega) (by omega)]
    rw [ek] at hlk
    obtain ⟨b9,o9,x0,x1,ea,eX,kc⟩ :=h.facts.2.2.2.1.twoAt hkl
    injection ea with ea
    injection ea with ea1 ea2
    subst ea1 ea2
    have eO2 : (P.drop k).reverse = O ++ [[x0,x1]]:=by
      rw [List.drop_eq_getElem_cons hkl,List.reverse_cons,← eO]
      rw [List.getD_eq_getElem?_getD,List.getElem?_eq_getElem hkl] at eX
      rw [show P[k] = [x0,x1] from eX]
    have hOl2 : O.length≤P.length:=by rw [eO];simp
    replace h:=Zd h;have F:=Zf6 h;refine Zc1 (J ek (J (decide_eq_true hlk) (kc _ h.facts.2.2.2.1))) ?_
    refine ⟨by omega,?_⟩
    refine h.new ?_
    clear h F
    intro _ b10 h
    replace h:=Zd h;have F:=Zf6 h;refine Zc ?_
    refine Sep.appTab 4 5 infoP Tryz.underlying24 rfl (by decide) [x0,x1] h rfl rfl rfl (by omega) (by simp only [maxLen];omega) ?_
    clear h F
    intro a9 c9 w9 h
    replace h:=Zd h;have F:=Zf6 h;refine Zc1 (J ek ek2) ?_
    exact ⟨_,Nat.lt_succ_self k,k,O ++ [[x0,x1]],a9,c9,by omega,rfl,rfl,eO2.symm,h.erase 5⟩
  obtain ⟨Ea,k,t,Eb,rfl,rfl,rfl,rfl⟩ :=ents_split eL
  clear eL
  have hk4 : k.length = 4:=hw1 (k,t) (by simp)
  obtain ⟨k0,k1,k2,k3,rfl⟩ :=len_4 hk4
  have hw2 : (Ea ++ Eb : MeshE).Wid:=fun q hq=>hw1 q (by
    rcases List.mem_append.1 hq with hq | hq
    · exact List.mem_append.2 (.inl hq)
    · exact List.mem_append.2 (.inr (.tail _ hq)))
  have hst : ((V ++ [([k0,k1,k2,k3],t)]) ++ (Ea ++ Eb)).Perm E:=by
    refine List.Perm.trans ?_ hO
    rw [List.append_assoc]
    exact List.Perm.append_left V (List.perm_middle.symm : (([k0,k1,k2,k3],t) :: (Ea ++ Eb)).Perm _)
  rw [show ents Ea ++ ents Eb = ents (Ea ++ Eb) by simp [ents]] at h
  simp only [keyV,cellsI,List.map_cons,List.map_nil] at hent ⊢
  replace h:=Zd h;have F:=Zf6 h;try simp -dsimp only [↓vcA,vcB,vcD,↓pureT_lenS,↓iteT,↓iteF,cond_true,cond_false,eq_self,argE,Env.get,Env.push,ev,evs,evo,retV,Value.cells,Value.oneCell',setR,overR,fillL,zl,places,allSizes,heldC,ne_eq,Int.reduceLE,Int.reduceLT,Int.reduceEq,Int.reduceNe,Int.reduceToNat,Int.cast_ofNat_Int,Nat.reduceMul,Nat.reduceLeDiff,reduceIte,Nat.reduceEqDiff,Nat.reduceAdd,↓reduceIte,Tryz.vcT,F,h.cell0,gets,vsD,if_true,if_false,Bool.false_eq_true,cellsAt,opvT_entry]
  refine ⟨_,_,hent,?_⟩
  clear hent
  replace h:=Zd h;have F:=Zf6 h;refine Zc ?_
  refine h.new ?_
  clear h F
  intro _ b7 h
  replace h:=Zd h;have F:=Zf6 h;refine Zc ?_
  refine Sep.put 5 h rfl ?_
  clear h F
  intro _ h
  replace h:=Zd h;have F:=Zf6 h;refine Zc ?_
  have eL : onL ax ay bx by' (V ++ [([k0,k1,k2,k3],t)]) = if onE k0 k1 ax ay bx by' = true then onL ax ay bx by' V ++ [[k0,k1]] else onL ax ay bx by' V:=onL_snoc ax ay bx by' V _
  refine Sep.callp h (on133 k0 k1 ax ay bx by' _) ?_
  clear h F
  intro _ h
  replace h:=Zd h;have F:=Zf6 h;refine Zc ?_
  cases g2 : onE k0 k1 ax ay bx by' with
  | false=>
    replace h:=Zd h;have F:=Zf6 h;refine Zc1 g2 ?_
    exact ⟨_,by simp,Ea ++ Eb,V ++ [([k0,k1,k2,k3],t)],a,c,rfl,by rw [eL,g2];rfl,hst,hw2,by rw [eL,g2];exact h.erase 5⟩
  | true=>
  replace h:=Zd h;have F:=Zf6 h;refine Zc1 g2 ?_
  refine h.new ?_
  clear h F
  intro _ b8 h
  replace h:=Zd h;have F:=Zf6 h;refine Zc ?_
  refine Sep.appTab 4 6 infoP Tryz.underlying24 rfl (by decide) [k0,k1] h rfl rfl rfl (by omega) (by simp only [maxLen];omega) ?_
  clear h F
  intro a9 c9 w9 h
  replace h:=Zd h;have F:=Zf6 h;refine Zc ?_
  rw [if_pos g2] at eL
  exact ⟨_,by simp,Ea ++ Eb,V ++ [([k0,k1,k2,k3],t)],a9,c9,rfl,by rw [eL],hst,hw2,by rw [eL];exact (h.erase 6).erase 5⟩
end Go.Proofs.YtnhgjgoglmadnaaGreat
