/- Joined texts of this claim (part 31), printed by a program of this work. The last part holds the claimed theorem: the law answers true at every input of its row. -/
import Derived.Test.YtnhgjgoglmadnaaGreatSPFieldsD
set_option maxHeartbeats 4000000
namespace Go.Proofs.YtnhgjgoglmadnaaGreat
open Go.RowKit
set_option maxRecDepth 100000
set_option linter.unusedSimpArgs false
set_option linter.unusedVariables false
def badE (E : MeshE) (W : List (List Int)) (ax ay bx by' : Int) : Bool:=
  match lookE E [ax,ay,bx,by'],lookE E [bx,by',ax,ay] with
  | some x,some y=>decide (kindW W ax ay bx by' = 0) && decide (circI x.ax x.ay x.bx x.by' x.cx x.cy ((farE y ax ay bx by').getD 0 0) ((farE y ax ay bx by').getD 1 0) = 1)
  | _,_=>false
theorem bad107 {bm bs : Nat} {E : MeshE} {W : List (List Int)} (ax ay bx by' : Int) (w : World) (hm : ∃ b, MeshAt w bm b E) (hs : ∃ v, WallsAt w bs v W) (hW : W.length ≤ 1000000) : Calls Tryz.prog 107 [.pointer (some ⟨bm, 0, none⟩), .pointer (some ⟨bs, 0, none⟩), .agg #[.int .i64 ax, .int .i64 ay], .agg #[.int .i64 bx, .int .i64 by']].toArray w
    (RetP (.bool (badE E W ax ay bx by')) w):=by
  obtain ⟨b,hm⟩ :=hm
  obtain ⟨vs,hs⟩ :=hs
  have h:=Sep.nil w
  obtain ⟨o1,s,e1,es1,f1⟩ :=look_some E [ax,ay,bx,by']
  obtain ⟨o2,t,e2,es2,f2⟩ :=look_some E [bx,by',ax,ay]
  obtain ⟨z1,hz1⟩ : ∃ b,o1.isSome = b:=⟨_,rfl⟩
  obtain ⟨z2,hz2⟩ : ∃ b,o2.isSome = b:=⟨_,rfl⟩
  refine walk Tryz.func107 rfl (by kernel_rfl) (by rw [Tryz.nt107];simp) ?_
  replace h:=Zd h;have F:=Zf6 h
  refine Zv ?_
  refine h.new ?_
  clear h F
  intro _ b1 h
  replace h:=Zd h;have F:=Zf6 h;refine Zc ?_
  refine h.new ?_
  clear h F
  intro _ b2 h
  replace h:=Zd h;have F:=Zf6 h;refine Zc ?_
  refine Sep.callp h (leftN ⟨_,hm.sep h⟩ e1 es1 hz1) ?_
  clear h F
  intro _ h
  replace h:=Zd h;have F:=Zf6 h;refine Zc1 (@T3.cells.eq_1) ?_
  refine h.new ?_
  clear h F
  intro _ b3 h
  replace h:=Zd h;have F:=Zf6 h;refine Zc ?_
  refine Sep.put 2 h rfl ?_
  clear h F
  intro _ h
  replace h:=Zd h;have F:=Zf6 h;refine Zc ?_
  refine Sep.callp h (leftN ⟨_,hm.sep h⟩ e2 es2 hz2) ?_
  clear h F
  intro _ h
  replace h:=Zd h;have F:=Zf6 h;refine Zc1 (@T3.cells.eq_1) ?_
  refine h.new ?_
  clear h F
  intro _ b4 h
  replace h:=Zd h;have F:=Zf6 h;refine Zc ?_
  refine Sep.put 3 h rfl ?_
  clear h F
  intro _ h
  replace h:=Zd h;have F:=Zf6 h;refine Zc ?_
  refine walkDraw (.q 0 (.q 1 (.q 2 (.q 3 (.q 4 (.q 5 (.h 6 0 (.h 7 2 (.l 8 (.q 9 (.q 10 (.q 11 (.q 12 (.q 14 (.q 16 (.h 13 4 (.h 15 6 (.h 17 8 (.h 18 10 (.h 19 0 (.h 20 2 (.l 21 (.l 22 (.q 23 (.q 24 (.q 25 .fin)))))))))))))))))))))))))) [(b1,0,.int .i64 ax),(b1,1,.int .i64 ay),(b2,0,.int .i64 bx),(b2,1,.int .i64 by'),(b3,0,.int .i64 s.ax),(b3,1,.int .i64 s.ay),(b3,2,.int .i64 s.bx),(b3,3,.int .i64 s.by'),(b3,4,.int .i64 s.cx),(b3,5,.int .i64 s.cy),(b4,0,.int .i64 t.ax),(b4,1,.int .i64 t.ay),(b4,2,.int .i64 t.bx),(b4,3,.int .i64 t.by'),(b4,4,.int .i64 t.cx),(b4,5,.int .i64 t.cy)] (by kernel_rfl) (by simp [Holds_nil,Holds_cons,F]) ?_
  refine h.draw ?_
  clear h F
  intro _ h
  cases z1 with
  | false=>
    rw [show badE E W ax ay bx by' = false by unfold badE;rw [e1,(f1 _ hz1).2 rfl]]
    replace h:=Zd h;have F:=Zf6 h;refine Zc ?_
    exact h.done
  | true=>
  cases z2 with
  | false=>
    rw [show badE E W ax ay bx by' = false by unfold badE;rw [e1,e2,(f1 _ hz1).1 rfl,(f2 _ hz2).2 rfl]]
    replace h:=Zd h;have F:=Zf6 h;refine Zc ?_
    exact h.done
  | true=>
  obtain ⟨dx,dy,ed⟩ :=farE_two t ax ay bx by'
  have q2:=far131 t ax ay bx by'
  rw [ed] at q2
  rw [show badE E W ax ay bx by' = (decide (kindW W ax ay bx by' = 0) && decide (circI s.ax s.ay s.bx s.by' s.cx s.cy dx dy = 1)) by unfold badE;rw [e1,e2,(f1 _ hz1).1 rfl,(f2 _ hz2).1 rfl];simp only [ed];rfl]
  replace h:=Zd h;have F:=Zf6 h;refine Zc ?_
  refine Sep.callp h (kind121 ax ay bx by' _ (hs.sep h) hW) ?_
  clear h F
  intro _ h
  replace h:=Zd h;have F:=Zf6 h;refine Zc ?_
  cases g1d : decide (kindW W ax ay bx by' = 0) with
  | false=>
    have g1:=of_decide_eq_false g1d
    replace h:=Zd h;have F:=Zf6 h;refine Zc1 (decide_eq_false g1) ?_
    exact ⟨rfl,h.done⟩
  | true=>
  have g1:=of_decide_eq_true g1d
  replace h:=Zd h;have F:=Zf6 h;refine Zc1 (decide_eq_true g1) ?_
  refine Sep.callp h (q2 _) ?_
  clear h F
  intro _ h
  replace h:=Zd h;have F:=Zf6 h;refine Zc ?_
  refine Sep.callp h (circle130 s.ax s.ay s.bx s.by' s.cx s.cy dx dy _) ?_
  clear h F
  intro _ h
  replace h:=Zd h;have F:=Zf6 h;refine Zc ?_
  exact ⟨by simp,h.done⟩
def badS (E : MeshE) (W : List (List Int)) (O : List (List Int)) (p : List Int×T3) : List (List Int):=
  if (decide (cmp2 (p.1.getD 0 0) (p.1.getD 1 0) (p.1.getD 2 0) (p.1.getD 3 0) < 0) && badE E W (p.1.getD 0 0) (p.1.getD 1 0) (p.1.getD 2 0) (p.1.getD 3 0)) = true then insW O [p.1.getD 0 0,p.1.getD 1 0,p.1.getD 2 0,p.1.getD 3 0,1] else O
def badL (E : MeshE) (W : List (List Int)) (V : MeshE) : List (List Int):=V.foldl (badS E W) []
theorem badL_len (E : MeshE) (W : List (List Int)) (V : MeshE) : (badL E W V).length≤V.length:=by
  have : ∀ (V : MeshE) (O : List (List Int)),(V.foldl (badS E W) O).length≤O.length + V.length:=by
    intro V
    induction V with
    | nil=>intro O;exact Nat.le_refl _
    | cons p V ih=>
      intro O
      have h1:=ih (badS E W O p)
      have h2 : (badS E W O p).length≤O.length + 1:=by
        unfold badS
        split
        · rw [insW_len];exact Nat.le_refl _
        · omega
      rw [List.foldl_cons,List.length_cons]
      omega
  have:=this V []
  simpa [badL] using this
theorem badL_snoc (E : MeshE) (W : List (List Int)) (V : MeshE) (p : List Int×T3) : badL E W (V ++ [p]) = badS E W (badL E W V) p:=by
  rw [badL,List.foldl_append];rfl
theorem Bad106 {w : World} {A : Nat → Prop} {bm bs : Nat} {E : MeshE} {W : List (List Int)} (hE : E.length ≤ 1000000) (hW : W.length ≤ 1000000) (h : Sep w A [msh bm E, wls bs W] w) : Calls Tryz.prog 106 [.pointer (some ⟨bm, 0, none⟩), .pointer (some ⟨bs, 0, none⟩)].toArray w
    (RetK fun r w'=>∃ (V : MeshE) (a : Option Addr) (c : Nat),V.Perm E∧r = .slice a (badL E W V).length c∧Sep w A [msh bm E,wls bs W,tab 47 5 r (badL E W V)] w'):=by
  obtain ⟨hw,b,h⟩ :=h.mshOpen 0 rfl
  refine walk Tryz.func106 rfl (by kernel_rfl) (by rw [Tryz.nt106];simp) ?_
  replace h:=Zd h;have F:=Zf6 h
  refine Zv ?_
  refine h.new ?_
  clear h F
  intro _ bo h
  replace h:=Zd h;have F:=Zf6 h;refine Zc ?_
  have h:=(h.tabNil 47 5).wlsShut 3 4 rfl rfl
  have h:=h.erase 4
  refine Sep.range 2 h rfl (kt:=167) (et:=49) (by kernel_rfl) ?_
  clear h F
  intro r w2 h
  replace h:=Zd h;have F:=Zf6 h;refine Zc ?_
  refine walkLoop [0,1,5,13] [] (fun m vs w'=>∃ (E1 V : MeshE),m = E1.length∧vs = []∧(V ++ E1).Perm E∧E1.Wid∧Sep w A [blk bm 165 [.map (some b)],wls bs W,rng b r (ents E) (ents E1),wls bo (badL E W V)] w') (by kernel_rfl) ?_ ?_
  · refine Zv ?_
    exact ⟨_,E,[],rfl,List.Perm.refl _,hw,h⟩
  intro ks hk m vs w3 hi
  clear h F
  obtain ⟨E1,V,rfl,rfl,hO,hw1,h⟩ :=hi
  have hVl:=badL_len E W V
  have hOl:=hO.length_eq
  rw [List.length_append] at hOl
  replace hk:=Zk hk;subst hk
  replace h:=Zd h;have F:=Zf6 h;refine Zc ?_
  refine Sep.nextR 2 h rfl (fun e0=>?_) fun L1 p L2 w4 eL h hent=>?_
  · have e1 : E1 = []:=List.length_eq_zero_iff.1 (by rw [← ents_len,e0];rfl)
    subst e1
    rw [List.append_nil] at hO
    have h:=h.rngEnd 2 rfl
    obtain ⟨v,h⟩ :=h.wlsOpen 3 rfl
    obtain ⟨a,c,rfl⟩ :=h.facts.2.2.2.2.1.shape
    replace h:=Zd h;have F:=Zf6 h;refine Zc ?_
    exact ⟨V,a,c,hO,rfl,((h.mshShut 0 2 rfl rfl hw).erase 3).erase 2⟩
  obtain ⟨Ea,k,t,Eb,rfl,rfl,rfl,rfl⟩ :=ents_split eL
  clear eL
  have hk4 : k.length = 4:=hw1 (k,t) (by simp)
  obtain ⟨k0,k1,k2,k3,rfl⟩ :=len_4 hk4
  have hw2 : (Ea ++ Eb : MeshE).Wid:=fun q hq=>hw1 q (by
    rcases List.mem_append.1 hq with hq | hq
    · exact List.mem_append.2 (.inl hq)
    · exact List.mem_append.2 (.inr (.tail _ hq)))
  have hst : ((V ++ [([k0,k1,k2,k3],t)]) ++ (Ea ++ Eb)).Perm E:=by
    refine List.Perm.trans ?_ hO
    rw [List.append_assoc]
    exact List.Perm.append_left V (List.perm_middle.symm : (([k0,k1,k2,k3],t) :: (Ea ++ Eb)).Perm _)
  rw [show ents Ea ++ ents Eb = ents (Ea ++ Eb) by simp [ents]] at h
  simp only [keyV,cellsI,List.map_cons,List.map_nil] at hent ⊢
  replace h:=Zd h;have F:=Zf6 h;try simp -dsimp only [↓vcA,vcB,vcD,↓pureT_lenS,↓iteT,↓iteF,cond_true,cond_false,eq_self,argE,Env.get,Env.push,ev,evs,evo,retV,Value.cells,Value.oneCell',setR,overR,fillL,zl,places,allSizes,heldC,ne_eq,Int.reduceLE,Int.reduceLT,Int.reduceEq,Int.reduceNe,Int.reduceToNat,Int.cast_ofNat_Int,Nat.reduceMul,Nat.reduceLeDiff,reduceIte,Nat.reduceEqDiff,Nat.reduceAdd,↓reduceIte,Tryz.vcT,F,h.cell0,gets,vsD,if_true,if_false,Bool.false_eq_true,cellsAt,opvT_entry]
  refine ⟨_,_,hent,?_⟩
  clear hent
  replace h:=Zd h;have F:=Zf6 h;refine Zc ?_
  refine h.new ?_
  clear h F
  intro _ b7 h
  replace h:=Zd h;have F:=Zf6 h;refine Zc ?_
  refine Sep.put 4 h rfl ?_
  clear h F
  intro _ h
  replace h:=Zd h;have F:=Zf6 h;refine Zc ?_
  refine Sep.callp h (cmpPoint k0 k1 k2 k3 _) ?_
  clear h F
  intro _ h
  replace h:=Zd h;have F:=Zf6 h;refine Zc ?_
  have eL : badL E W (V ++ [([k0,k1,k2,k3],t)]) = if (decide (cmp2 k0 k1 k2 k3 < 0) && badE E W k0 k1 k2 k3) = true then insW (badL E W V) [k0,k1,k2,k3,1] else badL E W V:=badL_snoc E W V _
  cases g1d : decide (cmp2 k0 k1 k2 k3 < 0) with
  | false=>
    have g1:=of_decide_eq_false g1d
    replace h:=Zd h;have F:=Zf6 h;refine Zc1 (decide_eq_false g1) ?_
    exact ⟨_,by simp,Ea ++ Eb,V ++ [([k0,k1,k2,k3],t)],rfl,hst,hw2,by rw [show badL E W (V ++ [([k0,k1,k2,k3],t)]) = badL E W V by rw [eL,decide_eq_false g1];rfl];exact h.erase 4⟩
  | true=>
  have g1:=of_decide_eq_true g1d
  replace h:=Zd h;have F:=Zf6 h;refine Zc1 (decide_eq_true g1) ?_
  refine Sep.callp h (bad107 k0 k1 k2 k3 _ ⟨b,h.facts.1.1 0,h.facts.2.2.1,hw⟩ h.facts.2.1 hW) ?_
  clear h F
  intro _ h
  replace h:=Zd h;have F:=Zf6 h;refine Zc ?_
  cases g2 : badE E W k0 k1 k2 k3 with
  | false=>
    replace h:=Zd h;have F:=Zf6 h;refine Zc1 g2 ?_
    exact ⟨_,by simp,Ea ++ Eb,V ++ [([k0,k1,k2,k3],t)],rfl,hst,hw2,by rw [show badL E W (V ++ [([k0,k1,k2,k3],t)]) = badL E W V by rw [eL,g2,Bool.and_false];rfl];exact h.erase 4⟩
  | true=>
  replace h:=Zd h;have F:=Zf6 h;refine Zc1 g2 ?_
  refine Sep.c10 3 (x:=.tuple #[]) (r':=wls bo (insW (badL E W V) [k0,k1,k2,k3,1])) h rfl (fun A k=>put89 k0 k1 k2 k3 1 (by omega) k) (fun _ f=>f) ?_
  clear h F
  intro _ h
  replace h:=Zd h;have F:=Zf6 h;refine Zc ?_
  exact ⟨_,by simp,Ea ++ Eb,V ++ [([k0,k1,k2,k3],t)],rfl,hst,hw2,by rw [show badL E W (V ++ [([k0,k1,k2,k3],t)]) = insW (badL E W V) [k0,k1,k2,k3,1] by rw [eL,g2,decide_eq_true g1];rfl];exact h.erase 4⟩
theorem flipC_same {E : MeshE} {s t : T3} {ax ay bx by' cx cy dx dy : Int} (h : (flipC E s t ax ay bx by' cx cy dx dy).1≠0) : (flipC E s t ax ay bx by' cx cy dx dy).2 = E:=by
  unfold flipC at *
  by_cases h1 : orientI ax ay dx dy cx cy≤0∨orientI dx dy bx by' cx cy≤0
  · rw [if_pos h1]
  rw [if_neg h1] at h ⊢
  by_cases h2 : (otherE (lookE E [dx,dy,cx,cy]) s t || otherE (lookE E [cx,cy,dx,dy]) s t) = true
  · rw [if_pos h2]
  rw [if_neg h2] at h
  exact absurd rfl h
theorem flipE_same {E : MeshE} {ax ay bx by' : Int} (h : (flipE E ax ay bx by').1≠0) : (flipE E ax ay bx by').2 = E:=by
  unfold flipE at *
  cases e1 : lookE E [ax,ay,bx,by'] with
  | none=>rfl
  | some s=>
    cases e2 : lookE E [bx,by',ax,ay] with
    | none=>rfl
    | some t=>
      rw [e1,e2] at h
      exact flipC_same h
theorem Sep.bad (i j : Nat) {w0 w : World} {S : Nat → Prop} {M : List Res} {bm bs : Nat} {E : MeshE} {W : List (List Int)} {K : Value → World → Prop} (hE : E.length ≤ 1000000) (hW : W.length ≤ 1000000) (h : Sep w0 S M w) (hi : M[i]? = some (msh bm E)) (hj : M[j]? = some (wls bs W)) (hij : i ≠ j)
    (hk : ∀ (V : MeshE) a c w1,V.Perm E→Sep w0 S (M ++ [tab 47 5 (.slice a (badL E W V).length c) (badL E W V)]) w1→K (.slice a (badL E W V).length c) w1) : callsK Tryz.prog 106 #[.pointer (some ⟨bm,0,Option.none⟩),.pointer (some ⟨bs,0,Option.none⟩)] w K:=by
  refine h.call2 i j (Q:=fun v r' q' N=>∃ (V : MeshE) (a : Option Addr) (c : Nat),V.Perm E∧v = .slice a (badL E W V).length c∧r' = msh bm E∧q' = wls bs W∧N = [tab 47 5 v (badL E W V)]) hi hj hij (fun A _ k=>(Bad106 hE hW k).mono fun ex w' ⟨v,er,V,a,c,hV,ev,k⟩ =>⟨v,er,_,_,_,k,fun _ f=>f,fun _ f=>f,fun q hq x hx=>(by simp at hq;subst hq;exact hx),V,a,c,hV,ev,rfl,rfl,rfl⟩) ?_
  rintro _ _ _ _ w1 ⟨V,a,c,hV,rfl,rfl,rfl,rfl⟩ k
  obtain ⟨hl,e1⟩ :=List.getElem?_eq_some_iff.1 hi
  obtain ⟨hl2,e2⟩ :=List.getElem?_eq_some_iff.1 hj
  rw [← e1,List.set_getElem_self,← e2,List.set_getElem_self] at k
  exact hk V a c w1 hV k
structure Rep1 (W : List (List Int)) (I : MeshE→Prop) (Φ : MeshE→Nat) : Prop where
  len : ∀ E,I E→E.length≤1000000
  step : ∀ E ax ay bx by',I E→badE E W ax ay bx by' = true→(flipE E ax ay bx by').1 = 0→I (flipE E ax ay bx by').2∧Φ (flipE E ax ay bx by').2 < Φ E
theorem repair90 {w : World} {A : Nat → Prop} {bm bs : Nat} {E : MeshE} {W : List (List Int)} {I : MeshE → Prop} {Φ : MeshE → Nat} (R : Rep1 W I Φ) (hE : I E) (hW : W.length ≤ 1000000) (h : Sep w A [msh bm E, wls bs W] w) : Calls Tryz.prog 90 [.pointer (some ⟨bm, 0, none⟩), .pointer (some ⟨bs, 0, none⟩)].toArray w
    (RetK fun r w'=>r = .tuple #[]∧∃ E',I E'∧Sep w A [msh bm E',wls bs W] w'):=by
  refine walk Tryz.func90 rfl (by kernel_rfl) (by rw [Tryz.nt90];simp) ?_
  replace h:=Zd h;have F:=Zf6 h
  refine Zv ?_
  refine walkLoop [0,1] [4] (fun m vs w'=>∃ (E : MeshE) (g : Bool),I E∧m = 2 * Φ E + g.toNat∧vs = [.bool g]∧Sep w A [msh bm E,wls bs W] w') (by kernel_rfl) ?_ ?_
  · refine Zv ?_
    exact ⟨_,E,true,hE,rfl,rfl,h⟩
  clear h hE
  try clear F
  intro ks hk m vs w3 hi
  obtain ⟨E,g,hE,rfl,rfl,h⟩ :=hi
  replace hk:=Zk hk;subst hk
  cases g with
  | false=>
    replace h:=Zd h;have F:=Zf6 h;refine Zc ?_
    exact ⟨E,hE,h⟩
  | true=>
  replace h:=Zd h;have F:=Zf6 h;refine Zc ?_
  have hEl:=R.len E hE
  refine Sep.bad 0 1 hEl hW h rfl rfl (by decide) ?_
  clear h F
  intro V a c w4 hV h
  have hL : (badL E W V).length≤1000000:=Nat.le_trans (badL_len E W V) (by rw [hV.length_eq];exact hEl)
  generalize badL E W V = L at *
  replace h:=Zd h;have F:=Zf6 h;refine Zc ?_
  have hE0:=hE
  refine walkLoop [0,1,5] [4,6] (fun m vs w'=>∃ (i : Nat) (E' : MeshE) (g : Bool),i≤L.length∧m = L.length - i∧vs = [.bool g,.int .i64 i]∧I E'∧Φ E' + g.toNat≤Φ E∧Sep w A [msh bm E',wls bs W,tab 47 5 (.slice a L.length c) L] w') (by kernel_rfl) ?_ ?_
  · refine Zv ?_
    exact ⟨_,0,E,false,Nat.zero_le _,rfl,rfl,hE,Nat.le_refl _,h⟩
  clear h F hE
  intro ks hk m vs w5 hi
  obtain ⟨i,E',g,hi,rfl,rfl,hE',hΦ,h⟩ :=hi
  replace hk:=Zk hk;subst hk
  by_cases hlt : (i : Int) < L.length
  case neg=>
    replace h:=Zd h;have F:=Zf6 h;refine Zc1 (decide_eq_false hlt) ?_
    refine ⟨_,?_,E',g,hE',rfl,rfl,h.erase 2⟩
    simp only [Bool.toNat_true]
    omega
  have hil : i < L.length:=by omega
  have ei : IntKind.i64.wrap ((i : Int) + 1) = ((i + 1 : Nat) : Int):=by rw [i64w _ (by omega) (by omega)];omega
  obtain ⟨bb,oo,x0,x1,x2,x3,x4,rfl,_,kc⟩ :=h.facts.2.2.1.fiveAt hil
  replace h:=Zd h;have F:=Zf6 h;refine Zc1 (decide_eq_true hlt) ?_
  obtain ⟨k0,k1,k2,k3,k4⟩ :=kc _ F.2.2.1
  refine walkDraw (.q 0 (.q 1 (.q 2 (.q 3 (.q 4 (.q 5 (.q 7 (.q 8 (.q 9 (.q 10 (.h 6 0 (.h 11 4 (.l 12 (.q 13 (.q 14 (.q 15 (.q 16 (.q 17 (.q 18 (.q 20 (.q 21 (.q 22 (.q 23 (.h 19 6 (.h 24 10 (.l 25 (.q 26 (.q 27 .fin)))))))))))))))))))))))))))) [(bb,oo + i * 5,.int .i64 x0),(bb,oo + i * 5 + 1,.int .i64 x1),(bb,oo + i * 5,.int .i64 x0),(bb,oo + i * 5 + 1,.int .i64 x1),(bb,oo + i * 5 + 2,.int .i64 x2),(bb,oo + i * 5 + 3,.int .i64 x3),(bb,oo + i * 5,.int .i64 x0),(bb,oo + i * 5 + 1,.int .i64 x1),(bb,oo + i * 5,.int .i64 x0),(bb,oo + i * 5 + 1,.int .i64 x1),(bb,oo + i * 5 + 2,.int .i64 x2),(bb,oo + i * 5 + 3,.int .i64 x3)] (by kernel_rfl) (by simp [Holds_nil,Holds_cons,F,k0,k1,k2,k3]) ?_
  refine h.draw ?_
  clear h F k0 k1 k2 k3
  intro _ h
  clear k4
  replace h:=Zd h;have F:=Zf6 h;refine Zc ?_
  refine ⟨by omega,by omega,?_⟩
  refine Sep.callp h (bad107 x0 x1 x2 x3 _ h.facts.1 h.facts.2.1 hW) ?_
  clear h F
  intro _ h
  replace h:=Zd h;have F:=Zf6 h;refine Zc1 (kc _ h.facts.2.2.1) ?_
  cases g1 : badE E' W x0 x1 x2 x3 with
  | false=>
    replace h:=Zd h;have F:=Zf6 h;refine Zc1 (J g1 (J ei (kc _ h.facts.2.2.1))) ?_
    exact ⟨_,by omega,i + 1,E',g,by omega,rfl,rfl,hE',hΦ,h⟩
  | true=>
  replace h:=Zd h;have F:=Zf6 h;refine Zc1 (J g1 (J ei (kc _ h.facts.2.2.1))) ?_
  refine ⟨by omega,by omega,?_⟩
  refine Sep.c10 0 (x:=.int .i64 (flipE E' x0 x1 x2 x3).1) (r':=msh bm (flipE E' x0 x1 x2 x3).2) h rfl (fun A k=>flip108 x0 x1 x2 x3 k) (fun _ f=>f) ?_
  clear h F
  intro _ h
  replace h:=Zd h;have F:=Zf6 h;refine Zc1 (kc _ h.facts.2.2.1) ?_
  by_cases g2 : (flipE E' x0 x1 x2 x3).1 = 0
  · obtain ⟨r1,r2⟩ :=R.step E' x0 x1 x2 x3 hE' g1 g2
    generalize hz : decide ((flipE E' x0 x1 x2 x3).1 = 0) = z
    obtain rfl : z = true:=hz.symm.trans (decide_eq_true g2)
    clear hz
    replace h:=Zd h;have F:=Zf6 h;refine Zc1 ei ?_
    exact ⟨_,by omega,i + 1,_,true,by omega,rfl,rfl,r1,by rw [Bool.toNat_true];omega,h⟩
  · rw [flipE_same g2] at h
    generalize hz : decide ((flipE E' x0 x1 x2 x3).1 = 0) = z
    obtain rfl : z = false:=hz.symm.trans (decide_eq_false g2)
    clear hz
    replace h:=Zd h;have F:=Zf6 h;refine Zc1 ei ?_
    exact ⟨_,by omega,i + 1,E',g,by omega,rfl,rfl,hE',hΦ,h⟩
theorem Sep.sort (i : Nat) {w0 w : World} {S : Nat → Prop} {M : List Res} {v : Value} {O : List T3} {K : Value → World → Prop} (hO : O.length ≤ 1000000) (h : Sep w0 S M w) (hi : M[i]? = some (tab 49 6 v (rowsT O)))
    (hk : ∀ a c w1,Sep w0 S (M.set i (tab 49 6 (.slice a O.length c) (rowsT (sortT O)))) w1→K (.slice a O.length c) w1) : callsK Tryz.prog 94 #[v] w K:=by
  refine Sep.call1 i (Q:=fun v r' N=>N = []∧∃ a c,v = .slice a O.length c∧r' = tab 49 6 v (rowsT (sortT O))) h hi (fun B _ k=>(sortTris94 O hO k).mono fun e w' ⟨v,er,a,c,e1,k⟩ =>⟨v,er,_,[],k,fun _ f=>f,fun q hq=>(by cases hq),rfl,a,c,e1,rfl⟩) ?_
  rintro _ _ _ w5 ⟨rfl,a5,c5,rfl,rfl⟩ k
  rw [List.append_nil] at k
  exact hk _ _ _ k
def nvE (t : T3) (x y : Int) : Bool:=hasPE t x y && (!decide ([x,y] = [t.ax,t.ay]) && (!decide ([x,y] = [t.bx,t.by']) && !decide ([x,y] = [t.cx,t.cy])))
def sideT (t : T3) (x y : Int) (i : Nat) : T3:=⟨(t.pt i).getD 0 0,(t.pt i).getD 1 0,(t.pt (i + 1)).getD 0 0,(t.pt (i + 1)).getD 1 0,x,y⟩
def cutN (t : T3) (x y : Int) : Nat→List T3
  | 0=>[]
  | i + 1=>cutN t x y i ++ if (sideT t x y i).ok = true then [(sideT t x y i).mk'] else []
def cutE (t : T3) (x y : Int) : List T3:=if nvE t x y = true then cutN t x y 3 else []
theorem cutN_len (t : T3) (x y : Int) : ∀ i,(cutN t x y i).length≤i
  | 0=>Nat.le_refl _
  | i + 1=>by
    have:=cutN_len t x y i
    rw [cutN,List.length_append]
    split<;>simp<;>omega
theorem cut112 {w : World} (t : T3) (px py : Int) : Calls Tryz.prog 112 [.agg t.cells.toArray, .agg #[.int .i64 px, .int .i64 py]].toArray w
    (RetK fun r w'=>∃ a c,r = .slice a (cutE t px py).length c∧Sep w (fun _=>False) [tab 49 6 r (rowsT (sortT (cutE t px py)))] w'):=by
  have h:=Sep.nil w
  refine walk Tryz.func112 rfl (by kernel_rfl) (by rw [Tryz.nt112];simp) ?_
  replace h:=Zd h;have F:=Zf6 h
  refine Zv1 (@T3.cells.eq_1) ?_
  refine h.new ?_
  clear h F
  intro _ b1 h
  replace h:=Zd h;have F:=Zf6 h;refine Zc ?_
  refine h.new ?_
  clear h F
  intro _ b2 h
  replace h:=Zd h;have F:=Zf6 h;refine Zc ?_
  have h:=h.tabNil 49 6
  replace h:=Zd h;have F:=Zf6 h;refine Zc ?_
  refine walkLoop [2,3] [5,6] (fun m vs w'=>∃ (i : Nat) (O : List T3) (a : Option Addr) (c : Nat),i≤3∧m = 3 - i∧vs = [.slice a O.length c,.int .i64 i]∧O = (if nvE t px py = true then cutN t px py i else [])∧Sep w (fun _=>False) [blk b1 49 [.int .i64 t.ax,.int .i64 t.ay,.int .i64 t.bx,.int .i64 t.by',.int .i64 t.cx,.int .i64 t.cy],blk b2 45 [.int .i64 px,.int .i64 py],tab 49 6 (.slice a O.length c) (rowsT O)] w') (by kernel_rfl) ?_ ?_
  · refine Zv ?_
    exact ⟨_,0,[],none,0,by omega,rfl,rfl,by split<;>rfl,h⟩
  clear h
  try clear F
  intro ks hk m vs w3 hi
  obtain ⟨i,O,a,c,hi,rfl,rfl,hO,h⟩ :=hi
  replace hk:=Zk hk;subst hk
  replace h:=Zd h;have F:=Zf6 h;try simp -dsimp only [↓vcA,vcB,vcD,↓pureT_lenS,↓iteT,↓iteF,cond_true,cond_false,eq_self,argE,Env.get,Env.push,ev,evs,evo,retV,Value.cells,Value.oneCell',setR,overR,fillL,zl,places,allSizes,heldC,ne_eq,Int.reduceLE,Int.reduceLT,Int.reduceEq,Int.reduceNe,Int.reduceToNat,Int.cast_ofNat_Int,Nat.reduceMul,Nat.reduceLeDiff,reduceIte,Nat.reduceEqDiff,Nat.reduceAdd,↓reduceIte,Tryz.vcT,F,h.cell0,gets,vsD,if_true,if_false,Bool.false_eq_true,cellsAt,↓stop_if 3,isReg_hit 3]
  have e0 : [px,py] = [px,py]:=rfl
  refine stop_via (fun E' w'=>(E'.get 33 = some (.bool (decide ((i : Int) < 3) && nvE t px py))∧E'.get 2 = some (.pointer (some ⟨b1,0,none⟩))∧E'.get 3 = some (.pointer (some ⟨b2,0,none⟩))∧E'.get 5 = some (.slice a O.length c)∧E'.get 6 = some (.int .i64 (i : Int)))∧Sep w (fun _=>False) [blk b1 49 [.int .i64 t.ax,.int .i64 t.ay,.int .i64 t.bx,.int .i64 t.by',.int .i64 t.cx,.int .i64 t.cy],blk b2 45 [.int .i64 px,.int .i64 py],tab 49 6 (.slice a O.length c) (rowsT O)] w') (fun K hk=>?_) ?_
  · unfold nvE at hk
    replace h:=Zd h;have F:=Zf6 h;refine Zc ?_
    cases g0d : decide ((i : Int) < 3) with
    | false=>
      have g0:=of_decide_eq_false g0d
      replace h:=Zd h;have F:=Zf6 h;refine Zc1 (decide_eq_false g0) ?_
      exact hk _ _ ⟨⟨by rw [decide_eq_false g0];rfl,rfl,rfl,rfl,rfl⟩,h⟩
    | true=>
    have g0:=of_decide_eq_true g0d
    replace h:=Zd h;have F:=Zf6 h;refine Zc1 (decide_eq_true g0) ?_
    rw [decide_eq_true g0] at hk
    refine Sep.callp h (hasPoint132 t px py _) ?_
    clear h F
    intro _ h
    replace h:=Zd h;have F:=Zf6 h;refine Zc ?_
    generalize hasPE t px py = g1 at *
    cases g1 with
    | false=>
      replace h:=Zd h;have F:=Zf6 h;refine Zc ?_
      exact hk _ _ ⟨⟨rfl,rfl,rfl,rfl,rfl⟩,h⟩
    | true=>
    replace h:=Zd h;have F:=Zf6 h;refine Zc ?_
    refine binK_neq_agg (by kernel_rfl) (fun w=>seqPt (d:=9998) px py t.ax t.ay w) ?_
    generalize decide ([px,py] = [t.ax,t.ay]) = g2 at *
    cases g2 with
    | true=>
      replace h:=Zd h;have F:=Zf6 h;refine Zc ?_
      exact hk _ _ ⟨⟨rfl,rfl,rfl,rfl,rfl⟩,h⟩
    | false=>
    replace h:=Zd h;have F:=Zf6 h;refine Zc ?_
    refine binK_neq_agg (by kernel_rfl) (fun w=>seqPt (d:=9998) px py t.bx t.by' w) ?_
    generalize decide ([px,py] = [t.bx,t.by']) = g3 at *
    cases g3 with
    | true=>
      replace h:=Zd h;have F:=Zf6 h;refine Zc ?_
      exact hk _ _ ⟨⟨rfl,rfl,rfl,rfl,rfl⟩,h⟩
    | false=>
    replace h:=Zd h;have F:=Zf6 h;refine Zc ?_
    refine binK_neq_agg (by kernel_rfl) (fun w=>seqPt (d:=9998) px py t.cx t.cy w) ?_
    replace h:=Zd h;have F:=Zf6 h;refine Zc ?_
    exact hk _ _ ⟨⟨rfl,rfl,rfl,rfl,rfl⟩,h⟩
  rintro E' w' ⟨⟨g33,g2,g3,g5,g6⟩,h⟩
  clear F
  cases hb : (decide ((i : Int) < 3) && nvE t px py) with
  | false=>
    rw [hb] at g33
    have eO : O = cutE t px py:=by
      rw [hO,cutE]
      cases hn : nvE t px py with
      | false=>rfl
      | true=>rw [hn,Bool.and_true,decide_eq_false_iff_not] at hb;rw [show i = 3 by omega]
    have hOl : O.length≤3:=by
      rw [hO]
      split
      · exact Nat.le_trans (cutN_len t px py i) hi
      · exact Nat.zero_le _
    replace h:=Zd h;have F:=Zf6 h;refine Zc1 (J g33 (J g2 (J g3 (J g5 g6)))) ?_
    refine Sep.sort 2 (by omega) h rfl ?_
    clear h F
    intro a2 c2 w2 h
    replace h:=Zd h;have F:=Zf6 h;refine Zc1 (J g33 (J g2 (J g3 (J g5 g6)))) ?_
    rw [eO] at h ⊢
    exact ⟨a2,c2,rfl,(h.erase 0).erase 0⟩
  | true=>
  rw [hb] at g33
  rw [Bool.and_eq_true,decide_eq_true_eq] at hb
  obtain ⟨hi3,hn⟩ :=hb
  rw [if_pos hn] at hO
  replace h:=Zd h;have F:=Zf6 h;refine Zc1 (J g33 (J g2 (J g3 (J g5 g6)))) ?_
  obtain ⟨x0,y0,ex⟩ :=t.pt_two i
  obtain ⟨x1,y1,ey⟩ :=t.pt_two (i + 1)
  have q1:=corner122 t i (by omega)
  have q2:=corner122 t ((i + 1 : Nat) : Int) (by omega)
  rw [Int.toNat_natCast] at q1 q2
  rw [ex] at q1
  rw [ey] at q2
  have eS : sideT t px py i = ⟨x0,y0,x1,y1,px,py⟩ :=by unfold sideT;rw [ex,ey];rfl
  have q3:=make78 ⟨x0,y0,x1,y1,px,py⟩
  have eN : cutN t px py (i + 1) = O ++ if T3.ok ⟨x0,y0,x1,y1,px,py⟩ = true then [T3.mk' ⟨x0,y0,x1,y1,px,py⟩] else []:=by rw [cutN,eS,hO]
  generalize T3.mk' ⟨x0,y0,x1,y1,px,py⟩ = u at *
  generalize T3.ok ⟨x0,y0,x1,y1,px,py⟩ = o at *
  have ei : IntKind.i64.wrap ((i : Int) + 1) = ((i + 1 : Nat) : Int):=by rw [i64w _ (by omega) (by omega)];omega
  have hcond:=hn
  clear hn hO ex ey eS
  refine walkDrawI (.h 0 0 (.q 1 (.h 3 0 (.q 4 (.q 5 (.h 7 6 .fin)))))) [⟨2,some 0,[]⟩,⟨6,some 1,[2]⟩,⟨8,some 2,[2,6]⟩,⟨9,some 3,[8]⟩,⟨10,some 4,[9]⟩,⟨11,some 5,[9]⟩,⟨12,some 6,[]⟩,⟨13,none,[2,6,8,9,10,12]⟩,⟨14,some 7,[2,6,8,9,10,11,12,13]⟩] [39,43,45,36,46,47,7,8] [2,3,5,6,37,38,40,42,44] [(b1,0,.int .i64 t.ax),(b1,1,.int .i64 t.ay),(b1,2,.int .i64 t.bx),(b1,3,.int .i64 t.by'),(b1,4,.int .i64 t.cx),(b1,5,.int .i64 t.cy),(b2,0,.int .i64 px),(b2,1,.int .i64 py)] (by kernel_rfl) (by simp [Holds_nil,Holds_cons,F]) ?_
  refine h.draw ?_
  clear h F
  intro _ h
  replace h:=Zd h;have F:=Zf6 h;refine Zc1 (J (@T3.cells.eq_1) (J g2 (J g3 (J g5 (J g6 ei))))) ?_
  refine ⟨fun l vs w'=>∃ v2 v6 v8 v9 v10 v11 v12 v14 : Value,vs = [v2,v6,v8,v9,v10,v11,v12,v14]∧(l 2 = true→v2 = .agg #[.int .i64 x0,.int .i64 y0])∧(l 6 = true→v6 = .agg #[.int .i64 x1,.int .i64 y1])∧(l 8 = true→v8 = .tuple #[.agg u.cells.toArray,.bool o])∧(l 9 = true→v9 = .tuple #[.agg u.cells.toArray,.bool o])∧(l 10 = true→v10 = .agg u.cells.toArray)∧(l 11 = true→v11 = .bool o)∧(l 14 = true→v14 = .bool o)∧(l 13 = true→l 12 = true)∧∃ b3 : Nat,(l 12 = true→v12 = .pointer (some ⟨b3,0,none⟩))∧Sep w (fun _=>False) [blk b1 49 [.int .i64 t.ax,.int .i64 t.ay,.int .i64 t.bx,.int .i64 t.by',.int .i64 t.cx,.int .i64 t.cy],blk b2 45 [.int .i64 px,.int .i64 py],tab 49 6 (.slice a O.length c) (rowsT O),(if l 12 = true then blk b3 49 (if l 13 = true then [.int .i64 u.ax,.int .i64 u.ay,.int .i64 u.bx,.int .i64 u.by',.int .i64 u.cx,.int .i64 u.cy] else [.int .i64 0,.int .i64 0,.int .i64 0,.int .i64 0,.int .i64 0,.int .i64 0]) else emp)] w',?_,?_,⟨?_,?_,?_,?_,?_,?_,?_,?_,?_,trivial⟩,?_⟩
  · clear h F;intro l vs w1 hI
    obtain ⟨v2,v6,v8,v9,v10,v11,v12,v14,rfl,e2,e6,e8,e9,e10,e11,e14,o13,b3,e12,h⟩ :=hI
    replace h:=Zd h;have F:=Zf6 h
    exact (by simp [Holds_nil,Holds_cons,F])
  · intro us0 hv0
    obtain ⟨v2,us1,rfl,hv1⟩ :=cons_of_len hv0
    obtain ⟨v6,us2,rfl,hv2⟩ :=cons_of_len hv1
    obtain ⟨v8,us3,rfl,hv3⟩ :=cons_of_len hv2
    obtain ⟨v9,us4,rfl,hv4⟩ :=cons_of_len hv3
    obtain ⟨v10,us5,rfl,hv5⟩ :=cons_of_len hv4
    obtain ⟨v11,us6,rfl,hv6⟩ :=cons_of_len hv5
    obtain ⟨v12,us7,rfl,hv7⟩ :=cons_of_len hv6
    obtain ⟨v14,us8,rfl,hv8⟩ :=cons_of_len hv7
    obtain rfl:=nil_of_len hv8
    exact ⟨v2,v6,v8,v9,v10,v11,v12,v14,rfl,(fun e=>by cases e),(fun e=>by cases e),(fun e=>by cases e),(fun e=>by cases e),(fun e=>by cases e),(fun e=>by cases e),(fun e=>by cases e),(fun e=>by cases e),0,(fun e=>by cases e),h.addEmp⟩
  · clear h F;intro l vs w1 hI hl hp
    obtain ⟨v2,v6,v8,v9,v10,v11,v12,v14,rfl,e2,e6,e8,e9,e10,e11,e14,o13,b3,e12,h⟩ :=hI
    replace h:=Zd h;have F:=Zf6 h
    replace h:=Zd h;have F:=Zf6 h;refine Zc1 (J (@T3.cells.eq_1) (J g2 (J g3 (J g5 (J g6 ei))))) ?_
    refine Sep.callp h (q1 _) ?_
    clear F;intro w2 h
    exact ⟨_,_,_,_,_,_,_,_,rfl,(fun _=>rfl),e6,e8,e9,e10,e11,e14,o13,b3,e12,h⟩
  · clear h F;intro l vs w1 hI hl hp
    obtain ⟨v2,v6,v8,v9,v10,v11,v12,v14,rfl,e2,e6,e8,e9,e10,e11,e14,o13,b3,e12,h⟩ :=hI
    obtain rfl:=e2 (hp 2 (by simp))
    have f2 : l 2 = true:=hp 2 (by simp)
    replace h:=Zd h;have F:=Zf6 h
    replace h:=Zd h;have F:=Zf6 h;refine Zc1 (J (@T3.cells.eq_1) (J g2 (J g3 (J g5 (J g6 ei))))) ?_
    refine Sep.callp h (q2 _) ?_
    clear F;intro w2 h
    exact ⟨_,_,_,_,_,_,_,_,rfl,(fun _=>rfl),(fun _=>rfl),e8,e9,e10,e11,e14,o13,b3,e12,h⟩
  · clear h F;intro l vs w1 hI hl hp
    obtain ⟨v2,v6,v8,v9,v10,v11,v12,v14,rfl,e2,e6,e8,e9,e10,e11,e14,o13,b3,e12,h⟩ :=hI
    obtain rfl:=e2 (hp 2 (by simp))
    obtain rfl:=e6 (hp 6 (by simp))
    have f2 : l 2 = true:=hp 2 (by simp)
    have f6 : l 6 = true:=hp 6 (by simp)
    replace h:=Zd h;have F:=Zf6 h
    replace h:=Zd h;have F:=Zf6 h;refine Zc1 (J (@T3.cells.eq_1) (J g2 (J g3 (J g5 (J g6 ei))))) ?_
    refine Sep.callp h (q3 _) ?_
    clear F;intro w2 h
    exact ⟨_,_,_,_,_,_,_,_,rfl,(fun _=>rfl),(fun _=>rfl),(fun _=>rfl),e9,e10,e11,e14,o13,b3,e12,h⟩
  · clear h F;intro l vs w1 hI hl hp
    obtain ⟨v2,v6,v8,v9,v10,v11,v12,v14,rfl,e2,e6,e8,e9,e10,e11,e14,o13,b3,e12,h⟩ :=hI
    obtain rfl:=e8 (hp 8 (by simp))
    have f8 : l 8 = true:=hp 8 (by simp)
    replace h:=Zd h;have F:=Zf6 h
    replace h:=Zd h;have F:=Zf6 h;refine Zc1 (J f8 (J (@T3.cells.eq_1) (J g2 (J g3 (J g5 (J g6 ei)))))) ?_
    exact ⟨_,_,_,_,_,_,_,_,rfl,e2,e6,(fun _=>rfl),(fun _=>rfl),e10,e11,e14,o13,b3,e12,h⟩
  · clear h F;intro l vs w1 hI hl hp
    obtain ⟨v2,v6,v8,v9,v10,v11,v12,v14,rfl,e2,e6,e8,e9,e10,e11,e14,o13,b3,e12,h⟩ :=hI
    obtain rfl:=e9 (hp 9 (by simp))
    have f9 : l 9 = true:=hp 9 (by simp)
    replace h:=Zd h;have F:=Zf6 h
    replace h:=Zd h;have F:=Zf6 h;refine Zc1 (J f9 (J (@T3.cells.eq_1) (J g2 (J g3 (J g5 (J g6 ei)))))) ?_
    exact ⟨_,_,_,_,_,_,_,_,rfl,e2,e6,e8,(fun _=>rfl),(fun _=>rfl),e11,e14,o13,b3,e12,h⟩
  · clear h F;intro l vs w1 hI hl hp
    obtain ⟨v2,v6,v8,v9,v10,v11,v12,v14,rfl,e2,e6,e8,e9,e10,e11,e14,o13,b3,e12,h⟩ :=hI
    obtain rfl:=e9 (hp 9 (by simp))
    have f9 : l 9 = true:=hp 9 (by simp)
    replace h:=Zd h;have F:=Zf6 h
    replace h:=Zd h;have F:=Zf6 h;refine Zc1 (J f9 (J (@T3.cells.eq_1) (J g2 (J g3 (J g5 (J g6 ei)))))) ?_
    exact ⟨_,_,_,_,_,_,_,_,rfl,e2,e6,e8,(fun _=>rfl),e10,(fun _=>rfl),e14,o13,b3,e12,h⟩
  · clear h F;intro l vs w1 hI hl hp
    obtain ⟨v2,v6,v8,v9,v10,v11,v12,v14,rfl,e2,e6,e8,e9,e10,e11,e14,o13,b3,e12,h⟩ :=hI
    replace h:=Zd h;have F:=Zf6 h
    replace h:=Zd h;have F:=Zf6 h;refine Zc1 (J hl (J (@T3.cells.eq_1) (J g2 (J g3 (J g5 (J g6 ei)))))) ?_
    simp only [hl,Bool.false_eq_true,if_false] at h
    refine Sep.newAt 3 h rfl ?_
    clear F;intro w2 b3 h
    have n13 : l 13 = false:=by
      cases hq : l 13 with
      | false=>rfl
      | true=>rw [o13 hq] at hl;cases hl
    refine ⟨_,_,_,_,_,_,_,_,rfl,e2,e6,e8,e9,e10,e11,e14,(fun _=>rfl),b3,(fun _=>rfl),?_⟩
    simp only [flag,n13,Nat.reduceBEq,beq_self_eq_true,Bool.true_or,Bool.false_or,Bool.false_eq_true,if_false,if_true];exact h
  · clear h F;intro l vs w1 hI hl hp
    obtain ⟨v2,v6,v8,v9,v10,v11,v12,v14,rfl,e2,e6,e8,e9,e10,e11,e14,o13,b3,e12,h⟩ :=hI
    obtain rfl:=e2 (hp 2 (by simp))
    obtain rfl:=e6 (hp 6 (by simp))
    obtain rfl:=e8 (hp 8 (by simp))
    obtain rfl:=e9 (hp 9 (by simp))
    obtain rfl:=e10 (hp 10 (by simp))
    obtain rfl:=e12 (hp 12 (by simp))
    have f2 : l 2 = true:=hp 2 (by simp)
    have f6 : l 6 = true:=hp 6 (by simp)
    have f8 : l 8 = true:=hp 8 (by simp)
    have f9 : l 9 = true:=hp 9 (by simp)
    have f10 : l 10 = true:=hp 10 (by simp)
    have f12 : l 12 = true:=hp 12 (by simp)
    replace h:=Zd h;have F:=Zf6 h
    simp only [f2,f6,f8,f9,f10,f12,hl,Bool.false_eq_true,if_false,if_true] at h
    replace h:=Zd h;have F:=Zf6 h;refine Zc1 (J f2 (J f6 (J f8 (J f9 (J f10 (J f12 (J (@T3.cells.eq_1) (J g2 (J g3 (J g5 (J g6 ei))))))))))) ?_
    refine Sep.put 3 h rfl ?_
    clear F;intro w2 h
    refine ⟨_,_,_,_,_,_,_,_,rfl,(fun _=>rfl),(fun _=>rfl),(fun _=>rfl),(fun _=>rfl),(fun _=>rfl),e11,e14,(fun _=>f12),b3,(fun _=>rfl),?_⟩
    simp only [flag,f2,f6,f8,f9,f10,f12,Nat.reduceBEq,beq_self_eq_true,Bool.true_or,Bool.false_or,if_true];exact h
  · clear h F;intro l vs w1 hI hl hp
    obtain ⟨v2,v6,v8,v9,v10,v11,v12,v14,rfl,e2,e6,e8,e9,e10,e11,e14,o13,b3,e12,h⟩ :=hI
    obtain rfl:=e2 (hp 2 (by simp))
    obtain rfl:=e6 (hp 6 (by simp))
    obtain rfl:=e8 (hp 8 (by simp))
    obtain rfl:=e9 (hp 9 (by simp))
    obtain rfl:=e10 (hp 10 (by simp))
    obtain rfl:=e11 (hp 11 (by simp))
    obtain rfl:=e12 (hp 12 (by simp))
    have f2 : l 2 = true:=hp 2 (by simp)
    have f6 : l 6 = true:=hp 6 (by simp)
    have f8 : l 8 = true:=hp 8 (by simp)
    have f9 : l 9 = true:=hp 9 (by simp)
    have f10 : l 10 = true:=hp 10 (by simp)
    have f11 : l 11 = true:=hp 11 (by simp)
    have f12 : l 12 = true:=hp 12 (by simp)
    have f13 : l 13 = true:=hp 13 (by simp)
    replace h:=Zd h;have F:=Zf6 h
    replace h:=Zd h;have F:=Zf6 h;refine Zc1 (J f2 (J f6 (J f8 (J f9 (J f10 (J f11 (J f12 (J f13 (J (@T3.cells.eq_1) (J g2 (J g3 (J g5 (J g6 ei))))))))))))) ?_
    exact ⟨_,_,_,_,_,_,_,_,rfl,(fun _=>rfl),(fun _=>rfl),(fun _=>rfl),(fun _=>rfl),(fun _=>rfl),(fun _=>rfl),(fun _=>rfl),o13,b3,(fun _=>rfl),h⟩
  clear h F;intro l vs w1 hI hall
  obtain ⟨v2,v6,v8,v9,v10,v11,v12,v14,rfl,e2,e6,e8,e9,e10,e11,e14,o13,b3,e12,h⟩ :=hI
  have f2 : l 2 = true:=hall ⟨2,some 0,[]⟩ (by simp)
  have f6 : l 6 = true:=hall ⟨6,some 1,[2]⟩ (by simp)
  have f8 : l 8 = true:=hall ⟨8,some 2,[2,6]⟩ (by simp)
  have f9 : l 9 = true:=hall ⟨9,some 3,[8]⟩ (by simp)
  have f10 : l 10 = true:=hall ⟨10,some 4,[9]⟩ (by simp)
  have f11 : l 11 = true:=hall ⟨11,some 5,[9]⟩ (by simp)
  have f12 : l 12 = true:=hall ⟨12,some 6,[]⟩ (by simp)
  have f13 : l 13 = true:=hall ⟨13,none,[2,6,8,9,10,12]⟩ (by simp)
  have f14 : l 14 = true:=hall ⟨14,some 7,[2,6,8,9,10,11,12,13]⟩ (by simp)
  obtain rfl:=e2 f2
  obtain rfl:=e6 f6
  obtain rfl:=e8 f8
  obtain rfl:=e9 f9
  obtain rfl:=e10 f10
  obtain rfl:=e11 f11
  obtain rfl:=e12 f12
  obtain rfl:=e14 f14
  simp only [f2,f6,f8,f9,f10,f11,f12,f13,f14,if_true] at h
  clear hall f2 f6 f8 f9 f10 f11 f12 f13 f14 o13
  replace h:=Zd h;have F:=Zf6 h;refine Zc1 (J (@T3.cells.eq_1) (J g2 (J g3 (J g5 (J g6 ei))))) ?_
  cases o with
  | false=>
    replace h:=Zd h;have F:=Zf6 h;refine Zc1 (J g2 (J g3 (J g5 (J g6 ei)))) ?_
    refine ⟨_,by omega,i + 1,O,a,c,by omega,rfl,rfl,?_,h.erase 3⟩
    rw [hcond,if_pos rfl,eN];exact (List.append_nil O).symm
  | true=>
  replace h:=Zd h;have F:=Zf6 h;refine Zc1 (J g2 (J g3 (J g5 (J g6 ei)))) ?_
  refine h.new ?_
  clear h F
  intro _ b4 h
  replace h:=Zd h;have F:=Zf6 h;refine Zc ?_
  have hOl : O.length≤3:=by
    have:=cutN_len t px py (i + 1)
    rw [eN,List.length_append] at this
    omega
  refine Sep.appTab 2 4 infoT Tryz.underlying141 rfl (by decide) u.row h rfl rfl rfl (by rw [List.length_map];omega) (by rw [List.length_map];simp only [maxLen];omega) ?_
  clear h F
  intro a9 c9 w9 h
  rw [← rows_app,List.length_map] at h
  rw [rows_len]
  replace h:=Zd h;have F:=Zf6 h;refine Zc1 (J g2 (J g3 (J g5 (J g6 ei)))) ?_
  refine ⟨_,by omega,i + 1,O ++ [u],a9,c9,by omega,rfl,rfl,?_,(h.erase 4).erase 3⟩
  rw [hcond,if_pos rfl,eN];rfl
end Go.Proofs.YtnhgjgoglmadnaaGreat
