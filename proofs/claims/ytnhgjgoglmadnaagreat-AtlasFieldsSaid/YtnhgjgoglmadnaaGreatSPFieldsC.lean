/- Joined texts of this claim (part 29), printed by a program of this work. The last part holds the claimed theorem: the law answers true at every input of its row. -/
import Derived.Test.YtnhgjgoglmadnaaGreatSPFieldsB
set_option maxHeartbeats 4000000
namespace Go.Proofs.YtnhgjgoglmadnaaGreat
open Go.RowKit
set_option maxRecDepth 100000
set_option linter.unusedSimpArgs false
set_option linter.unusedVariables false
def wA (x : List Int) : Int×Int:=(x.getD 0 0,x.getD 1 0)
def wB (x : List Int) : Int×Int:=(x.getD 2 0,x.getD 3 0)
theorem WallsAt.five {w : World} {bs : Nat} {a : Option Addr} {n c : Nat} {S : List (List Int)} (hm : WallsAt w bs (.slice a n c) S) {i : Nat} (hi : i < S.length) : ∃ b o a0 a1 a2 a3 a4, a = some ⟨b, o, none⟩ ∧ S[i] = [a0, a1, a2, a3, a4] ∧
    w.cell? ⟨b,o + i * 5,none⟩ = some (.int .i64 a0)∧w.cell? ⟨b,o + i * 5 + 1,none⟩ = some (.int .i64 a1)∧w.cell? ⟨b,o + i * 5 + 2,none⟩ = some (.int .i64 a2)∧w.cell? ⟨b,o + i * 5 + 3,none⟩ = some (.int .i64 a3)∧w.cell? ⟨b,o + i * 5 + 4,none⟩ = some (.int .i64 a4):=by
  obtain ⟨b,o,eb,hcx⟩ :=hm.tab.at hi (by decide)
  have wx:=hm.tab.wid _ (List.getElem_mem hi)
  generalize S[i] = x at *
  obtain ⟨a0,a1,a2,a3,a4,rfl⟩ :=len_5 wx
  exact ⟨b,o,a0,a1,a2,a3,a4,eb,rfl,Tab.cell hcx 0 (by simp),Tab.cell hcx 1 (by simp),Tab.cell hcx 2 (by simp),Tab.cell hcx 3 (by simp),Tab.cell hcx 4 (by simp)⟩
def meetsW (S : List (List Int)) (a b : Int×Int) : Bool:=S.any fun x=>!decide (meetI a b (wA x) (wB x) = 0)
def clashW (S : List (List Int)) (a b : Int×Int) : Int:=
  if wallOk a.1 a.2 b.1 b.2 1 = false then 2 else if kindW S a.1 a.2 b.1 b.2≠0 then 5 else if meetsW S a b = true then 7 else 0
theorem clash116 {bs : Nat} {v : Value} {S : List (List Int)} (a b : Int × Int) (w : World) (hm : WallsAt w bs v S) (hS : S.length ≤ 1000000) : Calls Tryz.prog 116 [.pointer (some ⟨bs, 0, none⟩), .agg #[.int .i64 a.1, .int .i64 a.2], .agg #[.int .i64 b.1, .int .i64 b.2]].toArray w
    (RetP (.int .i64 (clashW S a b)) w):=by
  obtain ⟨aa,cc,rfl⟩ :=hm.tab.shape
  have h:=Sep.nil w
  refine walk Tryz.func116 rfl (by kernel_rfl) (by rw [Tryz.nt116];simp) ?_
  replace h:=Zd h;have F:=Zf6 h
  refine Zv ?_
  refine h.new ?_
  clear h F
  intro _ b1 h
  replace h:=Zd h;have F:=Zf6 h;refine Zc ?_
  refine h.new ?_
  clear h F
  intro _ b2 h
  replace h:=Zd h;have F:=Zf6 h;refine Zc ?_
  have kw:=makeWall88 a.1 a.2 b.1 b.2 1
  obtain ⟨v0,v1,v2,v3,v4,evw⟩ :=len_5 (show (wallV a.1 a.2 b.1 b.2 1).length = 5 by unfold wallV ptMin ptMax;split<;>(try split)<;>(try split)<;>rfl)
  rw [evw] at kw
  refine Sep.callp h (kw _) ?_
  clear h F
  intro _ h
  replace h:=Zd h;have F:=Zf6 h;refine Zc1 (@cellsI.eq_1) ?_
  refine h.new ?_
  clear h F
  intro _ b3 h
  replace h:=Zd h;have F:=Zf6 h;refine Zc ?_
  refine Sep.put 2 h rfl ?_
  clear h F
  intro _ h
  replace h:=Zd h;have F:=Zf6 h;refine Zc ?_
  cases h1 : wallOk a.1 a.2 b.1 b.2 1 with
  | false=>
    replace h:=Zd h;have F:=Zf6 h;refine Zc ?_
    exact ⟨by unfold clashW;rw [if_pos h1],h.done⟩
  | true=>
  have e1 : clashW S a b = if kindW S a.1 a.2 b.1 b.2≠0 then 5 else if meetsW S a b = true then 7 else 0:=by unfold clashW;rw [if_neg (by rw [h1];simp)]
  rw [e1]
  clear e1
  replace h:=Zd h;have F:=Zf6 h;refine Zc ?_
  refine Sep.callp h (kind121 a.1 a.2 b.1 b.2 _ (hm.sep h) hS) ?_
  clear h F
  intro _ h
  replace h:=Zd h;have F:=Zf6 h;refine Zc ?_
  by_cases h2 : kindW S a.1 a.2 b.1 b.2 = 0
  case neg=>
    rw [if_pos h2]
    generalize hz : decide (kindW S a.1 a.2 b.1 b.2 = 0) = z
    obtain rfl : z = false:=hz.symm.trans (decide_eq_false h2)
    clear hz
    replace h:=Zd h;have F:=Zf6 h;refine Zc ?_
    (first | exact ⟨rfl,h.done⟩ | exact h.done)
  rw [if_neg (fun g=>g h2)]
  generalize hz : decide (kindW S a.1 a.2 b.1 b.2 = 0) = z
  obtain rfl : z = true:=hz.symm.trans (decide_eq_true h2)
  clear hz
  replace h:=Zd h;have F:=Zf6 h;refine Zc ?_
  refine walkLoop [0,4,5] [9] (fun m vs w'=>∃ i : Nat,i≤S.length∧m = S.length - i∧vs = [.int .i64 i]∧meetsW S a b = meetsW (S.drop i) a b∧Sep w (fun _=>False) [blk b1 45 [.int .i64 a.1,.int .i64 a.2],blk b2 45 [.int .i64 b.1,.int .i64 b.2],blk b3 47 [.int .i64 v0,.int .i64 v1,.int .i64 v2,.int .i64 v3,.int .i64 v4]] w') (by kernel_rfl) ?_ ?_
  · refine Zv ?_
    exact ⟨_,0,Nat.zero_le _,rfl,rfl,rfl,h⟩
  intro ks hk m vs w3 hi
  clear h
  try clear F
  obtain ⟨i,hi,rfl,rfl,hd,h⟩ :=hi
  replace hk:=Zk hk;subst hk
  have c0:=(hm.sep h).cell
  by_cases hlt : (i : Int) < S.length
  case neg=>
    have e0 : S.drop i = []:=List.drop_eq_nil_of_le (by omega)
    replace h:=Zd h;have F:=Zf6 h;refine Zc1 (J c0 (decide_eq_false hlt)) ?_
    rw [hd,e0]
    (first | exact ⟨rfl,h.done⟩ | exact h.done)
  have hil : i < S.length:=by omega
  have ei : IntKind.i64.wrap ((i : Int) + 1) = ((i + 1 : Nat) : Int):=by rw [i64w _ (by omega) (by omega)];omega
  have hdrop : S.drop i = S[i] :: S.drop (i + 1):=List.drop_eq_getElem_cons hil
  obtain ⟨bb,oo,a0,a1,a2,a3,a4,rfl,eS,k0,k1,k2,k3,k4⟩ :=(hm.sep h).five hil
  rw [eS] at hdrop
  have ms : meetsW (S.drop i) a b = (!decide (meetI a b (a0,a1) (a2,a3) = 0) || meetsW (S.drop (i + 1)) a b):=by
    unfold meetsW
    rw [hdrop];rfl
  replace h:=Zd h;have F:=Zf6 h;refine Zc1 (J c0 (decide_eq_true hlt)) ?_
  refine walkDraw (.q 2 (.q 3 (.q 4 (.q 6 (.q 10 (.q 11 (.q 12 (.q 14 (.h 0 0 (.h 1 2 (.h 5 4 (.q 7 (.q 8 (.h 9 5 (.h 13 4 (.q 15 (.q 16 (.h 17 11 (.l 18 (.q 19 .fin)))))))))))))))))))) [(b1,0,.int .i64 a.1),(b1,1,.int .i64 a.2),(b2,0,.int .i64 b.1),(b2,1,.int .i64 b.2),(bs,0,.slice (some ⟨bb,oo,none⟩) S.length cc),(bb,oo + i * 5,.int .i64 a0),(bb,oo + i * 5 + 1,.int .i64 a1),(bb,oo + i * 5 + 2,.int .i64 a2),(bb,oo + i * 5 + 3,.int .i64 a3),(bb,oo + i * 5,.int .i64 a0),(bb,oo + i * 5 + 1,.int .i64 a1),(bb,oo + i * 5 + 2,.int .i64 a2),(bb,oo + i * 5 + 3,.int .i64 a3)] (by kernel_rfl) (by simp [Holds_nil,Holds_cons,F,c0,k0,k1,k2,k3]) ?_
  refine h.draw ?_
  clear h F c0 k0 k1 k2 k3
  intro _ h
  replace h:=Zd h;have F:=Zf6 h;refine Zc ?_
  clear k4
  refine ⟨by omega,by omega,?_⟩
  refine Sep.callp h (meet134 a b (a0,a1) (a2,a3) _) ?_
  clear h F
  intro _ h
  have c0:=(hm.sep h).cell
  obtain ⟨bb',oo',a0',a1',a2',a3',a4',eb,eS',k0,k1,k2,k3,k4⟩ :=(hm.sep h).five hil
  injection eb with eb
  injection eb with eb1 eb2
  subst eb1 eb2
  rw [eS] at eS'
  simp only [List.cons.injEq,and_true] at eS'
  obtain ⟨rfl,rfl,rfl,rfl,rfl⟩ :=eS'
  by_cases hz : meetI a b (a0,a1) (a2,a3) = 0
  · replace h:=Zd h;have F:=Zf6 h;refine Zc1 (J (decide_eq_true hz) (J c0 (J k0 (J k1 (J k2 (J k3 ei)))))) ?_
    refine ⟨_,by omega,i + 1,by omega,rfl,rfl,by rw [hd,ms,decide_eq_true hz];rfl,h⟩
  · replace h:=Zd h;have F:=Zf6 h;refine Zc1 (J (decide_eq_false hz) (J c0 (J k0 (J k1 (J k2 k3))))) ?_
    rw [hd,ms,decide_eq_false hz]
    (first | exact ⟨rfl,h.done⟩ | exact h.done)
def onHit (p : Int×Int) (x : List Int) : Bool:=!decide ([p.1,p.2] = [(wA x).1,(wA x).2]) && (!decide ([p.1,p.2] = [(wB x).1,(wB x).2]) && onE p.1 p.2 (wA x).1 (wA x).2 (wB x).1 (wB x).2)
def onW (S : List (List Int)) (p : Int×Int) : Option (List Int):=S.find? (onHit p)
theorem onW_wid {S : List (List Int)} (h : ∀ x ∈ S,x.length = 5) (p : Int×Int) : ∃ a b c d e,(onW S p).getD [0,0,0,0,0] = [a,b,c,d,e]:=by
  unfold onW
  cases hf : S.find? (onHit p) with
  | none=>exact ⟨_,_,_,_,_,rfl⟩
  | some x=>exact len_5 (h x (List.mem_of_find?_eq_some hf))
theorem on113 {bs : Nat} {v : Value} {S : List (List Int)} (p : Int × Int) (w : World) (hm : WallsAt w bs v S) (hS : S.length ≤ 1000000) : Calls Tryz.prog 113 [.pointer (some ⟨bs, 0, none⟩), .agg #[.int .i64 p.1, .int .i64 p.2]].toArray w
    (RetP (.tuple #[.agg (cellsI ((onW S p).getD [0,0,0,0,0])).toArray,.bool (onW S p).isSome]) w):=by
  obtain ⟨aa,cc,rfl⟩ :=hm.tab.shape
  have h:=Sep.nil w
  refine walk Tryz.func113 rfl (by kernel_rfl) (by rw [Tryz.nt113];simp) ?_
  replace h:=Zd h;have F:=Zf6 h
  refine Zv ?_
  refine h.new ?_
  clear h F
  intro _ b1 h
  replace h:=Zd h;have F:=Zf6 h;refine Zc ?_
  refine h.new ?_
  clear h F
  intro _ b2 h
  replace h:=Zd h;have F:=Zf6 h;refine Zc ?_
  refine walkLoop [0,3,4] [6] (fun m vs w'=>∃ i : Nat,i≤S.length∧m = S.length - i∧vs = [.int .i64 i]∧onW S p = onW (S.drop i) p∧Sep w (fun _=>False) [blk b1 45 [.int .i64 p.1,.int .i64 p.2],blk b2 47 [.int .i64 0,.int .i64 0,.int .i64 0,.int .i64 0,.int .i64 0]] w') (by kernel_rfl) ?_ ?_
  · refine Zv ?_
    exact ⟨_,0,Nat.zero_le _,rfl,rfl,rfl,h⟩
  intro ks hk m vs w3 hi
  clear h
  try clear F
  obtain ⟨i,hi,rfl,rfl,hd,h⟩ :=hi
  replace hk:=Zk hk;subst hk
  have c0:=(hm.sep h).cell
  by_cases hlt : (i : Int) < S.length
  case neg=>
    have e0 : S.drop i = []:=List.drop_eq_nil_of_le (by omega)
    replace h:=Zd h;have F:=Zf6 h;refine Zc1 (J c0 (decide_eq_false hlt)) ?_
    refine Sep.put 1 h rfl ?_
    clear h F
    intro _ h
    replace h:=Zd h;have F:=Zf6 h;refine Zc ?_
    rw [hd,e0]
    (first | exact ⟨rfl,h.done⟩ | exact h.done)
  have hil : i < S.length:=by omega
  have ei : IntKind.i64.wrap ((i : Int) + 1) = ((i + 1 : Nat) : Int):=by rw [i64w _ (by omega) (by omega)];omega
  have hdrop : S.drop i = S[i] :: S.drop (i + 1):=List.drop_eq_getElem_cons hil
  obtain ⟨bb,oo,a0,a1,a2,a3,a4,rfl,eS,k0,k1,k2,k3,k4⟩ :=(hm.sep h).five hil
  rw [eS] at hdrop
  have hitE : onHit p [a0,a1,a2,a3,a4] = true→onW S p = some [a0,a1,a2,a3,a4]:=fun e=>by rw [hd,onW,hdrop,List.find?_cons,e]
  have missE : onHit p [a0,a1,a2,a3,a4] = false→onW S p = onW (S.drop (i + 1)) p:=fun e=>by rw [hd,onW,hdrop,List.find?_cons,e];rfl
  replace h:=Zd h;have F:=Zf6 h;refine Zc1 (J c0 (J (decide_eq_true hlt) (J k0 (J k1 (J k2 (J k3 k4)))))) ?_
  refine ⟨by omega,?_⟩
  refine h.new ?_
  clear h F
  intro _ b3 h
  replace h:=Zd h;have F:=Zf6 h;refine Zc ?_
  refine Sep.put 2 h rfl ?_
  clear h F
  intro _ h
  replace h:=Zd h;have F:=Zf6 h;refine Zc ?_
  have go : ∀ {w' : World}, onHit p [a0, a1, a2, a3, a4] = false → Sep w (fun _ => False) [blk b1 45 [.int .i64 p.1, .int .i64 p.2], blk b2 47 [.int .i64 0, .int .i64 0, .int .i64 0, .int .i64 0, .int .i64 0], blk b3 47 [.int .i64 a0, .int .i64 a1, .int .i64 a2, .int .i64 a3, .int .i64 a4]] w' →
      ∃ m',m' < S.length - i∧∃ i_1 : Nat,i_1≤S.length∧m' = S.length - i_1∧[Value.int .i64 ((i + 1 : Nat) : Int)] = [.int .i64 (i_1 : Int)]∧onW S p = onW (S.drop i_1) p∧Sep w (fun _=>False) [blk b1 45 [.int .i64 p.1,.int .i64 p.2],blk b2 47 [.int .i64 0,.int .i64 0,.int .i64 0,.int .i64 0,.int .i64 0]] w':=fun e h=>⟨_,by omega,i + 1,by omega,rfl,rfl,missE e,h.erase 2⟩
  refine binK_neq_agg (by kernel_rfl) (fun w=>seqPt (d:=9998) p.1 p.2 a0 a1 w) ?_
  cases q1d : decide ([p.1,p.2] = [a0,a1]) with
  | true=>
    have q1:=of_decide_eq_true q1d
    replace h:=Zd h;have F:=Zf6 h;refine Zc1 (J (decide_eq_true q1) ei) ?_
    exact go (by unfold onHit;rw [show decide ([p.1,p.2] = [(wA [a0,a1,a2,a3,a4]).1,(wA [a0,a1,a2,a3,a4]).2]) = true from decide_eq_true q1];rfl) h
  | false=>
  have q1:=of_decide_eq_false q1d
  replace h:=Zd h;have F:=Zf6 h;refine Zc1 (J (decide_eq_false q1) ei) ?_
  refine binK_neq_agg (by kernel_rfl) (fun w=>seqPt (d:=9998) p.1 p.2 a2 a3 w) ?_
  cases q2d : decide ([p.1,p.2] = [a2,a3]) with
  | true=>
    have q2:=of_decide_eq_true q2d
    replace h:=Zd h;have F:=Zf6 h;refine Zc1 (J (decide_eq_true q2) ei) ?_
    exact go (by unfold onHit;rw [show decide ([p.1,p.2] = [(wB [a0,a1,a2,a3,a4]).1,(wB [a0,a1,a2,a3,a4]).2]) = true from decide_eq_true q2];simp) h
  | false=>
  have q2:=of_decide_eq_false q2d
  replace h:=Zd h;have F:=Zf6 h;refine Zc1 (J (decide_eq_false q2) ei) ?_
  refine Sep.callp h (on133 p.1 p.2 a0 a1 a2 a3 _) ?_
  clear h F
  intro _ h
  replace h:=Zd h;have F:=Zf6 h;refine Zc ?_
  cases q3 : onE p.1 p.2 a0 a1 a2 a3 with
  | false=>
    replace h:=Zd h;have F:=Zf6 h;refine Zc1 ei ?_
    exact go (by unfold onHit;rw [show onE p.1 p.2 (wA [a0,a1,a2,a3,a4]).1 (wA [a0,a1,a2,a3,a4]).2 (wB [a0,a1,a2,a3,a4]).1 (wB [a0,a1,a2,a3,a4]).2 = false from q3];simp) h
  | true=>
    have hh : onHit p [a0,a1,a2,a3,a4] = true:=by
      unfold onHit
      rw [show decide ([p.1,p.2] = [(wA [a0,a1,a2,a3,a4]).1,(wA [a0,a1,a2,a3,a4]).2]) = false from decide_eq_false q1,show decide ([p.1,p.2] = [(wB [a0,a1,a2,a3,a4]).1,(wB [a0,a1,a2,a3,a4]).2]) = false from decide_eq_false q2]
      exact q3
    replace h:=Zd h;have F:=Zf6 h;refine Zc ?_
    refine Sep.put 1 h rfl ?_
    clear h F
    intro _ h
    replace h:=Zd h;have F:=Zf6 h;refine Zc ?_
    rw [hitE hh]
    (first | exact ⟨rfl,h.done⟩ | exact h.done)
theorem Tab.fiveAt {n c i : Nat} {aa : Option Addr} {S : List (List Int)} (hi : i < S.length) {w0 : World} (h0 : Tab 5 w0 (.slice aa n c) S) : ∃ b o a0 a1 a2 a3 a4, aa = some ⟨b, o, Option.none⟩ ∧ S.getD i [] = [a0, a1, a2, a3, a4] ∧ ∀ w, Tab 5 w (.slice aa n c) S →
    (w.cell? ⟨b,o + i * 5,Option.none⟩ = some (.int .i64 a0)∧w.cell? ⟨b,o + i * 5 + 1,Option.none⟩ = some (.int .i64 a1)∧w.cell? ⟨b,o + i * 5 + 2,Option.none⟩ = some (.int .i64 a2)∧w.cell? ⟨b,o + i * 5 + 3,Option.none⟩ = some (.int .i64 a3)∧w.cell? ⟨b,o + i * 5 + 4,Option.none⟩ = some (.int .i64 a4)):=by
  obtain ⟨b,o,rfl,_⟩ :=h0.at hi (by decide)
  obtain ⟨a0,a1,a2,a3,a4,e⟩ :=len_5 (h0.wid _ (List.getElem_mem hi))
  refine ⟨b,o,a0,a1,a2,a3,a4,rfl,by rw [List.getD_eq_getElem?_getD,List.getElem?_eq_getElem hi,e];rfl,fun w hw=>?_⟩
  obtain ⟨b',o',eb,hc⟩ :=hw.at hi (by decide)
  injection eb with eb
  injection eb with e1 e2
  subst e1 e2
  rw [e] at hc
  exact ⟨Tab.cell hc 0 (by simp),Tab.cell hc 1 (by simp),Tab.cell hc 2 (by simp),Tab.cell hc 3 (by simp),Tab.cell hc 4 (by simp)⟩
theorem viaDraw {P : Program} {N : Nat} {OPS : Array Oper} {K : Env→World→Prop} {G : Prop} (Q : Env→World→Prop) (a : (∀ E w,Q E w→drawT P N OPS E w K)→G) (b : ∀ E w,Q E w→drawT P N OPS E w K) : G:=a b
theorem Sep.appTabs (i : Nat) {P : Program} {t e : TypeId} {z : Value} {s by' : Nat} (hinf : (P.info? e).map (fun i => (i.zero, i.size, i.bytes)) = some (some z, s, by')) (ht : P.underlying t = some (.slice e)) (hzs : z.cells.size = s) (hs : 0 < s)
    {w0 w : World} {S : Nat→Prop} {M : List Res} {v src : Value} {xs : List (List Int)} (ys : List (List Int)) {ty : TypeId} {K : Value→World→Prop} (h : Sep w0 S M w) (hi : M[i]? = some (tab e s v xs)) (hsrc : Tab s w src ys)
    (hl : (xs.length + ys.length) * by'≤140737488355328) (h63 : xs.length + ys.length≤maxLen)
    (hK : ∀ a c w',Sep w0 S (M.set i (tab e s (.slice a (xs ++ ys).length c) (xs ++ ys))) w'→K (.slice a (xs ++ ys).length c) w') : RunK P (Builtin.append_ #[t,t] ty #[v,src]) w K:=by
  obtain ⟨A,⟨h0,h1,rfl⟩,_,h3⟩ :=h.at hi
  refine append_rule hinf ht hzs hs h1 hsrc.row hl h63 fun v' w' ho hg hat=>?_
  have hsh : ∃ a c,v' = .slice a (xs.length + ys.length) c:=by
    rcases ho.2 with ⟨rfl,hz⟩ | ⟨g,cap,cur,rfl,_⟩
    · exact ⟨Option.none,0,by rw [hz]⟩
    · exact ⟨_,_,rfl⟩
  obtain ⟨a,c,rfl⟩ :=hsh
  have el : (xs ++ ys).length = xs.length + ys.length:=by simp
  have ef : flatT (xs ++ ys) = flatT xs ++ flatT ys:=by simp [flatT]
  have:=hK a c w' (h3 _ _ w' ⟨fun y hy=>(List.mem_append.1 hy).elim (h0 y) (hsrc.wid y),by rw [el,ef];exact ho,rfl⟩ (fun y hy=>?_) (Chg.ofGrown hg) (fun _ f=>f))
  · rw [el] at this;exact this
  · rw [el] at hy
    rcases hat with e | e
    · exact .inl (by rw [← e];exact hy)
    · rw [hy] at e;injection e with e;exact .inr (by omega)
theorem Sep.toTab (i : Nat) {w0 w : World} {S : Nat → Prop} {M : List Res} {b : Nat} {t : TypeId} {cs : List Value} (s : Nat) (xs : List (List Int)) (h : Sep w0 S M w) (hi : M[i]? = some (blk b t cs)) (hx : ∀ x ∈ xs, x.length = s) (hc : cs = flatT xs) (hm : xs.length ≤ maxLen) :
    Sep w0 S (M.set i (tab t s (.slice (some ⟨b,0,Option.none⟩) xs.length xs.length) xs)) w:=
  h.conv i hi (fun A ⟨h1,e⟩ =>⟨hx,⟨flatT_len hx,.inr ⟨b,xs.length,cs.toArray,rfl,Nat.zero_le _,h1,Nat.le_refl _,hm,by simp [hc,flatT_len hx],by rw [List.take_of_length_le (by simp [hc,flatT_len hx])];simpa using hc⟩⟩,by rw [e];funext x;simp [Value.ownBlock,eq_comm]⟩) (fun _ f=>f)
def plcW (W : List (List Int)) (x : List Int) : Nat→Nat
  | 0=>0
  | n + 1=>if 0 < cmpW (W.getD n []) x then plcW W x n else n + 1
def insW (W : List (List Int)) (x : List Int) : List (List Int):=W.take (plcW W x W.length) ++ x :: W.drop (plcW W x W.length)
theorem plcW_le (W : List (List Int)) (x : List Int) : ∀ n,plcW W x n≤n
  | 0=>Nat.le_refl _
  | n + 1=>by
    unfold plcW
    split
    · exact Nat.le_succ_of_le (plcW_le W x n)
    · exact Nat.le_refl _
theorem insW_len (W : List (List Int)) (x : List Int) : (insW W x).length = W.length + 1:=by
  have:=plcW_le W x W.length
  simp [insW];omega
theorem put89 {bs : Nat} {W : List (List Int)} {w : World} {A : Nat → Prop} (a0 a1 a2 a3 a4 : Int) (hS : W.length ≤ 1000000) (h : Sep w A [wls bs W] w) : Calls Tryz.prog 89 [.pointer (some ⟨bs, 0, none⟩), .agg #[.int .i64 a0, .int .i64 a1, .int .i64 a2, .int .i64 a3, .int .i64 a4]].toArray w
    (RetK fun r w'=>r = .tuple #[]∧Sep w A [wls bs (insW W [a0,a1,a2,a3,a4])] w'):=by
  obtain ⟨v,h⟩ :=h.wlsOpen 0 rfl
  obtain ⟨aa,cc,rfl⟩ :=h.facts.2.1.shape
  refine walk Tryz.func89 rfl (by kernel_rfl) (by rw [Tryz.nt89];simp) ?_
  replace h:=Zd h;have F:=Zf6 h
  refine Zv ?_
  refine h.new ?_
  clear h F
  intro _ b1 h
  replace h:=Zd h;have F:=Zf6 h;refine Zc ?_
  refine walkLoop [0,3] [4] (fun m vs w'=>∃ n : Nat,n≤W.length∧m = n∧vs = [.int .i64 n]∧plcW W [a0,a1,a2,a3,a4] W.length = plcW W [a0,a1,a2,a3,a4] n∧Sep w A [blk bs 66 [.slice aa W.length cc],tab 47 5 (.slice aa W.length cc) W,blk b1 47 [.int .i64 a0,.int .i64 a1,.int .i64 a2,.int .i64 a3,.int .i64 a4]] w') (by kernel_rfl) ?_ ?_
  · refine Zv ?_
    exact ⟨_,W.length,Nat.le_refl _,rfl,rfl,rfl,h⟩
  clear h
  try clear F
  have hzero : ¬ (0 : Int) < ((0 : Nat) : Int):=by omega
  have hpos : ∀ n : Nat,(0 : Int) < ((n + 1 : Nat) : Int):=fun n=>by omega
  apply viaDraw (P:=Tryz.prog) (fun E w'=>∃ n : Nat,n≤W.length∧plcW W [a0,a1,a2,a3,a4] W.length = n∧E.get 0 = some (.pointer (some ⟨bs,0,none⟩))∧E.get 3 = some (.pointer (some ⟨b1,0,none⟩))∧E.get 4 = some (.int .i64 (n : Int))∧Sep w A [blk bs 66 [.slice aa W.length cc],tab 47 5 (.slice aa W.length cc) W,blk b1 47 [.int .i64 a0,.int .i64 a1,.int .i64 a2,.int .i64 a3,.int .i64 a4]] w')
  case a=>
    intro key ks hk m vs w3 hi
    obtain ⟨n,hi,rfl,rfl,hd,h⟩ :=hi
    replace hk:=Zk hk;subst hk
    replace h:=Zd h;have F:=Zf6 h;refine Zc ?_
    cases m with
    | zero=>
      refine walkDraw (.q 0 (.q 1 (.q 2 (.q 3 (.q 4 (.q 5 (.q 7 (.q 8 (.h 6 0 (.q 9 (.h 11 1 (.l 10 (.l 12 (.q 13 (.q 14 .fin))))))))))))))) [(bs,0,.slice aa W.length cc),(b1,0,.int .i64 a0),(b1,1,.int .i64 a1),(b1,2,.int .i64 a2),(b1,3,.int .i64 a3),(b1,4,.int .i64 a4)] (by kernel_rfl) (by simp [Holds_nil,Holds_cons,F]) ?_
      refine h.draw ?_
      clear h F
      intro _ h
      replace h:=Zd h;have F:=Zf6 h;refine Zc1 (decide_eq_false hzero) ?_
      exact key _ _ ⟨0,Nat.zero_le _,hd,rfl,rfl,rfl,h⟩
    | succ n=>
      have hil : n < W.length:=hi
      have en : IntKind.i64.wrap (((n + 1 : Nat) : Int) - 1) = (n : Int):=by rw [i64w _ (by omega) (by omega)];omega
      obtain ⟨bb,oo,e0,e1,e2,e3,e4,ea,eS,kc⟩ :=F.2.1.fiveAt hil
      obtain ⟨k0,k1,k2,k3,k4⟩ :=kc _ F.2.1
      refine walkDraw (.q 0 (.q 1 (.q 2 (.q 3 (.q 4 (.q 5 (.q 7 (.q 8 (.h 6 0 (.q 9 (.h 10 6 (.h 11 1 (.l 12 (.q 13 (.q 14 .fin))))))))))))))) [(bs,0,.slice aa W.length cc),(b1,0,.int .i64 a0),(b1,1,.int .i64 a1),(b1,2,.int .i64 a2),(b1,3,.int .i64 a3),(b1,4,.int .i64 a4),(bb,oo + n * 5,.int .i64 e0),(bb,oo + n * 5 + 1,.int .i64 e1),(bb,oo + n * 5 + 2,.int .i64 e2),(bb,oo + n * 5 + 3,.int .i64 e3),(bb,oo + n * 5 + 4,.int .i64 e4)] (by kernel_rfl) (by simp [Holds_nil,Holds_cons,F,k0,k1,k2,k3,k4]) ?_
      refine h.draw ?_
      clear h F k0 k1 k2 k3 k4
      intro _ h
      replace h:=Zd h;have F:=Zf6 h;refine Zc1 (J (decide_eq_true (hpos n)) (J en ea)) ?_
      refine ⟨by omega,?_⟩
      refine h.callp (cmpWall e0 e1 e2 e3 e4 a0 a1 a2 a3 a4 _) ?_
      clear h F
      intro _ h
      obtain ⟨k0,k1,k2,k3,k4⟩ :=kc _ h.facts.2.1
      have ep : plcW W [a0,a1,a2,a3,a4] (n + 1) = if 0 < cmpW [e0,e1,e2,e3,e4] [a0,a1,a2,a3,a4] then plcW W [a0,a1,a2,a3,a4] n else n + 1:=by rw [plcW,eS]
      by_cases hc : 0 < cmpW [e0,e1,e2,e3,e4] [a0,a1,a2,a3,a4]
      · rw [if_pos hc] at ep
        replace h:=Zd h;have F:=Zf6 h;refine Zc1 (J k0 (J k1 (J k2 (J k3 (J k4 (J (decide_eq_true hc) en)))))) ?_
        exact ⟨n,Nat.lt_succ_self n,n,by omega,rfl,rfl,hd.trans ep,h⟩
      · rw [if_neg hc] at ep
        replace h:=Zd h;have F:=Zf6 h;refine Zc1 (J k0 (J k1 (J k2 (J k3 (J k4 (J (decide_eq_false hc) en)))))) ?_
        exact key _ _ ⟨n + 1,hi,hd.trans ep,rfl,rfl,rfl,h⟩
  case b=>
    rintro E w' ⟨n,hn,hp,g0,g3,g4,h⟩
    replace h:=Zd h;have F:=Zf6 h
    refine walkDrawE (.q 0 (.q 2 (.q 3 (.q 4 (.q 6 (.q 12 (.q 13 (.q 14 (.q 16 (.h 5 0 (.q 7 (.h 9 1 (.h 15 0 (.q 17 (.ll 1 (.ll 8 (.l 10 (.l 11 (.l 18 (.l 19 (.q 20 .fin))))) 10 (.l 8 (.l 11 (.l 18 (.l 19 (.q 20 .fin)))))) 10 (.l 1 (.l 8 (.l 11 (.l 18 (.l 19 (.q 20 .fin))))))))))))))))))))) 21 [(bs,0,.slice aa W.length cc),(b1,0,.int .i64 a0),(b1,1,.int .i64 a1),(b1,2,.int .i64 a2),(b1,3,.int .i64 a3),(b1,4,.int .i64 a4)] (by kernel_rfl) (by simp [Holds_nil,Holds_cons,F]) ?_
    refine h.draw ?_
    clear h F
    intro _ h
    have hcap : W.length≤cc:=by
      obtain ⟨a',c',e,h1,_⟩ :=h.facts.2.1.row.shape
      injection e with e1 e2 e3
      subst e3
      exact h1
    replace h:=Zd h;have F:=Zf6 h;refine Zc1 (J g0 (J g3 g4)) ?_
    have eI : W.take n ++ [[a0,a1,a2,a3,a4]] ++ W.drop n = insW W [a0,a1,a2,a3,a4]:=by rw [insW,hp,List.append_assoc];rfl
    have s1 : ∀ w',Tab 5 w' (.slice aa W.length cc) W→Tab 5 w' (.slice (cutA aa cc 0 5) n cc) (W.take n):=fun w' hw=>by
      have:=hw.cut (l:=0) (m:=n) (Nat.zero_le _) hn
      rwa [Nat.sub_zero,Nat.sub_zero,List.drop_zero] at this
    have s2 : ∀ w',Tab 5 w' (.slice aa W.length cc) W→Tab 5 w' (.slice (cutA aa cc n 5) (W.length - n) (cc - n)) (W.drop n):=fun w' hw=>by
      have:=hw.cut (l:=n) (m:=W.length) hn (Nat.le_refl _)
      rwa [List.take_of_length_le (by simp)] at this
    refine ⟨⟨by omega,by omega⟩,⟨by omega,by omega⟩,?_,?_⟩
    · refine h.new ?_
      clear h F
      intro _ b2 h
      replace h:=Zd h;have F:=Zf6 h;refine Zc ?_
      refine ⟨?_,?_⟩
      · refine Sep.appTabs 3 infoW Tryz.underlying25 rfl (by decide) (W.take n) (h.toTab 3 5 [] rfl (fun _ h=>by cases h) rfl (by decide)) rfl (s1 _ h.facts.2.1) (by simp;omega) (by simp [maxLen];omega) ?_
        clear h F
        intro a5 c5 w5 h
        replace h:=Zd h;have F:=Zf6 h;refine Zc ?_
        refine h.new ?_
        clear h F
        intro _ b3 h
        replace h:=Zd h;have F:=Zf6 h;refine Zc ?_
        refine Sep.appTab 3 4 infoW Tryz.underlying25 rfl (by decide) [a0,a1,a2,a3,a4] h rfl rfl rfl (by simp;omega) (by simp [maxLen];omega) ?_
        clear h F
        intro a6 c6 w6 h
        replace h:=Zd h;have F:=Zf6 h;refine Zc ?_
        refine Sep.appTabs 3 infoW Tryz.underlying25 rfl (by decide) (W.drop n) h rfl (s2 _ h.facts.2.1) (by simp;omega) (by simp [maxLen];omega) ?_
        clear h F
        intro a7 c7 w7 h
        replace h:=Zd h;have F:=Zf6 h;refine Zc1 g0 ?_
        refine h.put 0 rfl fun w8 h=>?_
        exact eI▸((((h.wlsShut 0 3 rfl rfl).erase 1).erase 1).erase 1).erase 1
      · refine h.new ?_
        clear h F
        intro _ b3 h
        replace h:=Zd h;have F:=Zf6 h;refine Zc ?_
        refine Sep.appTabs 3 infoW Tryz.underlying25 rfl (by decide) (W.take n) (h.toTab 3 5 [] rfl (fun _ h=>by cases h) rfl (by decide)) rfl (s1 _ h.facts.2.1) (by simp;omega) (by simp [maxLen];omega) ?_
        clear h F
        intro a5 c5 w5 h
        replace h:=Zd h;have F:=Zf6 h;refine Zc ?_
        refine Sep.appTab 3 4 infoW Tryz.underlying25 rfl (by decide) [a0,a1,a2,a3,a4] h rfl rfl rfl (by simp;omega) (by simp [maxLen];omega) ?_
        clear h F
        intro a6 c6 w6 h
        replace h:=Zd h;have F:=Zf6 h;refine Zc ?_
        refine Sep.appTabs 3 infoW Tryz.underlying25 rfl (by decide) (W.drop n) h rfl (s2 _ h.facts.2.1) (by simp;omega) (by simp [maxLen];omega) ?_
        clear h F
        intro a7 c7 w7 h
        replace h:=Zd h;have F:=Zf6 h;refine Zc1 g0 ?_
        refine h.put 0 rfl fun w8 h=>?_
        exact eI▸((((h.wlsShut 0 3 rfl rfl).erase 1).erase 1).erase 1).erase 1
    · refine h.new ?_
      clear h F
      intro _ b3 h
      replace h:=Zd h;have F:=Zf6 h;refine Zc ?_
      refine h.new ?_
      clear h F
      intro _ b2 h
      replace h:=Zd h;have F:=Zf6 h;refine Zc ?_
      refine Sep.appTabs 4 infoW Tryz.underlying25 rfl (by decide) (W.take n) (h.toTab 4 5 [] rfl (fun _ h=>by cases h) rfl (by decide)) rfl (s1 _ h.facts.2.1) (by simp;omega) (by simp [maxLen];omega) ?_
      clear h F
      intro a5 c5 w5 h
      replace h:=Zd h;have F:=Zf6 h;refine Zc ?_
      refine Sep.appTab 4 3 infoW Tryz.underlying25 rfl (by decide) [a0,a1,a2,a3,a4] h rfl rfl rfl (by simp;omega) (by simp [maxLen];omega) ?_
      clear h F
      intro a6 c6 w6 h
      replace h:=Zd h;have F:=Zf6 h;refine Zc ?_
      refine Sep.appTabs 4 infoW Tryz.underlying25 rfl (by decide) (W.drop n) h rfl (s2 _ h.facts.2.1) (by simp;omega) (by simp [maxLen];omega) ?_
      clear h F
      intro a7 c7 w7 h
      replace h:=Zd h;have F:=Zf6 h;refine Zc1 g0 ?_
      refine h.put 0 rfl fun w8 h=>?_
      exact eI▸((((h.wlsShut 0 4 rfl rfl).erase 1).erase 1).erase 1).erase 1
def isR (m1 m2 x : List Int) : Bool:=decide ([x.getD 0 0,x.getD 1 0] = m1) && decide ([x.getD 2 0,x.getD 3 0] = m2)
def rmW (m1 m2 : List Int) : List (List Int)→Option (List (List Int))
  | []=>none
  | x :: W=>if isR m1 m2 x = true then some W else (rmW m1 m2 W).map (x :: ·)
theorem rmW_hit {m1 m2 : List Int} {W : List (List Int)} {i : Nat} (hi : i < W.length) (h : isR m1 m2 W[i] = true) (hd : rmW m1 m2 W = (rmW m1 m2 (W.drop i)).map (W.take i ++ ·)) : rmW m1 m2 W = some (W.take i ++ W.drop (i + 1)):=by
  rw [hd,List.drop_eq_getElem_cons hi,rmW,if_pos h];rfl
theorem rmW_miss {m1 m2 : List Int} {W : List (List Int)} {i : Nat} (hi : i < W.length) (h : isR m1 m2 W[i] = false) (hd : rmW m1 m2 W = (rmW m1 m2 (W.drop i)).map (W.take i ++ ·)) : rmW m1 m2 W = (rmW m1 m2 (W.drop (i + 1))).map (W.take (i + 1) ++ ·):=by
  rw [hd,List.drop_eq_getElem_cons hi,rmW,if_neg (by rw [h];simp)]
  cases rmW m1 m2 (W.drop (i + 1)) with
  | none=>rfl
  | some V=>exact congrArg some (by rw [List.take_add_one,List.getElem?_eq_getElem hi];exact (List.append_assoc _ [W[i]] V).symm)
theorem ptMin_two (x y x' y' : Int) : ∃ p q,ptMin x y x' y' = [p,q]:=by unfold ptMin;split<;>exact ⟨_,_,rfl⟩
theorem ptMax_two (x y x' y' : Int) : ∃ p q,ptMax x y x' y' = [p,q]:=by unfold ptMax;split<;>exact ⟨_,_,rfl⟩
theorem remove114 {bs : Nat} {W : List (List Int)} {w : World} {A : Nat → Prop} (ax ay bx by' : Int) (hS : W.length ≤ 1000000) (h : Sep w A [wls bs W] w) : Calls Tryz.prog 114 [.pointer (some ⟨bs, 0, none⟩), .agg #[.int .i64 ax, .int .i64 ay], .agg #[.int .i64 bx, .int .i64 by']].toArray w
    (RetK fun r w'=>r = .int .i64 (if (rmW (ptMin ax ay bx by') (ptMax ax ay bx by') W).isSome then 0 else 16)∧Sep w A [wls bs ((rmW (ptMin ax ay bx by') (ptMax ax ay bx by') W).getD W)] w'):=by
  obtain ⟨v,h⟩ :=h.wlsOpen 0 rfl
  obtain ⟨aa,cc,rfl⟩ :=h.facts.2.1.shape
  have km:=lesser103 ax ay bx by'
  have kM:=greater104 ax ay bx by'
  obtain ⟨p,q,e1⟩ :=ptMin_two ax ay bx by'
  obtain ⟨p',q',e2⟩ :=ptMax_two ax ay bx by'
  rw [e1] at km ⊢
  rw [e2] at kM ⊢
  refine walk Tryz.func114 rfl (by kernel_rfl) (by rw [Tryz.nt114];simp) ?_
  replace h:=Zd h;have F:=Zf6 h
  refine Zv ?_
  refine h.new ?_
  clear h F
  intro _ b1 h
  replace h:=Zd h;have F:=Zf6 h;refine Zc ?_
  refine h.new ?_
  clear h F
  intro _ b2 h
  replace h:=Zd h;have F:=Zf6 h;refine Zc ?_
  refine walkLoop [0,4,5] [7] (fun m vs w'=>∃ i : Nat,i≤W.length∧m = W.length - i∧vs = [.int .i64 i]∧rmW [p,q] [p',q'] W = (rmW [p,q] [p',q'] (W.drop i)).map (W.take i ++ ·)∧Sep w A [blk bs 66 [.slice aa W.length cc],tab 47 5 (.slice aa W.length cc) W,blk b1 45 [.int .i64 ax,.int .i64 ay],blk b2 45 [.int .i64 bx,.int .i64 by']] w') (by kernel_rfl) ?_ ?_
  · refine Zv ?_
    exact ⟨_,0,Nat.zero_le _,rfl,rfl,by cases e : rmW [p,q] [p',q'] W<;>simp [e],h⟩
  clear h
  try clear F
  intro ks hk m vs w3 hi
  obtain ⟨i,hi,rfl,rfl,hd,h⟩ :=hi
  replace hk:=Zk hk;subst hk
  by_cases hlt : (i : Int) < W.length
  case neg=>
    have e0 : W.drop i = []:=List.drop_eq_nil_of_le (by omega)
    rw [e0] at hd
    replace h:=Zd h;have F:=Zf6 h;refine Zc1 (decide_eq_false hlt) ?_
    rw [hd]
    exact ⟨rfl,(((h.wlsShut 0 1 rfl rfl).erase 1).erase 1).erase 1⟩
  have hil : i < W.length:=by omega
  have ei : IntKind.i64.wrap ((i : Int) + 1) = ((i + 1 : Nat) : Int):=by rw [i64w _ (by omega) (by omega)];omega
  obtain ⟨bb,oo,e0,e1',e2',e3,e4,rfl,eS,kc⟩ :=h.facts.2.1.fiveAt hil
  replace h:=Zd h;have F:=Zf6 h;refine Zc1 (decide_eq_true hlt) ?_
  obtain ⟨k0,k1,k2,k3,k4⟩ :=kc _ F.2.1
  refine walkDraw (.q 0 (.q 1 (.q 2 (.q 4 (.h 3 0 (.q 5 (.q 6 (.h 7 5 (.h 8 1 (.h 9 3 (.l 10 (.q 11 (.q 12 (.q 13 (.q 14 (.q 15 (.q 17 (.h 16 0 (.q 18 (.q 19 (.h 20 9 (.h 21 1 (.h 22 3 (.l 23 (.q 24 (.q 25 .fin)))))))))))))))))))))))))) [(bs,0,.slice (some ⟨bb,oo,none⟩) W.length cc),(b1,0,.int .i64 ax),(b1,1,.int .i64 ay),(b2,0,.int .i64 bx),(b2,1,.int .i64 by'),(bb,oo + i * 5,.int .i64 e0),(bb,oo + i * 5 + 1,.int .i64 e1'),(bb,oo + i * 5,.int .i64 e0),(bb,oo + i * 5 + 1,.int .i64 e1'),(bb,oo + i * 5 + 2,.int .i64 e2'),(bb,oo + i * 5 + 3,.int .i64 e3)] (by kernel_rfl) (by simp [Holds_nil,Holds_cons,F,k0,k1,k2,k3,k4]) ?_
  refine h.draw ?_
  clear h F k0 k1 k2 k3 k4
  intro _ h
  have eW : W[i] = [e0,e1',e2',e3,e4]:=by rw [List.getD_eq_getElem?_getD,List.getElem?_eq_getElem hil] at eS;exact eS
  have miss : isR [p,q] [p',q'] [e0,e1',e2',e3,e4] = false→rmW [p,q] [p',q'] W = (rmW [p,q] [p',q'] (W.drop (i + 1))).map (W.take (i + 1) ++ ·):=fun g=>rmW_miss hil (eW▸g) hd
  replace h:=Zd h;have F:=Zf6 h;refine Zc ?_
  refine ⟨by omega,?_⟩
  refine Sep.callp h (km _) ?_
  clear h F
  intro _ h
  obtain ⟨k0,k1,k2,k3,k4⟩ :=kc _ h.facts.2.1
  replace h:=Zd h;have F:=Zf6 h;refine Zc1 (J k0 (J k1 (J k2 (J k3 (J k4 (@cellsI.eq_1)))))) ?_
  refine binK_eql_agg (by kernel_rfl) (fun w=>seqPt (d:=9998) e0 e1' p q w) ?_
  cases q1d : decide ([e0,e1'] = [p,q]) with
  | false=>
    have q1:=of_decide_eq_false q1d
    replace h:=Zd h;have F:=Zf6 h;refine Zc1 (J (decide_eq_false q1) ei) ?_
    exact ⟨_,by omega,i + 1,by omega,rfl,rfl,miss (by unfold isR;rw [show decide ([[e0,e1',e2',e3,e4].getD 0 0,[e0,e1',e2',e3,e4].getD 1 0] = [p,q]) = false from decide_eq_false q1];rfl),h⟩
  | true=>
  have q1:=of_decide_eq_true q1d
  replace h:=Zd h;have F:=Zf6 h;refine Zc1 (J (decide_eq_true q1) ei) ?_
  refine ⟨by omega,?_⟩
  refine Sep.callp h (kM _) ?_
  clear h F
  intro _ h
  obtain ⟨k0,k1,k2,k3,k4⟩ :=kc _ h.facts.2.1
  replace h:=Zd h;have F:=Zf6 h;refine Zc1 (J k0 (J k1 (J k2 (J k3 (J k4 (@cellsI.eq_1)))))) ?_
  refine binK_eql_agg (by kernel_rfl) (fun w=>seqPt (d:=9998) e2' e3 p' q' w) ?_
  cases q2d : decide ([e2',e3] = [p',q']) with
  | false=>
    have q2:=of_decide_eq_false q2d
    replace h:=Zd h;have F:=Zf6 h;refine Zc1 (J (decide_eq_false q2) ei) ?_
    exact ⟨_,by omega,i + 1,by omega,rfl,rfl,miss (by unfold isR;rw [show decide ([[e0,e1',e2',e3,e4].getD 2 0,[e0,e1',e2',e3,e4].getD 3 0] = [p',q']) = false from decide_eq_false q2];simp),h⟩
  | true=>
  have q2:=of_decide_eq_true q2d
  replace h:=Zd h;have F:=Zf6 h;refine Zc1 (J (decide_eq_true q2) ei) ?_
  have hit:=rmW_hit hil (eW▸(by unfold isR;rw [show decide ([[e0,e1',e2',e3,e4].getD 0 0,[e0,e1',e2',e3,e4].getD 1 0] = [p,q]) = true from decide_eq_true q1,show decide ([[e0,e1',e2',e3,e4].getD 2 0,[e0,e1',e2',e3,e4].getD 3 0] = [p',q']) = true from decide_eq_true q2];rfl : isR [p,q] [p',q'] [e0,e1',e2',e3,e4] = true)) hd
  have hcap : W.length≤cc:=by
    obtain ⟨a',c',e,h1,_⟩ :=h.facts.2.1.row.shape
    injection e with e1 e2 e3
    subst e3
    exact h1
  generalize some (⟨bb,oo,none⟩ : Addr) = aa at *
  have s1 : ∀ w',Tab 5 w' (.slice aa W.length cc) W→Tab 5 w' (.slice (cutA aa cc 0 5) i cc) (W.take i):=fun w' hw=>by
    have:=hw.cut (l:=0) (m:=i) (Nat.zero_le _) (by omega)
    rwa [Nat.sub_zero,Nat.sub_zero,List.drop_zero] at this
  have s2 : ∀ w',Tab 5 w' (.slice aa W.length cc) W→Tab 5 w' (.slice (cutA aa cc (i + 1) 5) (W.length - (i + 1)) (cc - (i + 1))) (W.drop (i + 1)):=fun w' hw=>by
    have:=hw.cut (l:=i + 1) (m:=W.length) hil (Nat.le_refl _)
    rwa [List.take_of_length_le (by simp)] at this
  refine walkDrawE (.q 0 (.q 2 (.q 3 (.q 4 (.q 6 (.q 9 (.q 10 (.q 11 (.q 13 (.q 14 (.h 5 0 (.q 7 (.h 12 0 (.q 15 (.l 1 (.l 8 (.l 16 (.l 17 (.q 18 .fin))))))))))))))))))) 19 [(bs,0,.slice aa W.length cc)] (by kernel_rfl) (by simp [Holds_nil,Holds_cons,F]) ?_
  refine h.draw ?_
  clear h F
  intro _ h
  replace h:=Zd h;have F:=Zf6 h;refine Zc1 ei ?_
  refine ⟨⟨by omega,by omega⟩,⟨by omega,by omega⟩,?_⟩
  refine h.new ?_
  clear h F
  intro _ b3 h
  replace h:=Zd h;have F:=Zf6 h;refine Zc1 ei ?_
  refine Sep.appTabs 4 infoW Tryz.underlying25 rfl (by decide) (W.take i) (h.toTab 4 5 [] rfl (fun _ h=>by cases h) rfl (by decide)) rfl (s1 _ h.facts.2.1) (by simp;omega) (by simp [maxLen];omega) ?_
  clear h F
  intro a5 c5 w5 h
  replace h:=Zd h;have F:=Zf6 h;refine Zc1 ei ?_
  refine Sep.appTabs 4 infoW Tryz.underlying25 rfl (by decide) (W.drop (i + 1)) h rfl (s2 _ h.facts.2.1) (by simp;omega) (by simp [maxLen];omega) ?_
  clear h F
  intro a6 c6 w6 h
  replace h:=Zd h;have F:=Zf6 h;refine Zc1 ei ?_
  refine Sep.put 0 h rfl ?_
  clear h F
  intro _ h
  replace h:=Zd h;have F:=Zf6 h;refine Zc1 ei ?_
  rw [hit]
  exact ⟨rfl,(((h.wlsShut 0 4 rfl rfl).erase 1).erase 1).erase 1 |>.erase 1⟩
theorem Sep.c10 (i : Nat) {P : Program} {f : FuncId} {args : Array Value} {w0 w : World} {S : Nat → Prop} {M : List Res} {r r' : Res} {x : Value} {K : Value → World → Prop} (h : Sep w0 S M w) (hi : M[i]? = some r)
    (hc : ∀ A,Sep w A [r] w→Calls P f args w (RetK fun v w'=>v = x∧Sep w A [r'] w')) (hr : ∀ y,¬ r'.rd y) (hk : ∀ w1,Sep w0 S (M.set i r') w1→K x w1) : callsK P f args w K:=by
  refine h.call1 i (Q:=fun v t N=>v = x∧t = r'∧N = []) hi (fun A _ k=>(hc A k).mono fun e w' ⟨v,er,ev,k⟩ =>⟨v,er,r',[],k,fun y hy=>(hr y hy).elim,fun _ hq=>(by cases hq),ev,rfl,rfl⟩) ?_
  rintro v _ _ w1 ⟨rfl,rfl,rfl⟩ k
  rw [List.append_nil] at k
  exact hk _ k
theorem Sep.c1t (i : Nat) {P : Program} {f : FuncId} {args : Array Value} {w0 w : World} {S : Nat → Prop} {M : List Res} {r : Res} {n e s : Nat} {xs : List (List Int)} {K : Value → World → Prop} (h : Sep w0 S M w) (hi : M[i]? = some r)
    (hc : ∀ A,Sep w A [r] w→Calls P f args w (RetK fun v w'=>∃ a c,v = .slice a n c∧Sep w A [r,tab e s v xs] w')) (hr : ∀ y,¬ r.rd y) (hk : ∀ a c w1,Sep w0 S (M ++ [tab e s (.slice a n c) xs]) w1→K (.slice a n c) w1) : callsK P f args w K:=by
  refine h.call1 i (Q:=fun v t N=>∃ a c,v = .slice a n c∧t = r∧N = [tab e s v xs]) hi (fun A _ k=>(hc A k).mono fun ex w' ⟨v,er,a,c,ev,k⟩ =>⟨v,er,r,_,k,fun y hy=>(hr y hy).elim,fun q hq x hx=>(by simp at hq;subst hq;exact hx),a,c,ev,rfl,rfl⟩) ?_
  rintro v _ _ w1 ⟨a,c,rfl,rfl,rfl⟩ k
  obtain ⟨hl,e'⟩ :=List.getElem?_eq_some_iff.1 hi
  rw [← e',List.set_getElem_self] at k
  exact hk _ _ _ k
theorem Tab.sixAt {n c i : Nat} {aa : Option Addr} {L : List T3} (hi : i < L.length) {w0 : World} (h0 : Tab 6 w0 (.slice aa n c) (rowsT L)) : ∃ b o, aa = some ⟨b, o, Option.none⟩ ∧ ∀ w, Tab 6 w (.slice aa n c) (rowsT L) →
    (w.cell? ⟨b,o + i * 6,Option.none⟩ = some (.int .i64 L[i].ax)∧w.cell? ⟨b,o + i * 6 + 1,Option.none⟩ = some (.int .i64 L[i].ay)∧w.cell? ⟨b,o + i * 6 + 2,Option.none⟩ = some (.int .i64 L[i].bx)∧w.cell? ⟨b,o + i * 6 + 3,Option.none⟩ = some (.int .i64 L[i].by')∧w.cell? ⟨b,o + i * 6 + 4,Option.none⟩ = some (.int .i64 L[i].cx)∧w.cell? ⟨b,o + i * 6 + 5,Option.none⟩ = some (.int .i64 L[i].cy)):=by
  have hi' : i < (rowsT L).length:=by simpa using hi
  have e : (rowsT L)[i] = L[i].row:=by simp
  obtain ⟨b,o,rfl,_⟩ :=h0.at hi' (by decide)
  refine ⟨b,o,rfl,fun w hw=>?_⟩
  obtain ⟨b',o',eb,hc⟩ :=hw.at hi' (by decide)
  injection eb with eb
  injection eb with e1 e2
  subst e1 e2
  rw [e] at hc
  have k:=fun (j : Nat) (hj : j < 6)=>Tab.cell (x:=L[i].row) (j:=j) hc (by simpa [T3.row] using hj)
  exact ⟨k 0 (by decide),k 1 (by decide),k 2 (by decide),k 3 (by decide),k 4 (by decide),k 5 (by decide)⟩
def newE : List T3→MeshE→Option MeshE
  | [],E=>some E
  | t :: L,E=>if (t.valid && putOk E t) = true then newE L (putE E t) else none
theorem new_hit {L : List T3} {E : MeshE} {i : Nat} (hi : i < L.length) (h1 : L[i].valid = true) (h2 : putOk E L[i] = true) : newE (L.drop i) E = newE (L.drop (i + 1)) (putE E L[i]):=by
  rw [List.drop_eq_getElem_cons hi,newE,h1,h2];rfl
theorem new_miss {L : List T3} {E : MeshE} {i : Nat} (hi : i < L.length) (h : (L[i].valid && putOk E L[i]) = false) : newE (L.drop i) E = none:=by
  rw [List.drop_eq_getElem_cons hi,newE,h];rfl
theorem new87 {w : World} {v : Value} (L : List T3) (hL : L.length ≤ 1000000) (hv : Tab 6 w v (rowsT L)) : Calls Tryz.prog 87 [v].toArray w
    (RetK fun r w'=>match newE L [] with | some E=>∃ bm,r = .pointer (some ⟨bm,0,none⟩)∧Sep w (fun _=>False) [msh bm E] w' | none=>r = .pointer none∧Sep w (fun _=>False) [] w'):=by
  obtain ⟨aa,cc,rfl⟩ :=hv.shape
  have h:=Sep.nil w
  refine walk Tryz.func87 rfl (by kernel_rfl) (by rw [Tryz.nt87];simp) ?_
  replace h:=Zd h;have F:=Zf6 h
  refine Zv ?_
  refine Sep.mapNew h ?_
  clear h F
  intro b1 w1 h
  replace h:=Zd h;have F:=Zf6 h;refine Zc ?_
  refine h.new ?_
  clear h F
  intro _ b2 h
  replace h:=Zd h;have F:=Zf6 h;refine Zc ?_
  have h:=h.mshShut (E:=[]) 1 0 rfl rfl (fun _ hp=>by cases hp) |>.erase 0
  refine walkLoop [0,3] [4] (fun m vs w'=>∃ (i : Nat) (E : MeshE),i≤L.length∧m = L.length - i∧vs = [.int .i64 i]∧newE L [] = newE (L.drop i) E∧Sep w (fun _=>False) [msh b2 E] w') (by kernel_rfl) ?_ ?_
  · refine Zv ?_
    exact ⟨_,0,[],Nat.zero_le _,rfl,rfl,rfl,h⟩
  clear h
  try clear F
  intro ks hk m vs w3 hi
  obtain ⟨i,E,hi,rfl,rfl,hd,h⟩ :=hi
  replace hk:=Zk hk;subst hk
  rw [List.length_map] at *
  by_cases hlt : (i : Int) < L.length
  case neg=>
    have e0 : L.drop i = []:=List.drop_eq_nil_of_le (by omega)
    rw [e0] at hd
    replace h:=Zd h;have F:=Zf6 h;refine Zc1 (decide_eq_false hlt) ?_
    rw [hd]
    exact ⟨_,rfl,h⟩
  have hil : i < L.length:=by omega
  have ei : IntKind.i64.wrap ((i : Int) + 1) = ((i + 1 : Nat) : Int):=by rw [i64w _ (by omega) (by omega)];omega
  obtain ⟨bb,oo,rfl,kc⟩ :=hv.sixAt hil
  obtain ⟨k0,k1,k2,k3,k4,k5⟩ :=kc _ (hv.sep h fun _ _ f=>f)
  replace h:=Zd h;have F:=Zf6 h;refine Zc1 (J (decide_eq_true hlt) (J k0 (J k1 (J k2 (J k3 (J k4 k5)))))) ?_
  refine ⟨by omega,?_⟩
  refine Sep.callp h (validTri L[i] _) ?_
  clear h F
  intro _ h
  replace h:=Zd h;have F:=Zf6 h;refine Zc ?_
  cases v1 : L[i].valid with
  | false=>
    replace h:=Zd h;have F:=Zf6 h;refine Zc1 v1 ?_
    (rw [hd,new_miss hil (by rw [v1];rfl)];exact h.erase 0)
  | true=>
  replace h:=Zd h;have F:=Zf6 h;refine Zc1 v1 ?_
  obtain ⟨k0,k1,k2,k3,k4,k5⟩ :=kc _ (hv.sep h fun _ _ f=>f)
  replace h:=Zd h;have F:=Zf6 h;refine Zc1 (J k0 (J k1 (J k2 (J k3 (J k4 k5))))) ?_
  refine ⟨by omega,?_⟩
  refine Sep.c10 0 (x:=.bool (putOk E L[i])) (r':=msh b2 (putE E L[i])) h rfl (fun A k=>put101 L[i] k) (fun _ f=>f) ?_
  clear h F
  intro w5 h
  replace h:=Zd h;have F:=Zf6 h;refine Zc ?_
  cases v2 : putOk E L[i] with
  | false=>
    replace h:=Zd h;have F:=Zf6 h;refine Zc1 v2 ?_
    (rw [hd,new_miss hil (by rw [v1,v2];rfl)];exact h.erase 0)
  | true=>
  replace h:=Zd h;have F:=Zf6 h;refine Zc1 v2 ?_
  replace h:=Zd h;have F:=Zf6 h;refine Zc1 ei ?_
  exact ⟨_,by omega,i + 1,putE E L[i],by omega,rfl,rfl,hd.trans (new_hit hil v1 v2),h⟩
end Go.Proofs.YtnhgjgoglmadnaaGreat
