/- Joined texts of this claim (part 34), printed by a program of this work. The last part holds the claimed theorem: the law answers true at every input of its row. -/
import Derived.Test.YtnhgjgoglmadnaaGreatSPFieldsG
set_option maxHeartbeats 4000000
namespace Go.Proofs.YtnhgjgoglmadnaaGreat
open Go.RowKit
set_option maxRecDepth 100000
set_option linter.unusedSimpArgs false
set_option linter.unusedVariables false
def cdtR (bc : Nat) (x y : Int) (E : MeshE) (W : List (List Int)) (bm bs : Nat) : Res:=two (blk bc 62 [.int .i64 x,.int .i64 y,.pointer (some ⟨bm,0,none⟩),.pointer (some ⟨bs,0,none⟩)]) (two (msh bm E) (wls bs W))
def cdt (bc : Nat) (x y : Int) (E : MeshE) (W : List (List Int)) : Res where
  on w A:=∃ bm bs,(cdtR bc x y E W bm bs).on w A
  rd _:=False
  fact w:=∃ bm bs,(cdtR bc x y E W bm bs).fact w
  lt:=fun ⟨bm,bs,h⟩ x hx=>(cdtR _ _ _ _ _ bm bs).lt h x hx
  chg:=fun {w w' A} ⟨bm,bs,h⟩ hs hc=>⟨bm,bs,(cdtR _ _ _ _ _ bm bs).chg h hs fun x hx k=>hc x hx (k.elim .inl fun f=>(f.elim id fun f=>f.elim id id).elim)⟩
  ok:=fun ⟨bm,bs,h⟩ =>⟨bm,bs,(cdtR _ _ _ _ _ bm bs).ok h⟩
theorem Sep.cdtOpen {bc : Nat} {x y : Int} {E : MeshE} {W : List (List Int)} {w0 w : World} {S : Nat→Prop} (h : Sep w0 S [cdt bc x y E W] w) : ∃ bm bs,Sep w0 S [blk bc 62 [.int .i64 x,.int .i64 y,.pointer (some ⟨bm,0,Option.none⟩),.pointer (some ⟨bs,0,Option.none⟩)],msh bm E,wls bs W] w:=by
  obtain ⟨A,⟨bm,bs,on⟩,_,k⟩ :=h.at (i:=0) rfl
  have h1 : Sep w0 S [cdtR bc x y E W bm bs] w:=k (cdtR bc x y E W bm bs) A w on (fun x hx=>.inl hx) (Chg.refl _ _) (fun x f=>(f.elim id fun f=>f.elim id id).elim)
  have h2:=Sep.open2 h1
  exact ⟨bm,bs,Sep.untwo 1 2 h2.emp rfl rfl (by decide)⟩
theorem Sep.cdtShut {bc bm bs : Nat} {x y : Int} {E : MeshE} {W : List (List Int)} {w0 w : World} {S : Nat→Prop} {N : List Res} (h : Sep w0 S (blk bc 62 [.int .i64 x,.int .i64 y,.pointer (some ⟨bm,0,Option.none⟩),.pointer (some ⟨bs,0,Option.none⟩)] :: msh bm E :: wls bs W :: N) w) : Sep w0 S (cdt bc x y E W :: N) w:=by
  have h1:=(h.two 1 2 rfl rfl).two 0 1 rfl rfl
  have h2:=h1.conv 0 (r':=cdt bc x y E W) rfl (fun A on=>⟨bm,bs,on⟩) (fun _ f=>f.elim)
  exact (h2.erase 1).erase 1
theorem splitW_len (W : List (List Int)) (x y : Int) : (splitW W x y).length≤W.length + 2:=by
  unfold splitW
  split
  · omega
  · rw [insW_len,insW_len]
    exact Nat.add_le_add_right (rmW_len _ _ W) 2
theorem addW_len (E : MeshE) (W : List (List Int)) (x y : Int) : (addW E W x y).length≤W.length + 2:=by
  unfold addW
  split
  · exact splitW_len W x y
  · omega
theorem cAddPoint74 {w : World} {A : Nat → Prop} {bc : Nat} {wx wy : Int} {E : MeshE} {W : List (List Int)} {I : MeshE → Prop} {Φ : MeshE → Nat} (R : ∀ W, Rep1 W I Φ) (x y : Int) (hE : E.length ≤ 1000000) (h0 : addC E x y ≠ 0 → I E) (h1 : addC E x y = 0 → I (addE E x y)) (hW : W.length ≤ 900000) (h : Sep w A [cdt bc wx wy E W] w) : Calls Tryz.prog 74 [.pointer (some ⟨bc, 0, none⟩), .agg #[.int .i64 x, .int .i64 y]].toArray w
    (RetK fun r w'=>r = .int .i64 (addC E x y)∧∃ E',I E'∧Sep w A [cdt bc wx wy E' (addW E W x y)] w'):=by
  obtain ⟨bm,bs,h⟩ :=h.cdtOpen
  have hl:=addW_len E W x y
  refine walk Tryz.func74 rfl (by kernel_rfl) (by rw [Tryz.nt74];simp) ?_
  replace h:=Zd h;have F:=Zf6 h
  refine Zv ?_
  refine h.new ?_
  clear h F
  intro _ b1 h
  replace h:=Zd h;have F:=Zf6 h;refine Zc ?_
  refine walkDraw (.q 0 (.q 1 (.q 2 (.q 4 (.q 5 (.q 6 (.h 3 2 (.h 7 3 (.h 8 4 (.l 9 (.q 10 .fin))))))))))) [(bc,0,.int .i64 wx),(bc,1,.int .i64 wy),(bc,2,.pointer (some ⟨bm,0,none⟩)),(bc,3,.pointer (some ⟨bs,0,none⟩)),(b1,0,.int .i64 x),(b1,1,.int .i64 y)] (by kernel_rfl) (by simp [Holds_nil,Holds_cons,F]) ?_
  refine h.draw ?_
  clear h F
  intro _ h
  replace h:=Zd h;have F:=Zf6 h;refine Zc ?_
  refine h.call2 1 2 (Q:=fun v r' q' N=>v = .int .i64 (addC E x y)∧r' = msh bm (addE E x y)∧q' = wls bs (addW E W x y)∧N = []) rfl rfl (by decide) (fun A _ k=>(addPoint91 x y hE hW k).mono fun ex w' ⟨v,er,ev,k⟩ =>⟨v,er,_,_,[],k,fun _ f=>f,fun _ f=>f,fun q hq=>(by cases hq),ev,rfl,rfl,rfl⟩) ?_
  clear h F
  rintro _ _ _ _ w3 ⟨rfl,rfl,rfl,rfl⟩ h
  replace h:=Zd h;have F:=Zf6 h;refine Zc ?_
  by_cases g1 : addC E x y = 0
  case neg=>
    rw [show addE E x y = E from if_neg g1] at h
    generalize hz : decide (addC E x y = 0) = z
    obtain rfl : z = false:=hz.symm.trans (decide_eq_false g1)
    clear hz
    replace h:=Zd h;have F:=Zf6 h;refine Zc ?_
    exact ⟨E,h0 g1,(h.cdtShut).erase 1⟩
  have hI:=h1 g1
  generalize hz : decide (addC E x y = 0) = z
  obtain rfl : z = true:=hz.symm.trans (decide_eq_true g1)
  clear hz
  replace h:=Zd h;have F:=Zf6 h;refine Zc ?_
  generalize addE E x y = E1 at *
  generalize addW E W x y = W1 at *
  refine walkDraw (.q 0 (.q 1 (.q 2 (.q 4 (.q 5 (.q 6 (.h 3 2 (.h 7 3 (.l 8 .fin))))))))) [(bc,0,.int .i64 wx),(bc,1,.int .i64 wy),(bc,2,.pointer (some ⟨bm,0,none⟩)),(bc,3,.pointer (some ⟨bs,0,none⟩))] (by kernel_rfl) (by simp [Holds_nil,Holds_cons,F]) ?_
  refine h.draw ?_
  clear h F
  intro _ h
  replace h:=Zd h;have F:=Zf6 h;refine Zc ?_
  refine h.call2 1 2 (Q:=fun v r' q' N=>v = .tuple #[]∧∃ E',I E'∧r' = msh bm E'∧q' = wls bs W1∧N = []) rfl rfl (by decide) (fun A _ k=>(repair90 (R W1) hI (by omega) k).mono fun ex w' ⟨v,er,ev,E',hI',k⟩ =>⟨v,er,_,_,[],k,fun _ f=>f,fun _ f=>f,fun q hq=>(by cases hq),ev,E',hI',rfl,rfl,rfl⟩) ?_
  clear h F
  rintro _ _ _ _ w3 ⟨rfl,E',hI',rfl,rfl,rfl⟩ h
  replace h:=Zd h;have F:=Zf6 h;refine Zc ?_
  exact ⟨E',hI',(h.cdtShut).erase 1⟩
theorem cAddWall75 {w : World} {A : Nat → Prop} {bc : Nat} {wx wy : Int} {E : MeshE} {W : List (List Int)} {I : MeshE → Prop} {Φ : MeshE → Nat} (R : ∀ W, Rep1 W I Φ) (R2 : Flp I) (hI : I E) (ax ay bx by' k : Int) (hW : W.length + E.length ≤ 900000) (h : Sep w A [cdt bc wx wy E W] w) : Calls Tryz.prog 75 [.pointer (some ⟨bc, 0, none⟩), .agg #[.int .i64 ax, .int .i64 ay], .agg #[.int .i64 bx, .int .i64 by'], .int .i64 k].toArray w
    (RetK fun r w'=>∃ (e : Int) (E' : MeshE) (W' : List (List Int)),r = .int .i64 e∧I E'∧(W.length≤W'.length∧W'.length≤W.length + E.length)∧madeW k W W'∧Sep w A [cdt bc wx wy E' W'] w'):=by
  obtain ⟨bm,bs,h⟩ :=h.cdtOpen
  refine walk Tryz.func75 rfl (by kernel_rfl) (by rw [Tryz.nt75];simp) ?_
  replace h:=Zd h;have F:=Zf6 h
  refine Zv ?_
  refine h.new ?_
  clear h F
  intro _ b1 h
  replace h:=Zd h;have F:=Zf6 h;refine Zc ?_
  refine h.new ?_
  clear h F
  intro _ b2 h
  replace h:=Zd h;have F:=Zf6 h;refine Zc ?_
  refine walkDraw (.q 0 (.q 1 (.q 2 (.q 4 (.q 5 (.q 6 (.q 10 (.h 3 2 (.h 7 3 (.h 8 4 (.h 9 6 (.l 11 (.q 12 .fin))))))))))))) [(bc,0,.int .i64 wx),(bc,1,.int .i64 wy),(bc,2,.pointer (some ⟨bm,0,none⟩)),(bc,3,.pointer (some ⟨bs,0,none⟩)),(b1,0,.int .i64 ax),(b1,1,.int .i64 ay),(b2,0,.int .i64 bx),(b2,1,.int .i64 by')] (by kernel_rfl) (by simp [Holds_nil,Holds_cons,F]) ?_
  refine h.draw ?_
  clear h F
  intro _ h
  replace h:=Zd h;have F:=Zf6 h;refine Zc ?_
  refine h.call2 1 2 (Q:=fun v r' q' N=>∃ (e : Int) (E' : MeshE) (W' : List (List Int)),v = .int .i64 e∧I E'∧(W.length≤W'.length∧W'.length≤W.length + E.length)∧madeW k W W'∧r' = msh bm E'∧q' = wls bs W'∧N = []) rfl rfl (by decide) (fun A _ kk=>(addWall92 R2 hI ax ay bx by' k hW kk).mono fun ex w' ⟨v,er,e,E',W',ev,hI',hl,hm,kk⟩ =>⟨v,er,_,_,[],kk,fun _ f=>f,fun _ f=>f,fun q hq=>(by cases hq),e,E',W',ev,hI',hl,hm,rfl,rfl,rfl⟩) ?_
  clear h F hI
  rintro _ _ _ _ w3 ⟨e,E1,W1,rfl,hI,hl,hm,rfl,rfl,rfl⟩ h
  replace h:=Zd h;have F:=Zf6 h;refine Zc ?_
  by_cases g1 : e = 0
  case neg=>
    generalize hz : decide (e = 0) = z
    obtain rfl : z = false:=hz.symm.trans (decide_eq_false g1)
    clear hz
    replace h:=Zd h;have F:=Zf6 h;refine Zc ?_
    exact ⟨e,E1,W1,rfl,hI,hl,hm,((h.cdtShut).erase 1).erase 1⟩
  generalize hz : decide (e = 0) = z
  obtain rfl : z = true:=hz.symm.trans (decide_eq_true g1)
  clear hz
  replace h:=Zd h;have F:=Zf6 h;refine Zc ?_
  refine walkDraw (.q 0 (.q 1 (.q 2 (.q 4 (.q 5 (.q 6 (.h 3 2 (.h 7 3 (.l 8 .fin))))))))) [(bc,0,.int .i64 wx),(bc,1,.int .i64 wy),(bc,2,.pointer (some ⟨bm,0,none⟩)),(bc,3,.pointer (some ⟨bs,0,none⟩))] (by kernel_rfl) (by simp [Holds_nil,Holds_cons,F]) ?_
  refine h.draw ?_
  clear h F
  intro _ h
  replace h:=Zd h;have F:=Zf6 h;refine Zc ?_
  refine h.call2 1 2 (Q:=fun v r' q' N=>v = .tuple #[]∧∃ E',I E'∧r' = msh bm E'∧q' = wls bs W1∧N = []) rfl rfl (by decide) (fun A _ k=>(repair90 (R W1) hI (by omega) k).mono fun ex w' ⟨v,er,ev,E',hI',k⟩ =>⟨v,er,_,_,[],k,fun _ f=>f,fun _ f=>f,fun q hq=>(by cases hq),ev,E',hI',rfl,rfl,rfl⟩) ?_
  clear h F
  rintro _ _ _ _ w3 ⟨rfl,E',hI',rfl,rfl,rfl⟩ h
  replace h:=Zd h;have F:=Zf6 h;refine Zc ?_
  exact ⟨e,E',W1,rfl,hI',hl,hm,((h.cdtShut).erase 1).erase 1⟩
def sqX (x y : Int) : T3:=T3.mk' ⟨0,0,x,0,x,y⟩
def sqY (x y : Int) : T3:=T3.mk' ⟨0,0,x,y,0,y⟩
def sqW (x y : Int) : Nat→List (List Int)
  | 0=>[]
  | i + 1=>insW (sqW x y i) (wallV (([0,0,x,0,x,y,0,y] : List Int).getD (2 * i) 0) (([0,0,x,0,x,y,0,y] : List Int).getD (2 * i + 1) 0) (([0,0,x,0,x,y,0,y] : List Int).getD (2 * ((i + 1) % 4)) 0) (([0,0,x,0,x,y,0,y] : List Int).getD (2 * ((i + 1) % 4) + 1) 0) 2)
theorem sqW_len (x y : Int) : ∀ i,(sqW x y i).length = i
  | 0=>rfl
  | i + 1=>by rw [sqW,insW_len,sqW_len x y i]
def sqI (x y : Int) : List Int:=[0,0,x,0,x,y,0,y]
def sqL (x y : Int) : List Value:=cellsI (sqI x y)
theorem sqL_at (x y : Int) {j : Nat} (hj : j < 8) : (sqL x y)[j]? = some (.int .i64 ((sqI x y).getD j 0)):=by
  unfold sqL cellsI
  rw [List.getElem?_map,List.getD_eq_getElem?_getD,List.getElem?_eq_getElem (by simpa [sqI] using hj)];rfl
theorem sqW_step (x y : Int) (i : Nat) : sqW x y (i + 1) = insW (sqW x y i) (wallV ((sqI x y).getD (i * 2) 0) ((sqI x y).getD (i * 2 + 1) 0) ((sqI x y).getD ((i + 1) % 4 * 2) 0) ((sqI x y).getD ((i + 1) % 4 * 2 + 1) 0) 2):=by
  rw [sqW,Nat.mul_comm 2 i,Nat.mul_comm 2 ((i + 1) % 4)];rfl
theorem newCDT73 {w : World} {x y : Int} {E : MeshE} {I : MeshE → Prop} {Φ : MeshE → Nat} (R : ∀ W, Rep1 W I Φ) (hx : 1 ≤ x ∧ x < 16777216) (hy : 1 ≤ y ∧ y < 16777216) (hE : newE [sqX x y, sqY x y] [] = some E) (hI : I E) : Calls Tryz.prog 73 [.int .i64 x, .int .i64 y].toArray w
    (RetK fun r w'=>∃ bc E',I E'∧r = .pointer (some ⟨bc,0,none⟩)∧Sep w (fun _=>False) [cdt bc x y E' (sqW x y 4)] w'):=by
  have h:=Sep.nil w
  have m1:=make78 ⟨0,0,x,0,x,y⟩
  have m2:=make78 ⟨0,0,x,y,0,y⟩
  rw [show T3.mk' ⟨0,0,x,0,x,y⟩ = sqX x y from rfl] at m1
  rw [show T3.mk' ⟨0,0,x,y,0,y⟩ = sqY x y from rfl] at m2
  generalize T3.ok ⟨0,0,x,0,x,y⟩ = o1 at *
  generalize T3.ok ⟨0,0,x,y,0,y⟩ = o2 at *
  generalize sqX x y = tx at *
  generalize sqY x y = ty at *
  refine walk Tryz.func73 rfl (by kernel_rfl) (by rw [Tryz.nt73];simp) ?_
  replace h:=Zd h;have F:=Zf6 h
  refine Zv1 (J (decide_eq_false (show ¬ x < 1 by omega)) (J (decide_eq_false (show ¬ 16777216≤x by omega)) (J (decide_eq_false (show ¬ y < 1 by omega)) (decide_eq_false (show ¬ 16777216≤y by omega))))) ?_
  refine Sep.callp h (square85 x y _) ?_
  clear h F
  intro _ h
  replace h:=Zd h;have F:=Zf6 h;refine Zc1 (@cellsI.eq_1) ?_
  refine h.new ?_
  clear h F
  intro _ b5 h
  replace h:=Zd h;have F:=Zf6 h;refine Zc ?_
  refine Sep.put 0 h rfl ?_
  clear h F
  intro _ h
  replace h:=Zd h;have F:=Zf6 h;refine Zc ?_
  refine Sep.callp h (m1 _) ?_
  clear h F
  intro _ h
  replace h:=Zd h;have F:=Zf6 h;refine Zc1 (@T3.cells.eq_1) ?_
  refine h.new ?_
  clear h F
  intro _ b6 h
  replace h:=Zd h;have F:=Zf6 h;refine Zc ?_
  refine Sep.put 1 h rfl ?_
  clear h F
  intro _ h
  replace h:=Zd h;have F:=Zf6 h;refine Zc ?_
  refine Sep.callp h (m2 _) ?_
  clear h F
  intro _ h
  replace h:=Zd h;have F:=Zf6 h;refine Zc1 (@T3.cells.eq_1) ?_
  refine h.new ?_
  clear h F
  intro _ b8 h
  replace h:=Zd h;have F:=Zf6 h;refine Zc ?_
  refine Sep.put 2 h rfl ?_
  clear h F
  intro _ h
  replace h:=Zd h;have F:=Zf6 h;refine Zc ?_
  refine h.new ?_
  clear h F
  intro _ b9 h
  replace h:=Zd h;have F:=Zf6 h;refine Zc ?_
  have h2:=h.toTab 3 6 (rowsT [tx,ty]) rfl (fun z hz=>by simp at hz;rcases hz with rfl | rfl<;>rfl) rfl (by show 2≤maxLen;decide)
  refine h.callN (Q:=fun v N=>∃ bm,v = .pointer (some ⟨bm,0,none⟩)∧N = [msh bm E]) ((new87 [tx,ty] (by simp) h2.facts.2.2.2.1).mono fun ex w' ⟨v,er,k⟩ =>?_) ?_
  · rw [hE] at k
    obtain ⟨bm,ev,k⟩ :=k
    exact ⟨v,er,_,k,fun q hq x hx=>(by simp at hq;subst hq;exact hx),bm,ev,rfl⟩
  clear h h2 F
  rintro _ _ w5 ⟨bm,rfl,rfl⟩ h
  replace h:=Zd h;have F:=Zf6 h;refine Zc ?_
  refine h.new ?_
  clear h F
  intro _ bs h
  replace h:=Zd h;have F:=Zf6 h;refine Zc ?_
  refine h.new ?_
  clear h F
  intro _ bc h
  replace h:=Zd h;have F:=Zf6 h;refine Zc ?_
  have h:=((((h.tabNil 47 5).wlsShut 5 7 rfl rfl).erase 7).erase 3).erase 2 |>.erase 1
  refine walkLoop [5,10] [11] (fun m vs w'=>∃ i : Nat,i≤4∧m = 4 - i∧vs = [.int .i64 i]∧Sep w (fun _=>False) [blk b5 154 (sqL x y),msh bm E,wls bs (sqW x y i),blk bc 62 [.int .i64 x,.int .i64 y,.pointer (some ⟨bm,0,none⟩),.pointer (some ⟨bs,0,none⟩)]] w') (by kernel_rfl) ?_ ?_
  · refine Zv ?_
    exact ⟨_,0,Nat.zero_le _,rfl,rfl,h⟩
  clear h
  try clear F
  intro ks hk m vs w6 hi
  obtain ⟨i,hi,rfl,rfl,h⟩ :=hi
  replace hk:=Zk hk;subst hk
  by_cases hlt : (i : Int) < 4
  case neg=>
    have e4 : i = 4:=by omega
    subst e4
    replace h:=Zd h;have F:=Zf6 h;refine Zc1 (decide_eq_false hlt) ?_
    have h:=h.erase 0
    replace h:=Zd h;have F:=Zf6 h
    refine walkDraw (.q 0 (.q 1 (.q 2 (.q 4 (.q 5 (.q 6 (.h 3 2 (.h 7 3 (.l 8 .fin))))))))) [(bc,0,.int .i64 x),(bc,1,.int .i64 y),(bc,2,.pointer (some ⟨bm,0,none⟩)),(bc,3,.pointer (some ⟨bs,0,none⟩))] (by kernel_rfl) (by simp [Holds_nil,Holds_cons,F]) ?_
    refine h.draw ?_
    clear h F
    intro _ h
    replace h:=Zd h;have F:=Zf6 h;refine Zc ?_
    refine h.call2 0 1 (Q:=fun v r' q' N=>v = .tuple #[]∧∃ E',I E'∧r' = msh bm E'∧q' = wls bs (sqW x y 4)∧N = []) rfl rfl (by decide) (fun A _ k=>(repair90 (R (sqW x y 4)) hI (by rw [sqW_len];omega) k).mono fun ex w' ⟨v,er,ev,E',hI',k⟩ =>⟨v,er,_,_,[],k,fun _ f=>f,fun _ f=>f,fun q hq=>(by cases hq),ev,E',hI',rfl,rfl,rfl⟩) ?_
    clear h F
    rintro _ _ _ _ w7 ⟨rfl,E',hI',rfl,rfl,rfl⟩ h
    replace h:=Zd h;have F:=Zf6 h;refine Zc ?_
    exact ⟨bc,E',hI',rfl,((((h.two 0 1 rfl rfl).two 2 0 rfl rfl).conv 2 (r':=cdt bc x y E' (sqW x y 4)) rfl (fun A on=>⟨bm,bs,on⟩) (fun _ f=>f.elim)).erase 0).erase 0⟩
  have hi4 : i < 4:=by omega
  have ei : IntKind.i64.wrap ((i : Int) + 1) = ((i + 1 : Nat) : Int):=by rw [i64w _ (by omega) (by omega)];omega
  have e0:=sqL_at x y (j:=i * 2) (by omega)
  have e1:=sqL_at x y (j:=i * 2 + 1) (by omega)
  have e2:=sqL_at x y (j:=(i + 1) % 4 * 2) (by omega)
  have e3:=sqL_at x y (j:=(i + 1) % 4 * 2 + 1) (by omega)
  have eS:=sqW_step x y i
  have hWl:=sqW_len x y i
  generalize (sqI x y).getD (i * 2) 0 = p0 at *
  generalize (sqI x y).getD (i * 2 + 1) 0 = p1 at *
  generalize (sqI x y).getD ((i + 1) % 4 * 2) 0 = q0 at *
  generalize (sqI x y).getD ((i + 1) % 4 * 2 + 1) 0 = q1 at *
  replace h:=Zd h;have F:=Zf6 h;refine Zc1 (decide_eq_true hlt) ?_
  have kw:=makeWall88 p0 p1 q0 q1 2
  obtain ⟨v0,v1,v2,v3,v4,evw⟩ :=len_5 (show (wallV p0 p1 q0 q1 2).length = 5 by unfold wallV ptMin ptMax;split<;>(try split)<;>(try split)<;>rfl)
  rw [evw] at kw eS
  generalize wallOk p0 p1 q0 q1 2 = ow at *
  have em : ((i + 1 : Nat) : Int).tmod 4 = (((i + 1) % 4 : Nat) : Int):=rfl
  refine walkDrawI (.q 0 (.q 1 (.h 2 0 (.q 3 (.q 4 (.q 5 (.q 6 (.h 7 2 .fin)))))))) [⟨8,some 0,[]⟩,⟨9,some 1,[8]⟩,⟨10,some 2,[9]⟩,⟨11,some 3,[9]⟩,⟨12,some 4,[]⟩,⟨13,none,[8,9,10,12]⟩,⟨14,some 5,[8,9,10,11,12,13]⟩] [74,65,75,76,12,13] [5,10,11,68,73] [(b5,i * 2,.int .i64 p0),(b5,i * 2 + 1,.int .i64 p1),(b5,(i + 1) % 4 * 2,.int .i64 q0),(b5,(i + 1) % 4 * 2 + 1,.int .i64 q1)] (by kernel_rfl) (by simp [Holds_nil,Holds_cons,F,e0,e1,e2,e3]) ?_
  refine h.draw ?_
  clear h F
  intro _ h
  replace h:=Zd h;have F:=Zf6 h;try simp -dsimp only [↓vcA,vcB,vcD,↓pureT_lenS,↓iteT,↓iteF,cond_true,cond_false,eq_self,argE,Env.get,Env.push,ev,evs,evo,retV,Value.cells,Value.oneCell',setR,overR,fillL,zl,places,allSizes,heldC,ne_eq,Int.reduceLE,Int.reduceLT,Int.reduceEq,Int.reduceNe,Int.reduceToNat,Int.cast_ofNat_Int,Nat.reduceMul,Nat.reduceLeDiff,reduceIte,Nat.reduceEqDiff,Nat.reduceAdd,↓reduceIte,Tryz.vcT,F,h.cell0,gets,vsD,if_true,if_false,Bool.false_eq_true,cellsAt,ei,em,Int.toNat_natCast,cellsI]
  refine ⟨by omega,by omega,?_⟩
  refine ⟨fun l vs w'=>∃ v8 v9 v10 v11 v12 v14 : Value,vs = [v8,v9,v10,v11,v12,v14]∧(l 8 = true→v8 = .tuple #[.agg #[.int .i64 v0,.int .i64 v1,.int .i64 v2,.int .i64 v3,.int .i64 v4],.bool ow])∧(l 9 = true→v9 = .tuple #[.agg #[.int .i64 v0,.int .i64 v1,.int .i64 v2,.int .i64 v3,.int .i64 v4],.bool ow])∧(l 10 = true→v10 = .agg #[.int .i64 v0,.int .i64 v1,.int .i64 v2,.int .i64 v3,.int .i64 v4])∧(l 11 = true→v11 = .bool ow)∧(l 14 = true→v14 = .bool ow)∧(l 13 = true→l 12 = true)∧∃ b3 : Nat,(l 12 = true→v12 = .pointer (some ⟨b3,0,none⟩))∧Sep w (fun _=>False) [blk b5 154 (sqL x y),msh bm E,wls bs (sqW x y i),blk bc 62 [.int .i64 x,.int .i64 y,.pointer (some ⟨bm,0,none⟩),.pointer (some ⟨bs,0,none⟩)],(if l 12 = true then blk b3 47 (if l 13 = true then [.int .i64 v0,.int .i64 v1,.int .i64 v2,.int .i64 v3,.int .i64 v4] else [.int .i64 0,.int .i64 0,.int .i64 0,.int .i64 0,.int .i64 0]) else emp)] w',?_,?_,⟨?_,?_,?_,?_,?_,?_,?_,trivial⟩,?_⟩
  · clear h F;intro l vs w1 hI
    obtain ⟨v8,v9,v10,v11,v12,v14,rfl,e8,e9,e10,e11,e14,o13,b3,e12,h⟩ :=hI
    replace h:=Zd h;have F:=Zf6 h
    exact (by simp [Holds_nil,Holds_cons,F,e0,e1,e2,e3])
  · intro us0 hv0
    obtain ⟨v8,us1,rfl,hv1⟩ :=cons_of_len hv0
    obtain ⟨v9,us2,rfl,hv2⟩ :=cons_of_len hv1
    obtain ⟨v10,us3,rfl,hv3⟩ :=cons_of_len hv2
    obtain ⟨v11,us4,rfl,hv4⟩ :=cons_of_len hv3
    obtain ⟨v12,us5,rfl,hv5⟩ :=cons_of_len hv4
    obtain ⟨v14,us6,rfl,hv6⟩ :=cons_of_len hv5
    obtain rfl:=nil_of_len hv6
    exact ⟨v8,v9,v10,v11,v12,v14,rfl,(fun e=>by cases e),(fun e=>by cases e),(fun e=>by cases e),(fun e=>by cases e),(fun e=>by cases e),(fun e=>by cases e),0,(fun e=>by cases e),h.addEmp⟩
  · clear h F;intro l vs w1 hI hl hp
    obtain ⟨v8,v9,v10,v11,v12,v14,rfl,e8,e9,e10,e11,e14,o13,b3,e12,h⟩ :=hI
    replace h:=Zd h;have F:=Zf6 h
    replace h:=Zd h;have F:=Zf6 h;try simp -dsimp only [↓vcA,vcB,vcD,↓pureT_lenS,↓iteT,↓iteF,cond_true,cond_false,eq_self,argE,Env.get,Env.push,ev,evs,evo,retV,Value.cells,Value.oneCell',setR,overR,fillL,zl,places,allSizes,heldC,ne_eq,Int.reduceLE,Int.reduceLT,Int.reduceEq,Int.reduceNe,Int.reduceToNat,Int.cast_ofNat_Int,Nat.reduceMul,Nat.reduceLeDiff,reduceIte,Nat.reduceEqDiff,Nat.reduceAdd,↓reduceIte,Tryz.vcT,F,h.cell0,gets,vsD,if_true,if_false,Bool.false_eq_true,cellsAt,ei,em,Int.toNat_natCast,cellsI]
    refine Sep.callp h (kw _) ?_
    clear F;intro w2 h
    exact ⟨_,_,_,_,_,_,rfl,(fun _=>rfl),e9,e10,e11,e14,o13,b3,e12,h⟩
  · clear h F;intro l vs w1 hI hl hp
    obtain ⟨v8,v9,v10,v11,v12,v14,rfl,e8,e9,e10,e11,e14,o13,b3,e12,h⟩ :=hI
    obtain rfl:=e8 (hp 8 (by simp))
    have f8 : l 8 = true:=hp 8 (by simp)
    replace h:=Zd h;have F:=Zf6 h
    replace h:=Zd h;have F:=Zf6 h;try simp -dsimp only [↓vcA,vcB,vcD,↓pureT_lenS,↓iteT,↓iteF,cond_true,cond_false,eq_self,argE,Env.get,Env.push,ev,evs,evo,retV,Value.cells,Value.oneCell',setR,overR,fillL,zl,places,allSizes,heldC,ne_eq,Int.reduceLE,Int.reduceLT,Int.reduceEq,Int.reduceNe,Int.reduceToNat,Int.cast_ofNat_Int,Nat.reduceMul,Nat.reduceLeDiff,reduceIte,Nat.reduceEqDiff,Nat.reduceAdd,↓reduceIte,Tryz.vcT,F,h.cell0,gets,vsD,if_true,if_false,Bool.false_eq_true,cellsAt,f8,ei,em,Int.toNat_natCast,cellsI]
    exact ⟨_,_,_,_,_,_,rfl,(fun _=>rfl),(fun _=>rfl),e10,e11,e14,o13,b3,e12,h⟩
  · clear h F;intro l vs w1 hI hl hp
    obtain ⟨v8,v9,v10,v11,v12,v14,rfl,e8,e9,e10,e11,e14,o13,b3,e12,h⟩ :=hI
    obtain rfl:=e9 (hp 9 (by simp))
    have f9 : l 9 = true:=hp 9 (by simp)
    replace h:=Zd h;have F:=Zf6 h
    replace h:=Zd h;have F:=Zf6 h;try simp -dsimp only [↓vcA,vcB,vcD,↓pureT_lenS,↓iteT,↓iteF,cond_true,cond_false,eq_self,argE,Env.get,Env.push,ev,evs,evo,retV,Value.cells,Value.oneCell',setR,overR,fillL,zl,places,allSizes,heldC,ne_eq,Int.reduceLE,Int.reduceLT,Int.reduceEq,Int.reduceNe,Int.reduceToNat,Int.cast_ofNat_Int,Nat.reduceMul,Nat.reduceLeDiff,reduceIte,Nat.reduceEqDiff,Nat.reduceAdd,↓reduceIte,Tryz.vcT,F,h.cell0,gets,vsD,if_true,if_false,Bool.false_eq_true,cellsAt,f9,ei,em,Int.toNat_natCast,cellsI]
    exact ⟨_,_,_,_,_,_,rfl,e8,(fun _=>rfl),(fun _=>rfl),e11,e14,o13,b3,e12,h⟩
  · clear h F;intro l vs w1 hI hl hp
    obtain ⟨v8,v9,v10,v11,v12,v14,rfl,e8,e9,e10,e11,e14,o13,b3,e12,h⟩ :=hI
    obtain rfl:=e9 (hp 9 (by simp))
    have f9 : l 9 = true:=hp 9 (by simp)
    replace h:=Zd h;have F:=Zf6 h
    replace h:=Zd h;have F:=Zf6 h;try simp -dsimp only [↓vcA,vcB,vcD,↓pureT_lenS,↓iteT,↓iteF,cond_true,cond_false,eq_self,argE,Env.get,Env.push,ev,evs,evo,retV,Value.cells,Value.oneCell',setR,overR,fillL,zl,places,allSizes,heldC,ne_eq,Int.reduceLE,Int.reduceLT,Int.reduceEq,Int.reduceNe,Int.reduceToNat,Int.cast_ofNat_Int,Nat.reduceMul,Nat.reduceLeDiff,reduceIte,Nat.reduceEqDiff,Nat.reduceAdd,↓reduceIte,Tryz.vcT,F,h.cell0,gets,vsD,if_true,if_false,Bool.false_eq_true,cellsAt,f9,ei,em,Int.toNat_natCast,cellsI]
    exact ⟨_,_,_,_,_,_,rfl,e8,(fun _=>rfl),e10,(fun _=>rfl),e14,o13,b3,e12,h⟩
  · clear h F;intro l vs w1 hI hl hp
    obtain ⟨v8,v9,v10,v11,v12,v14,rfl,e8,e9,e10,e11,e14,o13,b3,e12,h⟩ :=hI
    replace h:=Zd h;have F:=Zf6 h
    replace h:=Zd h;have F:=Zf6 h;try simp -dsimp only [↓vcA,vcB,vcD,↓pureT_lenS,↓iteT,↓iteF,cond_true,cond_false,eq_self,argE,Env.get,Env.push,ev,evs,evo,retV,Value.cells,Value.oneCell',setR,overR,fillL,zl,places,allSizes,heldC,ne_eq,Int.reduceLE,Int.reduceLT,Int.reduceEq,Int.reduceNe,Int.reduceToNat,Int.cast_ofNat_Int,Nat.reduceMul,Nat.reduceLeDiff,reduceIte,Nat.reduceEqDiff,Nat.reduceAdd,↓reduceIte,Tryz.vcT,F,h.cell0,gets,vsD,if_true,if_false,Bool.false_eq_true,cellsAt,hl,Bool.false_eq_true,if_false,ei,em,Int.toNat_natCast,cellsI]
    simp only [hl,Bool.false_eq_true,if_false] at h
    refine Sep.newAt 4 h rfl ?_
    clear F;intro w2 b3 h
    have n13 : l 13 = false:=by
      cases hq : l 13 with
      | false=>rfl
      | true=>rw [o13 hq] at hl;cases hl
    refine ⟨_,_,_,_,_,_,rfl,e8,e9,e10,e11,e14,(fun _=>rfl),b3,(fun _=>rfl),?_⟩
    simp only [flag,n13,Nat.reduceBEq,beq_self_eq_true,Bool.true_or,Bool.false_or,Bool.false_eq_true,if_false,if_true];exact h
  · clear h F;intro l vs w1 hI hl hp
    obtain ⟨v8,v9,v10,v11,v12,v14,rfl,e8,e9,e10,e11,e14,o13,b3,e12,h⟩ :=hI
    obtain rfl:=e8 (hp 8 (by simp))
    obtain rfl:=e9 (hp 9 (by simp))
    obtain rfl:=e10 (hp 10 (by simp))
    obtain rfl:=e12 (hp 12 (by simp))
    have f8 : l 8 = true:=hp 8 (by simp)
    have f9 : l 9 = true:=hp 9 (by simp)
    have f10 : l 10 = true:=hp 10 (by simp)
    have f12 : l 12 = true:=hp 12 (by simp)
    replace h:=Zd h;have F:=Zf6 h
    simp only [f8,f9,f10,f12,hl,Bool.false_eq_true,if_false,if_true] at h
    replace h:=Zd h;have F:=Zf6 h;try simp -dsimp only [↓vcA,vcB,vcD,↓pureT_lenS,↓iteT,↓iteF,cond_true,cond_false,eq_self,argE,Env.get,Env.push,ev,evs,evo,retV,Value.cells,Value.oneCell',setR,overR,fillL,zl,places,allSizes,heldC,ne_eq,Int.reduceLE,Int.reduceLT,Int.reduceEq,Int.reduceNe,Int.reduceToNat,Int.cast_ofNat_Int,Nat.reduceMul,Nat.reduceLeDiff,reduceIte,Nat.reduceEqDiff,Nat.reduceAdd,↓reduceIte,Tryz.vcT,F,h.cell0,gets,vsD,if_true,if_false,Bool.false_eq_true,cellsAt,f8,f9,f10,f12,ei,em,Int.toNat_natCast,cellsI]
    refine Sep.put 4 h rfl ?_
    clear F;intro w2 h
    refine ⟨_,_,_,_,_,_,rfl,(fun _=>rfl),(fun _=>rfl),(fun _=>rfl),e11,e14,(fun _=>f12),b3,(fun _=>rfl),?_⟩
    simp only [flag,f8,f9,f10,f12,Nat.reduceBEq,beq_self_eq_true,Bool.true_or,Bool.false_or,if_true];exact h
  · clear h F;intro l vs w1 hI hl hp
    obtain ⟨v8,v9,v10,v11,v12,v14,rfl,e8,e9,e10,e11,e14,o13,b3,e12,h⟩ :=hI
    obtain rfl:=e8 (hp 8 (by simp))
    obtain rfl:=e9 (hp 9 (by simp))
    obtain rfl:=e10 (hp 10 (by simp))
    obtain rfl:=e11 (hp 11 (by simp))
    obtain rfl:=e12 (hp 12 (by simp))
    have f8 : l 8 = true:=hp 8 (by simp)
    have f9 : l 9 = true:=hp 9 (by simp)
    have f10 : l 10 = true:=hp 10 (by simp)
    have f11 : l 11 = true:=hp 11 (by simp)
    have f12 : l 12 = true:=hp 12 (by simp)
    have f13 : l 13 = true:=hp 13 (by simp)
    replace h:=Zd h;have F:=Zf6 h
    replace h:=Zd h;have F:=Zf6 h;try simp -dsimp only [↓vcA,vcB,vcD,↓pureT_lenS,↓iteT,↓iteF,cond_true,cond_false,eq_self,argE,Env.get,Env.push,ev,evs,evo,retV,Value.cells,Value.oneCell',setR,overR,fillL,zl,places,allSizes,heldC,ne_eq,Int.reduceLE,Int.reduceLT,Int.reduceEq,Int.reduceNe,Int.reduceToNat,Int.cast_ofNat_Int,Nat.reduceMul,Nat.reduceLeDiff,reduceIte,Nat.reduceEqDiff,Nat.reduceAdd,↓reduceIte,Tryz.vcT,F,h.cell0,gets,vsD,if_true,if_false,Bool.false_eq_true,cellsAt,f8,f9,f10,f11,f12,f13,ei,em,Int.toNat_natCast,cellsI]
    exact ⟨_,_,_,_,_,_,rfl,(fun _=>rfl),(fun _=>rfl),(fun _=>rfl),(fun _=>rfl),(fun _=>rfl),o13,b3,(fun _=>rfl),h⟩
  clear h F;intro l vs w1 hI hall
  obtain ⟨v8,v9,v10,v11,v12,v14,rfl,e8,e9,e10,e11,e14,o13,b3,e12,h⟩ :=hI
  have f8 : l 8 = true:=hall ⟨8,some 0,[]⟩ (by simp)
  have f9 : l 9 = true:=hall ⟨9,some 1,[8]⟩ (by simp)
  have f10 : l 10 = true:=hall ⟨10,some 2,[9]⟩ (by simp)
  have f11 : l 11 = true:=hall ⟨11,some 3,[9]⟩ (by simp)
  have f12 : l 12 = true:=hall ⟨12,some 4,[]⟩ (by simp)
  have f13 : l 13 = true:=hall ⟨13,none,[8,9,10,12]⟩ (by simp)
  have f14 : l 14 = true:=hall ⟨14,some 5,[8,9,10,11,12,13]⟩ (by simp)
  obtain rfl:=e8 f8
  obtain rfl:=e9 f9
  obtain rfl:=e10 f10
  obtain rfl:=e11 f11
  obtain rfl:=e12 f12
  obtain rfl:=e14 f14
  simp only [f8,f9,f10,f11,f12,f13,f14,if_true] at h
  clear hall f8 f9 f10 f11 f12 f13 f14 o13
  replace h:=Zd h;have F:=Zf6 h;try simp -dsimp only [↓vcA,vcB,vcD,↓pureT_lenS,↓iteT,↓iteF,cond_true,cond_false,eq_self,argE,Env.get,Env.push,ev,evs,evo,retV,Value.cells,Value.oneCell',setR,overR,fillL,zl,places,allSizes,heldC,ne_eq,Int.reduceLE,Int.reduceLT,Int.reduceEq,Int.reduceNe,Int.reduceToNat,Int.cast_ofNat_Int,Nat.reduceMul,Nat.reduceLeDiff,reduceIte,Nat.reduceEqDiff,Nat.reduceAdd,↓reduceIte,Tryz.vcT,F,h.cell0,gets,vsD,if_true,if_false,Bool.false_eq_true,cellsAt,ei,em,Int.toNat_natCast,cellsI]
  refine walkDraw (.q 0 (.q 1 (.q 2 (.h 3 3 (.h 4 4 (.l 5 .fin)))))) [(bc,0,.int .i64 x),(bc,1,.int .i64 y),(bc,2,.pointer (some ⟨bm,0,none⟩)),(bc,3,.pointer (some ⟨bs,0,none⟩)),(b3,0,.int .i64 v0),(b3,1,.int .i64 v1),(b3,2,.int .i64 v2),(b3,3,.int .i64 v3),(b3,4,.int .i64 v4)] (by kernel_rfl) (by simp [Holds_nil,Holds_cons,F]) ?_
  refine h.draw ?_
  clear h F
  intro _ h
  replace h:=Zd h;have F:=Zf6 h;refine Zc ?_
  refine Sep.c10 2 (x:=.tuple #[]) (r':=wls bs (insW (sqW x y i) [v0,v1,v2,v3,v4])) h rfl (fun A k=>put89 v0 v1 v2 v3 v4 (by omega) k) (fun _ f=>f) ?_
  clear h F
  intro _ h
  rw [← eS] at h
  replace h:=Zd h;have F:=Zf6 h;refine Zc1 ei ?_
  exact ⟨_,by omega,i + 1,by omega,rfl,rfl,h.erase 4⟩
def pointsE (E : MeshE) : List (List Int):=sortP (cornP (sortT (sel fTris E)))
theorem points13 {w : World} {A : Nat → Prop} {bc : Nat} {wx wy : Int} {E : MeshE} {W : List (List Int)} (hE : E.length ≤ 300000) (h : Sep w A [cdt bc wx wy E W] w) : Calls Tryz.prog 13 [.pointer (some ⟨bc, 0, none⟩)].toArray w
    (RetK fun r w'=>∃ a c,r = .slice a (pointsE E).length c∧Sep w A [cdt bc wx wy E W,tab 45 2 r (pointsE E)] w'):=by
  obtain ⟨bm,bs,h⟩ :=h.cdtOpen
  refine walk Tryz.func13 rfl (by kernel_rfl) (by rw [Tryz.nt13];simp) ?_
  replace h:=Zd h;have F:=Zf6 h
  refine Zv ?_
  replace h:=Zd h;have F:=Zf6 h;refine Zc ?_
  have hsl : (sortT (sel fTris E)).length = (sel fTris E).length:=(sortT_perm _).length_eq
  have hs2:=sel_len fTris E
  refine Sep.c1t 1 h rfl (fun A k=>tris78 (by omega) k) (fun _ f=>f) ?_
  clear h F
  intro a c w2 h
  replace h:=Zd h;have F:=Zf6 h;refine Zc ?_
  refine h.c0t (corners77 (sortT (sel fTris E)) (by omega) h.facts.2.2.2.1) ?_
  clear h F
  intro a2 c2 w3 h
  replace h:=Zd h;have F:=Zf6 h;refine Zc ?_
  exact ⟨_,_,rfl,(h.erase 3).cdtShut⟩
theorem look_cons_ne {p : Ent} {L : List Ent} {k : List Int} (h : ¬ p.1 = k) : look L k = look (p :: L) k:=by simp [look,h]
theorem setL_mem {k : List Int} {v : Value} {p : Ent} : ∀ {L : List Ent},p ∈ setL L k v→p ∈ L∨p = (k,v)
  | [],h=>by simp [setL] at h;exact .inr h
  | q :: L,h=>by
    unfold setL at h
    split at h
    · rcases List.mem_cons.1 h with h | h
      · exact .inr h
      · exact .inl (.tail _ h)
    · rcases List.mem_cons.1 h with h | h
      · exact .inl (h▸.head _)
      · rcases setL_mem h with h | h
        · exact .inl (.tail _ h)
        · exact .inr h
theorem look_setL (k k' : List Int) (v : Value) : ∀ L : List Ent,look (setL L k v) k' = if k = k' then some v else look L k'
  | []=>by
    unfold setL look
    by_cases h : k = k'
    · rw [if_pos h];subst h;simp
    · rw [if_neg h];simp [h]
  | p :: L=>by
    have ih:=look_setL k k' v L
    unfold setL
    by_cases h1 : p.1 = k
    · rw [if_pos h1]
      by_cases h2 : k = k'
      · rw [if_pos h2];subst h2;simp [look]
      · rw [if_neg h2]
        have h3 : ¬ p.1 = k':=fun e=>h2 (h1.symm.trans e)
        simp [look,h2,h3]
    · rw [if_neg h1]
      by_cases h3 : p.1 = k'
      · have h2 : ¬ k = k':=fun e=>h1 (h3.trans e.symm)
        rw [if_neg h2];simp [look,h3]
      · rw [← look_cons_ne h3,← look_cons_ne (L:=L) h3];exact ih
def SeenOk (Ls : List Ent) (L : List T3) : Prop:=(∀ p ∈ Ls,p.1.length = 6)∧∀ x : T3,(look Ls x.row).getD (.bool false) = .bool (decide (x.row ∈ rowsT L))
theorem SeenOk.add {Ls : List Ent} {L : List T3} (h : SeenOk Ls L) (t : T3) : SeenOk (setL Ls t.row (.bool true)) (L ++ [t]):=by
  refine ⟨fun p hp=>?_,fun x=>?_⟩
  · rcases setL_mem hp with hp | rfl
    · exact h.1 p hp
    · rfl
  · rw [look_setL]
    by_cases e : t.row = x.row
    · rw [if_pos e];simp [rowsT,← e]
    · rw [if_neg e,h.2 x]
      have e' : ¬ x.row = t.row:=fun g=>e g.symm
      simp [rowsT,e']
theorem nodup_le {α : Type} [DecidableEq α] : ∀ {L M : List α},L.Nodup→(∀ x ∈ L,x ∈ M)→L.length≤M.length
  | [],M,_,_=>Nat.zero_le _
  | x :: L,M,h,hs=>by
    obtain ⟨h1,h2⟩ :=List.nodup_cons.1 h
    have hx:=hs x (.head _)
    have:=nodup_le (M:=M.erase x) h2 fun y hy=>(List.mem_erase_of_ne (fun e : y = x=>h1 (e▸hy))).2 (hs y (.tail _ hy))
    rw [List.length_erase_of_mem hx] at this
    have : 0 < M.length:=List.length_pos_of_mem hx
    rw [List.length_cons];omega
theorem hasE_row {E : MeshE} {u : T3} (h : hasE E u = true) : u.row ∈ E.map fun p=>p.2.row:=by
  unfold hasE at h
  rw [Bool.and_eq_true,decide_eq_true_eq] at h
  obtain ⟨h1,h2⟩ :=h
  cases e : lookE E [u.ax,u.ay,u.bx,u.by'] with
  | none=>rw [e] at h1;cases h1
  | some v=>
    rw [e] at h2
    unfold lookE at e
    obtain ⟨p,hp,rfl⟩ :=Option.map_eq_some_iff.1 e
    exact List.mem_map.2 ⟨p,List.mem_of_find?_eq_some hp,h2⟩
theorem seen_len {E : MeshE} {L : List T3} (h1 : (rowsT L).Nodup) (h2 : ∀ u ∈ L,hasE E u = true) : L.length≤E.length:=by
  have:=nodup_le (M:=E.map fun p=>p.2.row) h1 fun x hx=>by
    obtain ⟨u,hu,rfl⟩ :=List.mem_map.1 hx
    exact hasE_row (h2 u hu)
  simpa using this
theorem SeenOk.nil : SeenOk [] []:=⟨fun _ h=>(by cases h),fun x=>rfl⟩
theorem from13 {w : World} {bm bs : Nat} {E : MeshE} {W : List (List Int)} (t : T3) (kd : Int) (hm : ∃ b, MeshAt w bm b E) (hs : ∃ v, WallsAt w bs v W) (hW : W.length ≤ 1000000) (hE : E.length ≤ 1000000) (hc : ∀ q u, lookE E q = some u → hasE E u = true) (ht : hasE E t = true) : Calls Tryz.prog 95 [.pointer (some ⟨bm, 0, none⟩), .pointer (some ⟨bs, 0, none⟩), .int .i64 kd, .agg t.cells.toArray].toArray w
    (RetK fun r w'=>∃ (L : List T3) (a : Option Addr) (c : Nat),t ∈ L∧(rowsT L).Nodup∧(∀ u ∈ L,hasE E u = true)∧r = .slice a L.length c∧Sep w (fun _=>False) [tab 49 6 r (rowsT (sortT L))] w'):=by
  obtain ⟨b,hm⟩ :=hm
  obtain ⟨vs,hs⟩ :=hs
  have h:=Sep.nil w
  refine walk Tryz.func95 rfl (by kernel_rfl) (by rw [Tryz.nt95];simp) ?_
  replace h:=Zd h;have F:=Zf6 h
  refine Zv1 (@T3.cells.eq_1) ?_
  refine h.new ?_
  clear h F
  intro _ b1 h
  replace h:=Zd h;have F:=Zf6 h;refine Zc ?_
  have kh : ∀ w,MeshAt w bm b E→Calls Tryz.prog 119 [.pointer (some ⟨bm,0,none⟩),.agg t.cells.toArray].toArray w (RetP (.bool true) w):=fun w hm=>ht▸has119 t w hm
  refine Sep.callp h (kh _ (hm.sep h)) ?_
  clear h F
  intro _ h
  replace h:=Zd h;have F:=Zf6 h;refine Zc ?_
  refine Sep.mapNew h ?_
  clear h F
  intro bq w1 h
  replace h:=Zd h;have F:=Zf6 h;refine Zc ?_
  refine Sep.mapSet 1 (et:=4) (k:=t.row) (v:=.bool true) h rfl triK (by kernel_rfl) (fun _ h=>(by cases h)) rfl ?_
  clear h F
  intro _ h
  replace h:=Zd h;have F:=Zf6 h;refine Zc ?_
  refine h.new ?_
  clear h F
  intro _ b2 h
  replace h:=Zd h;have F:=Zf6 h;refine Zc ?_
  have h:=h.toTab 2 6 (rowsT [t]) rfl (fun z hz=>by simp at hz;subst hz;rfl) rfl (by show 1≤maxLen;decide)
  replace h:=Zd h;have F:=Zf6 h;refine Zc ?_
  refine walkLoop [0,1,2,9] [10,11] (fun m vs w'=>∃ (L : List T3) (Ls : List Ent) (a : Option Addr) (c i : Nat),i≤L.length∧m = E.length - i∧vs = [.slice a L.length c,.int .i64 i]∧SeenOk Ls L∧t ∈ L∧(rowsT L).Nodup∧(∀ u ∈ L,hasE E u = true)∧Sep w (fun _=>False) [blk b1 49 [.int .i64 t.ax,.int .i64 t.ay,.int .i64 t.bx,.int .i64 t.by',.int .i64 t.cx,.int .i64 t.cy],mpx bq Ls,tab 49 6 (.slice a L.length c) (rowsT L)] w') (by kernel_rfl) ?_ ?_
  · refine Zv ?_
    exact ⟨_,[t],_,_,_,0,Nat.zero_le _,rfl,rfl,SeenOk.nil.add t,.head _,by simp,fun u hu=>by simp at hu;subst hu;exact ht,h⟩
  clear h
  try clear F
  intro ks hk m vs w3 hi
  obtain ⟨L,Ls,a,c,i,hi,rfl,rfl,hS,htL,hnd,hhas,h⟩ :=hi
  replace hk:=Zk hk;subst hk
  have hLl:=seen_len hnd hhas
  by_cases hlt : (i : Int) < L.length
  case neg=>
    replace h:=Zd h;have F:=Zf6 h;refine Zc1 (decide_eq_false hlt) ?_
    refine Sep.sort 2 (by omega) h rfl ?_
    clear h F
    intro a2 c2 w4 h
    replace h:=Zd h;have F:=Zf6 h;refine Zc ?_
    exact ⟨L,a2,c2,htL,hnd,hhas,rfl,(h.erase 0).erase 0⟩
  replace h:=Zd h;have F:=Zf6 h;refine Zc1 (decide_eq_true hlt) ?_
  have hil : i < L.length:=by omega
  have ei : IntKind.i64.wrap ((i : Int) + 1) = ((i + 1 : Nat) : Int):=by rw [i64w _ (by omega) (by omega)];omega
  refine walkLoop [0,1,2,9,11] [10,12] (fun m vs w'=>∃ (L : List T3) (Ls : List Ent) (a : Option Addr) (c k : Nat),k≤3∧i < L.length∧m = 3 - k∧vs = [.slice a L.length c,.int .i64 k]∧SeenOk Ls L∧t ∈ L∧(rowsT L).Nodup∧(∀ u ∈ L,hasE E u = true)∧Sep w (fun _=>False) [blk b1 49 [.int .i64 t.ax,.int .i64 t.ay,.int .i64 t.bx,.int .i64 t.by',.int .i64 t.cx,.int .i64 t.cy],mpx bq Ls,tab 49 6 (.slice a L.length c) (rowsT L)] w') (by kernel_rfl) ?_ ?_
  · refine Zv ?_
    exact ⟨_,L,Ls,a,c,0,by omega,hil,rfl,rfl,hS,htL,hnd,hhas,h⟩
  clear h hS htL hnd hhas hi hlt hil
  try clear F
  intro ks hk m vs w5 hi2
  obtain ⟨L,Ls,a,c,k,hk3,hil,rfl,rfl,hS,htL,hnd,hhas,h⟩ :=hi2
  replace hk:=Zk hk;subst hk
  have hLl:=seen_len hnd hhas
  by_cases hlk : (k : Int) < 3
  case neg=>
    replace h:=Zd h;have F:=Zf6 h;refine Zc1 (J (decide_eq_false hlk) ei) ?_
    exact ⟨_,by omega,L,Ls,a,c,i + 1,by omega,rfl,rfl,hS,htL,hnd,hhas,h⟩
  have hk3 : k < 3:=by omega
  have ek : IntKind.i64.wrap ((k : Int) + 1) = ((k + 1 : Nat) : Int):=by rw [i64w _ (by omega) (by omega)];omega
  obtain ⟨bb,oo,rfl,kc⟩ :=h.facts.2.2.1.sixAt hil
  have hu:=hhas _ (List.getElem_mem hil)
  replace h:=Zd h;have F:=Zf6 h;refine Zc1 (J (decide_eq_true hlk) (kc _ h.facts.2.2.1)) ?_
  obtain ⟨o,n,eo,eg,fo⟩ : ∃ (o : Option T3) (n : T3),acrossE E L[i] k = o∧o.getD T3.zero = n∧(o.isSome = true→o = some n):=⟨_,_,rfl,rfl,fun h=>by
    cases e : acrossE E L[i] k with
    | none=>rw [e] at h;cases h
    | some _=>rfl⟩
  obtain ⟨z,hz⟩ : ∃ b,o.isSome = b:=⟨_,rfl⟩
  have ka:=fun w hm=>across120 (bm:=bm) (b:=b) (E:=E) L[i] k hk3 w hm hu
  rw [eo,eg,hz] at ka
  have hn : z = true→hasE E n = true:=fun e=>hc _ n (by rw [← fo (hz.trans e),← eo];rfl)
  have q1:=corner122 L[i] k (by omega)
  have q2:=corner122 L[i] ((k + 1 : Nat) : Int) (by omega)
  rw [Int.toNat_natCast] at q1 q2
  obtain ⟨x0,y0,ex⟩ :=L[i].pt_two k
  obtain ⟨x1,y1,ey⟩ :=L[i].pt_two (k + 1)
  rw [ex] at q1
  rw [ey] at q2
  refine ⟨by omega,?_⟩
  refine Sep.callp h (ka _ (hm.sep h)) ?_
  clear h F
  intro _ h
  replace h:=Zd h;have F:=Zf6 h;refine Zc1 (@T3.cells.eq_1) ?_
  refine h.new ?_
  clear h F
  intro _ b4 h
  replace h:=Zd h;have F:=Zf6 h;refine Zc ?_
  refine Sep.put 3 h rfl ?_
  clear h F
  intro _ h
  replace h:=Zd h;have F:=Zf6 h;refine Zc1 (@T3.cells.eq_1) ?_
  obtain ⟨k0,k1,k2,k3,k4,k5⟩ :=kc _ F.2.2.1
  refine walkDraw (.q 0 (.q 1 (.q 2 (.q 3 (.q 5 (.q 7 (.q 8 (.q 9 (.q 11 (.q 12 (.h 4 0 (.h 10 6 (.l 6 (.l 13 (.l 14 (.q 15 .fin)))))))))))))))) [(bb,oo + i * 6,.int .i64 L[i].ax),(bb,oo + i * 6 + 1,.int .i64 L[i].ay),(bb,oo + i * 6 + 2,.int .i64 L[i].bx),(bb,oo + i * 6 + 3,.int .i64 L[i].by'),(bb,oo + i * 6 + 4,.int .i64 L[i].cx),(bb,oo + i * 6 + 5,.int .i64 L[i].cy),(bb,oo + i * 6,.int .i64 L[i].ax),(bb,oo + i * 6 + 1,.int .i64 L[i].ay),(bb,oo + i * 6 + 2,.int .i64 L[i].bx),(bb,oo + i * 6 + 3,.int .i64 L[i].by'),(bb,oo + i * 6 + 4,.int .i64 L[i].cx),(bb,oo + i * 6 + 5,.int .i64 L[i].cy)] (by kernel_rfl) (by simp [Holds_nil,Holds_cons,F,k0,k1,k2,k3,k4,k5]) ?_
  refine h.draw ?_
  clear h F k0 k1 k2 k3 k4 k5
  intro _ h
  replace h:=Zd h;have F:=Zf6 h;refine Zc ?_
  refine ⟨by omega,by omega,?_⟩
  refine Sep.callp h (q1 _) ?_
  clear h F
  intro _ h
  replace h:=Zd h;have F:=Zf6 h;refine Zc1 (J (kc _ h.facts.2.2.1) (J (@cellsI.eq_1) ek)) ?_
  refine Sep.callp h (q2 _) ?_
  clear h F
  intro _ h
  replace h:=Zd h;have F:=Zf6 h;refine Zc1 (J (kc _ h.facts.2.2.1) (J (@cellsI.eq_1) ek)) ?_
  refine Sep.callp h (kind121 x0 y0 x1 y1 _ (hs.sep h) hW) ?_
  clear h F
  intro _ h
  replace h:=Zd h;have F:=Zf6 h;try simp -dsimp only [↓vcA,vcB,vcD,↓pureT_lenS,↓iteT,↓iteF,cond_true,cond_false,eq_self,argE,Env.get,Env.push,ev,evs,evo,retV,Value.cells,Value.oneCell',setR,overR,fillL,zl,places,allSizes,heldC,ne_eq,Int.reduceLE,Int.reduceLT,Int.reduceEq,Int.reduceNe,Int.reduceToNat,Int.cast_ofNat_Int,Nat.reduceMul,Nat.reduceLeDiff,reduceIte,Nat.reduceEqDiff,Nat.reduceAdd,↓reduceIte,Tryz.vcT,F,h.cell0,gets,vsD,if_true,if_false,Bool.false_eq_true,cellsAt,kc _ h.facts.2.2.1,ek,↓stop_if 13,isReg_hit 13]
  refine stop_via (fun E' w'=>(∃ g : Bool,(g = true→z = true∧¬ n.row ∈ rowsT L)∧E'.get 75 = some (.bool g))∧E'.get 0 = some (.pointer (some ⟨bm,0,none⟩))∧E'.get 1 = some (.pointer (some ⟨bs,0,none⟩))∧E'.get 2 = some (.int .i64 kd)∧E'.get 9 = some (.map (some bq))∧E'.get 10 = some (.slice (some ⟨bb,oo,none⟩) L.length c)∧E'.get 11 = some (.int .i64 (i : Int))∧E'.get 12 = some (.int .i64 (k : Int))∧E'.get 13 = some (.pointer (some ⟨b4,0,none⟩))∧Sep w (fun _=>False) [blk b1 49 [.int .i64 t.ax,.int .i64 t.ay,.int .i64 t.bx,.int .i64 t.by',.int .i64 t.cx,.int .i64 t.cy],mpx bq Ls,tab 49 6 (.slice (some ⟨bb,oo,none⟩) L.length c) (rowsT L),blk b4 49 [.int .i64 n.ax,.int .i64 n.ay,.int .i64 n.bx,.int .i64 n.by',.int .i64 n.cx,.int .i64 n.cy]] w') (fun K hk=>?_) ?_
  · cases z with
    | false=>
      replace h:=Zd h;have F:=Zf6 h;refine Zc ?_
      exact hk _ _ ⟨⟨false,fun f=>(by cases f),rfl⟩,rfl,rfl,rfl,rfl,rfl,rfl,rfl,rfl,h⟩
    | true=>
    replace h:=Zd h;have F:=Zf6 h;refine Zc ?_
    refine lookup_rule1 (k:=n.row) F.2.1 triK (et:=4) (by kernel_rfl) (zero_rule (z:=.bool false) (by kernel_rfl)) hS.1 rfl ?_
    rw [hS.2 n]
    cases hin : decide (n.row ∈ rowsT L) with
    | true=>
      replace h:=Zd h;have F:=Zf6 h;refine Zc ?_
      exact hk _ _ ⟨⟨false,fun f=>(by cases f),rfl⟩,rfl,rfl,rfl,rfl,rfl,rfl,rfl,rfl,h⟩
    | false=>
    have hin:=of_decide_eq_false hin
    replace h:=Zd h;have F:=Zf6 h;refine Zc ?_
    cases g5d : decide (kindW W x0 y0 x1 y1 = 0) with
    | true=>
      have g5:=of_decide_eq_true g5d
      replace h:=Zd h;have F:=Zf6 h;refine Zc1 (decide_eq_true g5) ?_
      exact hk _ _ ⟨⟨true,fun _=>⟨rfl,hin⟩,rfl⟩,rfl,rfl,rfl,rfl,rfl,rfl,rfl,rfl,h⟩
    | false=>
    have g5:=of_decide_eq_false g5d
    replace h:=Zd h;have F:=Zf6 h;refine Zc1 (decide_eq_false g5) ?_
    exact hk _ _ ⟨⟨_,fun _=>⟨rfl,hin⟩,rfl⟩,rfl,rfl,rfl,rfl,rfl,rfl,rfl,rfl,h⟩
  rintro E' w' ⟨⟨g,hg,g75⟩,g0,g1,g2,g9,g10,g11,g12,g13,h⟩
  clear F
  cases g with
  | false=>
    replace h:=Zd h;have F:=Zf6 h;refine Zc1 (J g75 (J g0 (J g1 (J g2 (J g9 (J g10 (J g11 (J g12 (J g13 ek))))))))) ?_
    exact ⟨_,by omega,L,Ls,_,c,k + 1,by omega,hil,rfl,rfl,hS,htL,hnd,hhas,h.erase 3⟩
  | true=>
  obtain ⟨hzt,hin⟩ :=hg rfl
  have hnE:=hn hzt
  replace h:=Zd h;have F:=Zf6 h;refine Zc1 (J g75 (J g0 (J g1 (J g2 (J g9 (J g10 (J g11 (J g12 (J g13 ek))))))))) ?_
  refine Sep.mapSet 1 (et:=4) (k:=n.row) (v:=.bool true) h rfl triK (by kernel_rfl) hS.1 rfl ?_
  clear h F
  intro _ h
  replace h:=Zd h;have F:=Zf6 h;refine Zc1 (J g0 (J g1 (J g2 (J g9 (J g10 (J g11 (J g12 (J g13 ek)))))))) ?_
  refine h.new ?_
  clear h F
  intro _ b6 h
  replace h:=Zd h;have F:=Zf6 h;refine Zc1 (J g0 (J g1 (J g2 (J g9 (J g10 (J g11 (J g12 (J g13 ek)))))))) ?_
  refine Sep.appTab 2 4 infoT Tryz.underlying141 rfl (by decide) n.row h rfl rfl rfl (by rw [List.length_map];omega) (by rw [List.length_map];simp only [maxLen];omega) ?_
  clear h F
  intro a9 c9 w9 h
  rw [← rows_app,List.length_map] at h
  rw [rows_len]
  replace h:=Zd h;have F:=Zf6 h;refine Zc1 (J g0 (J g1 (J g2 (J g9 (J g10 (J g11 (J g12 (J g13 ek)))))))) ?_
  refine ⟨_,by omega,L ++ [n],_,a9,c9,k + 1,by omega,by rw [List.length_append];omega,rfl,rfl,hS.add n,List.mem_append.2 (.inl htL),?_,fun u hu=>?_,(h.erase 4).erase 3⟩
  · rw [rows_app,List.nodup_append]
    refine ⟨hnd,by simp,fun x hx y hy=>?_⟩
    rw [List.mem_singleton.1 hy]
    exact fun e=>hin (e▸hx)
  · rcases List.mem_append.1 hu with hu | hu
    · exact hhas u hu
    · rw [List.mem_singleton.1 hu];exact hnE
end Go.Proofs.YtnhgjgoglmadnaaGreat
