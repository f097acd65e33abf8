/- Joined texts of this claim (part 39), printed by a program of this work. The last part holds the claimed theorem: the law answers true at every input of its row. -/
import Derived.Test.YtnhgjgoglmadnaaGreatSPFieldsL
set_option maxHeartbeats 4000000
namespace Go.Proofs.YtnhgjgoglmadnaaGreat
open Go.RowKit
set_option maxRecDepth 100000
set_option linter.unusedSimpArgs false
set_option linter.unusedVariables false
def okPa (x : List Int) : Prop:=∃ a b : Int,x = [a,b]∧(0≤a∧a≤255)∧(0≤b∧b≤255)
def okIs (x : List Int) : Prop:=∃ a b : Int,x = [a,0,b]∧(0≤a∧a≤255)∧(0≤b∧b≤255)
def okCa (x : List Int) : Prop:=∃ a b c d e f : Int,x = [a,0,b,c,d,e,f,-1,0]∧(0≤a∧a≤255)∧(0≤b∧b≤255)∧(0≤c∧c≤255)∧(0≤d∧d≤255)∧(0≤e∧e≤255)∧(0≤f∧f≤4294967295)
def okRe (x : List Int) : Prop:=∃ (a b c d : Int) (t : T3),x = a :: b :: c :: d :: t.row∧(0≤a∧a≤255)∧(0≤b∧b≤65535)∧(0≤c∧c≤255)∧(0≤d∧d≤255)∧t.Ok∧¬ t.late
def okPt (x : List Int) : Prop:=∃ a b : Int,x = [a,b]∧(0≤a∧a < 16777216)∧(0≤b∧b < 16777216)
theorem all_snoc {p : List Int→Prop} {L : List (List Int)} {x : List Int} (h : ∀ y ∈ L,p y) (hx : p x) : ∀ y ∈ L ++ [x],p y:=fun y hy=>(List.mem_append.1 hy).elim (h y) fun hy=>by rw [List.mem_singleton.1 hy];exact hx
theorem LandI.tri {n : Nat} {E : MeshE} (hI : LandI n E) {t : T3} (h : t ∈ sel fTris E) : t.Ok∧¬ t.late:=by
  obtain ⟨T,h1,h2,h3,h4,h5⟩ :=hI
  have ht:=(sel_mem h1).1 h
  exact ⟨h2.ok t ht.1,h3 t ht.1⟩
theorem insP_mem {O : List (List Int)} {x y : List Int} (h : y ∈ insP O x) : y = x∨y ∈ O:=by
  unfold insP at h
  cases e : plcP O x O.length with
  | zero=>rw [e] at h;exact List.mem_cons.1 h
  | succ n=>
    rw [e,insAt] at h
    split at h
    · exact .inr h
    · rcases List.mem_append.1 h with h | h
      · exact .inr (List.mem_of_mem_take h)
      · exact (List.mem_cons.1 h).imp id List.mem_of_mem_drop
theorem sortP_mem {y : List Int} : ∀ {L O : List (List Int)},y ∈ L.foldl insP O→y ∈ L∨y ∈ O
  | [],O,h=>.inr h
  | x :: L,O,h=>by
    rcases sortP_mem (L:=L) h with h | h
    · exact .inl (.tail _ h)
    · rcases insP_mem h with rfl | h
      · exact .inl (.head _)
      · exact .inr h
theorem LandI.pt {n : Nat} {E : MeshE} (hI : LandI n E) : ∀ x ∈ pointsE E,okPt x:=fun x hx=>by
  unfold pointsE sortP at hx
  have hx:=(sortP_mem hx).resolve_right (by simp)
  obtain ⟨t,ht,hx⟩ :=List.mem_flatMap.1 hx
  obtain ⟨⟨v1,v2,v3,_⟩,_⟩ :=hI.tri ((sortT_perm _).mem_iff.1 ht)
  unfold Vp T3.A T3.B T3.C at *
  simp only [T3.pts,List.mem_cons,List.not_mem_nil,or_false] at hx
  rcases hx with rfl | rfl | rfl
  · exact ⟨_,_,rfl,by omega,by omega⟩
  · exact ⟨_,_,rfl,by omega,by omega⟩
  · exact ⟨_,_,rfl,by omega,by omega⟩
structure EncOk (m : MapV) : Prop where
  w : 0≤m.w∧m.w < 16777216
  h : 0≤m.h∧m.h < 16777216
  te : 0≤m.te∧m.te≤255
  wi : 0≤m.wi∧m.wi≤65535
  mr : 0≤m.mr∧m.mr≤65535
  mb : 0≤m.mb∧m.mb≤65535
  ti : 0≤m.ti∧m.ti≤4294967295
  pl : m.p.length≤400
  p : ∀ x ∈ m.p,okPt x
  wl : m.wa.length≤6000
  wa : okWs m.wa
  pal : m.pa.length≤200
  pa : ∀ x ∈ m.pa,okPa x
  rl : m.re.length≤200
  re : ∀ x ∈ m.re,okRe x
  cl : m.ca.length≤600
  ca : ∀ x ∈ m.ca,okCa x
  il : m.is.length≤200
  is : ∀ x ∈ m.is,okIs x
  co : m.co = []
  ch : m.ch = []
structure TownOk (m : MapV) : Prop where
  enc : EncOk m
  p : 0 < m.p.length
  w : 0 < m.wa.length
  r : 0 < m.re.length
  c : 0 < m.ca.length
  i : 0 < m.is.length
theorem Sep.townMap (nw nh te wi mr mb ti : Int) {w0 w : World} {S : Nat → Prop} {vp vw vr va vc vi : Value} {P W R A C I : List (List Int)} (h : Sep w0 S [tab 45 2 vp P, tab 47 5 vw W, tab 51 10 vr R, tab 69 2 va A, tab 53 9 vc C, tab 55 3 vi I] w) :
    Sep w0 S [mapX ⟨nw,nh,te,wi,mr,mb,ti,P,W,A,R,C,I,[],[]⟩ ⟨vp,vw,va,vr,vc,vi,.slice Option.none 0 0,.slice Option.none 0 0⟩] w:=by
  replace h:=h.emp
  simp only [List.set_cons_zero,List.set_cons_succ,List.set_nil,List.cons_append,List.nil_append] at h
  replace h:=h.two 6 0 rfl rfl
  simp only [List.set_cons_zero,List.set_cons_succ,List.set_nil,List.cons_append,List.nil_append] at h
  replace h:=h.two 6 1 rfl rfl
  simp only [List.set_cons_zero,List.set_cons_succ,List.set_nil,List.cons_append,List.nil_append] at h
  replace h:=h.two 6 3 rfl rfl
  simp only [List.set_cons_zero,List.set_cons_succ,List.set_nil,List.cons_append,List.nil_append] at h
  replace h:=h.two 6 2 rfl rfl
  simp only [List.set_cons_zero,List.set_cons_succ,List.set_nil,List.cons_append,List.nil_append] at h
  replace h:=h.two 6 4 rfl rfl
  simp only [List.set_cons_zero,List.set_cons_succ,List.set_nil,List.cons_append,List.nil_append] at h
  replace h:=h.two 6 5 rfl rfl
  simp only [List.set_cons_zero,List.set_cons_succ,List.set_nil,List.cons_append,List.nil_append] at h
  replace h:=h.tabNil 93 3
  simp only [List.set_cons_zero,List.set_cons_succ,List.set_nil,List.cons_append,List.nil_append] at h
  replace h:=h.two 6 7 rfl rfl
  simp only [List.set_cons_zero,List.set_cons_succ,List.set_nil,List.cons_append,List.nil_append] at h
  replace h:=h.chnNil
  simp only [List.set_cons_zero,List.set_cons_succ,List.set_nil,List.cons_append,List.nil_append] at h
  replace h:=h.two 6 8 rfl rfl
  simp only [List.set_cons_zero,List.set_cons_succ,List.set_nil,List.cons_append,List.nil_append] at h
  exact (((((((h.erase 8).erase 7).erase 0).erase 0).erase 0).erase 0).erase 0).erase 0
theorem town6 {w : World} {v : Value} (ls : List Int) (hv : Ints w v ls) : Calls Tryz.prog 6 [v].toArray w
    (RetK fun r w'=>∃ m s,r = .agg (m.cells s).toArray∧TownOk m∧Sep w (fun _=>False) [mapX m s] w'):=by
  obtain ⟨Φ,T⟩ :=landT
  have h:=Sep.nil w
  refine walk Tryz.func6 rfl (by kernel_rfl) (by rw [Tryz.nt6];simp) ?_
  replace h:=Zd h;have F:=Zf7 h
  refine Zv ?_
  refine h.new ?_
  clear h F
  intro _ b2 h
  replace h:=Zd h;have F:=Zf7 h;refine Zc ?_
  refine h.callN (Q:=fun v N=>∃ (bc : Nat) (X Y : Int) (n : Nat) (E : MeshE) (W : List (List Int)),(4≤X∧X≤12)∧(4≤Y∧Y≤12)∧n≤16∧LandI n E∧okWs W∧4≤W.length∧W.length≤6000∧v = .pointer (some ⟨bc,0,none⟩)∧N = [cdt bc X Y E W]) ((base11 T ls (Tab.sep hv h fun _ _ f=>f)).mono fun ex w' ⟨v,er,bc,X,Y,n,E,W,h1,h2,h3,h4,h5,h6,h7,ev,k⟩ =>⟨v,er,_,k,fun q hq x hx=>(by simp at hq;subst hq;exact hx),bc,X,Y,n,E,W,h1,h2,h3,h4,h5,h6,h7,ev,rfl⟩) ?_
  clear h F
  rintro _ _ w3 ⟨bc,X,Y,n,E,W,hX,hY,hn,hI,hok,h4,hW,rfl,rfl⟩ h
  replace h:=Zd h;have F:=Zf7 h;refine Zc ?_
  have hEl:=hI.len
  have hPo:=hI.pts
  obtain ⟨bm,bs,h⟩ :=Sep.cdtAt 1 h rfl
  have h:=Sep.splitTwo 2 h rfl
  obtain ⟨vw,h⟩ :=Sep.wlsOpen 3 h rfl
  obtain ⟨aw,cw,rfl⟩ :=h.facts.2.2.2.2.1.shape
  have hPl : (pointsE E).length≤3 * E.length:=by
    have h1:=sortP_len (cornP (sortT (sel fTris E)))
    rw [cornP_len,(sortT_perm _).length_eq] at h1
    have h2:=sel_len fTris E
    unfold pointsE
    omega
  have q10:=atI_in (l:=ls) (i:=10) (n:=3) (by omega)
  have q11:=atI_in (l:=ls) (i:=11) (n:=12) (by omega)
  have q12:=atI_in (l:=ls) (i:=12) (n:=40) (by omega)
  have q13:=atI_in (l:=ls) (i:=13) (n:=1500) (by omega)
  have w10:=i64w (2 + atI ls 10 3) (by omega) (by omega)
  have w11:=i64w (1 + atI ls 11 12) (by omega) (by omega)
  have w12:=i64w (4 + atI ls 12 40) (by omega) (by omega)
  have w13:=i64w (60 + atI ls 13 1500) (by omega) (by omega)
  replace h:=Zd h;have F:=Zf7 h
  refine walkDrawI (.q 0 (.q 1 (.q 2 (.h 3 0 (.q 4 (.q 5 (.q 6 (.h 7 1 (.q 8 (.q 11 (.q 14 (.q 17 (.q 20 (.q 23 (.q 24 (.q 25 (.h 26 3 (.q 27 (.q 28 (.h 29 4 .fin)))))))))))))))))))) [⟨9,some 0,[]⟩,⟨10,some 1,[9]⟩,⟨12,some 2,[9]⟩,⟨13,some 3,[12]⟩,⟨15,some 4,[12]⟩,⟨16,some 5,[15]⟩,⟨18,some 6,[15]⟩,⟨19,some 7,[18]⟩,⟨21,some 8,[18]⟩,⟨22,some 9,[]⟩,⟨30,some 10,[21,22]⟩,⟨31,some 11,[10,13,16,19,21,30]⟩,⟨32,some 12,[]⟩,⟨33,none,[9,10,12,13,15,16,18,19,21,22,30,31,32]⟩] [22,23,25,26,28,29,31,32,34,35,43,44,4] [0,2,3,16,20,21,24,27,30,33,42] [(bc,0,.int .i64 X),(bc,1,.int .i64 Y),(bc,2,.pointer (some ⟨bm,0,none⟩)),(bc,3,.pointer (some ⟨bs,0,none⟩)),(bs,0,.slice aw W.length cw)] (by kernel_rfl) (by simp [Holds_nil,Holds_cons,F]) ?_
  refine h.draw ?_
  clear h F
  intro _ h
  replace h:=Zd h;have F:=Zf7 h;refine Zc1 (J w10 (J w11 (J w12 w13))) ?_
  refine ⟨fun l vs w'=>∃ v9 v10 v12 v13 v15 v16 v18 v19 v21 v22 v30 v31 v32 : Value,vs = [v9,v10,v12,v13,v15,v16,v18,v19,v21,v22,v30,v31,v32]∧(l 9 = true→v9 = .int .i64 (atI ls 10 3))∧(l 10 = true→v10 = .int .i64 (2 + atI ls 10 3))∧(l 12 = true→v12 = .int .i64 (atI ls 11 12))∧(l 13 = true→v13 = .int .i64 (1 + atI ls 11 12))∧(l 15 = true→v15 = .int .i64 (atI ls 12 40))∧(l 16 = true→v16 = .int .i64 (4 + atI ls 12 40))∧(l 18 = true→v18 = .int .i64 (atI ls 13 1500))∧(l 19 = true→v19 = .int .i64 (60 + atI ls 13 1500))∧(l 31 = true→v31 = .agg #[.int .i64 X,.int .i64 Y,.int .i64 (2 + atI ls 10 3),.int .i64 (1 + atI ls 11 12),.int .i64 (4 + atI ls 12 40),.int .i64 (60 + atI ls 13 1500),.int .i64 0,v21,v30,.slice none 0 0,.slice none 0 0,.slice none 0 0,.slice none 0 0,.slice none 0 0,.slice none 0 0])∧(l 33 = true→l 32 = true)∧(l 30 = true→l 22 = true)∧(l 31 = true→l 21 = true)∧(l 31 = true→l 30 = true)∧(l 33 = true→l 31 = true)∧∃ b22 b4 : Nat,(l 22 = true→v22 = .slice (some ⟨b22,0,none⟩) 0 0)∧(l 32 = true→v32 = .pointer (some ⟨b4,0,none⟩))∧Sep w (fun _=>False) [blk b2 33 [.int .i64 0,.int .i64 0,.int .i64 0,.int .i64 0,.int .i64 0,.int .i64 0,.int .i64 0,.slice none 0 0,.slice none 0 0,.slice none 0 0,.slice none 0 0,.slice none 0 0,.slice none 0 0,.slice none 0 0,.slice none 0 0],blk bc 62 [.int .i64 X,.int .i64 Y,.pointer (some ⟨bm,0,none⟩),.pointer (some ⟨bs,0,none⟩)],msh bm E,blk bs 66 [.slice aw W.length cw],tab 47 5 (.slice aw W.length cw) W,(if l 22 = true then (if l 30 = true then emp else blk b22 47 []) else emp),(if l 32 = true then blk b4 33 (if l 33 = true then [.int .i64 X,.int .i64 Y,.int .i64 (2 + atI ls 10 3),.int .i64 (1 + atI ls 11 12),.int .i64 (4 + atI ls 12 40),.int .i64 (60 + atI ls 13 1500),.int .i64 0,v21,v30,.slice none 0 0,.slice none 0 0,.slice none 0 0,.slice none 0 0,.slice none 0 0,.slice none 0 0] else [.int .i64 0,.int .i64 0,.int .i64 0,.int .i64 0,.int .i64 0,.int .i64 0,.int .i64 0,.slice none 0 0,.slice none 0 0,.slice none 0 0,.slice none 0 0,.slice none 0 0,.slice none 0 0,.slice none 0 0,.slice none 0 0]) else emp),(if l 21 = true then tab 45 2 v21 (pointsE E) else emp),(if l 30 = true then tab 47 5 v30 W else emp)] w',?_,?_,⟨?_,?_,?_,?_,?_,?_,?_,?_,?_,?_,?_,?_,?_,?_,trivial⟩,?_⟩
  · clear h F;intro l vs w1 hI
    obtain ⟨v9,v10,v12,v13,v15,v16,v18,v19,v21,v22,v30,v31,v32,rfl,e9,e10,e12,e13,e15,e16,e18,e19,e31,o33,p30_22,p31_21,p31_30,p33_31,b22,b4,e22,e32,h⟩ :=hI
    replace h:=Zd h;have F:=Zf7 h
    exact (by simp [Holds_nil,Holds_cons,F])
  · intro us0 hv0
    obtain ⟨v9,us1,rfl,hv1⟩ :=cons_of_len hv0
    obtain ⟨v10,us2,rfl,hv2⟩ :=cons_of_len hv1
    obtain ⟨v12,us3,rfl,hv3⟩ :=cons_of_len hv2
    obtain ⟨v13,us4,rfl,hv4⟩ :=cons_of_len hv3
    obtain ⟨v15,us5,rfl,hv5⟩ :=cons_of_len hv4
    obtain ⟨v16,us6,rfl,hv6⟩ :=cons_of_len hv5
    obtain ⟨v18,us7,rfl,hv7⟩ :=cons_of_len hv6
    obtain ⟨v19,us8,rfl,hv8⟩ :=cons_of_len hv7
    obtain ⟨v21,us9,rfl,hv9⟩ :=cons_of_len hv8
    obtain ⟨v22,us10,rfl,hv10⟩ :=cons_of_len hv9
    obtain ⟨v30,us11,rfl,hv11⟩ :=cons_of_len hv10
    obtain ⟨v31,us12,rfl,hv12⟩ :=cons_of_len hv11
    obtain ⟨v32,us13,rfl,hv13⟩ :=cons_of_len hv12
    obtain rfl:=nil_of_len hv13
    exact ⟨v9,v10,v12,v13,v15,v16,v18,v19,v21,v22,v30,v31,v32,rfl,(fun e=>by cases e),(fun e=>by cases e),(fun e=>by cases e),(fun e=>by cases e),(fun e=>by cases e),(fun e=>by cases e),(fun e=>by cases e),(fun e=>by cases e),(fun e=>by cases e),(fun e=>by cases e),(fun e=>by cases e),(fun e=>by cases e),(fun e=>by cases e),(fun e=>by cases e),0,0,(fun e=>by cases e),(fun e=>by cases e),h.addEmp.addEmp.addEmp.addEmp⟩
  · clear h F;intro l vs w1 hI hl hp
    obtain ⟨v9,v10,v12,v13,v15,v16,v18,v19,v21,v22,v30,v31,v32,rfl,e9,e10,e12,e13,e15,e16,e18,e19,e31,o33,p30_22,p31_21,p31_30,p33_31,b22,b4,e22,e32,h⟩ :=hI
    replace h:=Zd h;have F:=Zf7 h
    replace h:=Zd h;have F:=Zf7 h;refine Zc1 (J w10 (J w11 (J w12 w13))) ?_
    refine h.atT 10 hv rfl (by omega) (by omega) ?_
    clear F;intro w2 h
    exact ⟨_,_,_,_,_,_,_,_,_,_,_,_,_,rfl,(fun _=>rfl),e10,e12,e13,e15,e16,e18,e19,e31,o33,p30_22,p31_21,p31_30,p33_31,b22,b4,e22,e32,h⟩
  · clear h F;intro l vs w1 hI hl hp
    obtain ⟨v9,v10,v12,v13,v15,v16,v18,v19,v21,v22,v30,v31,v32,rfl,e9,e10,e12,e13,e15,e16,e18,e19,e31,o33,p30_22,p31_21,p31_30,p33_31,b22,b4,e22,e32,h⟩ :=hI
    obtain rfl:=e9 (hp 9 (by simp))
    have f9 : l 9 = true:=hp 9 (by simp)
    replace h:=Zd h;have F:=Zf7 h
    replace h:=Zd h;have F:=Zf7 h;refine Zc1 (J f9 (J w10 (J w11 (J w12 w13)))) ?_
    exact ⟨_,_,_,_,_,_,_,_,_,_,_,_,_,rfl,(fun _=>rfl),(fun _=>rfl),e12,e13,e15,e16,e18,e19,e31,o33,p30_22,p31_21,p31_30,p33_31,b22,b4,e22,e32,h⟩
  · clear h F;intro l vs w1 hI hl hp
    obtain ⟨v9,v10,v12,v13,v15,v16,v18,v19,v21,v22,v30,v31,v32,rfl,e9,e10,e12,e13,e15,e16,e18,e19,e31,o33,p30_22,p31_21,p31_30,p33_31,b22,b4,e22,e32,h⟩ :=hI
    obtain rfl:=e9 (hp 9 (by simp))
    have f9 : l 9 = true:=hp 9 (by simp)
    replace h:=Zd h;have F:=Zf7 h
    replace h:=Zd h;have F:=Zf7 h;refine Zc1 (J w10 (J w11 (J w12 w13))) ?_
    refine h.atT 11 hv rfl (by omega) (by omega) ?_
    clear F;intro w2 h
    exact ⟨_,_,_,_,_,_,_,_,_,_,_,_,_,rfl,(fun _=>rfl),e10,(fun _=>rfl),e13,e15,e16,e18,e19,e31,o33,p30_22,p31_21,p31_30,p33_31,b22,b4,e22,e32,h⟩
  · clear h F;intro l vs w1 hI hl hp
    obtain ⟨v9,v10,v12,v13,v15,v16,v18,v19,v21,v22,v30,v31,v32,rfl,e9,e10,e12,e13,e15,e16,e18,e19,e31,o33,p30_22,p31_21,p31_30,p33_31,b22,b4,e22,e32,h⟩ :=hI
    obtain rfl:=e12 (hp 12 (by simp))
    have f12 : l 12 = true:=hp 12 (by simp)
    replace h:=Zd h;have F:=Zf7 h
    replace h:=Zd h;have F:=Zf7 h;refine Zc1 (J f12 (J w10 (J w11 (J w12 w13)))) ?_
    exact ⟨_,_,_,_,_,_,_,_,_,_,_,_,_,rfl,e9,e10,(fun _=>rfl),(fun _=>rfl),e15,e16,e18,e19,e31,o33,p30_22,p31_21,p31_30,p33_31,b22,b4,e22,e32,h⟩
  · clear h F;intro l vs w1 hI hl hp
    obtain ⟨v9,v10,v12,v13,v15,v16,v18,v19,v21,v22,v30,v31,v32,rfl,e9,e10,e12,e13,e15,e16,e18,e19,e31,o33,p30_22,p31_21,p31_30,p33_31,b22,b4,e22,e32,h⟩ :=hI
    obtain rfl:=e12 (hp 12 (by simp))
    have f12 : l 12 = true:=hp 12 (by simp)
    replace h:=Zd h;have F:=Zf7 h
    replace h:=Zd h;have F:=Zf7 h;refine Zc1 (J w10 (J w11 (J w12 w13))) ?_
    refine h.atT 12 hv rfl (by omega) (by omega) ?_
    clear F;intro w2 h
    exact ⟨_,_,_,_,_,_,_,_,_,_,_,_,_,rfl,e9,e10,(fun _=>rfl),e13,(fun _=>rfl),e16,e18,e19,e31,o33,p30_22,p31_21,p31_30,p33_31,b22,b4,e22,e32,h⟩
  · clear h F;intro l vs w1 hI hl hp
    obtain ⟨v9,v10,v12,v13,v15,v16,v18,v19,v21,v22,v30,v31,v32,rfl,e9,e10,e12,e13,e15,e16,e18,e19,e31,o33,p30_22,p31_21,p31_30,p33_31,b22,b4,e22,e32,h⟩ :=hI
    obtain rfl:=e15 (hp 15 (by simp))
    have f15 : l 15 = true:=hp 15 (by simp)
    replace h:=Zd h;have F:=Zf7 h
    replace h:=Zd h;have F:=Zf7 h;refine Zc1 (J f15 (J w10 (J w11 (J w12 w13)))) ?_
    exact ⟨_,_,_,_,_,_,_,_,_,_,_,_,_,rfl,e9,e10,e12,e13,(fun _=>rfl),(fun _=>rfl),e18,e19,e31,o33,p30_22,p31_21,p31_30,p33_31,b22,b4,e22,e32,h⟩
  · clear h F;intro l vs w1 hI hl hp
    obtain ⟨v9,v10,v12,v13,v15,v16,v18,v19,v21,v22,v30,v31,v32,rfl,e9,e10,e12,e13,e15,e16,e18,e19,e31,o33,p30_22,p31_21,p31_30,p33_31,b22,b4,e22,e32,h⟩ :=hI
    obtain rfl:=e15 (hp 15 (by simp))
    have f15 : l 15 = true:=hp 15 (by simp)
    replace h:=Zd h;have F:=Zf7 h
    replace h:=Zd h;have F:=Zf7 h;refine Zc1 (J w10 (J w11 (J w12 w13))) ?_
    refine h.atT 13 hv rfl (by omega) (by omega) ?_
    clear F;intro w2 h
    exact ⟨_,_,_,_,_,_,_,_,_,_,_,_,_,rfl,e9,e10,e12,e13,(fun _=>rfl),e16,(fun _=>rfl),e19,e31,o33,p30_22,p31_21,p31_30,p33_31,b22,b4,e22,e32,h⟩
  · clear h F;intro l vs w1 hI hl hp
    obtain ⟨v9,v10,v12,v13,v15,v16,v18,v19,v21,v22,v30,v31,v32,rfl,e9,e10,e12,e13,e15,e16,e18,e19,e31,o33,p30_22,p31_21,p31_30,p33_31,b22,b4,e22,e32,h⟩ :=hI
    obtain rfl:=e18 (hp 18 (by simp))
    have f18 : l 18 = true:=hp 18 (by simp)
    replace h:=Zd h;have F:=Zf7 h
    replace h:=Zd h;have F:=Zf7 h;refine Zc1 (J f18 (J w10 (J w11 (J w12 w13)))) ?_
    exact ⟨_,_,_,_,_,_,_,_,_,_,_,_,_,rfl,e9,e10,e12,e13,e15,e16,(fun _=>rfl),(fun _=>rfl),e31,o33,p30_22,p31_21,p31_30,p33_31,b22,b4,e22,e32,h⟩
  · clear h F;intro l vs w1 hI hl hp
    obtain ⟨v9,v10,v12,v13,v15,v16,v18,v19,v21,v22,v30,v31,v32,rfl,e9,e10,e12,e13,e15,e16,e18,e19,e31,o33,p30_22,p31_21,p31_30,p33_31,b22,b4,e22,e32,h⟩ :=hI
    obtain rfl:=e18 (hp 18 (by simp))
    have f18 : l 18 = true:=hp 18 (by simp)
    replace h:=Zd h;have F:=Zf7 h
    have n31 : l 31 = false:=by
      cases hq : l 31 with
      | false=>rfl
      | true=>exact Bool.noConfusion ((p31_21 hq).symm.trans hl)
    have n33 : l 33 = false:=by
      cases hq : l 33 with
      | false=>rfl
      | true=>exact Bool.noConfusion ((p31_21 (p33_31 hq)).symm.trans hl)
    simp only [n31,n33,hl,f18,Bool.false_eq_true,if_false,if_true] at h
    replace h:=Zd h;have F:=Zf7 h;refine Zc1 (J f18 (J w10 (J w11 (J w12 w13)))) ?_
    refine Sep.pts 1 2 (by omega) h rfl rfl (by decide) ?_
    clear F;intro v21 w2 h
    replace h:=Sep.last 7 h rfl
    refine ⟨_,_,_,_,_,_,_,_,_,_,_,_,_,rfl,e9,e10,e12,e13,e15,e16,(fun _=>rfl),e19,(fun q=>Bool.noConfusion ((p31_21 q).symm.trans hl)),o33,p30_22,(fun _=>rfl),p31_30,p33_31,b22,b4,e22,e32,?_⟩
    simp only [flag,n31,n33,f18,Nat.reduceBEq,beq_self_eq_true,Bool.true_or,Bool.false_or,Bool.false_eq_true,if_false,if_true];exact h
  · clear h F;intro l vs w1 hI hl hp
    obtain ⟨v9,v10,v12,v13,v15,v16,v18,v19,v21,v22,v30,v31,v32,rfl,e9,e10,e12,e13,e15,e16,e18,e19,e31,o33,p30_22,p31_21,p31_30,p33_31,b22,b4,e22,e32,h⟩ :=hI
    replace h:=Zd h;have F:=Zf7 h
    have n30 : l 30 = false:=by
      cases hq : l 30 with
      | false=>rfl
      | true=>exact Bool.noConfusion ((p30_22 hq).symm.trans hl)
    replace h:=Zd h;have F:=Zf7 h;refine Zc1 (J hl (J w10 (J w11 (J w12 w13)))) ?_
    simp only [hl,n30,Bool.false_eq_true,if_false] at h
    refine Sep.newAt 5 h rfl ?_
    clear F;intro w2 b22 h
    refine ⟨_,_,_,_,_,_,_,_,_,_,_,_,_,rfl,e9,e10,e12,e13,e15,e16,e18,e19,e31,o33,(fun _=>rfl),p31_21,p31_30,p33_31,b22,b4,(fun _=>rfl),e32,?_⟩
    simp only [flag,n30,Nat.reduceBEq,beq_self_eq_true,Bool.true_or,Bool.false_or,Bool.false_eq_true,if_false,if_true];exact h
  · clear h F;intro l vs w1 hI hl hp
    obtain ⟨v9,v10,v12,v13,v15,v16,v18,v19,v21,v22,v30,v31,v32,rfl,e9,e10,e12,e13,e15,e16,e18,e19,e31,o33,p30_22,p31_21,p31_30,p33_31,b22,b4,e22,e32,h⟩ :=hI
    obtain rfl:=e22 (hp 22 (by simp))
    have f21 : l 21 = true:=hp 21 (by simp)
    have f22 : l 22 = true:=hp 22 (by simp)
    replace h:=Zd h;have F:=Zf7 h
    have n31 : l 31 = false:=by
      cases hq : l 31 with
      | false=>rfl
      | true=>exact Bool.noConfusion ((p31_30 hq).symm.trans hl)
    have n33 : l 33 = false:=by
      cases hq : l 33 with
      | false=>rfl
      | true=>exact Bool.noConfusion ((p31_30 (p33_31 hq)).symm.trans hl)
    simp only [n31,n33,hl,f21,f22,Bool.false_eq_true,if_false,if_true] at h
    replace h:=Zd h;have F:=Zf7 h;refine Zc1 (J f21 (J f22 (J w10 (J w11 (J w12 w13))))) ?_
    refine Sep.appNewV 5 8 infoW Tryz.underlying25 rfl (by decide) W h rfl rfl h.facts.2.2.2.2.1 (by omega) (by simp only [maxLen];omega) ?_
    clear F;intro v30 w2 h
    skip
    refine ⟨_,_,_,_,_,_,_,_,_,_,_,_,_,rfl,e9,e10,e12,e13,e15,e16,e18,e19,(fun q=>Bool.noConfusion ((p31_30 q).symm.trans hl)),o33,(fun _=>f22),p31_21,(fun _=>rfl),p33_31,b22,b4,(fun _=>rfl),e32,?_⟩
    simp only [flag,n31,n33,f21,f22,Nat.reduceBEq,beq_self_eq_true,Bool.true_or,Bool.false_or,Bool.false_eq_true,if_false,if_true];exact h
  · clear h F;intro l vs w1 hI hl hp
    obtain ⟨v9,v10,v12,v13,v15,v16,v18,v19,v21,v22,v30,v31,v32,rfl,e9,e10,e12,e13,e15,e16,e18,e19,e31,o33,p30_22,p31_21,p31_30,p33_31,b22,b4,e22,e32,h⟩ :=hI
    obtain rfl:=e10 (hp 10 (by simp))
    obtain rfl:=e13 (hp 13 (by simp))
    obtain rfl:=e16 (hp 16 (by simp))
    obtain rfl:=e19 (hp 19 (by simp))
    have f10 : l 10 = true:=hp 10 (by simp)
    have f13 : l 13 = true:=hp 13 (by simp)
    have f16 : l 16 = true:=hp 16 (by simp)
    have f19 : l 19 = true:=hp 19 (by simp)
    have f21 : l 21 = true:=hp 21 (by simp)
    have f30 : l 30 = true:=hp 30 (by simp)
    simp only [f10,f13,f16,f19,f21,f30,if_true] at h
    obtain ⟨_,_,rfl⟩ :=h.facts.2.2.2.2.2.2.2.1.shape
    obtain ⟨_,_,rfl⟩ :=h.facts.2.2.2.2.2.2.2.2.1.shape
    replace h:=Zd h;have F:=Zf7 h
    replace h:=Zd h;have F:=Zf7 h;refine Zc1 (J f10 (J f13 (J f16 (J f19 (J f21 (J f30 (J w10 (J w11 (J w12 w13))))))))) ?_
    refine ⟨_,_,_,_,_,_,_,_,_,_,_,_,_,rfl,e9,(fun _=>rfl),e12,(fun _=>rfl),e15,(fun _=>rfl),e18,(fun _=>rfl),(fun _=>rfl),o33,p30_22,(fun _=>f21),(fun _=>f30),(fun _=>rfl),b22,b4,e22,e32,?_⟩
    simp only [flag,f10,f13,f16,f19,f21,f30,Nat.reduceBEq,beq_self_eq_true,Bool.true_or,Bool.false_or,if_true];exact h
  · clear h F;intro l vs w1 hI hl hp
    obtain ⟨v9,v10,v12,v13,v15,v16,v18,v19,v21,v22,v30,v31,v32,rfl,e9,e10,e12,e13,e15,e16,e18,e19,e31,o33,p30_22,p31_21,p31_30,p33_31,b22,b4,e22,e32,h⟩ :=hI
    replace h:=Zd h;have F:=Zf7 h
    have n33 : l 33 = false:=by
      cases hq : l 33 with
      | false=>rfl
      | true=>exact Bool.noConfusion ((o33 hq).symm.trans hl)
    replace h:=Zd h;have F:=Zf7 h;refine Zc1 (J hl (J w10 (J w11 (J w12 w13)))) ?_
    simp only [hl,n33,Bool.false_eq_true,if_false] at h
    refine Sep.newAt 6 h rfl ?_
    clear F;intro w2 b4 h
    refine ⟨_,_,_,_,_,_,_,_,_,_,_,_,_,rfl,e9,e10,e12,e13,e15,e16,e18,e19,e31,(fun _=>rfl),p30_22,p31_21,p31_30,p33_31,b22,b4,e22,(fun _=>rfl),?_⟩
    simp only [flag,n33,Nat.reduceBEq,beq_self_eq_true,Bool.true_or,Bool.false_or,Bool.false_eq_true,if_false,if_true];exact h
  · clear h F;intro l vs w1 hI hl hp
    obtain ⟨v9,v10,v12,v13,v15,v16,v18,v19,v21,v22,v30,v31,v32,rfl,e9,e10,e12,e13,e15,e16,e18,e19,e31,o33,p30_22,p31_21,p31_30,p33_31,b22,b4,e22,e32,h⟩ :=hI
    obtain rfl:=e9 (hp 9 (by simp))
    obtain rfl:=e10 (hp 10 (by simp))
    obtain rfl:=e12 (hp 12 (by simp))
    obtain rfl:=e13 (hp 13 (by simp))
    obtain rfl:=e15 (hp 15 (by simp))
    obtain rfl:=e16 (hp 16 (by simp))
    obtain rfl:=e18 (hp 18 (by simp))
    obtain rfl:=e19 (hp 19 (by simp))
    obtain rfl:=e22 (hp 22 (by simp))
    obtain rfl:=e31 (hp 31 (by simp))
    obtain rfl:=e32 (hp 32 (by simp))
    have f9 : l 9 = true:=hp 9 (by simp)
    have f10 : l 10 = true:=hp 10 (by simp)
    have f12 : l 12 = true:=hp 12 (by simp)
    have f13 : l 13 = true:=hp 13 (by simp)
    have f15 : l 15 = true:=hp 15 (by simp)
    have f16 : l 16 = true:=hp 16 (by simp)
    have f18 : l 18 = true:=hp 18 (by simp)
    have f19 : l 19 = true:=hp 19 (by simp)
    have f21 : l 21 = true:=hp 21 (by simp)
    have f22 : l 22 = true:=hp 22 (by simp)
    have f30 : l 30 = true:=hp 30 (by simp)
    have f31 : l 31 = true:=hp 31 (by simp)
    have f32 : l 32 = true:=hp 32 (by simp)
    simp only [f9,f10,f12,f13,f15,f16,f18,f19,f21,f22,f30,f31,f32,if_true] at h
    obtain ⟨_,_,rfl⟩ :=h.facts.2.2.2.2.2.2.2.1.shape
    obtain ⟨_,_,rfl⟩ :=h.facts.2.2.2.2.2.2.2.2.1.shape
    replace h:=Zd h;have F:=Zf7 h
    simp only [f9,f10,f12,f13,f15,f16,f18,f19,f21,f22,f30,f31,f32,hl,Bool.false_eq_true,if_false,if_true] at h
    replace h:=Zd h;have F:=Zf7 h;refine Zc1 (J f9 (J f10 (J f12 (J f13 (J f15 (J f16 (J f18 (J f19 (J f21 (J f22 (J f30 (J f31 (J f32 (J w10 (J w11 (J w12 w13)))))))))))))))) ?_
    refine Sep.put 6 h rfl ?_
    clear F;intro w2 h
    refine ⟨_,_,_,_,_,_,_,_,_,_,_,_,_,rfl,(fun _=>rfl),(fun _=>rfl),(fun _=>rfl),(fun _=>rfl),(fun _=>rfl),(fun _=>rfl),(fun _=>rfl),(fun _=>rfl),(fun _=>rfl),(fun _=>f32),p30_22,p31_21,p31_30,(fun _=>f31),b22,b4,(fun _=>rfl),(fun _=>rfl),?_⟩
    simp only [flag,f9,f10,f12,f13,f15,f16,f18,f19,f21,f22,f30,f31,f32,Nat.reduceBEq,beq_self_eq_true,Bool.true_or,Bool.false_or,if_true];exact h
  clear h F;intro l vs w1 hI hall
  obtain ⟨v9,v10,v12,v13,v15,v16,v18,v19,v21,v22,v30,v31,v32,rfl,e9,e10,e12,e13,e15,e16,e18,e19,e31,o33,p30_22,p31_21,p31_30,p33_31,b22,b4,e22,e32,h⟩ :=hI
  have f9 : l 9 = true:=hall ⟨9,some 0,[]⟩ (by simp)
  have f10 : l 10 = true:=hall ⟨10,some 1,[9]⟩ (by simp)
  have f12 : l 12 = true:=hall ⟨12,some 2,[9]⟩ (by simp)
  have f13 : l 13 = true:=hall ⟨13,some 3,[12]⟩ (by simp)
  have f15 : l 15 = true:=hall ⟨15,some 4,[12]⟩ (by simp)
  have f16 : l 16 = true:=hall ⟨16,some 5,[15]⟩ (by simp)
  have f18 : l 18 = true:=hall ⟨18,some 6,[15]⟩ (by simp)
  have f19 : l 19 = true:=hall ⟨19,some 7,[18]⟩ (by simp)
  have f21 : l 21 = true:=hall ⟨21,some 8,[18]⟩ (by simp)
  have f22 : l 22 = true:=hall ⟨22,some 9,[]⟩ (by simp)
  have f30 : l 30 = true:=hall ⟨30,some 10,[21,22]⟩ (by simp)
  have f31 : l 31 = true:=hall ⟨31,some 11,[10,13,16,19,21,30]⟩ (by simp)
  have f32 : l 32 = true:=hall ⟨32,some 12,[]⟩ (by simp)
  have f33 : l 33 = true:=hall ⟨33,none,[9,10,12,13,15,16,18,19,21,22,30,31,32]⟩ (by simp)
  obtain rfl:=e9 f9
  obtain rfl:=e10 f10
  obtain rfl:=e12 f12
  obtain rfl:=e13 f13
  obtain rfl:=e15 f15
  obtain rfl:=e16 f16
  obtain rfl:=e18 f18
  obtain rfl:=e19 f19
  obtain rfl:=e22 f22
  obtain rfl:=e31 f31
  obtain rfl:=e32 f32
  simp only [f9,f10,f12,f13,f15,f16,f18,f19,f21,f22,f30,f31,f32,f33,if_true] at h
  clear hall f9 f10 f12 f13 f15 f16 f18 f19 f21 f22 f30 f31 f32 f33 o33 p30_22 p31_21 p31_30 p33_31
  replace h:=Zd h;have F:=Zf7 h;refine Zc1 (J w10 (J w11 (J w12 w13))) ?_
  obtain ⟨a21,c21,rfl⟩ :=h.facts.2.2.2.2.2.2.2.1.shape
  obtain ⟨a30,c30,rfl⟩ :=h.facts.2.2.2.2.2.2.2.2.1.shape
  generalize hP : pointsE E = P at *
  have h:=((h.wlsShut 3 4 rfl rfl).two 2 3 rfl rfl).two 1 2 rfl rfl
  have h:=h.conv 1 (r':=cdt bc X Y E W) rfl (fun A on=>⟨bm,bs,on⟩) (fun _ f=>f.elim)
  have h:=(((h.erase 5).erase 4).erase 3).erase 2
  clear F
  have hha:=hI.has
  have hsl:=sel_len fTris E
  refine h.call1 1 (Q:=fun v r' N=>r' = cdt bc X Y E W∧∃ (Rs : List (List Int)) (a : Option Addr) (c : Nat),v = .slice a Rs.length c∧0 < Rs.length∧Rs.length≤E.length∧(∀ r ∈ Rs,okR E r)∧N = [tab 51 10 v Rs]) rfl (fun A hA k=>(named14 ls (by omega) (by omega) hha hI.any (fun k'=>hv.far (Tab.sep hv h fun _ _ f=>f) hA k') k).mono fun ex w' ⟨v,er,Rs,a,c,ev,h1,h2,h3,k⟩ =>⟨v,er,_,_,k,fun _ f=>f,fun q hq=>(by simp at hq;subst hq;exact fun _ f=>f),rfl,Rs,a,c,ev,h1,h2,h3,rfl⟩) ?_
  clear h
  rintro _ _ _ w4 ⟨rfl,Rs,ar,cr,rfl,hR0,hRl,hRk,rfl⟩ h
  have h:=h.erase 1
  replace h:=Zd h;have F:=Zf7 h;refine Zc ?_
  refine Sep.put 1 h rfl ?_
  clear h F
  intro _ h
  replace h:=Zd h;have F:=Zf7 h;refine Zc ?_
  refine walkLoop [0,2,4] [5,6] (fun m vs w'=>∃ (i : Nat) (pc : Int),i≤Rs.length∧m = Rs.length - i∧vs = [.int .i64 pc,.int .i64 i]∧(0≤pc∧pc≤200)∧(0 < i→1≤pc)∧Sep w (fun _=>False) [blk b2 33 [.int .i64 0,.int .i64 0,.int .i64 0,.int .i64 0,.int .i64 0,.int .i64 0,.int .i64 0,.slice none 0 0,.slice none 0 0,.slice none 0 0,.slice none 0 0,.slice none 0 0,.slice none 0 0,.slice none 0 0,.slice none 0 0],blk b4 33 [.int .i64 X,.int .i64 Y,.int .i64 (2 + atI ls 10 3),.int .i64 (1 + atI ls 11 12),.int .i64 (4 + atI ls 12 40),.int .i64 (60 + atI ls 13 1500),.int .i64 0,.slice a21 P.length c21,.slice a30 W.length c30,.slice none 0 0,.slice ar Rs.length cr,.slice none 0 0,.slice none 0 0,.slice none 0 0,.slice none 0 0],tab 45 2 (.slice a21 P.length c21) P,tab 47 5 (.slice a30 W.length c30) W,tab 51 10 (.slice ar Rs.length cr) Rs] w') (by kernel_rfl) ?_ ?_
  · refine Zv ?_
    exact ⟨_,0,0,Nat.zero_le _,rfl,rfl,by omega,fun e=>absurd e (Nat.lt_irrefl 0),h⟩
  clear h
  try clear F
  intro ks hk m vs w5 hi
  obtain ⟨i,pc,hi,rfl,rfl,hpc,hp1,h⟩ :=hi
  replace hk:=Zk hk;subst hk
  replace h:=Zd h;have F:=Zf7 h;refine Zc ?_
  by_cases hlt : (i : Int) < Rs.length
  case pos=>
    have hil : i < Rs.length:=by omega
    have ei : IntKind.i64.wrap ((i : Int) + 1) = ((i + 1 : Nat) : Int):=by rw [i64w _ (by omega) (by omega)];omega
    obtain ⟨pa,la,ro,ow,t,er,hpa,_⟩ :=hRk _ (List.getElem_mem hil)
    obtain ⟨bb,oo,ea,hc⟩ :=Tab.at h.facts.2.2.2.2.1 hil (by decide)
    subst ea
    rw [er] at hc
    have hc0:=(cellsAt_elim hc).2 0 _ rfl
    rw [Nat.add_zero] at hc0
    replace h:=Zd h;have F:=Zf7 h;refine Zc1 (J (decide_eq_true hlt) (J hc0 ei)) ?_
    exact ⟨by omega,_,by omega,i + 1,_,by omega,rfl,rfl,by split<;>omega,fun _=>by split<;>omega,h⟩
  replace h:=Zd h;have F:=Zf7 h;refine Zc1 (decide_eq_false hlt) ?_
  have hp1 : 1≤pc:=hp1 (by omega)
  obtain ⟨te,hte,ete⟩ : ∃ te : Int,(2≤te∧te≤4)∧2 + atI ls 10 3 = te:=⟨_,by omega,rfl⟩
  rw [ete] at h
  obtain ⟨pn,hpn⟩ : ∃ pn : Nat,pc = pn:=⟨pc.toNat,by omega⟩
  subst hpn
  have h:=((h.tabNil 69 2).tabNil 53 9).tabNil 55 3
  replace h:=Zd h;have F:=Zf7 h
  refine walkLoop [0,2,4,5] [7] (fun m vs w'=>∃ (p : Nat) (Pa Ca Is : List (List Int)) (ap ac ai : Option Addr) (cp cc ci : Nat),p≤pn∧m = pn - p∧vs = [.int .i64 ((p + 1 : Nat) : Int)]∧Pa.length = p∧Is.length = p∧p≤Ca.length∧Ca.length≤3 * p∧(∀ x ∈ Pa,okPa x)∧(∀ x ∈ Ca,okCa x)∧(∀ x ∈ Is,okIs x)∧Sep w (fun _=>False) [blk b2 33 [.int .i64 0,.int .i64 0,.int .i64 0,.int .i64 0,.int .i64 0,.int .i64 0,.int .i64 0,.slice none 0 0,.slice none 0 0,.slice none 0 0,.slice none 0 0,.slice none 0 0,.slice none 0 0,.slice none 0 0,.slice none 0 0],blk b4 33 [.int .i64 X,.int .i64 Y,.int .i64 te,.int .i64 (1 + atI ls 11 12),.int .i64 (4 + atI ls 12 40),.int .i64 (60 + atI ls 13 1500),.int .i64 0,.slice a21 P.length c21,.slice a30 W.length c30,.slice ap Pa.length cp,.slice ar Rs.length cr,.slice ac Ca.length cc,.slice ai Is.length ci,.slice none 0 0,.slice none 0 0],tab 45 2 (.slice a21 P.length c21) P,tab 47 5 (.slice a30 W.length c30) W,tab 51 10 (.slice ar Rs.length cr) Rs,tab 69 2 (.slice ap Pa.length cp) Pa,tab 53 9 (.slice ac Ca.length cc) Ca,tab 55 3 (.slice ai Is.length ci) Is] w') (by kernel_rfl) ?_ ?_
  · refine Zv ?_
    exact ⟨_,0,[],[],[],none,none,none,0,0,0,Nat.zero_le _,rfl,rfl,rfl,rfl,Nat.le_refl _,Nat.le_refl _,fun x hx=>(by cases hx),fun x hx=>(by cases hx),fun x hx=>(by cases hx),h⟩
  clear h hi hlt
  try clear F
  intro ks hk m vs w6 hi
  obtain ⟨p,Pa,Ca,Is,ap,ac,ai,cp,cc,ci,hp,rfl,rfl,hPa,hIs,hCa1,hCa2,oPa,oCa,oIs,h⟩ :=hi
  replace hk:=Zk hk;subst hk
  replace h:=Zd h;have F:=Zf7 h;refine Zc ?_
  by_cases hlt : ((p + 1 : Nat) : Int)≤pn
  case neg=>
    replace h:=Zd h;have F:=Zf7 h;refine Zc1 (decide_eq_false hlt) ?_
    refine Sep.put 0 h rfl ?_
    clear h F
    intro _ h
    replace h:=Zd h;have F:=Zf7 h;refine Zc ?_
    replace h:=Sep.townMap X Y te (1 + atI ls 11 12) (4 + atI ls 12 40) (60 + atI ls 13 1500) 0 ((h.erase 0).erase 0)
    refine ⟨⟨X,Y,te,1 + atI ls 11 12,4 + atI ls 12 40,60 + atI ls 13 1500,0,P,W,Pa,Rs,Ca,Is,[],[]⟩,⟨.slice a21 P.length c21,.slice a30 W.length c30,.slice ap Pa.length cp,.slice ar Rs.length cr,.slice ac Ca.length cc,.slice ai Is.length ci,.slice none 0 0,.slice none 0 0⟩,rfl,?_,h⟩
    refine ⟨⟨by dsimp only;omega,by dsimp only;omega,by dsimp only;omega,by dsimp only;omega,by dsimp only;omega,by dsimp only;omega,by dsimp only;omega,by dsimp only;omega,?_,by dsimp only;omega,hok,by dsimp only;omega,oPa,by dsimp only;omega,fun x hx=>?_,by dsimp only;omega,oCa,by dsimp only;omega,oIs,rfl,rfl⟩,by dsimp only;omega,by dsimp only;omega,by dsimp only;omega,by dsimp only;omega,by dsimp only;omega⟩
    · rw [← hP];exact hI.pt
    · obtain ⟨a,b,c,d,t,e,ha,hb,hc,hd,ht⟩ :=hRk x hx
      have ht:=hI.tri (hasE_sel ht)
      exact ⟨a,b,c,d,t,e,by omega,by omega,by omega,by omega,ht.1,ht.2⟩
  have w14 : IntKind.i64.wrap (14 + ((p + 1 : Nat) : Int)) = ((14 + (p + 1) : Nat) : Int):=by rw [i64w _ (by omega) (by omega)];omega
  have w15 : IntKind.i64.wrap (15 + ((p + 1 : Nat) : Int)) = ((15 + (p + 1) : Nat) : Int):=by rw [i64w _ (by omega) (by omega)];omega
  have w1 : IntKind.i64.wrap (((p + 1 : Nat) : Int) + 1) = ((p + 1 + 1 : Nat) : Int):=by rw [i64w _ (by omega) (by omega)];omega
  replace h:=Zd h;have F:=Zf7 h;refine Zc1 (J (decide_eq_true hlt) w14) ?_
  refine h.at12 hv (14 + (p + 1)) 3 (by omega) (by omega) ?_
  clear h F
  intro _ h
  have q1:=atI_in (l:=ls) (i:=((14 + (p + 1) : Nat) : Int)) (n:=3) (by omega)
  have e1:=i64w (1 + atI ls ((14 + (p + 1) : Nat) : Int) 3) (by omega) (by omega)
  replace h:=Zd h;have F:=Zf7 h;refine Zc1 e1 ?_
  obtain ⟨n,hn',en⟩ : ∃ n : Nat,(1≤n∧n≤3)∧1 + atI ls ((14 + (p + 1) : Nat) : Int) 3 = n:=⟨(1 + atI ls ((14 + (p + 1) : Nat) : Int) 3).toNat,by omega,by omega⟩
  rw [en]
  clear en e1 q1
  refine walkDrawE (.q 0 (.q 2 (.q 3 (.q 4 (.q 5 (.q 6 (.h 1 9 (.l 7 (.q 8 (.q 9 (.q 10 (.l 11 (.l 12 (.q 13 .fin)))))))))))))) 14 [(b4,0,.int .i64 X),(b4,1,.int .i64 Y),(b4,2,.int .i64 te),(b4,3,.int .i64 (1 + atI ls 11 12)),(b4,4,.int .i64 (4 + atI ls 12 40)),(b4,5,.int .i64 (60 + atI ls 13 1500)),(b4,6,.int .i64 0),(b4,7,.slice a21 P.length c21),(b4,8,.slice a30 W.length c30),(b4,9,.slice ap Pa.length cp),(b4,10,.slice ar Rs.length cr),(b4,11,.slice ac Ca.length cc),(b4,12,.slice ai Is.length ci),(b4,13,.slice none 0 0),(b4,14,.slice none 0 0)] (by kernel_rfl) (by simp [Holds_nil,Holds_cons,F]) ?_
  refine h.draw ?_
  clear h F
  intro _ h
  replace h:=Zd h;have F:=Zf7 h;refine Zc1 w15 ?_
  refine h.at12 hv (15 + (p + 1)) 4 (by omega) (by omega) ?_
  clear h F
  intro _ h
  have q1:=atI_in (l:=ls) (i:=((15 + (p + 1) : Nat) : Int)) (n:=4) (by omega)
  have e1:=i64w ((n : Int) + atI ls ((15 + (p + 1) : Nat) : Int) 4) (by omega) (by omega)
  replace h:=Zd h;have F:=Zf7 h;refine Zc1 e1 ?_
  obtain ⟨tk,htk,etk⟩ : ∃ tk : Int,(0≤tk∧tk≤16)∧(if 16 < (n : Int) + atI ls ((15 + (p + 1) : Nat) : Int) 4 then 16 else (n : Int) + atI ls ((15 + (p + 1) : Nat) : Int) 4) = tk:=⟨_,by split<;>omega,rfl⟩
  simp only [etk]
  clear etk e1 q1
  refine h.new ?_
  clear h F
  intro _ b5 h
  replace h:=Zd h;have F:=Zf7 h;refine Zc ?_
  refine Sep.appTab 5 8 infoPa Tryz.underlying26 rfl (by decide) [((p + 1 : Nat) : Int),tk] h rfl rfl rfl (by omega) (by simp only [maxLen];omega) ?_
  clear h F
  intro ap cp _ h
  replace h:=Zd h;have F:=Zf7 h;refine Zc ?_
  refine Sep.put 1 h rfl ?_
  clear h F
  intro _ h
  replace h:=Zd h;have F:=Zf7 h;refine Zc ?_
  replace h:=h.erase 8
  have oPa':=all_snoc oPa (x:=[((p + 1 : Nat) : Int),tk]) ⟨_,_,rfl,by omega,by omega⟩
  have hPa' : (Pa ++ [[((p + 1 : Nat) : Int),tk]]).length = p + 1:=by rw [List.length_append,hPa];rfl
  generalize Pa ++ [[((p + 1 : Nat) : Int),tk]] = Pa' at *
  clear F oPa hPa
  replace h:=Zd h;have F:=Zf7 h;refine Zc ?_
  refine h.new ?_
  clear h F
  intro _ b6 h
  replace h:=Zd h;have F:=Zf7 h;refine Zc ?_
  refine Sep.appTab 7 8 infoIs Tryz.underlying29 rfl (by decide) [((p + 1 : Nat) : Int),0,(n : Int)] h rfl rfl rfl (by omega) (by simp only [maxLen];omega) ?_
  clear h F
  intro ai ci _ h
  replace h:=Zd h;have F:=Zf7 h;refine Zc ?_
  refine Sep.put 1 h rfl ?_
  clear h F
  intro _ h
  replace h:=Zd h;have F:=Zf7 h;refine Zc ?_
  replace h:=h.erase 8
  have oIs':=all_snoc oIs (x:=[((p + 1 : Nat) : Int),0,(n : Int)]) ⟨_,_,rfl,by omega,by omega⟩
  have hIs' : (Is ++ [[((p + 1 : Nat) : Int),0,(n : Int)]]).length = p + 1:=by rw [List.length_append,hIs];rfl
  generalize Is ++ [[((p + 1 : Nat) : Int),0,(n : Int)]] = Is' at *
  clear F oIs hIs
  replace h:=Zd h;have F:=Zf7 h;refine Zc ?_
  refine walkLoop [0,2,4,5,7,8] [9] (fun m vs w'=>∃ (j : Nat) (Ca' : List (List Int)) (ac : Option Addr) (cc : Nat),j≤n∧m = n - j∧vs = [.int .i64 (j : Int)]∧Ca'.length = Ca.length + j∧(∀ x ∈ Ca',okCa x)∧Sep w (fun _=>False) [blk b2 33 [.int .i64 0,.int .i64 0,.int .i64 0,.int .i64 0,.int .i64 0,.int .i64 0,.int .i64 0,.slice none 0 0,.slice none 0 0,.slice none 0 0,.slice none 0 0,.slice none 0 0,.slice none 0 0,.slice none 0 0,.slice none 0 0],blk b4 33 [.int .i64 X,.int .i64 Y,.int .i64 te,.int .i64 (1 + atI ls 11 12),.int .i64 (4 + atI ls 12 40),.int .i64 (60 + atI ls 13 1500),.int .i64 0,.slice a21 P.length c21,.slice a30 W.length c30,(.slice ap Pa'.length cp),.slice ar Rs.length cr,(.slice ac Ca'.length cc),(.slice ai Is'.length ci),.slice none 0 0,.slice none 0 0],tab 45 2 (.slice a21 P.length c21) P,tab 47 5 (.slice a30 W.length c30) W,tab 51 10 (.slice ar Rs.length cr) Rs,tab 69 2 ((.slice ap Pa'.length cp)) Pa',tab 53 9 ((.slice ac Ca'.length cc)) Ca',tab 55 3 ((.slice ai Is'.length ci)) Is'] w') (by kernel_rfl) ?_ ?_
  · refine Zv ?_
    exact ⟨_,0,Ca,ac,cc,Nat.zero_le _,rfl,rfl,rfl,oCa,h⟩
  have hpp : p < pn:=by omega
  clear h oCa hlt
  try clear F
  intro ks hk m vs w7 hi
  obtain ⟨j,Ca',ac,cc,hj,rfl,rfl,hCl,oCa,h⟩ :=hi
  replace hk:=Zk hk;subst hk
  replace h:=Zd h;have F:=Zf7 h;refine Zc ?_
  by_cases hlj : (j : Int) < n
  case neg=>
    replace h:=Zd h;have F:=Zf7 h;refine Zc1 (J (decide_eq_false hlj) w1) ?_
    exact ⟨_,by omega,p + 1,Pa',Ca',Is',ap,ac,ai,cp,cc,ci,by omega,rfl,rfl,hPa',hIs',by omega,by omega,oPa',oCa,oIs',h⟩
  have ej : IntKind.i64.wrap ((j : Int) + 1) = ((j + 1 : Nat) : Int):=by rw [i64w _ (by omega) (by omega)];omega
  have epj:=i64w (((p + 1 : Nat) : Int) + (j : Int)) (by omega) (by omega)
  replace h:=Zd h;have F:=Zf7 h;refine Zc1 (J (decide_eq_true hlj) epj) ?_
  refine h.callp (round15 (((p + 1 : Nat) : Int) + (j : Int)) te (by omega) _) ?_
  clear h F
  intro _ h
  have q1:=roundI_in (k:=((p + 1 : Nat) : Int) + (j : Int)) (n:=te) (by omega)
  generalize roundI (((p + 1 : Nat) : Int) + (j : Int)) te = hd at *
  replace h:=Zd h;have F:=Zf7 h;refine Zc ?_
  refine h.new ?_
  clear h F
  intro _ b10 h
  replace h:=Zd h;have F:=Zf7 h;refine Zc ?_
  refine Sep.put 8 h rfl ?_
  clear h F
  intro _ h
  replace h:=Zd h;have F:=Zf7 h;refine Zc ?_
  by_cases h0 : (0 : Int) < j
  case neg=>
    replace h:=Zd h;have F:=Zf7 h;refine Zc1 (decide_eq_false h0) ?_
    refine h.new ?_
    clear h F
    intro _ b11 h
    replace h:=Zd h;have F:=Zf7 h;refine Zc ?_
    refine Sep.appTab 6 9 infoCa Tryz.underlying28 rfl (by decide) [((p + 1 : Nat) : Int),0,(j : Int),hd,0,15,1000,-1,0] h rfl rfl rfl (by omega) (by simp only [maxLen];omega) ?_
    clear h F
    intro ac cc _ h
    replace h:=Zd h;have F:=Zf7 h;refine Zc1 ej ?_
    refine Sep.put 1 h rfl ?_
    clear h F
    intro _ h
    replace h:=Zd h;have F:=Zf7 h;refine Zc1 ej ?_
    have oCa2:=all_snoc oCa (x:=[((p + 1 : Nat) : Int),0,(j : Int),hd,0,15,1000,-1,0]) ⟨_,_,_,_,_,_,rfl,by omega,by omega,by omega,by omega,by omega,by omega⟩
    refine ⟨_,by omega,j + 1,_,ac,cc,by omega,rfl,rfl,?_,oCa2,(h.erase 9).erase 8⟩
    rw [List.length_append,hCl];rfl
  have w16 : IntKind.i64.wrap (16 + (j : Int)) = 16 + (j : Int):=i64w _ (by omega) (by omega)
  have w16b : IntKind.i64.wrap (16 + (j : Int) + ((p + 1 : Nat) : Int)) = ((16 + j + (p + 1) : Nat) : Int):=by rw [i64w _ (by omega) (by omega)];omega
  have w17 : IntKind.i64.wrap (17 + (j : Int)) = ((17 + j : Nat) : Int):=by rw [i64w _ (by omega) (by omega)];omega
  have w18 : IntKind.i64.wrap (18 + (j : Int)) = ((18 + j : Nat) : Int):=by rw [i64w _ (by omega) (by omega)];omega
  have w19 : IntKind.i64.wrap (19 + (j : Int)) = ((19 + j : Nat) : Int):=by rw [i64w _ (by omega) (by omega)];omega
  replace h:=Zd h;have F:=Zf7 h;refine Zc1 (J (decide_eq_true h0) (J w16 w16b)) ?_
  refine h.at12 hv (16 + j + (p + 1)) te (by omega) (by omega) ?_
  clear h F
  intro _ h
  have q2:=atI_in (l:=ls) (i:=((16 + j + (p + 1) : Nat) : Int)) (n:=te) (by omega)
  generalize atI ls ((16 + j + (p + 1) : Nat) : Int) te = ho at *
  replace h:=Zd h;have F:=Zf7 h;refine Zc1 w17 ?_
  refine h.at12 hv (17 + j) 4 (by omega) (by omega) ?_
  clear h F
  intro _ h
  have q3:=atI_in (l:=ls) (i:=((17 + j : Nat) : Int)) (n:=4) (by omega)
  generalize atI ls ((17 + j : Nat) : Int) 4 = la at *
  replace h:=Zd h;have F:=Zf7 h;refine Zc1 w18 ?_
  refine h.at12 hv (18 + j) 15 (by omega) (by omega) ?_
  clear h F
  intro _ h
  have q4:=atI_in (l:=ls) (i:=((18 + j : Nat) : Int)) (n:=15) (by omega)
  generalize atI ls ((18 + j : Nat) : Int) 15 = ri at *
  have e4:=i64w (1 + ri) (by omega) (by omega)
  replace h:=Zd h;have F:=Zf7 h;refine Zc1 (J e4 w19) ?_
  refine h.at12 hv (19 + j) 30 (by omega) (by omega) ?_
  clear h F
  intro _ h
  have q5:=atI_in (l:=ls) (i:=((19 + j : Nat) : Int)) (n:=30) (by omega)
  generalize atI ls ((19 + j : Nat) : Int) 30 = un at *
  have e5:=i64w (1 + un) (by omega) (by omega)
  replace h:=Zd h;have F:=Zf7 h;refine Zc1 e5 ?_
  refine Sep.put 8 h rfl ?_
  clear h F
  intro _ h
  replace h:=Zd h;have F:=Zf7 h;refine Zc ?_
  refine Sep.put 8 h rfl ?_
  clear h F
  intro _ h
  replace h:=Zd h;have F:=Zf7 h;refine Zc ?_
  refine Sep.put 8 h rfl ?_
  clear h F
  intro _ h
  replace h:=Zd h;have F:=Zf7 h;refine Zc ?_
  refine Sep.put 8 h rfl ?_
  clear h F
  intro _ h
  replace h:=Zd h;have F:=Zf7 h;refine Zc ?_
  refine h.new ?_
  clear h F
  intro _ b11 h
  replace h:=Zd h;have F:=Zf7 h;refine Zc ?_
  refine Sep.appTab 6 9 infoCa Tryz.underlying28 rfl (by decide) [((p + 1 : Nat) : Int),0,(j : Int),ho,la,(1 + ri),(1 + un),-1,0] h rfl rfl rfl (by omega) (by simp only [maxLen];omega) ?_
  clear h F
  intro ac cc _ h
  replace h:=Zd h;have F:=Zf7 h;refine Zc1 ej ?_
  refine Sep.put 1 h rfl ?_
  clear h F
  intro _ h
  replace h:=Zd h;have F:=Zf7 h;refine Zc1 ej ?_
  have oCa2:=all_snoc oCa (x:=[((p + 1 : Nat) : Int),0,(j : Int),ho,la,(1 + ri),(1 + un),-1,0]) ⟨_,_,_,_,_,_,rfl,by omega,by omega,by omega,by omega,by omega,by omega⟩
  refine ⟨_,by omega,j + 1,_,ac,cc,by omega,rfl,rfl,?_,oCa2,(h.erase 9).erase 8⟩
  rw [List.length_append,hCl];rfl
end Go.Proofs.YtnhgjgoglmadnaaGreat
