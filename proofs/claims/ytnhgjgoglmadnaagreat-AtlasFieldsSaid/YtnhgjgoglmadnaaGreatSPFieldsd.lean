/- Joined texts of this claim (part 4), printed by a program of this work. The last part holds the claimed theorem: the law answers true at every input of its row. -/
import Derived.Deep.LoopGhost
import Derived.Test.YtnhgjgoglmadnaaGreatSPFieldsc
namespace Go.Proofs.YtnhgjgoglmadnaaGreat
open Go.RowKit
abbrev XQ:=Exit→Env→World→Prop
def seqQ (K : Env→World→Prop) (Q : XQ) : XQ:=fun e E w=>match e with | .normal=>K E w | e=>Q e E w
def blkQ (id : Nat) (Q : XQ) : XQ:=fun e E w=>match e with | .exit i=>if i = id then Q .normal E w else Q (.exit i) E w | e=>Q e E w
def normQ (K : Env→World→Prop) : XQ:=fun e E w=>match e with | .normal=>K E w | _=>False
def drawG (P : Program) (n : Nat) (ops : Array Oper) (E : Env) (w : World) (K : Env→World→Prop) : Prop:=
  ∀ id a,Agree n E a→(Code.region id ops true).wp P (lift n (normQ K)) a w
def loopG (P : Program) (n : Nat) (b : Code) (E : Env) (w : World) (Q : XQ) : Prop:=
  ∀ a,Agree n E a→(Code.loop b).wp P (lift n Q) a w
def codev (P : Program) (n : Nat) : Code→Env→World→XQ→Prop
  | .skip,E,w,Q=>Q .normal E w
  | .label _,E,w,Q=>Q .normal E w
  | .seq a b,E,w,Q=>codev P n a E w (seqQ (fun E w=>codev P n b E w Q) Q)
  | .region _ ops false,E,w,Q=>opsv P ops ops.toList E w (fun E w=>Q .normal E w)
  | .region _ ops true,E,w,Q=>drawG P n ops E w (fun E w=>Q .normal E w)
  | .cond c x y,E,w,Q=>okK (ev E c) fun v=>boolK v fun b=>ifK b (codev P n x E w Q) (codev P n y E w Q)
  | .block id b,E,w,Q=>codev P n b E w (blkQ id Q)
  | .loop b,E,w,Q=>loopG P n b E w Q
  | .exit id,E,w,Q=>Q (.exit id) E w
  | .ret,E,w,Q=>Q .ret E w
  | _,_,_,_=>False
def codeOk (n : Nat) : Code→Bool
  | .skip | .label _ | .exit _ | .ret=>true
  | .seq a b=>codeOk n a && codeOk n b
  | .region _ ops _=>ops.toList.all (fun o=>dOk n o.dst)
  | .cond _ x y=>codeOk n x && codeOk n y
  | .block _ b=>codeOk n b
  | .loop b=>codeOk n b
  | _=>false
theorem codev_sound {P : Program} {n : Nat} : ∀ (c : Code) (E : Env) (a : Act) (w : World) (Q : XQ),codeOk n c = true→Agree n E a→codev P n c E w Q→c.wp P (lift n Q) a w
  | .skip,E,a,w,Q,_,hA,h=>wp_skip ⟨E,hA,h⟩
  | .label _,E,a,w,Q,_,hA,h=>wp_label ⟨E,hA,h⟩
  | .exit id,E,a,w,Q,_,hA,h=>wp_exit ⟨E,hA,h⟩
  | .ret,E,a,w,Q,_,hA,h=>wp_ret ⟨E,hA,h⟩
  | .seq x y,E,a,w,Q,hc,hA,h=>by
    simp only [codeOk,Bool.and_eq_true] at hc
    refine wp_seq (wp_mono (codev_sound x E a w _ hc.1 hA h) fun e a' w' he=>?_)
    cases e with
    | normal=>obtain ⟨E',hA',h'⟩ :=he;exact codev_sound y E' a' w' Q hc.2 hA' h'
    | _=>exact he
  | .region _ ops false,E,a,w,Q,hc,hA,h=>
    wp_region_list (opsv_sound (fun E a w hA hk=>⟨E,hA,hk⟩) _ _ _ _ hc hA h)
  | .region id ops true,E,a,w,Q,hc,hA,h=>by
    refine wp_mono (h id a hA) fun e a' w' he=>?_
    cases e with
    | normal=>exact he
    | panic c=>exact he.elim
    | outgrown=>exact he.elim
    | _=>obtain ⟨_,_,hf⟩ :=he;exact hf.elim
  | .cond c x y,E,a,w,Q,hc,hA,h=>by
    simp only [codeOk,Bool.and_eq_true] at hc
    obtain ⟨v,hv,h⟩ :=okK_elim h
    obtain ⟨b,rfl,h⟩ :=boolK_elim h
    exact wp_cond_split (hA.ev hv) (fun hb=>codev_sound x E a w Q hc.1 hA (h.1 hb)) (fun hb=>codev_sound y E a w Q hc.2 hA (h.2 hb))
  | .block id b,E,a,w,Q,hc,hA,h=>by
    refine wp_block (wp_mono (codev_sound b E a w _ hc hA h) fun e a' w' he=>?_)
    cases e with
    | exit i=>
      obtain ⟨E',hA',h'⟩ :=he
      show if i = id then _ else _
      simp only [blkQ] at h'
      split
      · rename_i hi;rw [if_pos hi] at h';exact ⟨E',hA',h'⟩
      · rename_i hi;rw [if_neg hi] at h';exact ⟨E',hA',h'⟩
    | _=>exact he
  | .loop b,E,a,w,Q,hc,hA,h=>h a hA
  | .goto _,_,_,_,_,hc,_,_=>by simp [codeOk] at hc
  | .scope _,_,_,_,_,hc,_,_=>by simp [codeOk] at hc
  | .rangeFunc ..,_,_,_,_,hc,_,_=>by simp [codeOk] at hc
  | .refuse _,_,_,_,_,hc,_,_=>by simp [codeOk] at hc
def drawOk (P : Program) (n : Nat) (ops : Array Oper) (p : Plan) : Bool:=
  P.follows .mixedOrders && Region.noSelect ops && ops.all (fun o=>dOk n o.dst) && planOk ops p (Array.replicate ops.size false) ops.size
theorem draw_rule {P : Program} {n : Nat} {ops : Array Oper} {E : Env} {w : World} {K : Env → World → Prop} (p : Plan) (L : Held) (hp : drawOk P n ops p = true) (hL : Holds L w)
    (h : ∀ w1,w1.heap = w.heap→Chg (fun _=>False) w w1→planv P ops L p E w1 K) : drawG P n ops E w K:=by
  intro id a hA
  simp only [drawOk,Bool.and_eq_true] at hp
  refine wp_region_held (S:=Holds L) hp.1.1.1 (planv_sound (n:=n) (fun E a w hA hk=>⟨E,hA,hk⟩) (fun c a w hq=>hq) hp.1.1.2 hp.1.2 p _ _ E a _ hp.2 hA ?_ (h _ rfl (Chg.refl _ _).drew))
  exact hL
def gets (E : Env) : List Nat→Option (List Value)
  | []=>some []
  | i :: is=>(E.get i).bind fun v=>(gets E is).map fun vs=>v :: vs
def roundQ (keep : List Nat) (ks : List Value) (slots : List Nat) (I : Nat→List Value→World→Prop) (m : Nat) (Q : XQ) : XQ:=fun e E w=>
  match e with
  | .normal=>okK (gets E keep) fun ks'=>okK (gets E slots) fun vs=>ks' = ks∧∃ m',m' < m∧I m' vs w
  | e=>Q e E w
theorem Env.get_append (A B : Env) (i : Nat) : (A ++ B).get i = (A.get i).or (B.get i):=by
  induction A with
  | nil=>simp [Env.get]
  | cons p A ih=>
    obtain ⟨k,v⟩ :=p
    simp only [List.cons_append,Env.get]
    split
    · rfl
    · exact ih
theorem gets_zip {E : Env} : ∀ {is : List Nat} {vs : List Value},gets E is = some vs→∀ i v,Env.get (is.zip vs) i = some v→E.get i = some v
  | [],vs,h,i,v,hv=>by simp [Env.get] at hv
  | k :: is,vs,h,i,v,hv=>by
    simp only [gets,Option.bind_eq_some_iff,Option.map_eq_some_iff] at h
    obtain ⟨u,hu,us,hus,rfl⟩ :=h
    simp only [List.zip_cons_cons,Env.get] at hv
    split at hv
    · rename_i hk;subst hk;rw [← hv];exact hu
    · exact gets_zip hus i v hv
theorem Agree.two {n : Nat} {E : Env} {a : Act} {A B : Env} (hA : Agree n E a) (h1 : ∀ i v,A.get i = some v→E.get i = some v) (h2 : ∀ i v,B.get i = some v→E.get i = some v) : Agree n (A ++ B) a:=
  hA.weaken fun i v h=>by
    rw [Env.get_append] at h
    cases hh : A.get i with
    | none=>rw [hh] at h;exact h2 i v (by simpa using h)
    | some u=>rw [hh] at h;simp at h;subst h;exact h1 i u hh
theorem loop_rule {P : Program} {n : Nat} {b : Code} {E : Env} {w : World} {Q : XQ} (keep slots : List Nat) (I : Nat → List Value → World → Prop) (hb : codeOk n b = true)
    (h0 : okK (gets E keep) fun _=>okK (gets E slots) fun vs=>∃ m,I m vs w)
    (hr : ∀ ks,gets E keep = some ks→∀ m vs w1,I m vs w1→codev P n b (slots.zip vs ++ keep.zip ks) w1 (roundQ keep ks slots I m Q)) : loopG P n b E w Q:=by
  intro a hA
  obtain ⟨ks,hks,h0⟩ :=okK_elim h0
  obtain ⟨vs,hvs,m0,h0⟩ :=okK_elim h0
  let J : Nat→Act→World→Prop:=fun m a w=>∃ vs,Agree n (slots.zip vs ++ keep.zip ks) a∧I m vs w
  have h00 : J m0 a w:=⟨vs,hA.two (gets_zip hvs) (gets_zip hks),h0⟩
  refine wp_loop_ghost J m0 h00 (fun m a w hJ=>?_)
  obtain ⟨vs,hA,hI⟩ :=hJ
  refine wp_mono (codev_sound b _ a w _ hb hA (hr ks hks m vs w hI)) fun e a' w' he=>?_
  cases e with
  | normal=>
    obtain ⟨E',hA',h'⟩ :=he
    obtain ⟨ks',hks',h'⟩ :=okK_elim h'
    obtain ⟨vs',hvs',rfl,m',hm,hI'⟩ :=okK_elim h'
    exact ⟨m',hm,vs',hA'.two (gets_zip hvs') (gets_zip hks'),hI'⟩
  | _=>exact he
def argE : Nat→List Value→Env
  | _,[]=>[]
  | i,v :: vs=>(i,v) :: argE (i + 1) vs
def resK (P : Program) (E : Env) (w : World) : List ResultVar→(List Value→Prop)→Prop
  | [],K=>K []
  | .tmp t :: rs,K=>okK (E.get t) fun v=>resK P E w rs fun vs=>K (v :: vs)
  | .cell a t :: rs, K => okK (E.get a) fun x => ptrK x fun b o => okK (if (tinfo P t).known = true then some (tinfo P t).agg else none) fun ag =>
      if ag = true then okK (tinfo P t).size fun n=>okK (cellsAt w b o n) fun cs=>resK P E w rs fun vs=>K (.agg cs.toArray :: vs) else okK (w.cell? ⟨b,o,none⟩) fun v=>resK P E w rs fun vs=>K (v :: vs)
def retV : List Value→Value
  | [v]=>v
  | vs=>.tuple vs.toArray
def endQ (P : Program) (rs : List ResultVar) (R : Ending→World→Prop) : XQ:=fun e E w=>
  match e with
  | .normal | .ret=>resK P E w rs fun vs=>R (.returned (retV vs)) w
  | _=>False
def resS (tmps : Array Value) (r : ResultVar) : Sem Value:=match r with
  | .tmp t=>pure (tmps.getD t undef)
  | .cell a t=>do loadVar t (← asAddr (tmps.getD a undef))
theorem results_eq (fn : Func) (tmps : Array Value) : results fn tmps = (do let vs ← fn.results.mapM (resS tmps);pure (if h : vs.size = 1 then vs[0] else .tuple vs)):=rfl
theorem results_mapM {P : Program} {n : Nat} {E : Env} {a : Act} (hA : Agree n E a) {w : World} : ∀ (rs : List ResultVar) (K : List Value → Prop), resK P E w rs K →
    ∃ vs,(rs.mapM (resS a.tmps)).run P w = .ok vs w∧K vs
  | [],K,h=>⟨[],by simp,h⟩
  | r :: rs,K,h=>by
    have key : ∃ v,(resS a.tmps r).run P w = .ok v w∧resK P E w rs fun vs=>K (v :: vs):=by
      cases r with
      | tmp t=>
        obtain ⟨v,hv,h⟩ :=okK_elim h
        exact ⟨v,by simp only [resS,Sem.run_pure,hA.get t v hv],h⟩
      | cell x t=>
        obtain ⟨v,hv,h⟩ :=okK_elim h
        obtain ⟨b,off,rfl,h⟩ :=ptrK_elim h
        obtain ⟨ag,hag,h⟩ :=okK_elim h
        have hag' : (P.underlying t).isSome = true∧ag = (tinfo P t).agg:=by
          split at hag
          · rename_i hk;injection hag with hag;exact ⟨hk,hag.symm⟩
          · cases hag
        obtain ⟨hk,rfl⟩ :=hag'
        obtain ⟨d,hd⟩ :=Option.isSome_iff_exists.1 hk
        have hisa:=isAgg_run (P:=P) hd w
        have hx : (asAddr (a.tmps.getD x undef)).run P w = .ok ⟨b,off,none⟩ w:=by rw [hA.get x _ hv];rfl
        split at h
        · rename_i hagg
          obtain ⟨m,hm,h⟩ :=okK_elim h
          obtain ⟨cs,hc,h⟩ :=okK_elim h
          obtain ⟨hl,hcell⟩ :=cellsAt_elim hc
          have hr2:=run_loadCells_list (P:=P) (w:=w) ⟨b,off,none⟩ cs (fun j u hj=>by rw [add_off];exact hcell j u hj)
          rw [hl] at hr2
          have hagg' : isAggT (P.underlying t) = true:=hagg
          rw [hagg'] at hisa
          refine ⟨.agg cs.toArray,?_,h⟩
          simp only [resS,Sem.run_bind,hx,Result.andThen_ok]
          simp [loadVar,hisa,tsize_run hm,hr2]
        · rename_i hagg
          obtain ⟨u,hu,h⟩ :=okK_elim h
          have hagg' : isAggT (P.underlying t) = false:=by simpa [tinfo] using hagg
          rw [hagg'] at hisa
          refine ⟨u,?_,h⟩
          simp only [resS,Sem.run_bind,hx,Result.andThen_ok]
          simp [loadVar,hisa,load,Sem.run,hu]
    obtain ⟨v,hv,h⟩ :=key
    obtain ⟨vs,hr,hk⟩ :=results_mapM hA rs _ h
    exact ⟨v :: vs,by simp only [List.mapM_cons,Sem.run_bind,hv,Result.andThen_ok,hr,Sem.run_pure],hk⟩
theorem results_run {P : Program} {n : Nat} {E : Env} {a : Act} (hA : Agree n E a) {w : World} {fn : Func} {K : List Value → Prop} (h : resK P E w fn.results.toList K) :
    ∃ vs,(results fn a.tmps).run P w = .ok (retV vs) w∧K vs:=by
  obtain ⟨vs,hr,hk⟩ :=results_mapM hA fn.results.toList K h
  refine ⟨vs,?_,hk⟩
  rw [results_eq,Sem.run_bind,Array.mapM_eq_mapM_toList]
  have : (List.toArray <$> fn.results.toList.mapM (resS a.tmps)).run P w = .ok vs.toArray w:=by
    rw [map_eq_pure_bind,Sem.run_bind,hr];rfl
  rw [this,Result.andThen_ok,Sem.run_pure]
  congr 1
  match vs with
  | []=>rfl
  | [v]=>rfl
  | v :: u :: vs=>simp [retV]
theorem argE_get : ∀ (vs : List Value) (i : Nat) (k : Nat) (v : Value),(argE i vs).get k = some v→i≤k∧vs[k - i]? = some v
  | [],i,k,v,h=>by simp [argE,Env.get] at h
  | u :: vs,i,k,v,h=>by
    simp only [argE,Env.get] at h
    split at h
    · rename_i he;subst he;simp at h;simp [h]
    · rename_i he
      obtain ⟨h1,h2⟩ :=argE_get vs (i + 1) k v h
      refine ⟨by omega,?_⟩
      rw [show k - i = (k - (i + 1)) + 1 by omega]
      simpa using h2
theorem calls_rule {P : Program} {f : FuncId} {fn : Func} {c : Code} {args : List Value} {w : World} {R : Ending → World → Prop} (hf : P.funcs[f]? = some fn) (hb : fn.body = some c)
    (hok : codeOk fn.ntmps c = true) (hn : args.length≤fn.ntmps) (h : codev P fn.ntmps c (argE 0 args) w (endQ P fn.results.toList R)) : Calls P f args.toArray w R:=by
  refine calls_of_wp hf hb (wp_mono (codev_sound c (argE 0 args) _ w _ hok ⟨by simp;omega,rfl,fun i v hi=>?_⟩ h) fun e a' w' he=>?_)
  · obtain ⟨_,h2⟩ :=argE_get _ _ _ _ hi
    rw [Nat.sub_zero] at h2
    have hlt:=(List.getElem?_eq_some_iff.1 h2).1
    simp only [Array.getD_eq_getD_getElem?]
    rw [Array.getElem?_append_left (by simpa using hlt)]
    simp [h2]
  · cases e with
    | normal=>
      obtain ⟨E',hA',h'⟩ :=he
      obtain ⟨vs,hr,hk⟩ :=results_run hA' h'
      exact ⟨hA'.defers,_,hr,hk⟩
    | ret=>
      obtain ⟨E',hA',h'⟩ :=he
      obtain ⟨vs,hr,hk⟩ :=results_run hA' h'
      exact ⟨hA'.defers,_,hr,hk⟩
    | panic c=>exact he.elim
    | outgrown=>exact he.elim
    | exit i=>obtain ⟨_,_,hf⟩ :=he;exact hf.elim
    | goto l=>obtain ⟨_,_,hf⟩ :=he;exact hf.elim
def opsvT (P : Program) (ops : Array Oper) (l : List Oper) (E : Env) (w : World) (K : Env→World→Prop) (_t : Tg (ops,l,E,K):=.mk) : Prop:=opsv P ops l E w K
def codevT (P : Program) (n : Nat) (c : Code) (E : Env) (w : World) (Q : XQ) (_t : Tg (n,c,E,Q):=.mk) : Prop:=codev P n c E w Q
def planvT (P : Program) (ops : Array Oper) (L : Held) (p : Plan) (E : Env) (w : World) (K : Env→World→Prop) (_t : Tg (ops,L,p,E,K):=.mk) : Prop:=planv P ops L p E w K
def drawT (P : Program) (n : Nat) (ops : Array Oper) (E : Env) (w : World) (K : Env→World→Prop) (_t : Tg (n,ops,E,K):=.mk) : Prop:=drawG P n ops E w K
def loopT (P : Program) (n : Nat) (b : Code) (E : Env) (w : World) (Q : XQ) (_t : Tg (n,b,E,Q):=.mk) : Prop:=loopG P n b E w Q
def operK (o : Option Oper) (K : Option Tmp→Op→TypeId→Option (Nat×Bool)→Prop) (_t : Tg K:=.mk) : Prop:=match o with | some o=>K o.dst o.op o.type o.guard | none=>False
def resT (P : Program) (E : Env) (w : World) (l : List ResultVar) (K : List Value→Prop) (_t : Tg (E,K):=.mk) : Prop:=resK P E w l K
def exitT (Q : XQ) (e : Exit) (E : Env) (w : World) (_t : Tg (Q,E):=.mk) : Prop:=Q e E w
def gT (ops : Array Oper) (g : Option (Nat×Bool)) (E : Env) (A B : Prop) (_t : Tg (ops,g,E,A,B):=.mk) : Prop:=gK ops g E A B
def pureT (P : Program) (o : Op) (E : Env) (K : Value→Prop) (_t : Tg (o,E,K):=.mk) : Prop:=pureK P o E K
def opvT (P : Program) (o : Op) (ty : TypeId) (E : Env) (w : World) (K : Value→World→Prop) (_t : Tg (o,E,K):=.mk) : Prop:=opv P o ty E w K
def heldT (P : Program) (o : Op) (E : Env) (L : Held) (j : Nat) (K : Value→Prop) (_t : Tg (o,E,K):=.mk) : Prop:=heldK P o E L j K
theorem ite_ifK (b : Bool) (A B : Prop) : (if b = true then A else B) = ifK b A B:=by cases b<;>simp [ifK]
theorem okK_ext {α : Type} {o : Option α} {K K' : α→Prop} (h : ∀ v,K v = K' v) : okK o K = okK o K':=by
  have : K = K':=funext h
  subst this;rfl
theorem ptrK_ext {v : Value} {K K' : Nat→Nat→Prop} (h : ∀ a b,K a b = K' a b) : ptrK v K = ptrK v K':=by
  have : K = K':=funext fun a=>funext (h a)
  subst this;rfl
theorem aggK_ext {v : Value} {K K' : List Value→Prop} (h : ∀ a,K a = K' a) : aggK v K = aggK v K':=by
  have : K = K':=funext h
  subst this;rfl
section
variable (P : Program) (ops : Array Oper) (L : Held) (ty : TypeId) (E : Env) (w : World) (K : Value→World→Prop) (H : Value→Prop)
theorem gT_none (A B : Prop) : gT ops none E A B = A:=(rfl)
theorem gT_some (j : Nat) (want : Bool) (A B : Prop) : gT ops (some (j,want)) E A B = operK ops[j]? fun d _ _ _=>okK (d.bind E.get) fun gv=>guardK gv want A B:=by
  show okK (grd ops j E) _ = _
  unfold grd
  cases ops[j]?<;>rfl
theorem beqT (b : Bool) : (b == true) = b:=by cases b<;>rfl
theorem beqF (b : Bool) : (b == false) = !b:=by cases b<;>rfl
theorem pureT_move (x : Operand) : pureT P (.move x) E H = okK (ev E x) fun v=>valK v H:=(rfl)
theorem pureT_assign (x : Operand) : pureT P (.assign x) E H = okK (ev E x) fun v=>valK v H:=(rfl)
theorem pureT_pick (c x y : Operand) : pureT P (.pick c x y) E H = okK (ev E c) fun c=>okK (ev E x) fun x=>okK (ev E y) fun y=>boolK c fun b=>valK (bif b then x else y) H:=(rfl)
theorem pureT_nilCheck (x : Operand) : pureT P (.nilCheck x) E H = okK (ev E x) fun v=>nchkK v H:=(rfl)
theorem pureT_binOp (op : BinOp) (t : TypeId) (x y : Operand) (yt : TypeId) : pureT P (.binOp op t x y yt) E H = okK (ev E x) fun a=>okK (ev E y) fun b=>valK (a,b) fun p=>binK P op t x y p.1 p.2 H:=(rfl)
theorem pureT_unOp (op : UnOp) (t : TypeId) (x : Operand) : pureT P (.unOp op t x) E H = okK (ev E x) fun a=>unK op a H:=(rfl)
theorem pureT_convert (s d : TypeId) (x : Operand) : pureT P (.convert s d x) E H = okK (ev E x) fun a=>okK (if (tinfo P s).known = true then some () else none) fun _=>okK (tinfo P d).int fun k=>intK a fun _ n=>valK (.int k (k.wrap n)) H:=(rfl)
theorem pureT_build (t : TypeId) (parts : List (Nat×Operand)) : pureT P (.build t parts.toArray) E H = okK (evs E (parts.map (·.2))) fun vs=>okK (tinfo P t).zero fun z=>okK (places (tinfo P t)) fun pl=>okK (fillL pl z.cells.toList ((parts.map (·.1)).zip vs)) fun cs=>H (.agg cs.toArray):=(rfl)
theorem pureT_fieldAddr (s : TypeId) (x : Operand) (f : Nat) : pureT P (.fieldAddr s x f) E H = okK (ev E x) fun a=>okK (((tinfo P s).lay.bind (·[f]?)).bind fun p=>p.2.1.bind fun sz=>if sz = 0 then none else some p.1) fun off=>ptrK a fun b o=>valK (.pointer (some ⟨b,o + off,none⟩)) H:=(rfl)
theorem pureT_field (t : TypeId) (x : Operand) (f : Nat) : pureT P (.field t x f) E H = okK (ev E x) fun a => okK ((tinfo P t).lay.bind (·[f]?)) fun p => okK p.2.1 fun sz => aggK a fun cs =>
      okK p.2.2 fun ag=>ifK ag (valK (.agg ((cs.drop p.1).take sz).toArray) H) (okK cs[p.1]? H):=
  okK_ext fun _=>okK_ext fun _=>okK_ext fun _=>aggK_ext fun _=>okK_ext fun _=>ite_ifK _ _ _
theorem pureT_indexAddr (t : TypeId) (x i : Operand) : pureT P (.indexAddr t x i) E H = okK (ev E x) fun a => okK (ev E i) fun i => intK i fun _ i => idxK (tinfo P t).sl (tinfo P t).arr
      (fun sz=>sliceK a fun ad n _=>(0≤i∧i < n)∧ptrK (.pointer ad) fun b o=>valK (.pointer (some ⟨b,o + i.toNat * sz,none⟩)) H)
      (fun n sz=>ptrK a fun b o=>(0≤i∧i < n)∧valK (.pointer (some ⟨b,o + i.toNat * sz,none⟩)) H):=(rfl)
theorem pureT_slice (t : TypeId) (x : Operand) (lo hi : Option Operand) : pureT P (.slice t x lo hi none) E H = okK (ev E x) fun a => okK (evo E lo) fun lo => okK (evo E hi) fun hi => okK (tinfo P t).sl fun e => okK e.2 fun sz =>
      sliceK a fun ad n c=>bndK hi n c fun h=>bndK lo 0 h fun l=>valK (.slice (cutA ad c l sz) (h - l) (c - l)) H:=(rfl)
theorem pureT_extract (x : Operand) (i : Nat) : pureT P (.extract x i) E H = okK (ev E x) fun v=>tupK v fun vs=>okK vs[i]? H:=(rfl)
theorem pureT_makeFunc (fn : Fn) (first captured : List Operand) : pureT P (.makeFunc fn first.toArray captured.toArray) E H = okK (evs E first) fun a=>okK (evs E captured) fun b=>H (.func fn a.toArray b.toArray):=(rfl)
theorem pureT_len (x : Operand) (t : TypeId) : pureT P (.call ⟨.builtin .len, #[x], #[t]⟩) E H = okK (ev E x) fun v => (match (tinfo P t).slc, (tinfo P t).str with
          | true,_=>sliceK v fun _ n _=>valK (.int .i64 n) H
          | _,true=>(match v with | .string s=>valK (.int .i64 s.size) H | _=>False)
          | _,_=>False):=(rfl)
theorem pureT_lenS (x : Operand) (t : TypeId) (ht : (tinfo P t).slc = true) : pureT P (.call ⟨.builtin .len,#[x],#[t]⟩) E H = okK (ev E x) fun v=>sliceK v fun _ n _=>valK (.int .i64 n) H:=by
  rw [pureT_len];refine okK_ext fun v=>?_;rw [ht]
theorem pureT_min (x y : Operand) (ts : Array TypeId) : pureT P (.call ⟨.builtin .min,#[x,y],ts⟩) E H = okK (ev E x) fun a=>okK (ev E y) fun b=>intK a fun k n=>intK b fun _ m=>valK (.int k (if m < n then m else n)) H:=(rfl)
theorem pureT_max (x y : Operand) (ts : Array TypeId) : pureT P (.call ⟨.builtin .max,#[x,y],ts⟩) E H = okK (ev E x) fun a=>okK (ev E y) fun b=>intK a fun k n=>intK b fun _ m=>valK (.int k (if n < m then m else n)) H:=(rfl)
theorem pureT_max4 (x y z t : Operand) (ts : Array TypeId) : pureT P (.call ⟨.builtin .max,#[x,y,z,t],ts⟩) E H = okK (ev E x) fun a=>okK (ev E y) fun b=>okK (ev E z) fun c=>okK (ev E t) fun d=>intK a fun k n=>intK b fun _ m=>intK c fun _ o=>intK d fun _ p=>valK (.int k (if (if (if n < m then m else n) < o then o else if n < m then m else n) < p then p else if (if n < m then m else n) < o then o else if n < m then m else n)) H:=(rfl)
theorem opvT_move (x : Operand) : opvT P (.move x) ty E w K = pureT P (.move x) E fun v=>K v w:=(rfl)
theorem opvT_assign (x : Operand) : opvT P (.assign x) ty E w K = pureT P (.assign x) E fun v=>K v w:=(rfl)
theorem opvT_pick (c x y : Operand) : opvT P (.pick c x y) ty E w K = pureT P (.pick c x y) E fun v=>K v w:=(rfl)
theorem opvT_nilCheck (x : Operand) : opvT P (.nilCheck x) ty E w K = pureT P (.nilCheck x) E fun v=>K v w:=(rfl)
theorem opvT_binOp (op : BinOp) (t : TypeId) (x y : Operand) (yt : TypeId) : opvT P (.binOp op t x y yt) ty E w K = pureT P (.binOp op t x y yt) E fun v=>K v w:=(rfl)
theorem opvT_unOp (op : UnOp) (t : TypeId) (x : Operand) : opvT P (.unOp op t x) ty E w K = pureT P (.unOp op t x) E fun v=>K v w:=(rfl)
theorem opvT_build (t : TypeId) (parts : Array (Nat×Operand)) : opvT P (.build t parts) ty E w K = pureT P (.build t parts) E fun v=>K v w:=(rfl)
theorem opvT_fieldAddr (s : TypeId) (x : Operand) (f : Nat) : opvT P (.fieldAddr s x f) ty E w K = pureT P (.fieldAddr s x f) E fun v=>K v w:=(rfl)
theorem opvT_field (s : TypeId) (x : Operand) (f : Nat) : opvT P (.field s x f) ty E w K = pureT P (.field s x f) E fun v=>K v w:=(rfl)
theorem opvT_indexAddr (t : TypeId) (x i : Operand) : opvT P (.indexAddr t x i) ty E w K = pureT P (.indexAddr t x i) E fun v=>K v w:=(rfl)
theorem opvT_slice (t : TypeId) (x : Operand) (lo hi m : Option Operand) : opvT P (.slice t x lo hi m) ty E w K = pureT P (.slice t x lo hi m) E fun v=>K v w:=(rfl)
theorem opvT_extract (x : Operand) (i : Nat) : opvT P (.extract x i) ty E w K = pureT P (.extract x i) E fun v=>K v w:=(rfl)
theorem opvT_makeFunc (fn : Fn) (first captured : Array Operand) : opvT P (.makeFunc fn first captured) ty E w K = pureT P (.makeFunc fn first captured) E fun v=>K v w:=(rfl)
theorem opvT_len (x : Operand) (t : TypeId) : opvT P (.call ⟨.builtin .len,#[x],#[t]⟩) ty E w K = pureT P (.call ⟨.builtin .len,#[x],#[t]⟩) E fun v=>K v w:=(rfl)
theorem opvT_min (x y : Operand) (ts : Array TypeId) : opvT P (.call ⟨.builtin .min,#[x,y],ts⟩) ty E w K = pureT P (.call ⟨.builtin .min,#[x,y],ts⟩) E fun v=>K v w:=(rfl)
theorem opvT_max (x y : Operand) (ts : Array TypeId) : opvT P (.call ⟨.builtin .max,#[x,y],ts⟩) ty E w K = pureT P (.call ⟨.builtin .max,#[x,y],ts⟩) E fun v=>K v w:=(rfl)
theorem opvT_alloc (t : TypeId) : opvT P (.alloc t) ty E w K = okK (tinfo P t).zero fun z=>∀ w1 b,New w w1 b z.cells.toList t→K (.pointer (some ⟨b,0,none⟩)) w1:=(rfl)
theorem opvT_box (t : TypeId) (x : Operand) : opvT P (.box t x) ty E w K = okK (ev E x) fun v=>∀ w1 b,New w w1 b v.cells.toList t→K (.pointer (some ⟨b,0,none⟩)) w1:=(rfl)
theorem opvT_buildSlice (t : TypeId) (len : Nat) (parts : List (Nat × Operand)) : opvT P (.buildSlice t len parts.toArray) ty E w K = okK (evs E (parts.map (·.2))) fun vs => okK (tinfo P t).sl fun e => okK e.2 fun sz => okK (tinfo P e.1).zero fun z =>
      (len * sz≤16777216∧z.cells.size = sz)∧okK (fillL (fun i=>some (i * sz,sz)) (if len * sz = 0 then [] else zl z.cells.toList len) ((parts.map (·.1)).zip vs)) fun cs=>
        ∀ w1 b,New w w1 b cs e.1→K (.slice (some ⟨b,0,none⟩) len len) w1:=(rfl)
theorem opvT_load (t : TypeId) (x : Operand) : opvT P (.load t x) ty E w K = okK (ev E x) fun a => ptrK a fun b o => okK (if (tinfo P t).known = true then some (tinfo P t).agg else none) fun ag =>
      ifK ag (okK (tinfo P t).size fun n=>okK (cellsAt w b o n) fun cs=>K (.agg cs.toArray) w) (okK (w.cell? ⟨b,o,none⟩) fun v=>K v w):=
  okK_ext fun _=>ptrK_ext fun _ _=>okK_ext fun _=>ite_ifK _ _ _
theorem opvT_store (t : TypeId) (a x : Operand) : opvT P (.store t a x) ty E w K = okK (ev E a) fun a => okK (ev E x) fun v => ptrK a fun b o => okK (tinfo P t).size fun n =>
      (v.cells.size = n∧v.cells.toList.all (·.oneCell') = true)∧storeK w b o v.cells.toList fun w1=>K undef w1:=(rfl)
theorem opvT_convert (s d : TypeId) (x : Operand) : opvT P (.convert s d x) ty E w K = okK (some (tinfo P d).int.isSome) fun b=>ifK b (pureT P (.convert s d x) E fun v=>K v w) (okK (ev E x) fun v=>RunK P (convert s d v) w K):=by
  show _ = ifK _ _ _
  rw [← ite_ifK];rfl
theorem opvT_makeSlice (t : TypeId) (l c : Operand) : opvT P (.makeSlice t l c) ty E w K = okK (ev E l) fun l=>okK (ev E c) fun c=>RunK P (Instr.makeSlice t l c) w K:=(rfl)
theorem opvT_call (f : Operand) (args : List Operand) (ts : Array TypeId) : opvT P (.call ⟨.value f,args.toArray,ts⟩) ty E w K = okK (ev E f) fun fv=>okK (evs E args) fun vs=>callK P fv vs w K:=(rfl)
theorem opvT_append (args : List Operand) (ts : Array TypeId) : opvT P (.call ⟨.builtin .append,args.toArray,ts⟩) ty E w K = okK (evs E args) fun vs=>RunK P (Builtin.append_ ts ty vs.toArray) w K:=(rfl)
theorem opvT_copy (args : List Operand) (ts : Array TypeId) : opvT P (.call ⟨.builtin .copy,args.toArray,ts⟩) ty E w K = okK (evs E args) fun vs=>RunK P (Builtin.copy_ ts ty vs.toArray) w K:=(rfl)
theorem opvT_lookup (t : TypeId) (x i : Operand) (ok : Bool) : opvT P (.lookup t x i ok) ty E w K = okK (ev E x) fun x=>okK (ev E i) fun i=>RunK P (Instr.lookup t x i ok) w K:=(rfl)
theorem opvT_index (t : TypeId) (x i : Operand) : opvT P (.index t x i) ty E w K = okK (ev E x) fun x=>okK (ev E i) fun i=>RunK P (Instr.index t x i) w K:=(rfl)
theorem opvT_mapUpdate (t : TypeId) (m k x : Operand) : opvT P (.mapUpdate t m k x) ty E w K = okK (ev E m) fun m=>okK (ev E k) fun k=>okK (ev E x) fun x=>RunU P (Instr.mapUpdate t m k x) w fun w1=>K undef w1:=(rfl)
theorem opvT_insert (t : TypeId) (m k x : Operand) : opvT P (.insert t m k x) ty E w K = okK (ev E m) fun m=>okK (ev E k) fun k=>okK (ev E x) fun x=>RunU P (Instr.mapUpdate t m k x) w fun w1=>K undef w1:=(rfl)
theorem opvT_makeMap (t : TypeId) (r : Option Operand) : opvT P (.makeMap t r) ty E w K = okK (evo E r) fun r=>RunK P (Instr.makeMap t r) w K:=(rfl)
theorem opvT_range (t : TypeId) (x : Operand) : opvT P (.range t x) ty E w K = okK (ev E x) fun x=>RunK P (Instr.range t x) w K:=(rfl)
theorem opvT_next (it : Operand) (s : Bool) : opvT P (.next it s) ty E w K = okK (ev E it) fun it=>RunK P (Instr.next it s ty) w K:=(rfl)
theorem opvT_entry (it : Operand) : opvT P (.entry it) ty E w K = okK (ev E it) fun it=>RunK P (Instr.entry it) w K:=(rfl)
theorem heldT_load (t : TypeId) (x : Operand) (j : Nat) : heldT P (.load t x) E L j H = okK (ev E x) fun a => ptrK a fun b o => okK (if (tinfo P t).known = true then some (tinfo P t).agg else none) fun ag =>
      ifK ag (okK (tinfo P t).size fun n=>okK (heldC L b o j n) fun cs=>H (.agg cs.toArray)) (okK (heldC L b o j 1) fun cs=>okK cs[0]? H):=
  okK_ext fun _=>ptrK_ext fun _ _=>okK_ext fun _=>ite_ifK _ _ _
theorem callK_func (f : FuncId) (first captured vs : List Value) : callK P (.func (.func f) first.toArray captured.toArray) vs w K = (enters P f = true∧callsK P f (first ++ vs ++ captured).toArray w K):=(rfl)
end
section
variable (P : Program) (n : Nat) (ops : Array Oper) (L : Held) (E : Env) (w : World) (K : Env→World→Prop) (Q : XQ)
theorem opsvT_nil : opsvT P ops [] E w K = K E w:=(rfl)
theorem opsvT_cons (dst : Option Tmp) (op : Op) (ty : TypeId) (pos : String) (after : Array Edge) (guard : Option (Nat × Bool)) (rest : List Oper) :
    opsvT P ops (⟨dst,op,ty,pos,after,guard⟩ :: rest) E w K = gT ops guard E (opvT P op ty E w fun v w'=>opsvT P ops rest (E.push dst v) w' K) (opsvT P ops rest (E.push dst undef) w K):=(rfl)
theorem codevT_skip : codevT P n .skip E w Q = exitT Q .normal E w:=(rfl)
theorem codevT_seq (a b : Code) : codevT P n (.seq a b) E w Q = codevT P n a E w (seqQ (fun E w=>codevT P n b E w Q) Q):=(rfl)
theorem codevT_region (id : Nat) (ops : List Oper) : codevT P n (.region id ops.toArray false) E w Q = opsvT P ops.toArray ops E w (fun E w=>exitT Q .normal E w):=by simp [codevT,codev,opsvT,exitT]
theorem codevT_draw (id : Nat) (ops : Array Oper) : codevT P n (.region id ops true) E w Q = drawT P n ops E w (fun E w=>exitT Q .normal E w):=(rfl)
theorem codevT_cond (c : Operand) (x y : Code) : codevT P n (.cond c x y) E w Q = okK (ev E c) fun v=>boolK v fun b=>ifK b (codevT P n x E w Q) (codevT P n y E w Q):=(rfl)
theorem codevT_block (id : Nat) (b : Code) : codevT P n (.block id b) E w Q = codevT P n b E w (blkQ id Q):=(rfl)
theorem codevT_loop (b : Code) : codevT P n (.loop b) E w Q = loopT P n b E w Q:=(rfl)
theorem codevT_exit (id : Nat) : codevT P n (.exit id) E w Q = exitT Q (.exit id) E w:=(rfl)
theorem codevT_ret : codevT P n .ret E w Q = exitT Q .ret E w:=(rfl)
theorem exitT_seq_normal (K : Env→World→Prop) : exitT (seqQ K Q) .normal E w = K E w:=(rfl)
theorem exitT_seq_exit (K : Env→World→Prop) (i : Nat) : exitT (seqQ K Q) (.exit i) E w = exitT Q (.exit i) E w:=(rfl)
theorem exitT_seq_ret (K : Env→World→Prop) : exitT (seqQ K Q) .ret E w = exitT Q .ret E w:=(rfl)
theorem exitT_blk_normal (id : Nat) : exitT (blkQ id Q) .normal E w = exitT Q .normal E w:=(rfl)
theorem exitT_blk_ret (id : Nat) : exitT (blkQ id Q) .ret E w = exitT Q .ret E w:=(rfl)
theorem exitT_blk_exit (id i : Nat) : exitT (blkQ id Q) (.exit i) E w = if i = id then exitT Q .normal E w else exitT Q (.exit i) E w:=(rfl)
theorem exitT_end_normal (rs : List ResultVar) (R : Ending→World→Prop) : exitT (endQ P rs R) .normal E w = resT P E w rs fun vs=>R (.returned (retV vs)) w:=(rfl)
theorem exitT_end_ret (rs : List ResultVar) (R : Ending→World→Prop) : exitT (endQ P rs R) .ret E w = resT P E w rs fun vs=>R (.returned (retV vs)) w:=(rfl)
theorem exitT_round_normal (keep : List Nat) (ks : List Value) (slots : List Nat) (I : Nat → List Value → World → Prop) (m : Nat) :
    exitT (roundQ keep ks slots I m Q) .normal E w = okK (gets E keep) fun ks'=>okK (gets E slots) fun vs=>valK ks' fun ks'=>valK vs fun vs=>ks' = ks∧∃ m',m' < m∧I m' vs w:=(rfl)
theorem exitT_round_exit (keep : List Nat) (ks : List Value) (slots : List Nat) (I : Nat→List Value→World→Prop) (m : Nat) (i : Nat) : exitT (roundQ keep ks slots I m Q) (.exit i) E w = exitT Q (.exit i) E w:=(rfl)
theorem exitT_round_ret (keep : List Nat) (ks : List Value) (slots : List Nat) (I : Nat→List Value→World→Prop) (m : Nat) : exitT (roundQ keep ks slots I m Q) .ret E w = exitT Q .ret E w:=(rfl)
theorem resT_nil (K : List Value→Prop) : resT P E w [] K = K []:=(rfl)
theorem resT_tmp (t : Tmp) (rs : List ResultVar) (K : List Value→Prop) : resT P E w (.tmp t :: rs) K = okK (E.get t) fun v=>valK v fun v=>resT P E w rs fun vs=>K (v :: vs):=(rfl)
theorem resT_cell (a : Tmp) (t : TypeId) (rs : List ResultVar) (K : List Value → Prop) : resT P E w (.cell a t :: rs) K = okK (E.get a) fun x => ptrK x fun b o => okK (if (tinfo P t).known = true then some (tinfo P t).agg else none) fun ag =>
      ifK ag (okK (tinfo P t).size fun n=>okK (cellsAt w b o n) fun cs=>valK cs fun cs=>resT P E w rs fun vs=>K (.agg cs.toArray :: vs)) (okK (w.cell? ⟨b,o,none⟩) fun v=>resT P E w rs fun vs=>K (v :: vs)):=
  okK_ext fun _=>ptrK_ext fun _ _=>okK_ext fun _=>ite_ifK _ _ _
theorem operK_mk (dst : Option Tmp) (op : Op) (ty : TypeId) (pos : String) (after : Array Edge) (guard : Option (Nat × Bool)) (K : Option Tmp → Op → TypeId → Option (Nat × Bool) → Prop) :
    operK (some ⟨dst,op,ty,pos,after,guard⟩) K = K dst op ty guard:=(rfl)
theorem operK_eq (o : Option Oper) (K : Option Tmp→Op→TypeId→Option (Nat×Bool)→Prop) : (okK o fun o=>K o.dst o.op o.type o.guard) = operK o K:=by cases o<;>rfl
theorem planvT_fin : planvT P ops L .fin E w K = K E w:=(rfl)
theorem planvT_q (i : Nat) (p : Plan) : planvT P ops L (.q i p) E w K = operK ops[i]? fun d op _ g=>gT ops g E (pureT P op E fun v=>planvT P ops L p (E.push d v) w K) (planvT P ops L p (E.push d undef) w K):=by
  symm;exact (operK_eq _ _).symm
theorem planvT_h (i j : Nat) (p : Plan) : planvT P ops L (.h i j p) E w K = operK ops[i]? fun d op _ g=>gT ops g E (heldT P op E L j fun v=>planvT P ops L p (E.push d v) w K) (planvT P ops L p (E.push d undef) w K):=by
  symm;exact (operK_eq _ _).symm
theorem planvT_l (i : Nat) (p : Plan) : planvT P ops L (.l i p) E w K = operK ops[i]? fun d op ty g=>gT ops g E (opvT P op ty E w fun v w'=>Holds L w'∧planvT P ops L p (E.push d v) w' K) (planvT P ops L p (E.push d undef) w K):=by
  symm;exact (operK_eq _ _).symm
theorem planvT_ll (i k : Nat) (p r : Plan) : planvT P ops L (.ll i p k r) E w K = ((operK ops[i]? fun d op ty g => gT ops g E (opvT P op ty E w fun v w' => Holds L w' ∧ planvT P ops L p (E.push d v) w' K) (planvT P ops L p (E.push d undef) w K)) ∧
    (operK ops[k]? fun d op ty g=>gT ops g E (opvT P op ty E w fun v w'=>Holds L w'∧planvT P ops L r (E.push d v) w' K) (planvT P ops L r (E.push d undef) w K))):=by
  symm;exact congr (congrArg And (operK_eq _ _).symm) (operK_eq _ _).symm
theorem planvT_lll (i k j : Nat) (p r t : Plan) : planvT P ops L (.lll i p k r j t) E w K = ((operK ops[i]? fun d op ty g => gT ops g E (opvT P op ty E w fun v w' => Holds L w' ∧ planvT P ops L p (E.push d v) w' K) (planvT P ops L p (E.push d undef) w K)) ∧
    (operK ops[k]? fun d op ty g=>gT ops g E (opvT P op ty E w fun v w'=>Holds L w'∧planvT P ops L r (E.push d v) w' K) (planvT P ops L r (E.push d undef) w K))∧
    (operK ops[j]? fun d op ty g=>gT ops g E (opvT P op ty E w fun v w'=>Holds L w'∧planvT P ops L t (E.push d v) w' K) (planvT P ops L t (E.push d undef) w K))):=by
  symm;exact congr (congrArg And (operK_eq _ _).symm) (congr (congrArg And (operK_eq _ _).symm) (operK_eq _ _).symm)
end
section
variable (P : Program) (t : TypeId) (xo yo : Operand) (k k2 : IntKind) (a b : Int) (K : Value→Prop)
theorem binK_add : binK P .add t xo yo (.int k a) (.int k b) K = valK (.int k (k.wrap (a + b))) K:=by simp [binK,intK2]
theorem binK_sub : binK P .sub t xo yo (.int k a) (.int k b) K = valK (.int k (k.wrap (a - b))) K:=by simp [binK,intK2]
theorem binK_mul : binK P .mul t xo yo (.int k a) (.int k b) K = valK (.int k (k.wrap (a * b))) K:=by simp [binK,intK2]
theorem binK_and : binK P .and t xo yo (.int k a) (.int k b) K = valK (.int k (k.wrap (BitVec.ofInt k.bits a &&& BitVec.ofInt k.bits b).toNat)) K:=by simp [binK,intK2]
theorem binK_or : binK P .or t xo yo (.int k a) (.int k b) K = valK (.int k (k.wrap (BitVec.ofInt k.bits a ||| BitVec.ofInt k.bits b).toNat)) K:=by simp [binK,intK2]
theorem binK_xor : binK P .xor t xo yo (.int k a) (.int k b) K = valK (.int k (k.wrap (BitVec.ofInt k.bits a ^^^ BitVec.ofInt k.bits b).toNat)) K:=by simp [binK,intK2]
theorem binK_andNot : binK P .andNot t xo yo (.int k a) (.int k b) K = valK (.int k (k.wrap (BitVec.ofInt k.bits a &&& ~~~ (BitVec.ofInt k.bits b)).toNat)) K:=by simp [binK,intK2]
theorem binK_eql : binK P .eql t xo yo (.int k a) (.int k b) K = valK (.bool (decide (a = b))) K:=by simp [binK,intK2]
theorem binK_neq : binK P .neq t xo yo (.int k a) (.int k b) K = valK (.bool (!decide (a = b))) K:=by simp [binK,intK2]
theorem binK_lss : binK P .lss t xo yo (.int k a) (.int k b) K = valK (.bool (decide (a < b))) K:=by simp [binK,intK2]
theorem binK_leq : binK P .leq t xo yo (.int k a) (.int k b) K = valK (.bool (decide (a≤b))) K:=by simp [binK,intK2]
theorem binK_gtr : binK P .gtr t xo yo (.int k a) (.int k b) K = valK (.bool (decide (b < a))) K:=by simp [binK,intK2]
theorem binK_geq : binK P .geq t xo yo (.int k a) (.int k b) K = valK (.bool (decide (b≤a))) K:=by simp [binK,intK2]
theorem binK_quo : binK P .quo t xo yo (.int k a) (.int k b) K = (b≠0∧valK (.int k (k.wrap (a.tdiv b))) K):=by simp [binK,intK2]
theorem binK_rem : binK P .rem t xo yo (.int k a) (.int k b) K = (b≠0∧valK (.int k (a.tmod b)) K):=by simp [binK,intK2]
theorem binK_shl : binK P .shl t xo yo (.int k a) (.int k2 b) K = (0≤b∧valK (.int k (k.wrap (a * 2 ^ min b.toNat k.bits))) K):=(rfl)
theorem binK_shr : binK P .shr t xo yo (.int k a) (.int k2 b) K = (0≤b∧valK (.int k (a / 2 ^ min b.toNat k.bits)) K):=(rfl)
theorem binK_seq (a b : ByteArray) : binK P .eql t xo yo (.string a) (.string b) K = valK (.bool (a.toList == b.toList)) K:=(rfl)
theorem binK_sne (a b : ByteArray) : binK P .neq t xo yo (.string a) (.string b) K = valK (.bool (!(a.toList == b.toList))) K:=(rfl)
theorem binK_beq (a b : Bool) : binK P .eql t xo yo (.bool a) (.bool b) K = ((tinfo P t).bol = true∧valK (.bool (a == b)) K):=(rfl)
theorem binK_bne (a b : Bool) : binK P .neq t xo yo (.bool a) (.bool b) K = ((tinfo P t).bol = true∧valK (.bool (!(a == b))) K):=(rfl)
theorem binK_pnn : binK P .eql t xo yo (.pointer none) (.pointer none) K = ((tinfo P t).ptr = true∧valK (.bool true) K):=(rfl)
theorem binK_pns (p : Addr) : binK P .eql t xo yo (.pointer none) (.pointer (some p)) K = ((tinfo P t).ptr = true∧valK (.bool false) K):=(rfl)
theorem binK_psn (p : Addr) : binK P .eql t xo yo (.pointer (some p)) (.pointer none) K = ((tinfo P t).ptr = true∧valK (.bool false) K):=(rfl)
theorem binK_qnn : binK P .neq t xo yo (.pointer none) (.pointer none) K = ((tinfo P t).ptr = true∧valK (.bool false) K):=(rfl)
theorem binK_qns (p : Addr) : binK P .neq t xo yo (.pointer none) (.pointer (some p)) K = ((tinfo P t).ptr = true∧valK (.bool true) K):=(rfl)
theorem binK_qsn (p : Addr) : binK P .neq t xo yo (.pointer (some p)) (.pointer none) K = ((tinfo P t).ptr = true∧valK (.bool true) K):=(rfl)
theorem binK_sln (p : Option Addr) (n c n2 c2 : Nat) : binK P .eql t xo yo (.slice p n c) (.slice none n2 c2) K = ((tinfo P t).slc = true∧valK (.bool p.isNone) K):=(rfl)
theorem binK_qln (p : Option Addr) (n c n2 c2 : Nat) : binK P .neq t xo yo (.slice p n c) (.slice none n2 c2) K = ((tinfo P t).slc = true∧valK (.bool (!p.isNone)) K):=(rfl)
theorem unK_not (b : Bool) : unK .not (.bool b) K = valK (.bool (!b)) K:=(rfl)
theorem unK_neg : unK .neg (.int k a) K = valK (.int k (k.wrap (0 - a))) K:=(rfl)
theorem unK_xor : unK .xor (.int k a) K = valK (.int k (k.wrap (BitVec.ofInt k.bits (if k.signed = true then -1 else k.max) ^^^ BitVec.ofInt k.bits a).toNat)) K:=(rfl)
theorem nchkK_ptr (p : Addr) : nchkK (.pointer (some p)) K = K (.pointer (some p)):=(rfl)
theorem nchkK_func (f : FuncId) (x y : Array Value) : nchkK (.func (.func f) x y) K = K (.func (.func f) x y):=(rfl)
theorem bndK_none (d m : Nat) (K : Nat→Prop) : bndK none d m K = K d:=(rfl)
theorem bndK_some (i : Int) (d m : Nat) (K : Nat→Prop) : bndK (some (.int k i)) d m K = ((0≤i∧i≤m)∧K i.toNat):=(rfl)
theorem idxK_slice (e : TypeId) (sz : Nat) (r : Option (Nat×Option Nat×Bool)) (A : Nat→Prop) (B : Nat→Nat→Prop) : idxK (some (e,some sz)) r A B = A sz:=(rfl)
theorem idxK_arr (n sz : Nat) (g : Bool) (A : Nat→Prop) (B : Nat→Nat→Prop) : idxK none (some (n,some sz,g)) A B = B n sz:=(rfl)
theorem storeK_eq (w : World) (b o : Nat) (vs : List Value) (K : World→Prop) : storeK w b o vs K = okK (blkOf w b) fun p=>o + vs.length≤p.1.length∧∀ w1,Put w w1 b (setR p.1 o vs) p.2→K w1:=(rfl)
theorem iteT {α : Sort _} (a b : α) : (if true = true then a else b) = a:=(rfl)
theorem iteF {α : Sort _} (a b : α) : (if false = true then a else b) = b:=(rfl)
end
theorem walk {P : Program} {f : FuncId} {fn : Func} {c : Code} {args : List Value} {w : World} {R : Ending → World → Prop} (hf : P.funcs[f]? = some fn) (hb : fn.body = some c)
    (hok : codeOk fn.ntmps c = true) (hn : args.length≤fn.ntmps) (h : codevT P fn.ntmps c (argE 0 args) w (endQ P fn.results.toList R)) : Calls P f args.toArray w R:=calls_rule hf hb hok hn h
theorem walkLoop {P : Program} {n : Nat} {b : Code} {E : Env} {w : World} {Q : XQ} (keep slots : List Nat) (I : Nat → List Value → World → Prop) (hb : codeOk n b = true)
    (h0 : okK (gets E keep) fun _=>okK (gets E slots) fun vs=>valK vs fun vs=>∃ m,I m vs w)
    (hr : ∀ ks,gets E keep = some ks→∀ m vs w1,I m vs w1→codevT P n b (slots.zip vs ++ keep.zip ks) w1 (roundQ keep ks slots I m Q)) : loopT P n b E w Q:=loop_rule keep slots I hb h0 hr
theorem walkDraw {P : Program} {n : Nat} {ops : Array Oper} {E : Env} {w : World} {K : Env → World → Prop} (p : Plan) (L : Held) (hp : drawOk P n ops p = true) (hL : Holds L w)
    (h : ∀ w1,w1.heap = w.heap→Chg (fun _=>False) w w1→planvT P ops L p E w1 K) : drawT P n ops E w K:=draw_rule p L hp hL h
end Go.Proofs.YtnhgjgoglmadnaaGreat
