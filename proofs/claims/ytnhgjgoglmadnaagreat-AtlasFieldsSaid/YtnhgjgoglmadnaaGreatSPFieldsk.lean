/- Joined texts of this claim (part 11), printed by a program of this work. The last part holds the claimed theorem: the law answers true at every input of its row. -/
import Derived.Test.YtnhgjgoglmadnaaGreatSPFieldsj
namespace Go.Proofs.YtnhgjgoglmadnaaGreat
open Go.RowKit
set_option linter.unusedVariables false
section
variable {P : Program} {ops : Array Oper} {Q : Exit→Act→World→Prop} {S : World→Prop} {e : Nat}
def anyE (P : Program) (ops : Array Oper) (Q : Exit→Act→World→Prop) (S : World→Prop) (e : Nat) : Nat→Array Bool→Act→World→Prop
  | 0,l,a,w=>Region.ready .any ops l = []∧Q .normal a w
  | f + 1,l,a,w=>(Region.ready .any ops l = []→Q .normal a w)∧∀ i ∈ Region.ready .any ops l,wpOp P ops Q i (fun a' w'=>(i≠e→S w')∧anyE P ops Q S e f (l.setIfInBounds i true) a' w') a w
theorem anyE_wpAny : ∀ (f : Nat) (l : Array Bool) (a : Act) (w : World),anyE P ops Q S e f l a w→wpAny P .any ops Q f l a w
  | 0,_,_,_,h=>h
  | f + 1,_,_,_,h=>⟨h.1,fun i hi=>wpOp_mono (fun a' w' g=>anyE_wpAny f _ a' w' g.2) (h.2 i hi)⟩
theorem anyE_end {l : Array Bool} {a : Act} {w : World} (hr : Region.ready .any ops l = []) (h : Q .normal a w) : ∀ f,anyE P ops Q S e f l a w
  | 0=>⟨hr,h⟩
  | _ + 1=>⟨fun _=>h,fun i hi=>by rw [hr] at hi;cases hi⟩
def waitsFor (ops : Array Oper) (e i : Nat) : Bool:=ops[e]?.any fun o=>o.after.any fun x=>Region.binds .any x && x.on == i
theorem waits_not {i : Nat} {l : Array Bool} (hw : waitsFor ops e i = true) (hi : i ∈ Region.ready .any ops l) : e ∉ Region.ready .any ops l:=fun he=>by
  obtain ⟨_,o,ho,hall⟩ :=mem_ready.1 he
  have h0:=(mem_ready.1 hi).1
  simp only [waitsFor,ho,Option.any_some,Array.any_eq_true,Bool.and_eq_true,beq_iff_eq] at hw
  obtain ⟨k,hk,hb,rfl⟩ :=hw
  have h1:=hall o.after[k] (Array.getElem_mem hk) hb
  by_cases hl : (o.after[k]).on < l.size
  · simp only [Array.getD_eq_getD_getElem?,hl,Array.getElem?_eq_getElem,Option.getD_some] at h0 h1
    rw [h0] at h1;cases h1
  · simp only [Array.getD_eq_getD_getElem?,Array.getElem?_eq_none (by omega : l.size≤(o.after[k]).on),Option.getD_none] at h1
    cases h1
theorem anyE_quiet {i : Nat} {oi : Oper} {v : Value} (hi : ops[i]? = some oi) (hs : Region.noSelect ops = true) (hw : waitsFor ops e i = true) (hie : i ≠ e)
    (hQ : ∀ c a w,¬ Q (.panic c) a w) : ∀ (f : Nat) (l : Array Bool) (a : Act) (w : World),
    (∀ j oj,ops[j]? = some oj→j≠i→l.getD j true = false→(∀ x ∈ oj.after,Region.binds .any x = true→x.on≠i)→oi.apart ops oj = true)→
    i ∈ Region.ready .any ops l→YieldsIf P ops S oi v a→S w→anyE P ops Q S e f (l.setIfInBounds i true) (a.put oi.dst v) w→anyE P ops Q S e (f + 1) l a w:=by
  intro f
  have sel:=Region.noSelect_spec hs
  induction f with
  | zero=>
    intro l a w _ hr hy hS H
    refine ⟨fun g=>(by rw [g] at hr;cases hr),fun j hj=>?_⟩
    by_cases hji : j = i
    · subst hji
      exact hy.wpOp hi hS ⟨fun _=>hS,H⟩
    · have g:=ready_mono hj hji
      rw [H.1] at g;cases g
  | succ f ih=>
    intro l a w hfree hr hy hS H
    refine ⟨fun g=>(by rw [g] at hr;cases hr),fun j hj=>?_⟩
    by_cases hji : j = i
    · subst hji
      exact hy.wpOp hi hS ⟨fun _=>hS,H⟩
    have hje : j≠e:=fun g=>waits_not hw hr (g▸hj)
    obtain ⟨hju,oj,hoj,hall⟩ :=mem_ready.1 hj
    have hno : ∀ x ∈ oj.after,Region.binds .any x = true→x.on≠i:=fun x hx hb hxi=>by
      have g1:=hall x hx hb
      have g0:=(mem_ready.1 hr).1
      rw [hxi] at g1
      by_cases hl : i < l.size
      · simp only [Array.getD_eq_getD_getElem?,hl,Array.getElem?_eq_getElem,Option.getD_some] at g0 g1
        rw [g0] at g1;cases g1
      · simp only [Array.getD_eq_getD_getElem?,Array.getElem?_eq_none (by omega : l.size≤i),Option.getD_none] at g1
        cases g1
    have k:=wpOp_putIf hoj (hfree j oj hoj hji hju hno) (fun cs b=>sel i oi cs b hi) (fun cs b=>sel j oj cs b hoj) (fun c a w g=>absurd g (hQ _ _ _)) hy (H.2 j (ready_mono hj hji))
    refine wpOp_mono (fun a' w' g=>⟨fun _=>g.2.1 hje,ih (l.setIfInBounds j true) a' w' (fun m om hm hmi hmu hmn=>?_) (ready_mono hr (Ne.symm hji)) g.1 (g.2.1 hje) ?_⟩) k
    · refine hfree m om hm hmi ?_ hmn
      by_cases hjm : j = m
      · subst hjm;exact hju
      · rwa [getD_set_ne true hjm] at hmu
    · rw [Array.setIfInBounds_comm _ _ hji]
      exact g.2.2
end
def planOkE (ops : Array Oper) (e : Nat) : Plan→Array Bool→Nat→Bool
  | .fin,l,_ + 1=>Region.ready .any ops l == [e] && (Region.ready .any ops (l.setIfInBounds e true)).isEmpty
  | .q i p,l,f + 1=>Region.free .any ops l i && (Region.ready .any ops l).contains i && (waitsFor ops e i && i != e) && planOkE ops e p (l.setIfInBounds i true) f
  | .h i _ p,l,f + 1=>Region.free .any ops l i && (Region.ready .any ops l).contains i && (waitsFor ops e i && i != e) && planOkE ops e p (l.setIfInBounds i true) f
  | .l i p,l,f + 1=>Region.ready .any ops l == [i] && i != e && planOkE ops e p (l.setIfInBounds i true) f
  | .ll i p k r,l,f + 1=>Region.ready .any ops l == [i,k] && (i != e && k != e) && planOkE ops e p (l.setIfInBounds i true) f && planOkE ops e r (l.setIfInBounds k true) f
  | .lll i p k r j t,l,f + 1=>Region.ready .any ops l == [i,k,j] && (i != e && (k != e && j != e)) && planOkE ops e p (l.setIfInBounds i true) f && planOkE ops e r (l.setIfInBounds k true) f && planOkE ops e t (l.setIfInBounds j true) f
  | _,_,_=>false
def lastK (P : Program) (ops : Array Oper) (e : Nat) (K : Env→World→Prop) (E : Env) (w : World) : Prop:=
  okK ops[e]? fun o=>gK ops o.guard E (opv P o.op o.type E w fun v w'=>K (E.push o.dst v) w') (K (E.push o.dst undef) w)
theorem planE_sound {P : Program} {ops : Array Oper} {L : Held} {n e : Nat} {K : Env → World → Prop} {Q : Exit → Act → World → Prop} (hK : ∀ E a w, Agree n E a → K E w → Q .normal a w)
    (hQ : ∀ c a w,¬ Q (.panic c) a w) (hns : Region.noSelect ops = true) (hd : ops.all (fun o=>dOk n o.dst) = true) :
    ∀ (p : Plan) (l : Array Bool) (f : Nat) (E : Env) (a : Act) (w : World),planOkE ops e p l f = true→Agree n E a→Holds L w→planv P ops L p E w (lastK P ops e K)→anyE P ops Q (Holds L) e f l a w:=by
  have hdo : ∀ {i : Nat} {o : Oper},ops[i]? = some o→dOk n o.dst = true:=fun hi=>(Array.all_eq_true_iff_forall_mem.1 hd) _ (Array.mem_of_getElem? hi)
  have loud : ∀ {i : Nat} {E : Env} {a : Act} {w : World} {p : Plan} (f : Nat) (l : Array Bool), Agree n E a → Holds L w →
      (∀ (E : Env) (a : Act) (w : World),Agree n E a→Holds L w→planv P ops L p E w (lastK P ops e K)→anyE P ops Q (Holds L) e f (l.setIfInBounds i true) a w)→
      (okK ops[i]? fun o=>gK ops o.guard E (opv P o.op o.type E w fun v w'=>Holds L w'∧planv P ops L p (E.push o.dst v) w' (lastK P ops e K)) (planv P ops L p (E.push o.dst undef) w (lastK P ops e K)))→
      wpOp P ops Q i (fun a' w'=>(i≠e→Holds L w')∧anyE P ops Q (Holds L) e f (l.setIfInBounds i true) a' w') a w:=fun {i E a w p} f l hA hw ih h=>by
    obtain ⟨o,ho,h⟩ :=okK_elim h
    unfold wpOp
    simp only [ho]
    rcases gK_elim (ops:=ops) hA h with ⟨hwt,h⟩ | ⟨hwt,h⟩
    · rw [if_pos hwt]
      exact .inl (opv_sound hA h fun v w' hk=>⟨fun _=>hk.1,ih _ _ _ (hA.put o.dst v (dOk_lt (hdo ho))) hk.1 hk.2⟩)
    · rw [if_neg (by simp [hwt])]
      exact ⟨fun _=>hw,ih _ _ _ (hA.put o.dst undef (dOk_lt (hdo ho))) hw h⟩
  intro p
  induction p with
  | fin=>
    intro l f E a w hp hA hw h
    cases f with
    | zero=>simp [planOkE] at hp
    | succ f=>
    simp only [planOkE,Bool.and_eq_true,beq_iff_eq,List.isEmpty_iff] at hp
    refine ⟨fun g=>(by rw [g] at hp;cases hp.1),fun i hi=>?_⟩
    rw [hp.1] at hi
    simp only [List.mem_singleton] at hi
    subst hi
    obtain ⟨o,ho,h⟩ :=okK_elim (show okK ops[i]? _ from h)
    unfold wpOp
    simp only [ho]
    rcases gK_elim (ops:=ops) hA h with ⟨hwt,h⟩ | ⟨hwt,h⟩
    · rw [if_pos hwt]
      exact .inl (opv_sound hA h fun v w' hk=>⟨fun g=>absurd rfl g,anyE_end hp.2 (hK _ _ _ (hA.put o.dst v (dOk_lt (hdo ho))) hk) f⟩)
    · rw [if_neg (by simp [hwt])]
      exact ⟨fun g=>absurd rfl g,anyE_end hp.2 (hK _ _ _ (hA.put o.dst undef (dOk_lt (hdo ho))) h) f⟩
  | q i p ih=>
    intro l f E a w hp hA hw h
    cases f with
    | zero=>simp [planOkE] at hp
    | succ f=>
      simp only [planOkE,Bool.and_eq_true,bne_iff_ne] at hp
      obtain ⟨o,ho,h⟩ :=okK_elim h
      rcases gK_elim (ops:=ops) hA h with ⟨hwt,h⟩ | ⟨hwt,h⟩
      · obtain ⟨v,hv,h⟩ :=pureK_sound hA h
        exact anyE_quiet ho hns hp.1.2.1 hp.1.2.2 hQ f l a w (Region.free_spec ho hp.1.1.1) (by simpa using hp.1.1.2) (.inl ⟨hwt,fun w _=>hv w⟩) hw (ih _ _ _ _ _ hp.2 (hA.put o.dst v (dOk_lt (hdo ho))) hw h)
      · exact anyE_quiet ho hns hp.1.2.1 hp.1.2.2 hQ f l a w (Region.free_spec ho hp.1.1.1) (by simpa using hp.1.1.2) (.inr ⟨hwt,rfl⟩) hw (ih _ _ _ _ _ hp.2 (hA.put o.dst undef (dOk_lt (hdo ho))) hw h)
  | h i j p ih=>
    intro l f E a w hp hA hw h
    cases f with
    | zero=>simp [planOkE] at hp
    | succ f=>
      simp only [planOkE,Bool.and_eq_true,bne_iff_ne] at hp
      obtain ⟨o,ho,h⟩ :=okK_elim h
      rcases gK_elim (ops:=ops) hA h with ⟨hwt,h⟩ | ⟨hwt,h⟩
      · obtain ⟨v,hv,h⟩ :=heldK_sound hA h
        exact anyE_quiet ho hns hp.1.2.1 hp.1.2.2 hQ f l a w (Region.free_spec ho hp.1.1.1) (by simpa using hp.1.1.2) (.inl ⟨hwt,hv⟩) hw (ih _ _ _ _ _ hp.2 (hA.put o.dst v (dOk_lt (hdo ho))) hw h)
      · exact anyE_quiet ho hns hp.1.2.1 hp.1.2.2 hQ f l a w (Region.free_spec ho hp.1.1.1) (by simpa using hp.1.1.2) (.inr ⟨hwt,rfl⟩) hw (ih _ _ _ _ _ hp.2 (hA.put o.dst undef (dOk_lt (hdo ho))) hw h)
  | l i p ih=>
    intro l f E a w hp hA hw h
    cases f with
    | zero=>simp [planOkE] at hp
    | succ f=>
      simp only [planOkE,Bool.and_eq_true,beq_iff_eq,bne_iff_ne] at hp
      refine ⟨fun g=>(by rw [g] at hp;cases hp.1.1),fun k hk=>?_⟩
      rw [hp.1.1] at hk
      simp only [List.mem_singleton] at hk
      subst hk
      obtain ⟨o,ho,h⟩ :=okK_elim h
      unfold wpOp
      simp only [ho]
      rcases gK_elim (ops:=ops) hA h with ⟨hwt,h⟩ | ⟨hwt,h⟩
      · rw [if_pos hwt]
        exact .inl (opv_sound hA h fun v w' hk=>⟨fun _=>hk.1,ih _ _ _ _ _ hp.2 (hA.put o.dst v (dOk_lt (hdo ho))) hk.1 hk.2⟩)
      · rw [if_neg (by simp [hwt])]
        exact ⟨fun _=>hw,ih _ _ _ _ _ hp.2 (hA.put o.dst undef (dOk_lt (hdo ho))) hw h⟩
  | ll i p k r ih1 ih2=>
    intro l f E a w hp hA hw h
    cases f with
    | zero=>simp [planOkE] at hp
    | succ f=>
      simp only [planOkE,Bool.and_eq_true,beq_iff_eq,bne_iff_ne] at hp
      refine ⟨fun g=>(by rw [g] at hp;cases hp.1.1.1),fun m hm=>?_⟩
      rw [hp.1.1.1] at hm
      simp only [List.mem_cons,List.not_mem_nil,or_false] at hm
      rcases hm with rfl | rfl
      · exact loud f l hA hw (fun E a w h1 h2 h3=>ih1 _ _ _ _ _ hp.1.2 h1 h2 h3) h.1
      · exact loud f l hA hw (fun E a w h1 h2 h3=>ih2 _ _ _ _ _ hp.2 h1 h2 h3) h.2
  | lll i p k r j t ih1 ih2 ih3=>
    intro l f E a w hp hA hw h
    cases f with
    | zero=>simp [planOkE] at hp
    | succ f=>
      simp only [planOkE,Bool.and_eq_true,beq_iff_eq,bne_iff_ne] at hp
      refine ⟨fun g=>(by rw [g] at hp;cases hp.1.1.1.1),fun m hm=>?_⟩
      rw [hp.1.1.1.1] at hm
      simp only [List.mem_cons,List.not_mem_nil,or_false] at hm
      rcases hm with rfl | rfl | rfl
      · exact loud f l hA hw (fun E a w h1 h2 h3=>ih1 _ _ _ _ _ hp.1.1.2 h1 h2 h3) h.1
      · exact loud f l hA hw (fun E a w h1 h2 h3=>ih2 _ _ _ _ _ hp.1.2 h1 h2 h3) h.2.1
      · exact loud f l hA hw (fun E a w h1 h2 h3=>ih3 _ _ _ _ _ hp.2 h1 h2 h3) h.2.2
def drawOkE (P : Program) (n : Nat) (ops : Array Oper) (p : Plan) (e : Nat) : Bool:=
  P.follows .mixedOrders && Region.noSelect ops && ops.all (fun o=>dOk n o.dst) && planOkE ops e p (Array.replicate ops.size false) ops.size
theorem walkDrawE {P : Program} {n : Nat} {ops : Array Oper} {E : Env} {w : World} {K : Env → World → Prop} (p : Plan) (e : Nat) (L : Held) (hp : drawOkE P n ops p e = true) (hL : Holds L w)
    (h : ∀ w1,w1.heap = w.heap→Chg (fun _=>False) w w1→planvT P ops L p E w1 fun E w=>operK ops[e]? fun d op ty g=>gT ops g E (opvT P op ty E w fun v w'=>K (E.push d v) w') (K (E.push d undef) w)) : drawT P n ops E w K:=by
  intro id a hA
  simp only [drawOkE,Bool.and_eq_true] at hp
  refine wp_region_any hp.1.1.1 (anyE_wpAny _ _ _ _ (planE_sound (K:=K) (n:=n) (e:=e) (L:=L) (fun E a w hA hk=>⟨E,hA,hk⟩) (fun c a w hq=>hq) hp.1.1.2 hp.1.2 p _ _ E a _ hp.2 hA ?_ ?_))
  · exact hL
  · have k:=h (World.drew w) rfl (Chg.refl _ _).drew
    refine cast (congrArg (fun K=>planv P ops L p E _ K) ?_) k
    funext E w
    unfold lastK
    cases ops[e]?<;>rfl
set_option maxRecDepth 100000
set_option linter.unusedSimpArgs false
def itemsF {α : Type} (f : R8→α) (g : R8→R8) : Nat→R8→List α×R8
  | 0,s=>([],s)
  | n + 1,s=>if 0 < s.left then (f s :: (itemsF f g n (g s)).1,(itemsF f g n (g s)).2) else ([],s)
def itemsV {α : Type} (f : R8→α) (g : R8→R8) (s : R8) : List α:=(itemsF f g (s.numV 2).toNat (s.numS 2)).1
def itemsS {α : Type} (f : R8→α) (g : R8→R8) (s : R8) : R8:=(itemsF f g (s.numV 2).toNat (s.numS 2)).2
def rP (s : R8) : List Int:=[s.ptV.1,s.ptV.2]
def sP (s : R8) : R8:=(s.ptS)
theorem sP_byt {s : R8} (hb : Byt s.l) : Byt (sP s).l:=ptS_byt _ (hb)
theorem infoP : (Tryz.prog.info? 45).map (fun i=>(i.zero,i.size,i.bytes)) = some (some (.agg #[.int .i64 0,.int .i64 0]),2,16):=by kernel_rfl
theorem itemsP {w0 w : World} {q G : Res} {r c : Nat} {s : R8} {K : Value → World → Prop} (h : Sep w0 (fun _ => False) [q, rdr 151 r s (fun _ => False), blk c 102 [.pointer (some ⟨r, 0, none⟩)], G] w) (hb : Byt s.l)
    (hK : ∀ a cc w1,Sep w0 (fun _=>False) [q,rdr 151 r (itemsS rP sP s) (fun _=>False),blk c 102 [.pointer (some ⟨r,0,none⟩)],G,tab 45 2 (.slice a (itemsV rP sP s).length cc) (itemsV rP sP s)] w1→K (.slice a (itemsV rP sP s).length cc) w1) :
    callsK Tryz.prog 43 [.pointer (some ⟨r,0,none⟩),.func (.func 44) #[.pointer (some ⟨r,0,none⟩)] #[]].toArray w K:=by
  refine walk Tryz.func43 rfl (by kernel_rfl) (by rw [Tryz.nt43];simp) ?_
  have hn:=num2_rng s hb
  replace h:=Zd h;have F:=Zf2 h
  refine Zv ?_
  refine Sep.rdNum 1 h rfl ?_
  clear h F
  intro w1 h
  replace h:=Zd h;have F:=Zf2 h;refine Zs ?_
  have h:=h.tabNil 45 2
  obtain ⟨N,hN⟩ :=Int.eq_ofNat_of_zero_le hn.1
  have eN : (s.numV 2).toNat = N:=by omega
  rw [hN] at hn
  rw [hN]
  refine walkLoop [0,1] [4,5] (fun m vs w'=>∃ n t out a cc,m = n∧vs = [.slice a out.length cc,.int .i64 (n : Nat)]∧Sep w0 (fun _=>False) [q,rdr 151 r t (fun _=>False),blk c 102 [.pointer (some ⟨r,0,none⟩)],G,tab 45 2 (.slice a out.length cc) out] w'∧
    Byt t.l∧itemsF rP sP N (s.numS 2) = (out ++ (itemsF rP sP n t).1,(itemsF rP sP n t).2)∧out.length + n≤65535) (by kernel_rfl) ?_ ?_
  · refine Zv ?_
    exact ⟨_,N,_,[],none,0,rfl,rfl,h,numS_byt s 2 hb,by simp,by simp;omega⟩
  intro ks hk m vs w2 hi
  clear h F
  obtain ⟨n,t,out,a,cc,rfl,rfl,h,hbt,hit,hlen⟩ :=hi
  replace hk:=Zk hk;subst hk
  have done : (itemsF rP sP m t).1 = []∧(itemsF rP sP m t).2 = t→∀ {w'},Sep w0 (fun _=>False) [q,rdr 151 r t (fun _=>False),blk c 102 [.pointer (some ⟨r,0,none⟩)],G,tab 45 2 (.slice a out.length cc) out] w'→K (.slice a out.length cc) w':=fun hd w' h=>by
    have e1 : itemsV rP sP s = out:=by unfold itemsV;rw [eN,hit,hd.1];simp
    have e2 : itemsS rP sP s = t:=by unfold itemsS;rw [eN,hit,hd.2]
    have:=hK a cc w'
    rw [e1,e2] at this
    exact this h
  match m,hit,hlen,done with
  | 0,hit,hlen,done=>
    have h0 : ¬ (0 : Int) < ((0 : Nat) : Int):=by omega
    replace h:=Zd h;have F:=Zf2 h;refine Zs1 (decide_eq_false h0) ?_
    exact done ⟨rfl,rfl⟩ h
  | n + 1,hit,hlen,done=>
  have h0 : (0 : Int) < ((n + 1 : Nat) : Int):=by omega
  have en : IntKind.i64.wrap (((n + 1 : Nat) : Int) - 1) = (n : Int):=by rw [i64w _ (by omega) (by omega)];omega
  replace h:=Zd h;have F:=Zf2 h;refine Zs1 (decide_eq_true h0) ?_
  refine Sep.rdLeft 1 h rfl ?_
  by_cases hl : (0 : Int) < t.left
  case neg=>
    replace h:=Zd h;have F:=Zf2 h;refine Zs1 (decide_eq_false hl) ?_
    exact done (by simp [itemsF,hl]) h
  have hit2 : itemsF rP sP N (s.numS 2) = ((out ++ [rP t]) ++ (itemsF rP sP n (sP t)).1,(itemsF rP sP n (sP t)).2):=by
    rw [hit];simp [itemsF,hl]
  replace h:=Zd h;have F:=Zf2 h;refine Zs1 (decide_eq_true hl) ?_
  repeat ((first | refine Sep.new h ?_ | refine Sep.put 0 h rfl ?_ | refine Sep.put 1 h rfl ?_ | refine Sep.put 2 h rfl ?_ | refine Sep.put 3 h rfl ?_ | refine Sep.put 4 h rfl ?_ | refine Sep.put 5 h rfl ?_ | refine Sep.rdNum 1 h rfl ?_ | refine Sep.rdPoint 1 h rfl ?_ | refine Sep.rdTri 1 h rfl ?_);(clear F;(try clear h);intros;rename_i h;replace h:=Zd h;have F:=Zf2 h;refine Zc1 (@T3.cells.eq_1) ?_))
  refine Sep.appTab 4 5 infoP Tryz.underlying24 rfl (by decide) (rP t) h rfl rfl rfl (by omega) (by simp only [maxLen];omega) ?_
  clear h F
  intro a7 c7 w7 h
  replace h:=Zd h;have F:=Zf2 h;refine Zs1 en ?_
  refine ⟨_,?_,n,sP t,out ++ [rP t],a7,c7,rfl,rfl,h.erase 5,sP_byt hbt,hit2,by simp;omega⟩
  omega
def rW (s : R8) : List Int:=[s.ptV.1,s.ptV.2,(s.ptS).ptV.1,(s.ptS).ptV.2,((s.ptS).ptS).numV 1]
def sW (s : R8) : R8:=(((s.ptS).ptS).numS 1)
theorem sW_byt {s : R8} (hb : Byt s.l) : Byt (sW s).l:=numS_byt _ 1 (ptS_byt _ (ptS_byt _ (hb)))
theorem infoW : (Tryz.prog.info? 47).map (fun i=>(i.zero,i.size,i.bytes)) = some (some (.agg #[.int .i64 0,.int .i64 0,.int .i64 0,.int .i64 0,.int .i64 0]),5,40):=by kernel_rfl
theorem itemsW {w0 w : World} {q G : Res} {r c : Nat} {s : R8} {K : Value → World → Prop} (h : Sep w0 (fun _ => False) [q, rdr 151 r s (fun _ => False), blk c 102 [.pointer (some ⟨r, 0, none⟩)], G] w) (hb : Byt s.l)
    (hK : ∀ a cc w1,Sep w0 (fun _=>False) [q,rdr 151 r (itemsS rW sW s) (fun _=>False),blk c 102 [.pointer (some ⟨r,0,none⟩)],G,tab 47 5 (.slice a (itemsV rW sW s).length cc) (itemsV rW sW s)] w1→K (.slice a (itemsV rW sW s).length cc) w1) :
    callsK Tryz.prog 45 [.pointer (some ⟨r,0,none⟩),.func (.func 46) #[] #[.pointer (some ⟨c,0,none⟩)]].toArray w K:=by
  refine walk Tryz.func45 rfl (by kernel_rfl) (by rw [Tryz.nt45];simp) ?_
  have hn:=num2_rng s hb
  replace h:=Zd h;have F:=Zf2 h
  refine Zv ?_
  refine Sep.rdNum 1 h rfl ?_
  clear h F
  intro w1 h
  replace h:=Zd h;have F:=Zf2 h;refine Zs ?_
  have h:=h.tabNil 47 5
  obtain ⟨N,hN⟩ :=Int.eq_ofNat_of_zero_le hn.1
  have eN : (s.numV 2).toNat = N:=by omega
  rw [hN] at hn
  rw [hN]
  refine walkLoop [0,1] [4,5] (fun m vs w'=>∃ n t out a cc,m = n∧vs = [.slice a out.length cc,.int .i64 (n : Nat)]∧Sep w0 (fun _=>False) [q,rdr 151 r t (fun _=>False),blk c 102 [.pointer (some ⟨r,0,none⟩)],G,tab 47 5 (.slice a out.length cc) out] w'∧
    Byt t.l∧itemsF rW sW N (s.numS 2) = (out ++ (itemsF rW sW n t).1,(itemsF rW sW n t).2)∧out.length + n≤65535) (by kernel_rfl) ?_ ?_
  · refine Zv ?_
    exact ⟨_,N,_,[],none,0,rfl,rfl,h,numS_byt s 2 hb,by simp,by simp;omega⟩
  intro ks hk m vs w2 hi
  clear h F
  obtain ⟨n,t,out,a,cc,rfl,rfl,h,hbt,hit,hlen⟩ :=hi
  replace hk:=Zk hk;subst hk
  have done : (itemsF rW sW m t).1 = []∧(itemsF rW sW m t).2 = t→∀ {w'},Sep w0 (fun _=>False) [q,rdr 151 r t (fun _=>False),blk c 102 [.pointer (some ⟨r,0,none⟩)],G,tab 47 5 (.slice a out.length cc) out] w'→K (.slice a out.length cc) w':=fun hd w' h=>by
    have e1 : itemsV rW sW s = out:=by unfold itemsV;rw [eN,hit,hd.1];simp
    have e2 : itemsS rW sW s = t:=by unfold itemsS;rw [eN,hit,hd.2]
    have:=hK a cc w'
    rw [e1,e2] at this
    exact this h
  match m,hit,hlen,done with
  | 0,hit,hlen,done=>
    have h0 : ¬ (0 : Int) < ((0 : Nat) : Int):=by omega
    replace h:=Zd h;have F:=Zf2 h;refine Zs1 (decide_eq_false h0) ?_
    exact done ⟨rfl,rfl⟩ h
  | n + 1,hit,hlen,done=>
  have h0 : (0 : Int) < ((n + 1 : Nat) : Int):=by omega
  have en : IntKind.i64.wrap (((n + 1 : Nat) : Int) - 1) = (n : Int):=by rw [i64w _ (by omega) (by omega)];omega
  replace h:=Zd h;have F:=Zf2 h;refine Zs1 (decide_eq_true h0) ?_
  refine Sep.rdLeft 1 h rfl ?_
  by_cases hl : (0 : Int) < t.left
  case neg=>
    replace h:=Zd h;have F:=Zf2 h;refine Zs1 (decide_eq_false hl) ?_
    exact done (by simp [itemsF,hl]) h
  have hit2 : itemsF rW sW N (s.numS 2) = ((out ++ [rW t]) ++ (itemsF rW sW n (sW t)).1,(itemsF rW sW n (sW t)).2):=by
    rw [hit];simp [itemsF,hl]
  replace h:=Zd h;have F:=Zf2 h;refine Zs1 (decide_eq_true hl) ?_
  refine walk Tryz.func46 rfl (by kernel_rfl) (by rw [Tryz.nt46];simp) ?_
  replace h:=Zd h;have F:=Zf2 h;refine Zs ?_
  refine h.new ?_
  clear h F
  intro w5 b5 h
  replace h:=Zd h;have F:=Zf2 h;refine Zs ?_
  refine walkDraw (.h 0 0 (.h 2 1 (.h 4 2 (.l 1 (.l 3 (.l 5 (.q 6 (.l 7 .fin)))))))) [(c,0,.pointer (some ⟨r,0,none⟩)),(c,0,.pointer (some ⟨r,0,none⟩)),(c,0,.pointer (some ⟨r,0,none⟩))] (by kernel_rfl) (by simp [Holds_nil,Holds_cons,F]) ?_
  refine h.draw ?_
  clear h F
  intro w6 h
  replace h:=Zd h;have F:=Zf2 h;refine Zs ?_
  repeat ((first | refine Sep.new h ?_ | refine Sep.put 0 h rfl ?_ | refine Sep.put 1 h rfl ?_ | refine Sep.put 2 h rfl ?_ | refine Sep.put 3 h rfl ?_ | refine Sep.put 4 h rfl ?_ | refine Sep.put 5 h rfl ?_ | refine Sep.rdNum 1 h rfl ?_ | refine Sep.rdPoint 1 h rfl ?_ | refine Sep.rdTri 1 h rfl ?_);(clear F;(try clear h);intros;rename_i h;replace h:=Zd h;have F:=Zf2 h;refine Zc1 (@T3.cells.eq_1) ?_))
  refine Sep.appTab 4 6 infoW Tryz.underlying25 rfl (by decide) (rW t) h rfl rfl rfl (by omega) (by simp only [maxLen];omega) ?_
  clear h F
  intro a7 c7 w7 h
  replace h:=Zd h;have F:=Zf2 h;refine Zs1 en ?_
  refine ⟨_,?_,n,sW t,out ++ [rW t],a7,c7,rfl,rfl,(h.erase 6).erase 5,sW_byt hbt,hit2,by simp;omega⟩
  omega
def rPa (s : R8) : List Int:=[s.numV 1,(s.numS 1).numV 1]
def sPa (s : R8) : R8:=((s.numS 1).numS 1)
theorem sPa_byt {s : R8} (hb : Byt s.l) : Byt (sPa s).l:=numS_byt _ 1 (numS_byt _ 1 (hb))
theorem infoPa : (Tryz.prog.info? 69).map (fun i=>(i.zero,i.size,i.bytes)) = some (some (.agg #[.int .i64 0,.int .i64 0]),2,16):=by kernel_rfl
theorem itemsPa {w0 w : World} {q G : Res} {r c : Nat} {s : R8} {K : Value → World → Prop} (h : Sep w0 (fun _ => False) [q, rdr 151 r s (fun _ => False), blk c 102 [.pointer (some ⟨r, 0, none⟩)], G] w) (hb : Byt s.l)
    (hK : ∀ a cc w1,Sep w0 (fun _=>False) [q,rdr 151 r (itemsS rPa sPa s) (fun _=>False),blk c 102 [.pointer (some ⟨r,0,none⟩)],G,tab 69 2 (.slice a (itemsV rPa sPa s).length cc) (itemsV rPa sPa s)] w1→K (.slice a (itemsV rPa sPa s).length cc) w1) :
    callsK Tryz.prog 47 [.pointer (some ⟨r,0,none⟩),.func (.func 48) #[] #[.pointer (some ⟨c,0,none⟩)]].toArray w K:=by
  refine walk Tryz.func47 rfl (by kernel_rfl) (by rw [Tryz.nt47];simp) ?_
  have hn:=num2_rng s hb
  replace h:=Zd h;have F:=Zf2 h
  refine Zv ?_
  refine Sep.rdNum 1 h rfl ?_
  clear h F
  intro w1 h
  replace h:=Zd h;have F:=Zf2 h;refine Zs ?_
  have h:=h.tabNil 69 2
  obtain ⟨N,hN⟩ :=Int.eq_ofNat_of_zero_le hn.1
  have eN : (s.numV 2).toNat = N:=by omega
  rw [hN] at hn
  rw [hN]
  refine walkLoop [0,1] [4,5] (fun m vs w'=>∃ n t out a cc,m = n∧vs = [.slice a out.length cc,.int .i64 (n : Nat)]∧Sep w0 (fun _=>False) [q,rdr 151 r t (fun _=>False),blk c 102 [.pointer (some ⟨r,0,none⟩)],G,tab 69 2 (.slice a out.length cc) out] w'∧
    Byt t.l∧itemsF rPa sPa N (s.numS 2) = (out ++ (itemsF rPa sPa n t).1,(itemsF rPa sPa n t).2)∧out.length + n≤65535) (by kernel_rfl) ?_ ?_
  · refine Zv ?_
    exact ⟨_,N,_,[],none,0,rfl,rfl,h,numS_byt s 2 hb,by simp,by simp;omega⟩
  intro ks hk m vs w2 hi
  clear h F
  obtain ⟨n,t,out,a,cc,rfl,rfl,h,hbt,hit,hlen⟩ :=hi
  replace hk:=Zk hk;subst hk
  have done : (itemsF rPa sPa m t).1 = []∧(itemsF rPa sPa m t).2 = t→∀ {w'},Sep w0 (fun _=>False) [q,rdr 151 r t (fun _=>False),blk c 102 [.pointer (some ⟨r,0,none⟩)],G,tab 69 2 (.slice a out.length cc) out] w'→K (.slice a out.length cc) w':=fun hd w' h=>by
    have e1 : itemsV rPa sPa s = out:=by unfold itemsV;rw [eN,hit,hd.1];simp
    have e2 : itemsS rPa sPa s = t:=by unfold itemsS;rw [eN,hit,hd.2]
    have:=hK a cc w'
    rw [e1,e2] at this
    exact this h
  match m,hit,hlen,done with
  | 0,hit,hlen,done=>
    have h0 : ¬ (0 : Int) < ((0 : Nat) : Int):=by omega
    replace h:=Zd h;have F:=Zf2 h;refine Zs1 (decide_eq_false h0) ?_
    exact done ⟨rfl,rfl⟩ h
  | n + 1,hit,hlen,done=>
  have h0 : (0 : Int) < ((n + 1 : Nat) : Int):=by omega
  have en : IntKind.i64.wrap (((n + 1 : Nat) : Int) - 1) = (n : Int):=by rw [i64w _ (by omega) (by omega)];omega
  replace h:=Zd h;have F:=Zf2 h;refine Zs1 (decide_eq_true h0) ?_
  refine Sep.rdLeft 1 h rfl ?_
  by_cases hl : (0 : Int) < t.left
  case neg=>
    replace h:=Zd h;have F:=Zf2 h;refine Zs1 (decide_eq_false hl) ?_
    exact done (by simp [itemsF,hl]) h
  have hit2 : itemsF rPa sPa N (s.numS 2) = ((out ++ [rPa t]) ++ (itemsF rPa sPa n (sPa t)).1,(itemsF rPa sPa n (sPa t)).2):=by
    rw [hit];simp [itemsF,hl]
  replace h:=Zd h;have F:=Zf2 h;refine Zs1 (decide_eq_true hl) ?_
  refine walk Tryz.func48 rfl (by kernel_rfl) (by rw [Tryz.nt48];simp) ?_
  replace h:=Zd h;have F:=Zf2 h;refine Zs ?_
  refine h.new ?_
  clear h F
  intro w5 b5 h
  replace h:=Zd h;have F:=Zf2 h;refine Zs ?_
  refine walkDraw (.h 0 0 (.h 2 1 (.l 1 (.l 3 (.q 4 (.l 5 .fin)))))) [(c,0,.pointer (some ⟨r,0,none⟩)),(c,0,.pointer (some ⟨r,0,none⟩))] (by kernel_rfl) (by simp [Holds_nil,Holds_cons,F]) ?_
  refine h.draw ?_
  clear h F
  intro w6 h
  replace h:=Zd h;have F:=Zf2 h;refine Zs ?_
  repeat ((first | refine Sep.new h ?_ | refine Sep.put 0 h rfl ?_ | refine Sep.put 1 h rfl ?_ | refine Sep.put 2 h rfl ?_ | refine Sep.put 3 h rfl ?_ | refine Sep.put 4 h rfl ?_ | refine Sep.put 5 h rfl ?_ | refine Sep.rdNum 1 h rfl ?_ | refine Sep.rdPoint 1 h rfl ?_ | refine Sep.rdTri 1 h rfl ?_);(clear F;(try clear h);intros;rename_i h;replace h:=Zd h;have F:=Zf2 h;refine Zc1 (@T3.cells.eq_1) ?_))
  refine Sep.appTab 4 6 infoPa Tryz.underlying26 rfl (by decide) (rPa t) h rfl rfl rfl (by omega) (by simp only [maxLen];omega) ?_
  clear h F
  intro a7 c7 w7 h
  replace h:=Zd h;have F:=Zf2 h;refine Zs1 en ?_
  refine ⟨_,?_,n,sPa t,out ++ [rPa t],a7,c7,rfl,rfl,(h.erase 6).erase 5,sPa_byt hbt,hit2,by simp;omega⟩
  omega
def rRe (s : R8) : List Int:=[s.numV 1,(s.numS 1).numV 2,((s.numS 1).numS 2).numV 1,(((s.numS 1).numS 2).numS 1).numV 1,((((s.numS 1).numS 2).numS 1).numS 1).triV.ax,((((s.numS 1).numS 2).numS 1).numS 1).triV.ay,((((s.numS 1).numS 2).numS 1).numS 1).triV.bx,((((s.numS 1).numS 2).numS 1).numS 1).triV.by',((((s.numS 1).numS 2).numS 1).numS 1).triV.cx,((((s.numS 1).numS 2).numS 1).numS 1).triV.cy]
def sRe (s : R8) : R8:=(((((s.numS 1).numS 2).numS 1).numS 1).triS)
theorem sRe_byt {s : R8} (hb : Byt s.l) : Byt (sRe s).l:=triS_byt _ (numS_byt _ 1 (numS_byt _ 1 (numS_byt _ 2 (numS_byt _ 1 (hb)))))
theorem infoRe : (Tryz.prog.info? 51).map (fun i=>(i.zero,i.size,i.bytes)) = some (some (.agg #[.int .i64 0,.int .i64 0,.int .i64 0,.int .i64 0,.int .i64 0,.int .i64 0,.int .i64 0,.int .i64 0,.int .i64 0,.int .i64 0]),10,80):=by kernel_rfl
theorem itemsRe {w0 w : World} {q G : Res} {r c : Nat} {s : R8} {K : Value → World → Prop} (h : Sep w0 (fun _ => False) [q, rdr 151 r s (fun _ => False), blk c 102 [.pointer (some ⟨r, 0, none⟩)], G] w) (hb : Byt s.l)
    (hK : ∀ a cc w1,Sep w0 (fun _=>False) [q,rdr 151 r (itemsS rRe sRe s) (fun _=>False),blk c 102 [.pointer (some ⟨r,0,none⟩)],G,tab 51 10 (.slice a (itemsV rRe sRe s).length cc) (itemsV rRe sRe s)] w1→K (.slice a (itemsV rRe sRe s).length cc) w1) :
    callsK Tryz.prog 49 [.pointer (some ⟨r,0,none⟩),.func (.func 50) #[] #[.pointer (some ⟨c,0,none⟩)]].toArray w K:=by
  refine walk Tryz.func49 rfl (by kernel_rfl) (by rw [Tryz.nt49];simp) ?_
  have hn:=num2_rng s hb
  replace h:=Zd h;have F:=Zf2 h
  refine Zv ?_
  refine Sep.rdNum 1 h rfl ?_
  clear h F
  intro w1 h
  replace h:=Zd h;have F:=Zf2 h;refine Zs ?_
  have h:=h.tabNil 51 10
  obtain ⟨N,hN⟩ :=Int.eq_ofNat_of_zero_le hn.1
  have eN : (s.numV 2).toNat = N:=by omega
  rw [hN] at hn
  rw [hN]
  refine walkLoop [0,1] [4,5] (fun m vs w'=>∃ n t out a cc,m = n∧vs = [.slice a out.length cc,.int .i64 (n : Nat)]∧Sep w0 (fun _=>False) [q,rdr 151 r t (fun _=>False),blk c 102 [.pointer (some ⟨r,0,none⟩)],G,tab 51 10 (.slice a out.length cc) out] w'∧
    Byt t.l∧itemsF rRe sRe N (s.numS 2) = (out ++ (itemsF rRe sRe n t).1,(itemsF rRe sRe n t).2)∧out.length + n≤65535) (by kernel_rfl) ?_ ?_
  · refine Zv ?_
    exact ⟨_,N,_,[],none,0,rfl,rfl,h,numS_byt s 2 hb,by simp,by simp;omega⟩
  intro ks hk m vs w2 hi
  clear h F
  obtain ⟨n,t,out,a,cc,rfl,rfl,h,hbt,hit,hlen⟩ :=hi
  replace hk:=Zk hk;subst hk
  have done : (itemsF rRe sRe m t).1 = []∧(itemsF rRe sRe m t).2 = t→∀ {w'},Sep w0 (fun _=>False) [q,rdr 151 r t (fun _=>False),blk c 102 [.pointer (some ⟨r,0,none⟩)],G,tab 51 10 (.slice a out.length cc) out] w'→K (.slice a out.length cc) w':=fun hd w' h=>by
    have e1 : itemsV rRe sRe s = out:=by unfold itemsV;rw [eN,hit,hd.1];simp
    have e2 : itemsS rRe sRe s = t:=by unfold itemsS;rw [eN,hit,hd.2]
    have:=hK a cc w'
    rw [e1,e2] at this
    exact this h
  match m,hit,hlen,done with
  | 0,hit,hlen,done=>
    have h0 : ¬ (0 : Int) < ((0 : Nat) : Int):=by omega
    replace h:=Zd h;have F:=Zf2 h;refine Zs1 (decide_eq_false h0) ?_
    exact done ⟨rfl,rfl⟩ h
  | n + 1,hit,hlen,done=>
  have h0 : (0 : Int) < ((n + 1 : Nat) : Int):=by omega
  have en : IntKind.i64.wrap (((n + 1 : Nat) : Int) - 1) = (n : Int):=by rw [i64w _ (by omega) (by omega)];omega
  replace h:=Zd h;have F:=Zf2 h;refine Zs1 (decide_eq_true h0) ?_
  refine Sep.rdLeft 1 h rfl ?_
  by_cases hl : (0 : Int) < t.left
  case neg=>
    replace h:=Zd h;have F:=Zf2 h;refine Zs1 (decide_eq_false hl) ?_
    exact done (by simp [itemsF,hl]) h
  have hit2 : itemsF rRe sRe N (s.numS 2) = ((out ++ [rRe t]) ++ (itemsF rRe sRe n (sRe t)).1,(itemsF rRe sRe n (sRe t)).2):=by
    rw [hit];simp [itemsF,hl]
  replace h:=Zd h;have F:=Zf2 h;refine Zs1 (decide_eq_true hl) ?_
  refine walk Tryz.func50 rfl (by kernel_rfl) (by rw [Tryz.nt50];simp) ?_
  replace h:=Zd h;have F:=Zf2 h;refine Zs ?_
  refine h.new ?_
  clear h F
  intro w5 b5 h
  replace h:=Zd h;have F:=Zf2 h;refine Zs ?_
  refine walkDraw (.h 0 0 (.h 2 1 (.h 4 2 (.h 6 3 (.h 8 4 (.l 1 (.l 3 (.l 5 (.l 7 (.l 9 (.q 10 (.l 11 .fin)))))))))))) [(c,0,.pointer (some ⟨r,0,none⟩)),(c,0,.pointer (some ⟨r,0,none⟩)),(c,0,.pointer (some ⟨r,0,none⟩)),(c,0,.pointer (some ⟨r,0,none⟩)),(c,0,.pointer (some ⟨r,0,none⟩))] (by kernel_rfl) (by simp [Holds_nil,Holds_cons,F]) ?_
  refine h.draw ?_
  clear h F
  intro w6 h
  replace h:=Zd h;have F:=Zf2 h;refine Zs ?_
  repeat ((first | refine Sep.new h ?_ | refine Sep.put 0 h rfl ?_ | refine Sep.put 1 h rfl ?_ | refine Sep.put 2 h rfl ?_ | refine Sep.put 3 h rfl ?_ | refine Sep.put 4 h rfl ?_ | refine Sep.put 5 h rfl ?_ | refine Sep.rdNum 1 h rfl ?_ | refine Sep.rdPoint 1 h rfl ?_ | refine Sep.rdTri 1 h rfl ?_);(clear F;(try clear h);intros;rename_i h;replace h:=Zd h;have F:=Zf2 h;refine Zc1 (@T3.cells.eq_1) ?_))
  refine Sep.appTab 4 6 infoRe Tryz.underlying27 rfl (by decide) (rRe t) h rfl rfl rfl (by omega) (by simp only [maxLen];omega) ?_
  clear h F
  intro a7 c7 w7 h
  replace h:=Zd h;have F:=Zf2 h;refine Zs1 en ?_
  refine ⟨_,?_,n,sRe t,out ++ [rRe t],a7,c7,rfl,rfl,(h.erase 6).erase 5,sRe_byt hbt,hit2,by simp;omega⟩
  omega
def rCa (s : R8) : List Int:=[s.numV 1,(s.numS 1).numV 1,((s.numS 1).numS 1).numV 1,(((s.numS 1).numS 1).numS 1).numV 1,((((s.numS 1).numS 1).numS 1).numS 1).numV 2,(((((s.numS 1).numS 1).numS 1).numS 1).numS 2).numV 1,((((((s.numS 1).numS 1).numS 1).numS 1).numS 2).numS 1).numV 4,IntKind.i64.wrap ((((((((s.numS 1).numS 1).numS 1).numS 1).numS 2).numS 1).numS 4).numV 2 - 1),((((((((s.numS 1).numS 1).numS 1).numS 1).numS 2).numS 1).numS 4).numS 2).numV 1]
def sCa (s : R8) : R8:=(((((((((s.numS 1).numS 1).numS 1).numS 1).numS 2).numS 1).numS 4).numS 2).numS 1)
theorem sCa_byt {s : R8} (hb : Byt s.l) : Byt (sCa s).l:=numS_byt _ 1 (numS_byt _ 2 (numS_byt _ 4 (numS_byt _ 1 (numS_byt _ 2 (numS_byt _ 1 (numS_byt _ 1 (numS_byt _ 1 (numS_byt _ 1 (hb)))))))))
theorem infoCa : (Tryz.prog.info? 53).map (fun i=>(i.zero,i.size,i.bytes)) = some (some (.agg #[.int .i64 0,.int .i64 0,.int .i64 0,.int .i64 0,.int .i64 0,.int .i64 0,.int .i64 0,.int .i64 0,.int .i64 0]),9,72):=by kernel_rfl
theorem itemsCa {w0 w : World} {q G : Res} {r c : Nat} {s : R8} {K : Value → World → Prop} (h : Sep w0 (fun _ => False) [q, rdr 151 r s (fun _ => False), blk c 102 [.pointer (some ⟨r, 0, none⟩)], G] w) (hb : Byt s.l)
    (hK : ∀ a cc w1,Sep w0 (fun _=>False) [q,rdr 151 r (itemsS rCa sCa s) (fun _=>False),blk c 102 [.pointer (some ⟨r,0,none⟩)],G,tab 53 9 (.slice a (itemsV rCa sCa s).length cc) (itemsV rCa sCa s)] w1→K (.slice a (itemsV rCa sCa s).length cc) w1) :
    callsK Tryz.prog 52 [.pointer (some ⟨r,0,none⟩),.func (.func 53) #[] #[.pointer (some ⟨c,0,none⟩)]].toArray w K:=by
  refine walk Tryz.func52 rfl (by kernel_rfl) (by rw [Tryz.nt52];simp) ?_
  have hn:=num2_rng s hb
  replace h:=Zd h;have F:=Zf2 h
  refine Zv ?_
  refine Sep.rdNum 1 h rfl ?_
  clear h F
  intro w1 h
  replace h:=Zd h;have F:=Zf2 h;refine Zs ?_
  have h:=h.tabNil 53 9
  obtain ⟨N,hN⟩ :=Int.eq_ofNat_of_zero_le hn.1
  have eN : (s.numV 2).toNat = N:=by omega
  rw [hN] at hn
  rw [hN]
  refine walkLoop [0,1] [4,5] (fun m vs w'=>∃ n t out a cc,m = n∧vs = [.slice a out.length cc,.int .i64 (n : Nat)]∧Sep w0 (fun _=>False) [q,rdr 151 r t (fun _=>False),blk c 102 [.pointer (some ⟨r,0,none⟩)],G,tab 53 9 (.slice a out.length cc) out] w'∧
    Byt t.l∧itemsF rCa sCa N (s.numS 2) = (out ++ (itemsF rCa sCa n t).1,(itemsF rCa sCa n t).2)∧out.length + n≤65535) (by kernel_rfl) ?_ ?_
  · refine Zv ?_
    exact ⟨_,N,_,[],none,0,rfl,rfl,h,numS_byt s 2 hb,by simp,by simp;omega⟩
  intro ks hk m vs w2 hi
  clear h F
  obtain ⟨n,t,out,a,cc,rfl,rfl,h,hbt,hit,hlen⟩ :=hi
  replace hk:=Zk hk;subst hk
  have done : (itemsF rCa sCa m t).1 = []∧(itemsF rCa sCa m t).2 = t→∀ {w'},Sep w0 (fun _=>False) [q,rdr 151 r t (fun _=>False),blk c 102 [.pointer (some ⟨r,0,none⟩)],G,tab 53 9 (.slice a out.length cc) out] w'→K (.slice a out.length cc) w':=fun hd w' h=>by
    have e1 : itemsV rCa sCa s = out:=by unfold itemsV;rw [eN,hit,hd.1];simp
    have e2 : itemsS rCa sCa s = t:=by unfold itemsS;rw [eN,hit,hd.2]
    have:=hK a cc w'
    rw [e1,e2] at this
    exact this h
  match m,hit,hlen,done with
  | 0,hit,hlen,done=>
    have h0 : ¬ (0 : Int) < ((0 : Nat) : Int):=by omega
    replace h:=Zd h;have F:=Zf2 h;refine Zs1 (decide_eq_false h0) ?_
    exact done ⟨rfl,rfl⟩ h
  | n + 1,hit,hlen,done=>
  have h0 : (0 : Int) < ((n + 1 : Nat) : Int):=by omega
  have en : IntKind.i64.wrap (((n + 1 : Nat) : Int) - 1) = (n : Int):=by rw [i64w _ (by omega) (by omega)];omega
  replace h:=Zd h;have F:=Zf2 h;refine Zs1 (decide_eq_true h0) ?_
  refine Sep.rdLeft 1 h rfl ?_
  by_cases hl : (0 : Int) < t.left
  case neg=>
    replace h:=Zd h;have F:=Zf2 h;refine Zs1 (decide_eq_false hl) ?_
    exact done (by simp [itemsF,hl]) h
  have hit2 : itemsF rCa sCa N (s.numS 2) = ((out ++ [rCa t]) ++ (itemsF rCa sCa n (sCa t)).1,(itemsF rCa sCa n (sCa t)).2):=by
    rw [hit];simp [itemsF,hl]
  replace h:=Zd h;have F:=Zf2 h;refine Zs1 (decide_eq_true hl) ?_
  refine walk Tryz.func53 rfl (by kernel_rfl) (by rw [Tryz.nt53];simp) ?_
  replace h:=Zd h;have F:=Zf2 h;refine Zs ?_
  refine h.new ?_
  clear h F
  intro w5 b5 h
  replace h:=Zd h;have F:=Zf2 h;refine Zs ?_
  refine walkDraw (.h 0 0 (.h 2 1 (.h 4 2 (.h 6 3 (.h 8 4 (.h 10 5 (.h 12 6 (.h 14 7 (.h 17 8 (.l 1 (.l 3 (.l 5 (.l 7 (.l 9 (.l 11 (.l 13 (.l 15 (.q 16 (.l 18 (.q 19 (.l 20 .fin))))))))))))))))))))) [(c,0,.pointer (some ⟨r,0,none⟩)),(c,0,.pointer (some ⟨r,0,none⟩)),(c,0,.pointer (some ⟨r,0,none⟩)),(c,0,.pointer (some ⟨r,0,none⟩)),(c,0,.pointer (some ⟨r,0,none⟩)),(c,0,.pointer (some ⟨r,0,none⟩)),(c,0,.pointer (some ⟨r,0,none⟩)),(c,0,.pointer (some ⟨r,0,none⟩)),(c,0,.pointer (some ⟨r,0,none⟩))] (by kernel_rfl) (by simp [Holds_nil,Holds_cons,F]) ?_
  refine h.draw ?_
  clear h F
  intro w6 h
  replace h:=Zd h;have F:=Zf2 h;refine Zs ?_
  repeat ((first | refine Sep.new h ?_ | refine Sep.put 0 h rfl ?_ | refine Sep.put 1 h rfl ?_ | refine Sep.put 2 h rfl ?_ | refine Sep.put 3 h rfl ?_ | refine Sep.put 4 h rfl ?_ | refine Sep.put 5 h rfl ?_ | refine Sep.rdNum 1 h rfl ?_ | refine Sep.rdPoint 1 h rfl ?_ | refine Sep.rdTri 1 h rfl ?_);(clear F;(try clear h);intros;rename_i h;replace h:=Zd h;have F:=Zf2 h;refine Zc1 (@T3.cells.eq_1) ?_))
  refine Sep.appTab 4 6 infoCa Tryz.underlying28 rfl (by decide) (rCa t) h rfl rfl rfl (by omega) (by simp only [maxLen];omega) ?_
  clear h F
  intro a7 c7 w7 h
  replace h:=Zd h;have F:=Zf2 h;refine Zs1 en ?_
  refine ⟨_,?_,n,sCa t,out ++ [rCa t],a7,c7,rfl,rfl,(h.erase 6).erase 5,sCa_byt hbt,hit2,by simp;omega⟩
  omega
def rIs (s : R8) : List Int:=[s.numV 1,(s.numS 1).numV 1,((s.numS 1).numS 1).numV 1]
def sIs (s : R8) : R8:=(((s.numS 1).numS 1).numS 1)
theorem sIs_byt {s : R8} (hb : Byt s.l) : Byt (sIs s).l:=numS_byt _ 1 (numS_byt _ 1 (numS_byt _ 1 (hb)))
theorem infoIs : (Tryz.prog.info? 55).map (fun i=>(i.zero,i.size,i.bytes)) = some (some (.agg #[.int .i64 0,.int .i64 0,.int .i64 0]),3,24):=by kernel_rfl
theorem itemsIs {w0 w : World} {q G : Res} {r c : Nat} {s : R8} {K : Value → World → Prop} (h : Sep w0 (fun _ => False) [q, rdr 151 r s (fun _ => False), blk c 102 [.pointer (some ⟨r, 0, none⟩)], G] w) (hb : Byt s.l)
    (hK : ∀ a cc w1,Sep w0 (fun _=>False) [q,rdr 151 r (itemsS rIs sIs s) (fun _=>False),blk c 102 [.pointer (some ⟨r,0,none⟩)],G,tab 55 3 (.slice a (itemsV rIs sIs s).length cc) (itemsV rIs sIs s)] w1→K (.slice a (itemsV rIs sIs s).length cc) w1) :
    callsK Tryz.prog 54 [.pointer (some ⟨r,0,none⟩),.func (.func 55) #[] #[.pointer (some ⟨c,0,none⟩)]].toArray w K:=by
  refine walk Tryz.func54 rfl (by kernel_rfl) (by rw [Tryz.nt54];simp) ?_
  have hn:=num2_rng s hb
  replace h:=Zd h;have F:=Zf2 h
  refine Zv ?_
  refine Sep.rdNum 1 h rfl ?_
  clear h F
  intro w1 h
  replace h:=Zd h;have F:=Zf2 h;refine Zs ?_
  have h:=h.tabNil 55 3
  obtain ⟨N,hN⟩ :=Int.eq_ofNat_of_zero_le hn.1
  have eN : (s.numV 2).toNat = N:=by omega
  rw [hN] at hn
  rw [hN]
  refine walkLoop [0,1] [4,5] (fun m vs w'=>∃ n t out a cc,m = n∧vs = [.slice a out.length cc,.int .i64 (n : Nat)]∧Sep w0 (fun _=>False) [q,rdr 151 r t (fun _=>False),blk c 102 [.pointer (some ⟨r,0,none⟩)],G,tab 55 3 (.slice a out.length cc) out] w'∧
    Byt t.l∧itemsF rIs sIs N (s.numS 2) = (out ++ (itemsF rIs sIs n t).1,(itemsF rIs sIs n t).2)∧out.length + n≤65535) (by kernel_rfl) ?_ ?_
  · refine Zv ?_
    exact ⟨_,N,_,[],none,0,rfl,rfl,h,numS_byt s 2 hb,by simp,by simp;omega⟩
  intro ks hk m vs w2 hi
  clear h F
  obtain ⟨n,t,out,a,cc,rfl,rfl,h,hbt,hit,hlen⟩ :=hi
  replace hk:=Zk hk;subst hk
  have done : (itemsF rIs sIs m t).1 = []∧(itemsF rIs sIs m t).2 = t→∀ {w'},Sep w0 (fun _=>False) [q,rdr 151 r t (fun _=>False),blk c 102 [.pointer (some ⟨r,0,none⟩)],G,tab 55 3 (.slice a out.length cc) out] w'→K (.slice a out.length cc) w':=fun hd w' h=>by
    have e1 : itemsV rIs sIs s = out:=by unfold itemsV;rw [eN,hit,hd.1];simp
    have e2 : itemsS rIs sIs s = t:=by unfold itemsS;rw [eN,hit,hd.2]
    have:=hK a cc w'
    rw [e1,e2] at this
    exact this h
  match m,hit,hlen,done with
  | 0,hit,hlen,done=>
    have h0 : ¬ (0 : Int) < ((0 : Nat) : Int):=by omega
    replace h:=Zd h;have F:=Zf2 h;refine Zs1 (decide_eq_false h0) ?_
    exact done ⟨rfl,rfl⟩ h
  | n + 1,hit,hlen,done=>
  have h0 : (0 : Int) < ((n + 1 : Nat) : Int):=by omega
  have en : IntKind.i64.wrap (((n + 1 : Nat) : Int) - 1) = (n : Int):=by rw [i64w _ (by omega) (by omega)];omega
  replace h:=Zd h;have F:=Zf2 h;refine Zs1 (decide_eq_true h0) ?_
  refine Sep.rdLeft 1 h rfl ?_
  by_cases hl : (0 : Int) < t.left
  case neg=>
    replace h:=Zd h;have F:=Zf2 h;refine Zs1 (decide_eq_false hl) ?_
    exact done (by simp [itemsF,hl]) h
  have hit2 : itemsF rIs sIs N (s.numS 2) = ((out ++ [rIs t]) ++ (itemsF rIs sIs n (sIs t)).1,(itemsF rIs sIs n (sIs t)).2):=by
    rw [hit];simp [itemsF,hl]
  replace h:=Zd h;have F:=Zf2 h;refine Zs1 (decide_eq_true hl) ?_
  refine walk Tryz.func55 rfl (by kernel_rfl) (by rw [Tryz.nt55];simp) ?_
  replace h:=Zd h;have F:=Zf2 h;refine Zs ?_
  refine h.new ?_
  clear h F
  intro w5 b5 h
  replace h:=Zd h;have F:=Zf2 h;refine Zs ?_
  refine walkDraw (.h 0 0 (.h 2 1 (.h 4 2 (.l 1 (.l 3 (.l 5 (.q 6 (.l 7 .fin)))))))) [(c,0,.pointer (some ⟨r,0,none⟩)),(c,0,.pointer (some ⟨r,0,none⟩)),(c,0,.pointer (some ⟨r,0,none⟩))] (by kernel_rfl) (by simp [Holds_nil,Holds_cons,F]) ?_
  refine h.draw ?_
  clear h F
  intro w6 h
  replace h:=Zd h;have F:=Zf2 h;refine Zs ?_
  repeat ((first | refine Sep.new h ?_ | refine Sep.put 0 h rfl ?_ | refine Sep.put 1 h rfl ?_ | refine Sep.put 2 h rfl ?_ | refine Sep.put 3 h rfl ?_ | refine Sep.put 4 h rfl ?_ | refine Sep.put 5 h rfl ?_ | refine Sep.rdNum 1 h rfl ?_ | refine Sep.rdPoint 1 h rfl ?_ | refine Sep.rdTri 1 h rfl ?_);(clear F;(try clear h);intros;rename_i h;replace h:=Zd h;have F:=Zf2 h;refine Zc1 (@T3.cells.eq_1) ?_))
  refine Sep.appTab 4 6 infoIs Tryz.underlying29 rfl (by decide) (rIs t) h rfl rfl rfl (by omega) (by simp only [maxLen];omega) ?_
  clear h F
  intro a7 c7 w7 h
  replace h:=Zd h;have F:=Zf2 h;refine Zs1 en ?_
  refine ⟨_,?_,n,sIs t,out ++ [rIs t],a7,c7,rfl,rfl,(h.erase 6).erase 5,sIs_byt hbt,hit2,by simp;omega⟩
  omega
def rCo (s : R8) : List Int:=[s.numV 1,(s.numS 1).numV 2,((s.numS 1).numS 2).numV 2]
def sCo (s : R8) : R8:=(((s.numS 1).numS 2).numS 2)
theorem sCo_byt {s : R8} (hb : Byt s.l) : Byt (sCo s).l:=numS_byt _ 2 (numS_byt _ 2 (numS_byt _ 1 (hb)))
theorem infoCo : (Tryz.prog.info? 93).map (fun i=>(i.zero,i.size,i.bytes)) = some (some (.agg #[.int .i64 0,.int .i64 0,.int .i64 0]),3,24):=by kernel_rfl
theorem itemsCo {w0 w : World} {q G : Res} {r c : Nat} {s : R8} {K : Value → World → Prop} (h : Sep w0 (fun _ => False) [q, rdr 151 r s (fun _ => False), blk c 102 [.pointer (some ⟨r, 0, none⟩)], G] w) (hb : Byt s.l)
    (hK : ∀ a cc w1,Sep w0 (fun _=>False) [q,rdr 151 r (itemsS rCo sCo s) (fun _=>False),blk c 102 [.pointer (some ⟨r,0,none⟩)],G,tab 93 3 (.slice a (itemsV rCo sCo s).length cc) (itemsV rCo sCo s)] w1→K (.slice a (itemsV rCo sCo s).length cc) w1) :
    callsK Tryz.prog 56 [.pointer (some ⟨r,0,none⟩),.func (.func 57) #[] #[.pointer (some ⟨c,0,none⟩)]].toArray w K:=by
  refine walk Tryz.func56 rfl (by kernel_rfl) (by rw [Tryz.nt56];simp) ?_
  have hn:=num2_rng s hb
  replace h:=Zd h;have F:=Zf2 h
  refine Zv ?_
  refine Sep.rdNum 1 h rfl ?_
  clear h F
  intro w1 h
  replace h:=Zd h;have F:=Zf2 h;refine Zs ?_
  have h:=h.tabNil 93 3
  obtain ⟨N,hN⟩ :=Int.eq_ofNat_of_zero_le hn.1
  have eN : (s.numV 2).toNat = N:=by omega
  rw [hN] at hn
  rw [hN]
  refine walkLoop [0,1] [4,5] (fun m vs w'=>∃ n t out a cc,m = n∧vs = [.slice a out.length cc,.int .i64 (n : Nat)]∧Sep w0 (fun _=>False) [q,rdr 151 r t (fun _=>False),blk c 102 [.pointer (some ⟨r,0,none⟩)],G,tab 93 3 (.slice a out.length cc) out] w'∧
    Byt t.l∧itemsF rCo sCo N (s.numS 2) = (out ++ (itemsF rCo sCo n t).1,(itemsF rCo sCo n t).2)∧out.length + n≤65535) (by kernel_rfl) ?_ ?_
  · refine Zv ?_
    exact ⟨_,N,_,[],none,0,rfl,rfl,h,numS_byt s 2 hb,by simp,by simp;omega⟩
  intro ks hk m vs w2 hi
  clear h F
  obtain ⟨n,t,out,a,cc,rfl,rfl,h,hbt,hit,hlen⟩ :=hi
  replace hk:=Zk hk;subst hk
  have done : (itemsF rCo sCo m t).1 = []∧(itemsF rCo sCo m t).2 = t→∀ {w'},Sep w0 (fun _=>False) [q,rdr 151 r t (fun _=>False),blk c 102 [.pointer (some ⟨r,0,none⟩)],G,tab 93 3 (.slice a out.length cc) out] w'→K (.slice a out.length cc) w':=fun hd w' h=>by
    have e1 : itemsV rCo sCo s = out:=by unfold itemsV;rw [eN,hit,hd.1];simp
    have e2 : itemsS rCo sCo s = t:=by unfold itemsS;rw [eN,hit,hd.2]
    have:=hK a cc w'
    rw [e1,e2] at this
    exact this h
  match m,hit,hlen,done with
  | 0,hit,hlen,done=>
    have h0 : ¬ (0 : Int) < ((0 : Nat) : Int):=by omega
    replace h:=Zd h;have F:=Zf2 h;refine Zs1 (decide_eq_false h0) ?_
    exact done ⟨rfl,rfl⟩ h
  | n + 1,hit,hlen,done=>
  have h0 : (0 : Int) < ((n + 1 : Nat) : Int):=by omega
  have en : IntKind.i64.wrap (((n + 1 : Nat) : Int) - 1) = (n : Int):=by rw [i64w _ (by omega) (by omega)];omega
  replace h:=Zd h;have F:=Zf2 h;refine Zs1 (decide_eq_true h0) ?_
  refine Sep.rdLeft 1 h rfl ?_
  by_cases hl : (0 : Int) < t.left
  case neg=>
    replace h:=Zd h;have F:=Zf2 h;refine Zs1 (decide_eq_false hl) ?_
    exact done (by simp [itemsF,hl]) h
  have hit2 : itemsF rCo sCo N (s.numS 2) = ((out ++ [rCo t]) ++ (itemsF rCo sCo n (sCo t)).1,(itemsF rCo sCo n (sCo t)).2):=by
    rw [hit];simp [itemsF,hl]
  replace h:=Zd h;have F:=Zf2 h;refine Zs1 (decide_eq_true hl) ?_
  refine walk Tryz.func57 rfl (by kernel_rfl) (by rw [Tryz.nt57];simp) ?_
  replace h:=Zd h;have F:=Zf2 h;refine Zs ?_
  refine h.new ?_
  clear h F
  intro w5 b5 h
  replace h:=Zd h;have F:=Zf2 h;refine Zs ?_
  refine walkDraw (.h 0 0 (.h 2 1 (.h 4 2 (.l 1 (.l 3 (.l 5 (.q 6 (.l 7 .fin)))))))) [(c,0,.pointer (some ⟨r,0,none⟩)),(c,0,.pointer (some ⟨r,0,none⟩)),(c,0,.pointer (some ⟨r,0,none⟩))] (by kernel_rfl) (by simp [Holds_nil,Holds_cons,F]) ?_
  refine h.draw ?_
  clear h F
  intro w6 h
  replace h:=Zd h;have F:=Zf2 h;refine Zs ?_
  repeat ((first | refine Sep.new h ?_ | refine Sep.put 0 h rfl ?_ | refine Sep.put 1 h rfl ?_ | refine Sep.put 2 h rfl ?_ | refine Sep.put 3 h rfl ?_ | refine Sep.put 4 h rfl ?_ | refine Sep.put 5 h rfl ?_ | refine Sep.rdNum 1 h rfl ?_ | refine Sep.rdPoint 1 h rfl ?_ | refine Sep.rdTri 1 h rfl ?_);(clear F;(try clear h);intros;rename_i h;replace h:=Zd h;have F:=Zf2 h;refine Zc1 (@T3.cells.eq_1) ?_))
  refine Sep.appTab 4 6 infoCo Tryz.underlying30 rfl (by decide) (rCo t) h rfl rfl rfl (by omega) (by simp only [maxLen];omega) ?_
  clear h F
  intro a7 c7 w7 h
  replace h:=Zd h;have F:=Zf2 h;refine Zs1 en ?_
  refine ⟨_,?_,n,sCo t,out ++ [rCo t],a7,c7,rfl,rfl,(h.erase 6).erase 5,sCo_byt hbt,hit2,by simp;omega⟩
  omega
end Go.Proofs.YtnhgjgoglmadnaaGreat
