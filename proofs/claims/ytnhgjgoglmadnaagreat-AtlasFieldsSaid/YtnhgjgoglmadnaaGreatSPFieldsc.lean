/- Joined texts of this claim (part 3), printed by a program of this work. The last part holds the claimed theorem: the law answers true at every input of its row. -/
import Derived.Test.YtnhgjgoglmadnaaGreatSPFieldsb
namespace Go.Proofs.YtnhgjgoglmadnaaGreat
open Go.RowKit
def grd (ops : Array Oper) (g : Nat) (E : Env) : Option Value:=(ops[g]?).bind fun o=>o.dst.bind fun d=>E.get d
def guardK (gv : Value) (want : Bool) (A B : Prop) (_t : Tg (A,B):=.mk) : Prop:=match gv with | .bool b=>ifK (b == want) A B | .tuple _=>B | _=>False
theorem guardK_bool (b want : Bool) (A B : Prop) : guardK (.bool b) want A B = okK (some (b == want)) fun c=>ifK c A B:=(rfl)
theorem guardK_undef (want : Bool) (A B : Prop) : guardK undef want A B = B:=(rfl)
def gK (ops : Array Oper) (g : Option (Nat×Bool)) (E : Env) (A B : Prop) : Prop:=
  match g with
  | none=>A
  | some (j,want)=>okK (grd ops j E) fun gv=>guardK gv want A B
theorem gK_elim {ops : Array Oper} {n : Nat} {E : Env} {a : Act} (hA : Agree n E a) {o : Oper} {A B : Prop} (h : gK ops o.guard E A B) :
    (Region.wanted o (yielded ops a.tmps) = true∧A)∨(Region.wanted o (yielded ops a.tmps) = false∧B):=by
  unfold gK at h
  split at h
  · rename_i hg
    exact .inl ⟨by simp [Region.wanted,hg],h⟩
  · rename_i j want hg
    obtain ⟨v,hv,h⟩ :=okK_elim h
    simp only [grd,Option.bind_eq_some_iff] at hv
    obtain ⟨oj,hoj,d,hd,he⟩ :=hv
    have ht:=hA.get d _ he
    unfold guardK at h
    split at h
    · rename_i b
      have hy : yielded ops a.tmps j = some b:=by
        unfold yielded
        have hlt : d < a.tmps.size:=by
          rcases Nat.lt_or_ge d a.tmps.size with hl | hl
          · exact hl
          · simp [Array.getD,Nat.not_lt.2 hl,undef] at ht
        simp [hoj,hd,hlt]
        have : a.tmps[d] = .bool b:=by simpa [Array.getD,hlt] using ht
        rw [this]
      cases hb : (b == want)
      · exact .inr ⟨by simp [Region.wanted,hg,hy,hb],h.2 hb⟩
      · exact .inl ⟨by simp [Region.wanted,hg,hy];simpa using hb,h.1 hb⟩
    · rename_i cs
      have hy : yielded ops a.tmps j = none:=by
        unfold yielded
        simp only [hoj,Option.bind_some,hd]
        rcases Nat.lt_or_ge d a.tmps.size with hl | hl
        · have : a.tmps[d] = .tuple cs:=by simpa [Array.getD,hl] using ht
          simp [hl,this]
        · simp [Array.getElem?_eq_none hl]
      exact .inr ⟨by simp [Region.wanted,hg,hy],h⟩
    · exact h.elim
def opsv (P : Program) (ops : Array Oper) : List Oper→Env→World→(Env→World→Prop)→Prop
  | [],E,w,K=>K E w
  | o :: rest,E,w,K=>gK ops o.guard E (opv P o.op o.type E w fun v w'=>opsv P ops rest (E.push o.dst v) w' K) (opsv P ops rest (E.push o.dst undef) w K)
def dOk (n : Nat) (d : Option Tmp) : Bool:=match d with | some d=>d < n | none=>true
theorem dOk_lt {n : Nat} {d : Option Tmp} (h : dOk n d = true) : ∀ k,d = some k→k < n:=fun k e=>by subst e;simpa [dOk] using h
theorem opsv_sound {P : Program} {ops : Array Oper} {n : Nat} {K : Env → World → Prop} {Q : Exit → Act → World → Prop} (hK : ∀ E a w, Agree n E a → K E w → Q .normal a w) :
    ∀ (l : List Oper) (E : Env) (a : Act) (w : World),l.all (fun o=>dOk n o.dst) = true→Agree n E a→opsv P ops l E w K→wpList P ops Q l a w
  | [],E,a,w,_,hA,h=>hK _ _ _ hA h
  | o :: rest,E,a,w,hd,hA,h=>by
    simp only [List.all_cons,Bool.and_eq_true] at hd
    refine wpList_step fun K' hK'=>?_
    rcases gK_elim (ops:=ops) hA h with ⟨hw,h⟩ | ⟨hw,h⟩
    · rw [if_pos hw]
      exact opv_sound hA h fun v w' hk=>hK' _ _ (opsv_sound hK rest _ _ _ hd.2 (hA.put o.dst v (dOk_lt hd.1)) hk)
    · rw [if_neg (by simp [hw])]
      exact hK' _ _ (opsv_sound hK rest _ _ _ hd.2 (hA.put o.dst undef (dOk_lt hd.1)) h)
inductive Plan where
  | fin
  | q (i : Nat) (p : Plan)
  | h (i j : Nat) (p : Plan)
  | l (i : Nat) (p : Plan)
  | ll (i : Nat) (p : Plan) (k : Nat) (r : Plan)
  | lll (i : Nat) (p : Plan) (k : Nat) (r : Plan) (j : Nat) (t : Plan)
abbrev Held:=List (Nat×Nat×Value)
def Holds (L : Held) (w : World) : Prop:=∀ b o v,(b,o,v) ∈ L→w.cell? ⟨b,o,none⟩ = some v
def heldC (L : Held) (b : Nat) : Nat→Nat→Nat→Option (List Value)
  | _,_,0=>some []
  | o,j,m + 1=>(L[j]?).bind fun p=>if p.1 = b∧p.2.1 = o then (heldC L b (o + 1) (j + 1) m).map fun vs=>p.2.2 :: vs else none
def heldK (P : Program) (o : Op) (E : Env) (L : Held) (j : Nat) (K : Value→Prop) : Prop:=
  match o with
  | .load t x => okK (ev E x) fun a => ptrK a fun b o => okK (if (tinfo P t).known = true then some (tinfo P t).agg else none) fun ag =>
      if ag = true then okK (tinfo P t).size fun n=>okK (heldC L b o j n) fun cs=>K (.agg cs.toArray) else okK (heldC L b o j 1) fun cs=>okK cs[0]? K
  | _=>False
def planv (P : Program) (ops : Array Oper) (L : Held) : Plan→Env→World→(Env→World→Prop)→Prop
  | .fin,E,w,K=>K E w
  | .q i p,E,w,K=>okK ops[i]? fun o=>gK ops o.guard E (pureK P o.op E fun v=>planv P ops L p (E.push o.dst v) w K) (planv P ops L p (E.push o.dst undef) w K)
  | .h i j p,E,w,K=>okK ops[i]? fun o=>gK ops o.guard E (heldK P o.op E L j fun v=>planv P ops L p (E.push o.dst v) w K) (planv P ops L p (E.push o.dst undef) w K)
  | .l i p,E,w,K=>okK ops[i]? fun o=>gK ops o.guard E (opv P o.op o.type E w fun v w'=>Holds L w'∧planv P ops L p (E.push o.dst v) w' K) (planv P ops L p (E.push o.dst undef) w K)
  | .ll i p k r, E, w, K =>
      (okK ops[i]? fun o=>gK ops o.guard E (opv P o.op o.type E w fun v w'=>Holds L w'∧planv P ops L p (E.push o.dst v) w' K) (planv P ops L p (E.push o.dst undef) w K))∧
      (okK ops[k]? fun o=>gK ops o.guard E (opv P o.op o.type E w fun v w'=>Holds L w'∧planv P ops L r (E.push o.dst v) w' K) (planv P ops L r (E.push o.dst undef) w K))
  | .lll i p k r j t, E, w, K =>
      (okK ops[i]? fun o=>gK ops o.guard E (opv P o.op o.type E w fun v w'=>Holds L w'∧planv P ops L p (E.push o.dst v) w' K) (planv P ops L p (E.push o.dst undef) w K))∧
      (okK ops[k]? fun o=>gK ops o.guard E (opv P o.op o.type E w fun v w'=>Holds L w'∧planv P ops L r (E.push o.dst v) w' K) (planv P ops L r (E.push o.dst undef) w K))∧
      (okK ops[j]? fun o=>gK ops o.guard E (opv P o.op o.type E w fun v w'=>Holds L w'∧planv P ops L t (E.push o.dst v) w' K) (planv P ops L t (E.push o.dst undef) w K))
def planOk (ops : Array Oper) : Plan→Array Bool→Nat→Bool
  | .fin,listed,_=>(Region.ready .any ops listed).isEmpty
  | .q i p,listed,f + 1=>Region.free .any ops listed i && (Region.ready .any ops listed).contains i && planOk ops p (listed.setIfInBounds i true) f
  | .h i _ p,listed,f + 1=>Region.free .any ops listed i && (Region.ready .any ops listed).contains i && planOk ops p (listed.setIfInBounds i true) f
  | .l i p,listed,f + 1=>Region.ready .any ops listed == [i] && planOk ops p (listed.setIfInBounds i true) f
  | .ll i p k r,listed,f + 1=>Region.ready .any ops listed == [i,k] && planOk ops p (listed.setIfInBounds i true) f && planOk ops r (listed.setIfInBounds k true) f
  | .lll i p k r j t,listed,f + 1=>Region.ready .any ops listed == [i,k,j] && planOk ops p (listed.setIfInBounds i true) f && planOk ops r (listed.setIfInBounds k true) f && planOk ops t (listed.setIfInBounds j true) f
  | _,_,0=>false
theorem heldC_elim {L : Held} {b : Nat} : ∀ {o j n : Nat} {cs : List Value},heldC L b o j n = some cs→∀ w,Holds L w→cellsAt w b o n = some cs
  | o,j,0,cs,h,w,hw=>by simpa [heldC,cellsAt] using h
  | o,j,m + 1,cs,h,w,hw=>by
    simp only [heldC,Option.bind_eq_some_iff] at h
    obtain ⟨⟨b',o',v⟩,hp,h⟩ :=h
    split at h
    · rename_i he
      obtain ⟨h1,h2⟩ :=he
      dsimp only at h1 h2
      subst h1 h2
      simp only [Option.map_eq_some_iff] at h
      obtain ⟨vs,hvs,rfl⟩ :=h
      simp [cellsAt,hw _ _ _ (List.mem_of_getElem? hp),heldC_elim hvs w hw]
    · cases h
theorem heldK_sound {P : Program} {n : Nat} {E : Env} {a : Act} (hA : Agree n E a) {o : Oper} {L : Held} {j : Nat} {K : Value → Prop} (h : heldK P o.op E L j K) :
    ∃ v,(∀ w,Holds L w→(execOp a.eval o).run P w = .ok (.value v) w)∧K v:=by
  unfold heldK at h
  split at h
  · rename_i t x hop
    obtain ⟨v,hv,h⟩ :=okK_elim h
    obtain ⟨b,off,rfl,h⟩ :=ptrK_elim h
    obtain ⟨ag,hag,h⟩ :=okK_elim h
    have hag' : (P.underlying t).isSome = true∧ag = (tinfo P t).agg:=by
      split at hag
      · rename_i hk;injection hag with hag;exact ⟨hk,hag.symm⟩
      · cases hag
    obtain ⟨hk,rfl⟩ :=hag'
    obtain ⟨d,hd⟩ :=Option.isSome_iff_exists.1 hk
    split at h
    · rename_i hagg
      obtain ⟨m,hm,h⟩ :=okK_elim h
      obtain ⟨cs,hc,h⟩ :=okK_elim h
      refine ⟨_,fun w hw=>?_,h⟩
      obtain ⟨hl,hcell⟩ :=cellsAt_elim (heldC_elim hc w hw)
      have hr:=run_loadCells_list (P:=P) (w:=w) ⟨b,off,none⟩ cs (fun j u hj=>by rw [add_off];exact hcell j u hj)
      rw [hl] at hr
      have hisa:=isAgg_run (P:=P) hd w
      have hagg' : isAggT (P.underlying t) = true:=hagg
      rw [hagg'] at hisa
      simp [execOp,hop,hA.ev hv,Instr.loadAt,Instr.sureAddr,loadVar,hisa,tsize_run hm,hr]
    · rename_i hagg
      obtain ⟨cs,hc,h⟩ :=okK_elim h
      obtain ⟨u,hu,h⟩ :=okK_elim h
      refine ⟨u,fun w hw=>?_,h⟩
      obtain ⟨hl,hcell⟩ :=cellsAt_elim (heldC_elim hc w hw)
      have hc0:=hcell 0 u hu
      rw [Nat.add_zero] at hc0
      have hisa:=isAgg_run (P:=P) hd w
      have hagg' : isAggT (P.underlying t) = false:=by simpa [tinfo] using hagg
      rw [hagg'] at hisa
      simp [execOp,hop,hA.ev hv,Instr.loadAt,Instr.sureAddr,loadVar,hisa,load,Sem.run,hc0]
  · exact h.elim
def lift (n : Nat) (Q : Exit→Env→World→Prop) (e : Exit) (a : Act) (w : World) : Prop:=
  match e with
  | .panic _ | .outgrown=>False
  | e=>∃ E,Agree n E a∧Q e E w
theorem planv_sound {P : Program} {ops : Array Oper} {L : Held} {n : Nat} {K : Env → World → Prop} {Q : Exit → Act → World → Prop} (hK : ∀ E a w, Agree n E a → K E w → Q .normal a w)
    (hQ : ∀ c a w,¬ Q (.panic c) a w) (hns : Region.noSelect ops = true) (hd : ops.all (fun o=>dOk n o.dst) = true) :
    ∀ (p : Plan) (listed : Array Bool) (f : Nat) (E : Env) (a : Act) (w : World),planOk ops p listed f = true→Agree n E a→Holds L w→planv P ops L p E w K→wpAnyH P .any ops Q (Holds L) f listed a w:=by
  have hdo : ∀ {i : Nat} {o : Oper},ops[i]? = some o→dOk n o.dst = true:=fun hi=>(Array.all_eq_true_iff_forall_mem.1 hd) _ (Array.mem_of_getElem? hi)
  have loud : ∀ {i : Nat} {listed : Array Bool} {f : Nat} {E : Env} {a : Act} {w : World} {p : Plan}, Agree n E a → Holds L w →
      (∀ (E : Env) (a : Act) (w : World),Agree n E a→Holds L w→planv P ops L p E w K→wpAnyH P .any ops Q (Holds L) f (listed.setIfInBounds i true) a w)→
      (okK ops[i]? fun o=>gK ops o.guard E (opv P o.op o.type E w fun v w'=>Holds L w'∧planv P ops L p (E.push o.dst v) w' K) (planv P ops L p (E.push o.dst undef) w K))→
      wpOp P ops Q i (fun a' w'=>Holds L w'∧wpAnyH P .any ops Q (Holds L) f (listed.setIfInBounds i true) a' w') a w:=by
    intro i listed f E a w p hA hw ih h
    obtain ⟨o,ho,h⟩ :=okK_elim h
    unfold wpOp
    simp only [ho]
    rcases gK_elim (ops:=ops) hA h with ⟨hwt,h⟩ | ⟨hwt,h⟩
    · rw [if_pos hwt]
      exact .inl (opv_sound hA h fun v w' hk=>⟨hk.1,ih _ _ _ (hA.put o.dst v (dOk_lt (hdo ho))) hk.1 hk.2⟩)
    · rw [if_neg (by simp [hwt])]
      exact ⟨hw,ih _ _ _ (hA.put o.dst undef (dOk_lt (hdo ho))) hw h⟩
  intro p
  induction p with
  | fin=>
    intro listed f E a w hp hA hw h
    exact wpAnyH_done (by simpa [planOk] using hp) (hK _ _ _ hA h) f
  | q i p ih=>
    intro listed f E a w hp hA hw h
    cases f with
    | zero=>simp [planOk] at hp
    | succ f=>
      simp only [planOk,Bool.and_eq_true] at hp
      obtain ⟨o,ho,h⟩ :=okK_elim h
      rcases gK_elim (ops:=ops) hA h with ⟨hwt,h⟩ | ⟨hwt,h⟩
      · obtain ⟨v,hv,h⟩ :=pureK_sound hA h
        exact wpAnyH_take ho hns hp.1.1 hp.1.2 (fun c a w hq=>absurd hq (hQ _ _ _)) (.inl ⟨hwt,fun w _=>hv w⟩) hw (ih _ _ _ _ _ hp.2 (hA.put o.dst v (dOk_lt (hdo ho))) hw h)
      · exact wpAnyH_take ho hns hp.1.1 hp.1.2 (fun c a w hq=>absurd hq (hQ _ _ _)) (.inr ⟨hwt,rfl⟩) hw (ih _ _ _ _ _ hp.2 (hA.put o.dst undef (dOk_lt (hdo ho))) hw h)
  | h i j p ih=>
    intro listed f E a w hp hA hw h
    cases f with
    | zero=>simp [planOk] at hp
    | succ f=>
      simp only [planOk,Bool.and_eq_true] at hp
      obtain ⟨o,ho,h⟩ :=okK_elim h
      rcases gK_elim (ops:=ops) hA h with ⟨hwt,h⟩ | ⟨hwt,h⟩
      · obtain ⟨v,hv,h⟩ :=heldK_sound hA h
        exact wpAnyH_take ho hns hp.1.1 hp.1.2 (fun c a w hq=>absurd hq (hQ _ _ _)) (.inl ⟨hwt,hv⟩) hw (ih _ _ _ _ _ hp.2 (hA.put o.dst v (dOk_lt (hdo ho))) hw h)
      · exact wpAnyH_take ho hns hp.1.1 hp.1.2 (fun c a w hq=>absurd hq (hQ _ _ _)) (.inr ⟨hwt,rfl⟩) hw (ih _ _ _ _ _ hp.2 (hA.put o.dst undef (dOk_lt (hdo ho))) hw h)
  | l i p ih=>
    intro listed f E a w hp hA hw h
    cases f with
    | zero=>simp [planOk] at hp
    | succ f=>
      simp only [planOk,Bool.and_eq_true,beq_iff_eq] at hp
      refine wpAnyH_all hp.1 (by simp) fun k hk=>?_
      simp only [List.mem_singleton] at hk
      subst hk
      exact loud hA hw (fun E a w h1 h2 h3=>ih _ _ _ _ _ hp.2 h1 h2 h3) h
  | ll i p k r ih1 ih2=>
    intro listed f E a w hp hA hw h
    cases f with
    | zero=>simp [planOk] at hp
    | succ f=>
      simp only [planOk,Bool.and_eq_true,beq_iff_eq] at hp
      refine wpAnyH_all hp.1.1 (by simp) fun m hm=>?_
      simp only [List.mem_cons,List.not_mem_nil,or_false] at hm
      rcases hm with rfl | rfl
      · exact loud hA hw (fun E a w h1 h2 h3=>ih1 _ _ _ _ _ hp.1.2 h1 h2 h3) h.1
      · exact loud hA hw (fun E a w h1 h2 h3=>ih2 _ _ _ _ _ hp.2 h1 h2 h3) h.2
  | lll i p k r j t ih1 ih2 ih3=>
    intro listed f E a w hp hA hw h
    cases f with
    | zero=>simp [planOk] at hp
    | succ f=>
      simp only [planOk,Bool.and_eq_true,beq_iff_eq] at hp
      refine wpAnyH_all hp.1.1.1 (by simp) fun m hm=>?_
      simp only [List.mem_cons,List.not_mem_nil,or_false] at hm
      rcases hm with rfl | rfl | rfl
      · exact loud hA hw (fun E a w h1 h2 h3=>ih1 _ _ _ _ _ hp.1.1.2 h1 h2 h3) h.1
      · exact loud hA hw (fun E a w h1 h2 h3=>ih2 _ _ _ _ _ hp.1.2 h1 h2 h3) h.2.1
      · exact loud hA hw (fun E a w h1 h2 h3=>ih3 _ _ _ _ _ hp.2 h1 h2 h3) h.2.2
end Go.Proofs.YtnhgjgoglmadnaaGreat
