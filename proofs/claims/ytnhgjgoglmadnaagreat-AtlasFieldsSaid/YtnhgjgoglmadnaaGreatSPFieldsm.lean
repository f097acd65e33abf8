/- Joined texts of this claim (part 13), printed by a program of this work. The last part holds the claimed theorem: the law answers true at every input of its row. -/
import Derived.Test.YtnhgjgoglmadnaaGreatSPFieldsl
set_option maxHeartbeats 4000000
namespace Go.Proofs.YtnhgjgoglmadnaaGreat
open Go.RowKit
set_option linter.unusedVariables false
structure Lft where
  i : Nat
  k : Option Nat
  js : List Nat
def slotOk (slots keep : List Nat) (d : Option Tmp) (k : Option Nat) : Bool:=
  match d,k with
  | none,none=>true
  | some d,some k=>slots[k]? == some d && !keep.contains d
  | _,_=>false
def lftOk (ops : Array Oper) (slots keep : List Nat) (r : Lft) : Bool:=
  ops[r.i]?.any fun o=>slotOk slots keep o.dst r.k && r.js.all (fun j=>waitsFor ops r.i j) && o.after.all (fun x=>!Region.binds .any x || decide (x.on < r.i))
def endOk (ops : Array Oper) (rem : List Lft) (l : Array Bool) (f : Nat) : Bool:=
  l.size == ops.size && f == rem.length && (List.range ops.size).all fun i=>l.getD i true == !(rem.any fun r=>r.i == i)
def planOkI (ops : Array Oper) (rem : List Lft) : Plan→Array Bool→Nat→Bool
  | .fin,l,f=>endOk ops rem l f
  | .q i p,l,f + 1=>Region.free .any ops l i && (Region.ready .any ops l).contains i && planOkI ops rem p (l.setIfInBounds i true) f
  | .h i _ p,l,f + 1=>Region.free .any ops l i && (Region.ready .any ops l).contains i && planOkI ops rem p (l.setIfInBounds i true) f
  | _,_,_=>false
def putK (vs : List Value) (k : Option Nat) (v : Value) : List Value:=match k with | some k=>vs.set k v | none=>vs
def flag (l : Nat→Bool) (i : Nat) : Nat→Bool:=fun j=>j == i || l j
def stepsT (P : Program) (ops : Array Oper) (slots keep : List Nat) (ks : List Value) (I : (Nat→Bool)→List Value→World→Prop) : List Lft→Prop
  | []=>True
  | r :: rs => (∀ l vs w, I l vs w → l r.i = false → (∀ j ∈ r.js, l j = true) →
      operK ops[r.i]? fun d op ty g=>gT ops g (slots.zip vs ++ keep.zip ks) (opvT P op ty (slots.zip vs ++ keep.zip ks) w fun v w'=>I (flag l r.i) (putK vs r.k v) w') (I (flag l r.i) (putK vs r.k undef) w))∧stepsT P ops slots keep ks I rs
theorem stepsT_mem {P : Program} {ops : Array Oper} {slots keep : List Nat} {ks : List Value} {I : (Nat → Bool) → List Value → World → Prop} : ∀ {rs : List Lft}, stepsT P ops slots keep ks I rs → ∀ r ∈ rs, ∀ l vs w, I l vs w → l r.i = false → (∀ j ∈ r.js, l j = true) →
      operK ops[r.i]? fun d op ty g=>gT ops g (slots.zip vs ++ keep.zip ks) (opvT P op ty (slots.zip vs ++ keep.zip ks) w fun v w'=>I (flag l r.i) (putK vs r.k v) w') (I (flag l r.i) (putK vs r.k undef) w)
  | _ :: _,h,r,hm=>by
    rcases List.mem_cons.1 hm with rfl | hm
    · exact h.1
    · exact stepsT_mem h.2 r hm
theorem zip_put {slots : List Nat} (hn : slots.Nodup) : ∀ {vs : List Value} {k d : Nat} {v : Value},slots[k]? = some d→∀ j,Env.get (slots.zip (vs.set k v)) j = if j = d then (if k < vs.length then some v else none) else Env.get (slots.zip vs) j:=by
  induction slots with
  | nil=>intro vs k d v h;simp at h
  | cons s slots ih=>
    intro vs k d v h j
    obtain ⟨h1,h2⟩ :=List.nodup_cons.1 hn
    cases vs with
    | nil=>by_cases hj : j = d<;>simp [Env.get,hj]
    | cons u vs=>
      cases k with
      | zero=>
        simp only [List.getElem?_cons_zero,Option.some.injEq] at h
        subst h
        by_cases hj : j = s
        · subst hj;simp [Env.get]
        · have : ¬ s = j:=fun e=>hj e.symm
          simp [Env.get,hj,this]
      | succ k=>
        simp only [List.getElem?_cons_succ] at h
        have hs : s≠d:=fun e=>h1 (e▸List.mem_of_getElem? h)
        simp only [List.set_cons_succ,List.zip_cons_cons,Env.get]
        by_cases hj : s = j
        · subst hj;simp [hs]
        · have i:=ih h2 (vs:=vs) (v:=v) h j
          simp only [hj,if_false,i,List.length_cons,Nat.add_lt_add_iff_right]
theorem agree_put {n : Nat} {slots keep : List Nat} {vs ks : List Value} {a : Act} {d k : Nat} {v : Value} (hn : slots.Nodup) (hk : slots[k]? = some d) (hl : slots.length = vs.length) (hd : keep.contains d = false) (hdn : d < n)
    (hA : Agree n (slots.zip vs ++ keep.zip ks) a) : Agree n (slots.zip (vs.set k v) ++ keep.zip ks) (a.put (some d) v):=by
  have hp:=hA.put (some d) v (fun j e=>by injection e with e;subst e;exact hdn)
  refine hp.weaken fun i u h=>?_
  have hkl : k < vs.length:=by rw [← hl];exact (List.getElem?_eq_some_iff.1 hk).1
  rw [Env.get_append,zip_put hn hk] at h
  simp only [Env.push,Env.get]
  by_cases hi : i = d
  · subst hi
    rw [if_pos rfl,if_pos hkl] at h
    simpa using h
  · rw [if_neg hi] at h
    rw [if_neg (fun e=>hi e.symm),Env.get_append]
    exact h
theorem invSound {P : Program} {ops : Array Oper} {L : Held} {n : Nat} {K : Env → World → Prop} {Q : Exit → Act → World → Prop} (hK : ∀ E a w, Agree n E a → K E w → Q .normal a w)
    (hQ : ∀ c a w,¬ Q (.panic c) a w) (hd : ops.all (fun o=>dOk n o.dst) = true) {rem : List Lft} {slots keep : List Nat} {ks : List Value} {I : (Nat→Bool)→List Value→World→Prop}
    (hn : slots.Nodup) (hr : rem.all (lftOk ops slots keep) = true) (hjr : (rem.all fun r=>r.js.all fun j=>rem.any fun r=>r.i == j) = true) (hH : ∀ l vs w,I l vs w→Holds L w) (hs : stepsT P ops slots keep ks I rem)
    (he : ∀ l vs w,I l vs w→(∀ r ∈ rem,l r.i = true)→K (slots.zip vs ++ keep.zip ks) w) :
    ∀ (f : Nat) (listed : Array Bool) (l : Nat→Bool) (vs : List Value) (a : Act) (w : World),slots.length = vs.length→listed.size = ops.size→
      (∀ i,i < ops.size→(listed.getD i true = false↔(rem.any fun r=>r.i == i) = true∧l i = false))→(rem.filter fun r=>!l r.i).length≤f→I l vs w→Agree n (slots.zip vs ++ keep.zip ks) a→wpAnyH P .any ops Q (Holds L) f listed a w:=by
  have hdo : ∀ {i : Nat} {o : Oper},ops[i]? = some o→dOk n o.dst = true:=fun hi=>(Array.all_eq_true_iff_forall_mem.1 hd) _ (Array.mem_of_getElem? hi)
  have lf : ∀ r ∈ rem,∃ o,ops[r.i]? = some o∧slotOk slots keep o.dst r.k = true∧(∀ j ∈ r.js,waitsFor ops r.i j = true)∧∀ x ∈ o.after,Region.binds .any x = true→x.on < r.i:=fun r hm=>by
    have:=(List.all_eq_true.1 hr) r hm
    unfold lftOk at this
    cases ho : ops[r.i]? with
    | none=>rw [ho] at this;cases this
    | some o=>
      rw [ho] at this
      simp only [Option.any_some,Bool.and_eq_true,List.all_eq_true,Array.all_eq_true_iff_forall_mem,Bool.or_eq_true,Bool.not_eq_true',decide_eq_true_eq] at this
      exact ⟨o,rfl,this.1.1,this.1.2,fun x hx hb=>(this.2 x hx).elim (fun e=>by rw [hb] at e;cases e) id⟩
  -- where nobody may come,all have come
  have done : ∀ (listed : Array Bool) (l : Nat→Bool),listed.size = ops.size→(∀ i,i < ops.size→(listed.getD i true = false↔(rem.any fun r=>r.i == i) = true∧l i = false))→Region.ready .any ops listed = []→∀ r ∈ rem,l r.i = true:=fun listed l hsz hR h0=>by
    have key : ∀ m,∀ r ∈ rem,r.i < m→l r.i = true:=fun m=>by
      induction m with
      | zero=>intro r _ h;omega
      | succ m ih=>
        intro r hm hlt
        by_cases hm' : r.i < m
        · exact ih r hm hm'
        cases hl : l r.i with
        | true=>rfl
        | false=>
          exfalso
          obtain ⟨o,ho,_,_,hb⟩ :=lf r hm
          have hlt' : r.i < ops.size:=(Array.getElem?_eq_some_iff.1 ho).1
          have hun : listed.getD r.i true = false:=(hR r.i hlt').2 ⟨List.any_eq_true.2 ⟨r,hm,by simp⟩,hl⟩
          have : r.i ∈ Region.ready .any ops listed:=mem_ready.2 ⟨hun,o,ho,fun x hx hbx=>by
            have hx':=hb x hx hbx
            cases hq : listed.getD x.on false with
            | true=>rfl
            | false=>
              exfalso
              have hxs : x.on < ops.size:=by omega
              have hq' : listed.getD x.on true = false:=by
                simp only [Array.getD_eq_getD_getElem?,Array.getElem?_eq_getElem (show x.on < listed.size by omega),Option.getD_some] at hq ⊢
                exact hq
              obtain ⟨g1,g2⟩ :=(hR x.on hxs).1 hq'
              obtain ⟨r',hr',e⟩ :=List.any_eq_true.1 g1
              have e : r'.i = x.on:=by simpa using e
              have:=ih r' hr' (by omega)
              rw [e,g2] at this;cases this⟩
          rw [h0] at this;cases this
    exact fun r hm=>key (r.i + 1) r hm (by omega)
  intro f
  induction f with
  | zero=>
    intro listed l vs a w hlen hsz hR hc hI hA
    have hall : ∀ r ∈ rem,l r.i = true:=fun r hm=>by
      cases hl : l r.i with
      | true=>rfl
      | false=>
        exfalso
        have : r ∈ rem.filter fun r=>!l r.i:=List.mem_filter.2 ⟨hm,by simp [hl]⟩
        have h0 : rem.filter (fun r=>!l r.i) = []:=List.length_eq_zero_iff.1 (by omega)
        rw [h0] at this;cases this
    refine ⟨?_,hK _ _ _ hA (he l vs w hI hall)⟩
    refine List.eq_nil_iff_forall_not_mem.2 fun i hi=>?_
    obtain ⟨hu,o,ho,_⟩ :=mem_ready.1 hi
    obtain ⟨g1,g2⟩ :=(hR i (Array.getElem?_eq_some_iff.1 ho).1).1 hu
    obtain ⟨r',hr',e⟩ :=List.any_eq_true.1 g1
    have e : r'.i = i:=by simpa using e
    have:=hall r' hr'
    rw [e,g2] at this;cases this
  | succ f ih=>
    intro listed l vs a w hlen hsz hR hc hI hA
    refine ⟨fun h0=>hK _ _ _ hA (he l vs w hI (done listed l hsz hR h0)),fun i hi=>?_⟩
    obtain ⟨hu,o,ho,hall⟩ :=mem_ready.1 hi
    have hlt:=(Array.getElem?_eq_some_iff.1 ho).1
    obtain ⟨g1,g2⟩ :=(hR i hlt).1 hu
    obtain ⟨r,hm,e⟩ :=List.any_eq_true.1 g1
    have e : r.i = i:=by simpa using e
    subst e
    obtain ⟨o',ho',hso,hjs,_⟩ :=lf r hm
    rw [ho] at ho';injection ho' with ho';subst ho'
    have hpre : ∀ j ∈ r.js,l j = true:=fun j hj=>by
      have hw:=hjs j hj
      simp only [waitsFor,ho,Option.any_some,Array.any_eq_true,Bool.and_eq_true,beq_iff_eq] at hw
      obtain ⟨k,hk,hb,rfl⟩ :=hw
      cases hq : l (o.after[k]).on with
      | true=>rfl
      | false=>
        -- it has come
        have hl:=hall o.after[k] (Array.getElem_mem hk) hb
        exfalso
        by_cases hxs : (o.after[k]).on < ops.size
        · have h1:=List.all_eq_true.1 (List.all_eq_true.1 hjr r hm) _ hj
          have h2:=(hR _ hxs).2 ⟨h1,hq⟩
          simp only [Array.getD_eq_getD_getElem?,Array.getElem?_eq_getElem (show (o.after[k]).on < listed.size by omega),Option.getD_some] at h2 hl
          rw [h2] at hl;cases hl
        · simp only [Array.getD_eq_getD_getElem?,Array.getElem?_eq_none (show listed.size≤(o.after[k]).on by omega),Option.getD_none] at hl
          cases hl
    have st:=stepsT_mem hs r hm l vs w hI g2 hpre
    rw [ho] at st
    have st : gK ops o.guard (slots.zip vs ++ keep.zip ks) (opv P o.op o.type (slots.zip vs ++ keep.zip ks) w fun v w'=>I (flag l r.i) (putK vs r.k v) w') (I (flag l r.i) (putK vs r.k undef) w):=st
    have nextR : ∀ j,j < ops.size→((listed.setIfInBounds r.i true).getD j true = false↔(rem.any fun r=>r.i == j) = true∧flag l r.i j = false):=fun j hj=>by
      by_cases hji : r.i = j
      · subst hji
        constructor
        · intro h
          simp [Array.getD_eq_getD_getElem?,show r.i < listed.size by omega] at h
        · intro ⟨_,h⟩
          simp [flag] at h
      · rw [getD_set_ne true hji,hR j hj]
        have : flag l r.i j = l j:=by simp [flag,show (j == r.i) = false by simpa using fun e=>hji e.symm]
        rw [this]
    have nextC : (rem.filter fun q=>!flag l r.i q.i).length≤f:=by
      have hsub : (rem.filter fun q=>!flag l r.i q.i) = (rem.filter fun q=>!l q.i).filter fun q=>!(q.i == r.i):=by
        rw [List.filter_filter]
        refine List.filter_congr fun q _=>?_
        simp [flag,Bool.not_or]
      have hmem : r ∈ rem.filter fun q=>!l q.i:=List.mem_filter.2 ⟨hm,by simp [g2]⟩
      have hlt2 : ((rem.filter fun q=>!l q.i).filter fun q=>!(q.i == r.i)).length < (rem.filter fun q=>!l q.i).length:=by
        refine Nat.lt_of_le_of_ne (List.length_filter_le ..) fun e=>?_
        have:=(List.length_filter_eq_length_iff.1 e) r hmem
        simp at this
      rw [hsub];omega
    have nextA : ∀ v,Agree n (slots.zip (putK vs r.k v) ++ keep.zip ks) (a.put o.dst v)∧slots.length = (putK vs r.k v).length:=fun v=>by
      unfold slotOk at hso
      cases hk : r.k with
      | none=>
        rw [hk] at hso
        cases hdst : o.dst with
        | none=>exact ⟨by rw [show a.put none v = a from rfl];exact hA,hlen⟩
        | some d=>rw [hdst] at hso;cases hso
      | some k=>
        rw [hk] at hso
        cases hdst : o.dst with
        | none=>rw [hdst] at hso;cases hso
        | some d=>
          rw [hdst] at hso
          simp only [Bool.and_eq_true,beq_iff_eq,Bool.not_eq_true'] at hso
          exact ⟨agree_put hn hso.1 hlen hso.2 (dOk_lt (hdo ho) d hdst) hA,by simp [putK,hlen]⟩
    have go : ∀ v w',I (flag l r.i) (putK vs r.k v) w'→wpAnyH P .any ops Q (Holds L) f (listed.setIfInBounds r.i true) (a.put o.dst v) w':=fun v w' hI'=>
      ih _ (flag l r.i) (putK vs r.k v) _ w' (nextA v).2 (by simpa using hsz) nextR nextC hI' (nextA v).1
    unfold wpOp
    simp only [ho]
    rcases gK_elim (ops:=ops) hA st with ⟨hwt,st⟩ | ⟨hwt,st⟩
    · rw [if_pos hwt]
      exact .inl (opv_sound hA st fun v w' hk=>⟨hH _ _ _ hk,go v w' hk⟩)
    · rw [if_neg (by simp [hwt])]
      exact ⟨hH _ _ _ st,go undef w st⟩
theorem planI_sound {P : Program} {ops : Array Oper} {L : Held} {n : Nat} {K : Env → World → Prop} {Q : Exit → Act → World → Prop} (hK : ∀ E a w, Agree n E a → K E w → Q .normal a w)
    (hQ : ∀ c a w,¬ Q (.panic c) a w) (hns : Region.noSelect ops = true) (hd : ops.all (fun o=>dOk n o.dst) = true) {rem : List Lft} {slots keep : List Nat}
    (hn : slots.Nodup) (hr : rem.all (lftOk ops slots keep) = true) (hjr : (rem.all fun r=>r.js.all fun j=>rem.any fun r=>r.i == j) = true) :
    ∀ (p : Plan) (listed : Array Bool) (f : Nat) (E : Env) (a : Act) (w : World),planOkI ops rem p listed f = true→Agree n E a→Holds L w→
      planv P ops L p E w (fun E w=>okK (gets E keep) fun ks=>∃ I : (Nat→Bool)→List Value→World→Prop,(∀ l vs w,I l vs w→Holds L w)∧(∀ vs,slots.length = vs.length→I (fun _=>false) vs w)∧
        stepsT P ops slots keep ks I rem∧(∀ l vs w,I l vs w→(∀ r ∈ rem,l r.i = true)→K (slots.zip vs ++ keep.zip ks) w))→wpAnyH P .any ops Q (Holds L) f listed a w:=by
  have hdo : ∀ {i : Nat} {o : Oper},ops[i]? = some o→dOk n o.dst = true:=fun hi=>(Array.all_eq_true_iff_forall_mem.1 hd) _ (Array.mem_of_getElem? hi)
  intro p
  induction p with
  | fin=>
    intro listed f E a w hp hA hw h
    obtain ⟨ks,hks,I,hH,h0,hs,he⟩ :=okK_elim (show okK (gets E keep) _ from h)
    simp only [planOkI,endOk,Bool.and_eq_true,beq_iff_eq,List.all_eq_true,List.mem_range] at hp
    obtain ⟨⟨hsz,hf⟩,hl⟩ :=hp
    let vs : List Value:=slots.map fun d=>a.tmps.getD d undef
    have hvs : ∀ (sl : List Nat) i v,Env.get (sl.zip (sl.map fun d=>a.tmps.getD d undef)) i = some v→a.tmps.getD i undef = v:=fun sl=>by
      induction sl with
      | nil=>intro i v h;simp [Env.get] at h
      | cons s sl ih=>
        intro i v h
        simp only [List.map_cons,List.zip_cons_cons,Env.get] at h
        split at h
        · rename_i e;subst e;simpa using h
        · exact ih i v h
    have hA' : Agree n (slots.zip vs ++ keep.zip ks) a:=⟨hA.size,hA.defers,fun i v hg=>by
      rw [Env.get_append] at hg
      cases hq : Env.get (slots.zip vs) i with
      | none=>rw [hq] at hg;exact hA.get i v (gets_zip hks i v (by simpa using hg))
      | some u=>rw [hq] at hg;simp only [Option.some_or,Option.some.injEq] at hg;subst hg;exact hvs slots i u hq⟩
    refine invSound hK hQ hd hn hr hjr hH hs he f listed (fun _=>false) vs a w (by simp [vs]) hsz (fun i hi=>?_) (by rw [hf];exact List.length_filter_le ..) (h0 vs (by simp [vs])) hA'
    rw [hl i hi]
    simp
  | q i p ih=>
    intro l f E a w hp hA hw h
    cases f with
    | zero=>simp [planOkI] at hp
    | succ f=>
      simp only [planOkI,Bool.and_eq_true] at hp
      obtain ⟨o,ho,h⟩ :=okK_elim h
      rcases gK_elim (ops:=ops) hA h with ⟨hwt,h⟩ | ⟨hwt,h⟩
      · obtain ⟨v,hv,h⟩ :=pureK_sound hA h
        exact wpAnyH_take ho hns hp.1.1 hp.1.2 (fun c a w hq=>absurd hq (hQ _ _ _)) (.inl ⟨hwt,fun w _=>hv w⟩) hw (ih _ _ _ _ _ hp.2 (hA.put o.dst v (dOk_lt (hdo ho))) hw h)
      · exact wpAnyH_take ho hns hp.1.1 hp.1.2 (fun c a w hq=>absurd hq (hQ _ _ _)) (.inr ⟨hwt,rfl⟩) hw (ih _ _ _ _ _ hp.2 (hA.put o.dst undef (dOk_lt (hdo ho))) hw h)
  | h i j p ih=>
    intro l f E a w hp hA hw h
    cases f with
    | zero=>simp [planOkI] at hp
    | succ f=>
      simp only [planOkI,Bool.and_eq_true] at hp
      obtain ⟨o,ho,h⟩ :=okK_elim h
      rcases gK_elim (ops:=ops) hA h with ⟨hwt,h⟩ | ⟨hwt,h⟩
      · obtain ⟨v,hv,h⟩ :=heldK_sound hA h
        exact wpAnyH_take ho hns hp.1.1 hp.1.2 (fun c a w hq=>absurd hq (hQ _ _ _)) (.inl ⟨hwt,hv⟩) hw (ih _ _ _ _ _ hp.2 (hA.put o.dst v (dOk_lt (hdo ho))) hw h)
      · exact wpAnyH_take ho hns hp.1.1 hp.1.2 (fun c a w hq=>absurd hq (hQ _ _ _)) (.inr ⟨hwt,rfl⟩) hw (ih _ _ _ _ _ hp.2 (hA.put o.dst undef (dOk_lt (hdo ho))) hw h)
  | l=>intro l f E a w hp;cases f<;>simp [planOkI] at hp
  | ll=>intro l f E a w hp;cases f<;>simp [planOkI] at hp
  | lll=>intro l f E a w hp;cases f<;>simp [planOkI] at hp
def drawOkI (P : Program) (n : Nat) (ops : Array Oper) (p : Plan) (rem : List Lft) (slots keep : List Nat) : Bool:=
  P.follows .mixedOrders && Region.noSelect ops && ops.all (fun o=>dOk n o.dst) && planOkI ops rem p (Array.replicate ops.size false) ops.size && decide slots.Nodup && rem.all (lftOk ops slots keep) && (rem.all fun r=>r.js.all fun j=>rem.any fun r=>r.i == j)
theorem walkDrawI {P : Program} {n : Nat} {ops : Array Oper} {E : Env} {w : World} {K : Env → World → Prop} (p : Plan) (rem : List Lft) (slots keep : List Nat) (L : Held) (hp : drawOkI P n ops p rem slots keep = true) (hL : Holds L w)
    (h : ∀ w1, w1.heap = w.heap → Chg (fun _ => False) w w1 → planvT P ops L p E w1 fun E w => okK (gets E keep) fun ks => ∃ I : (Nat → Bool) → List Value → World → Prop, (∀ l vs w, I l vs w → Holds L w) ∧ (∀ vs, slots.length = vs.length → I (fun _ => false) vs w) ∧
        stepsT P ops slots keep ks I rem∧(∀ l vs w,I l vs w→(∀ r ∈ rem,l r.i = true)→K (slots.zip vs ++ keep.zip ks) w)) : drawT P n ops E w K:=by
  intro id a hA
  simp only [drawOkI,Bool.and_eq_true,decide_eq_true_eq] at hp
  refine wp_region_held (S:=Holds L) hp.1.1.1.1.1.1 (planI_sound (n:=n) (K:=K) (L:=L) (fun E a w hA hk=>⟨E,hA,hk⟩) (fun c a w hq=>hq) hp.1.1.1.1.1.2 hp.1.1.1.1.2 hp.1.1.2 hp.1.2 hp.2 p _ _ E a _ hp.1.1.1.2 hA ?_ (h (World.drew w) rfl (Chg.refl _ _).drew))
  exact hL
theorem cons_of_len {α : Type} {n : Nat} {vs : List α} (h : n + 1 = vs.length) : ∃ v us,vs = v :: us∧n = us.length:=by
  cases vs with
  | nil=>cases h
  | cons v us=>exact ⟨v,us,rfl,by simpa using h⟩
theorem nil_of_len {α : Type} {vs : List α} (h : 0 = vs.length) : vs = []:=List.length_eq_zero_iff.1 h.symm
theorem Sep.addEmp {w0 w : World} {S : Nat→Prop} {M : List Res} (h : Sep w0 S M w) : Sep w0 S (M ++ [emp]) w:=
  h.push (Chg.refl _ _) (A:=fun _=>False) rfl (fun _ f=>f.elim) (fun _ f=>f.elim)
theorem Sep.newAt (i : Nat) {w0 w : World} {S : Nat→Prop} {M : List Res} {cs : List Value} {t : TypeId} {K : World→Nat→Prop} (h : Sep w0 S M w) (hi : M[i]? = some emp) (hk : ∀ w1 b,Sep w0 S (M.set i (blk b t cs)) w1→K w1 b) : ∀ w1 b,New w w1 b cs t→K w1 b:=fun w1 b n=>by
  obtain ⟨A,h1,_,h3⟩ :=h.at hi
  exact hk w1 b (h3 _ (fun x=>x = b) w1 ⟨n.blk,rfl⟩ (fun x hx=>.inr (by have:=n.eq;omega)) (n.chg.mono' fun x hx _=>hx.elim) (fun _ f=>f))
set_option maxRecDepth 100000
set_option linter.unusedSimpArgs false
def bit (d : Bool) : Int:=if d then 1 else 0
theorem flag98 (d : Bool) (w : World) : Calls Tryz.prog 38 [.bool d].toArray w (RetK fun r w'=>r = .int .i64 (bit d)∧Chg (fun _=>False) w w'):=by
  refine walk Tryz.func38 rfl (by kernel_rfl) (by rw [Tryz.nt38];simp) ?_
  cases d with
  | true=>refine Zv ?_;exact ⟨rfl,Chg.refl _ _⟩
  | false=>refine Zv ?_;exact ⟨rfl,Chg.refl _ _⟩
def wCh (s : W8) (c : Ch) : W8:=(((s.num c.t 1).num (bit c.d) 1).num c.b.length 2).raw c.b
def encC (s : W8) (cs : List Ch) : W8:=cs.foldl wCh (s.num cs.length 2)
def roomC : List Ch→Nat
  | []=>0
  | c :: cs=>24 + c.b.length + roomC cs
theorem roomC_take : ∀ {cs : List Ch} {i : Nat} (h : i < cs.length),roomC (cs.take (i + 1)) = roomC (cs.take i) + 24 + cs[i].b.length
  | c :: cs,0,h=>by simp [roomC]
  | c :: cs,i + 1,h=>by
    have:=roomC_take (cs:=cs) (i:=i) (by simpa using h)
    simp only [List.take_succ_cons,roomC,List.getElem_cons_succ,this];omega
theorem roomC_le : ∀ (cs : List Ch) (i : Nat),roomC (cs.take i)≤roomC cs
  | [],i=>by simp [roomC]
  | c :: cs,0=>by simp [roomC]
  | c :: cs,i + 1=>by
    have:=roomC_le cs i
    simp only [List.take_succ_cons,roomC];omega
theorem listCh {w0 w : World} {q : Res} {c p k : Nat} {s : W8} {v : Value} {xs : List Ch} {K : Value → World → Prop} (h : Sep w0 (fun _ => False) [q, wr 75 p s k, blk c 73 [.pointer (some ⟨p, 0, none⟩)]] w) (hT : Chn w0 v xs) (hO : ∀ x ∈ xs, -9223372036854775808 ≤ x.t ∧ x.t ≤ 9223372036854775807) (hl : k + 8 + roomC xs ≤ 800000)
    (hK : ∀ w1,Sep w0 (fun _=>False) [q,wr 75 p (encC s xs) (k + 8 + roomC xs),blk c 73 [.pointer (some ⟨p,0,none⟩)]] w1→K (.tuple #[]) w1) :
    callsK Tryz.prog 36 [.pointer (some ⟨p,0,none⟩),v,.func (.func 37) #[] #[.pointer (some ⟨c,0,none⟩)]].toArray w K:=by
  obtain ⟨a,cc,rfl⟩ :=hT.shape
  have hln:=hT.len
  simp only [maxLen] at hln
  refine walk Tryz.func36 rfl (by kernel_rfl) (by rw [Tryz.nt36];simp) ?_
  replace h:=Zd h;have F:=Zf2 h
  refine Zv ?_
  refine Sep.num 1 h rfl (by omega) (by omega) (by omega) ?_
  clear h F
  intro w1 h
  replace h:=Zd h;have F:=Zf2 h;refine Zs ?_
  refine walkLoop [2,12,13] [14] (fun m vs w'=>∃ i,i≤xs.length∧m = xs.length - i∧vs = [.int .i64 i]∧Sep w0 (fun _=>False) [q,wr 75 p ((xs.take i).foldl wCh (s.num xs.length 2)) (k + 8 + roomC (xs.take i)),blk c 73 [.pointer (some ⟨p,0,none⟩)]] w') (by kernel_rfl) ?_ ?_
  · refine Zv ?_
    exact ⟨_,0,Nat.zero_le _,rfl,rfl,by simpa [roomC] using h⟩
  intro ks hk m vs w2 hi
  clear h F
  obtain ⟨i,hi,rfl,rfl,h⟩ :=hi
  replace hk:=Zk hk;subst hk
  by_cases hlt : (i : Int) < xs.length
  case neg=>
    have hil : i = xs.length:=by omega
    subst hil
    rw [List.take_of_length_le (Nat.le_refl _)] at h
    replace h:=Zd h;have F:=Zf2 h;refine Zs1 (decide_eq_false hlt) ?_
    exact hK _ h
  have hil : i < xs.length:=by omega
  have hfold : (xs.take (i + 1)).foldl wCh (s.num xs.length 2) = wCh ((xs.take i).foldl wCh (s.num xs.length 2)) xs[i]:=by rw [List.take_succ_eq_append_getElem hil,List.foldl_append];rfl
  have hroom:=roomC_take hil
  have hroom2:=roomC_le xs (i + 1)
  obtain ⟨b,o,u,rfl,hcells,hru⟩ :=hT.at hil
  have ho:=hO _ (List.getElem_mem hil)
  generalize xs[i] = x at *
  have hru':=hru
  obtain ⟨au,cu,rfl,_⟩ :=hru'
  have ei : IntKind.i64.wrap ((i : Int) + 1) = ((i + 1 : Nat) : Int):=by rw [i64w _ (by omega) (by omega)];omega
  have hcw : cellsAt w2 b (o + i * 3) 3 = some [.int .i64 x.t,.bool x.d,.slice au x.b.length cu]:=by
    obtain ⟨hl,hat⟩ :=cellsAt_elim hcells
    exact cellsAt_of (w:=w2) (b:=b) (o:=o + i * 3) [.int .i64 x.t,.bool x.d,.slice au x.b.length cu] (fun j u hj=>by
      have:=hat j u hj
      rw [h.cell0 (by rw [this];rfl) id,this])
  clear hcells
  replace h:=Zd h;have F:=Zf2 h;refine Zs1 (decide_eq_true hlt) ?_
  refine ⟨⟨by omega,by omega⟩,?_⟩
  replace h:=Zd h;have F:=Zf2 h;refine Zs1 hcw ?_
  clear hcw
  repeat ((first | refine Sep.new h ?_ | refine Sep.put 0 h rfl ?_ | refine Sep.put 1 h rfl ?_ | refine Sep.put 2 h rfl ?_ | refine Sep.put 3 h rfl ?_ | refine Sep.put 4 h rfl ?_ | refine Sep.put 5 h rfl ?_);(clear F;(try clear h);intros;rename_i h;replace h:=Zd h;have F:=Zf2 h;refine Zc ?_))
  refine walk Tryz.func37 rfl (by kernel_rfl) (by rw [Tryz.nt37];simp) ?_
  replace h:=Zd h;have F:=Zf2 h;refine Zs ?_
  refine h.new ?_
  clear h F
  intro w9 b9 h
  replace h:=Zd h;have F:=Zf2 h;refine Zc ?_
  refine walkDraw (.q 1 (.q 4 (.q 8 (.q 12 (.h 0 0 (.h 2 1 (.h 5 2 (.h 9 3 (.q 10 (.h 13 4 (.l 3 (.l 6 (.l 7 (.l 11 (.l 14 .fin))))))))))))))) [(c,0,.pointer (some ⟨p,0,none⟩)),(b9,0,.int .i64 x.t),(b9,1,.bool x.d),(b9,2,.slice au x.b.length cu),(b9,2,.slice au x.b.length cu)] (by kernel_rfl) (by simp [Holds_nil,Holds_cons,F]) ?_
  refine h.draw ?_
  clear h F
  intro w10 h
  replace h:=Zd h;have F:=Zf2 h;refine Zs ?_
  have hbit : 0≤bit x.d∧bit x.d≤1:=by unfold bit;split<;>omega
  repeat ((first | refine Sep.new h ?_ | refine Sep.put 0 h rfl ?_ | refine Sep.put 1 h rfl ?_ | refine Sep.put 2 h rfl ?_ | refine Sep.put 3 h rfl ?_ | refine Sep.put 4 h rfl ?_ | refine Sep.put 5 h rfl ?_ | refine Sep.num 1 h rfl (by omega) (by omega) (by omega) ?_ | refine Sep.raw 1 x.b h rfl (by omega) (hru.sep h fun _ _=>id) (by omega) ?_ | refine Sep.callp h (flag98 x.d _) ?_);(clear F;(try clear h);intros;rename_i h;replace h:=Zd h;have F:=Zf2 h;refine Zs1 ei ?_))
  refine ⟨_,?_,i + 1,by omega,rfl,rfl,?_⟩
  · omega
  rw [hfold,hroom]
  exact ((h.erase 4).erase 3).wrMono' 1 _ rfl (by omega)
def badRe : List Int→Bool
  | [_,_,_,_,ax,ay,bx,by',cx,cy]=>!(T3.valid ⟨ax,ay,bx,by',cx,cy⟩)
  | _=>false
theorem badClosure (a0 a1 a2 a3 ax ay bx by' cx cy : Int) (w : World) : Calls Tryz.prog 17 [.agg #[.int .i64 a0, .int .i64 a1, .int .i64 a2, .int .i64 a3, .int .i64 ax, .int .i64 ay, .int .i64 bx, .int .i64 by', .int .i64 cx, .int .i64 cy]].toArray w
    (RetK fun r w'=>r = .bool (badRe [a0,a1,a2,a3,ax,ay,bx,by',cx,cy])∧Chg (fun _=>False) w w'):=by
  have h:=Sep.nil w
  refine walk Tryz.func17 rfl (by kernel_rfl) (by rw [Tryz.nt17];simp) ?_
  replace h:=Zd h;have F:=Zf2 h
  refine Zv ?_
  repeat ((first | refine Sep.new h ?_ | refine Sep.put 0 h rfl ?_ | refine Sep.put 1 h rfl ?_ | refine Sep.put 2 h rfl ?_ | refine Sep.put 3 h rfl ?_ | refine Sep.put 4 h rfl ?_ | refine Sep.put 5 h rfl ?_ | refine Sep.callp h (valid79 ⟨ax,ay,bx,by',cx,cy⟩ _) ?_);(clear F;(try clear h);intros;rename_i h;replace h:=Zd h;have F:=Zf2 h;refine Zc ?_))
  exact ⟨rfl,h.done⟩
theorem anyBad (v : Value) (xs : List (List Int)) (w : World) (hT : Tab 10 w v xs) :
    Calls Tryz.prog 16 [v,.func (.func 17) #[] #[]].toArray w (RetK fun r w'=>r = .bool (xs.any badRe)∧Chg (fun _=>False) w w'):=by
  obtain ⟨a,cc,rfl⟩ :=hT.shape
  have hln:=hT.len
  simp only [maxLen] at hln
  have h:=Sep.nil w
  refine walk Tryz.func16 rfl (by kernel_rfl) (by rw [Tryz.nt16];simp) ?_
  replace h:=Zd h;have F:=Zf2 h
  refine Zv ?_
  refine walk Tryz.func81 rfl (by kernel_rfl) (by rw [Tryz.nt81];simp) ?_
  refine Zv ?_
  refine walkLoop [0,1,7] [8] (fun m vs w'=>∃ i,i≤xs.length∧m = xs.length - i∧vs = [.int .i64 i]∧Sep w (fun _=>False) [] w'∧(xs.take i).any badRe = false) (by kernel_rfl) ?_ ?_
  · refine Zv ?_
    exact ⟨_,0,Nat.zero_le _,rfl,rfl,h,by simp⟩
  intro ks hk m vs w2 hi
  clear h F
  obtain ⟨i,hi,rfl,rfl,h,hany⟩ :=hi
  replace hk:=Zk hk;subst hk
  by_cases hlt : (i : Int) < xs.length
  case neg=>
    have hil : i = xs.length:=by omega
    subst hil
    rw [List.take_of_length_le (Nat.le_refl _)] at hany
    replace h:=Zd h;have F:=Zf2 h;refine Zs1 (J (decide_eq_false hlt) hany) ?_
    exact h.done
  have hil : i < xs.length:=by omega
  obtain ⟨b,o,rfl,hcells⟩ :=hT.at hil (by decide)
  have hx:=hT.wid _ (List.getElem_mem hil)
  have hsplit : xs.any badRe = (badRe xs[i] || (xs.drop (i + 1)).any badRe):=by
    have e : xs.any badRe = ((xs.take i).any badRe || (xs.drop i).any badRe):=by rw [← List.any_append,List.take_append_drop]
    rw [e,hany,List.drop_eq_getElem_cons hil,List.any_cons,Bool.false_or]
  have hnext : (xs.take (i + 1)).any badRe = badRe xs[i]:=by
    rw [List.take_succ_eq_append_getElem hil,List.any_append,hany];simp
  generalize xs[i] = x at *
  obtain ⟨a0,a1,a2,a3,a4,a5,a6,a7,a8,a9,rfl⟩ :=len_10 hx
  have ei : IntKind.i64.wrap ((i : Int) + 1) = ((i + 1 : Nat) : Int):=by rw [i64w _ (by omega) (by omega)];omega
  have hcw : cellsAt w2 b (o + i * 10) 10 = some (cellsI [a0,a1,a2,a3,a4,a5,a6,a7,a8,a9]):=by
    obtain ⟨hl,hat⟩ :=cellsAt_elim hcells
    have:=cellsAt_of (w:=w2) (b:=b) (o:=o + i * 10) (cellsI [a0,a1,a2,a3,a4,a5,a6,a7,a8,a9]) (fun j u hj=>by
      have:=hat j u hj
      rw [h.cell0 (by rw [this];rfl) id,this])
    simpa [cellsI] using this
  clear hcells
  replace h:=Zd h;have F:=Zf2 h;refine Zs1 (decide_eq_true hlt) ?_
  refine ⟨⟨by omega,by omega⟩,?_⟩
  replace h:=Zd h;have F:=Zf2 h;refine Zs1 (J hcw (@cellsI.eq_1)) ?_
  clear hcw
  refine Sep.callp h (badClosure a0 a1 a2 a3 a4 a5 a6 a7 a8 a9 w2) ?_
  clear h F
  intro w3 h
  cases hb : badRe [a0,a1,a2,a3,a4,a5,a6,a7,a8,a9] with
  | true=>
    rw [hb] at hsplit
    have hd : (0 : Int)≤i:=by omega
    replace h:=Zd h;have F:=Zf2 h;refine Zs1 (J hb (J (decide_eq_true hd) hsplit)) ?_
    simp [hsplit]
    exact h.done
  | false=>
    rw [hb] at hnext
    replace h:=Zd h;have F:=Zf2 h;refine Zs1 (J hb ei) ?_
    exact ⟨_,by omega,i + 1,by omega,rfl,rfl,h,hnext⟩
def flatC (cs : List Ch) (us : List Value) : List Value:=(cs.zip us).flatMap cellsC
theorem flatC_one {cs : List Ch} {us : List Value} (h : ∀ u ∈ us,u.oneCell' = true) {u : Value} (hu : u ∈ flatC cs us) : u.oneCell' = true:=by
  obtain ⟨p,hp,h2⟩ :=List.mem_flatMap.1 hu
  have:=(List.of_mem_zip hp).2
  simp only [cellsC,List.mem_cons,List.not_mem_nil,or_false] at h2
  rcases h2 with rfl | rfl | rfl
  · rfl
  · rfl
  · exact h _ this
theorem flatC_app (cs : List Ch) (us : List Value) (c : Ch) (u : Value) (h : us.length = cs.length) : flatC (cs ++ [c]) (us ++ [u]) = flatC cs us ++ cellsC (c,u):=by
  unfold flatC;rw [List.zip_append h.symm];simp
def chn (v : Value) (cs : List Ch) : Res where
  on w A:=(∀ x,A x→x < w.heap.size)∧∃ us,w.ownsRow 0 97 3 v cs.length (flatC cs us)∧(∀ k,v.ownBlock = some k→A k)∧us.length = cs.length∧(∀ u ∈ us,u.oneCell' = true)∧
    ∀ (i : Nat) (u : Value) (c : Ch),us[i]? = some u→cs[i]? = some c→Rd w u c.b∧(0 < c.b.length→∀ k,u.ownBlock = some k→A k∧v.ownBlock≠some k)
  rd _:=False
  fact w:=Chn w v cs
  lt:=fun h=>h.1
  chg:=fun {w w' A} ⟨h1,us,h2,h3,h4,h5,h6⟩ hs hc=>⟨fun x hx=>Nat.lt_of_lt_of_le (h1 x hx) hs,us,owns_same h2 fun k hk=>hc k (h1 k (h3 k hk)) (.inl (h3 k hk)),h3,h4,h5,fun i u l hu hl=>
    ⟨(h6 i u l hu hl).1.same fun hp k hk hlt=>hc k hlt (.inl ((h6 i u l hu hl).2 hp k hk).1),(h6 i u l hu hl).2⟩⟩
  ok:=fun ⟨h1,us,h2,h3,h4,h5,h6⟩ =>⟨us,h4,row_of_owns h2 fun u hu=>flatC_one h5 hu,fun i u l hu hl=>(h6 i u l hu hl).1⟩
theorem chn_fact (v : Value) (cs : List Ch) (w : World) : (chn v cs).fact w = Chn w v cs:=(rfl)
theorem Sep.chnNil {w0 w : World} {S : Nat→Prop} {M : List Res} (h : Sep w0 S M w) : Sep w0 S (M ++ [chn (.slice none 0 0) []]) w:=
  h.push (Chg.refl _ _) (A:=fun _=>False) ⟨fun _ f=>f.elim,[],World.ownsRow_nil _ _ _ _,fun k hk=>by simp [Value.ownBlock] at hk,rfl,fun u hu=>(by cases hu),fun i u l hu=>(by simp at hu)⟩ (fun _ f=>f.elim) (fun _ f=>f.elim)
theorem infoCh : (Tryz.prog.info? 97).map (fun i=>(i.zero,i.size,i.bytes)) = some (some (.agg #[.int .i64 0,.bool false,.slice none 0 0]),3,40):=by kernel_rfl
theorem Sep.appCh (i j k : Nat) {w0 w : World} {S : Nat → Prop} {M : List Res} {b : Nat} {v u : Value} {cs : List Ch} {t : Int} {d : Bool} {xs : List Int} {ty : TypeId} {K : Value → World → Prop} (h : Sep w0 S M w) (hi : (M.set j emp)[i]? = some (chn v cs)) (hj : M[j]? = some (byt u xs)) (hk : M[k]? = some (blk b 97 [.int .i64 t, .bool d, u])) (hn : cs.length + 1 ≤ 100000000)
    (hK : ∀ a c w',Sep w0 S ((M.set j emp).set i (chn (.slice a (cs ++ [Ch.mk t d xs]).length c) (cs ++ [Ch.mk t d xs]))) w'→K (.slice a (cs ++ [Ch.mk t d xs]).length c) w') : RunK Tryz.prog (Builtin.append_ #[31,31] ty #[v,.slice (some ⟨b,0,none⟩) 1 1]) w K:=by
  obtain ⟨C,⟨c1,_⟩,_,_⟩ :=h.at hk
  obtain ⟨A,B,⟨h1,us,h2,h3,h4,h5,h6⟩,⟨g1,rfl⟩,hd,h7⟩ :=h.at2 i j hi hj
  obtain ⟨au,cu,rfl⟩ :=owns_shape g1
  have hrow : Row 3 w (.slice (some ⟨b, 0, none⟩) 1 1) 1 (cellsC (⟨t, d, xs⟩, .slice au xs.length cu)) := ⟨rfl, fun u hu => by
      simp only [cellsC,List.mem_cons,List.not_mem_nil,or_false] at hu
      rcases hu with rfl | rfl | rfl<;>rfl,_,_,rfl,Nat.le_refl _,by simp [maxLen],fun e=>by (cases e),fun _=>⟨b,0,rfl,fun j u hj=>by rw [cell_of_row w b _ _ _ _ c1,Nat.zero_add];simpa [cellsC] using hj⟩⟩
  refine append_rule infoCh Tryz.underlying31 rfl (by decide) h2 hrow (by omega) (by simp only [maxLen];omega) fun v' w' ho hg hat=>?_
  obtain ⟨a,c,rfl⟩ :=owns_shape ho
  have hc : Chg A w w':=(Chg.ofGrown hg).mono h3
  have el : (cs ++ [Ch.mk t d xs]).length = cs.length + 1:=by simp
  have hb : ∀ k,(Value.slice a (cs.length + 1) c).ownBlock = some k→A k∨w.heap.size≤k:=fun k hk=>by
    rcases hat with e | e
    · exact .inl (h3 k (by rw [← e];exact hk))
    · rw [hk] at e;injection e with e;exact .inr (by omega)
  have hlt : ∀ k,(Value.slice a (cs.length + 1) c).ownBlock = some k→k < w'.heap.size:=fun k hk=>(World.ownsRow.lt ho k hk).2
  rw [← flatC_app cs us ⟨t,d,xs⟩ (.slice au xs.length cu) h4] at ho
  have hB : ∀ k,(Value.slice au xs.length cu).ownBlock = some k→k < w.heap.size:=fun k hk=>g1.lt hk
  have:=hK a c w' (h7 _ (fun x=>A x∨(Value.slice au xs.length cu).ownBlock = some x∨(Value.slice a (cs.length + 1) c).ownBlock = some x) w' ⟨?_,us ++ [.slice au xs.length cu],by rw [el];exact ho,fun k hk=>.inr (.inr (by rw [el] at hk;exact hk)),by simp [h4],fun u hu=>(List.mem_append.1 hu).elim (h5 u) fun hu=>by simp at hu;subst hu;rfl,fun i u l hu hl'=>?_⟩ ?_ hc (fun _ f=>f))
  · rw [el] at this;exact this
  · rintro x (hx | hx | hx)
    · exact Nat.lt_of_lt_of_le (h1 x hx) hc.size
    · exact Nat.lt_of_lt_of_le (hB x hx) hc.size
    · exact hlt x hx
  · rw [el]
    by_cases hi : i < us.length
    · rw [List.getElem?_append_left hi] at hu
      rw [List.getElem?_append_left (by omega)] at hl'
      obtain ⟨k1,k2⟩ :=h6 i u l hu hl'
      have kne : 0 < l.b.length→∀ k,u.ownBlock = some k→¬ v.ownBlock = some k:=fun hp k hk=>(k2 hp k hk).2
      refine ⟨k1.chg' (Chg.ofGrown hg) fun hp k hk e=>kne hp k hk e,fun hp k hk=>⟨.inl (k2 hp k hk).1,fun e=>?_⟩⟩
      rcases hat with e' | e'
      · rw [e'] at e;exact kne hp k hk e
      · rw [e'] at e;injection e with e;have:=k1.lt hp k hk;omega
    · rw [List.getElem?_append_right (by omega)] at hu
      rw [List.getElem?_append_right (by omega)] at hl'
      have e0 : i - us.length = 0:=by
        have:=(List.getElem?_eq_some_iff.1 hu).1
        simp at this;omega
      rw [e0] at hu
      rw [show i - cs.length = 0 by omega] at hl'
      simp at hu hl'
      subst hu hl'
      refine ⟨g1.rd.chg' hc fun hp k hk hA=>hd k hA hk,fun hp k hk=>⟨.inr (.inl hk),fun e=>?_⟩⟩
      rcases hb k e with hA | hA
      · exact hd k hA hk
      · have:=hB k hk;omega
  · rintro x (hx | hx | hx)
    · exact .inl hx
    · exact .inr (.inl hx)
    · rcases hb x hx with hx | hx
      · exact .inl hx
      · exact .inr (.inr hx)
def rCh (s : R8) : Ch:=⟨s.numV 1,decide ((s.numS 1).numV 1 = 1),(((s.numS 1).numS 1).numS 2).rawV (((s.numS 1).numS 1).numV 2)⟩
def sCh (s : R8) : R8:=(((s.numS 1).numS 1).numS 2).rawS (((s.numS 1).numS 1).numV 2)
theorem sCh_byt {s : R8} (hb : Byt s.l) : Byt (sCh s).l:=(rawS_byt _ _ (numS_byt _ 2 (numS_byt _ 1 (numS_byt _ 1 hb)))).1
theorem itemsCh {w0 w : World} {q G : Res} {r c : Nat} {s : R8} {K : Value → World → Prop} (h : Sep w0 (fun _ => False) [q, rdr 151 r s (fun _ => False), blk c 102 [.pointer (some ⟨r, 0, none⟩)], G] w) (hb : Byt s.l)
    (hK : ∀ a cc w1,Sep w0 (fun _=>False) [q,rdr 151 r (itemsS rCh sCh s) (fun _=>False),blk c 102 [.pointer (some ⟨r,0,none⟩)],G,chn (.slice a (itemsV rCh sCh s).length cc) (itemsV rCh sCh s)] w1→K (.slice a (itemsV rCh sCh s).length cc) w1) :
    callsK Tryz.prog 58 [.pointer (some ⟨r,0,none⟩),.func (.func 59) #[] #[.pointer (some ⟨c,0,none⟩)]].toArray w K:=by
  refine walk Tryz.func58 rfl (by kernel_rfl) (by rw [Tryz.nt58];simp) ?_
  have hn:=num2_rng s hb
  replace h:=Zd h;have F:=Zf3 h
  refine Zv ?_
  refine Sep.rdNum 1 h rfl ?_
  clear h F
  intro w1 h
  replace h:=Zd h;have F:=Zf3 h;refine Zs ?_
  have h:=h.chnNil
  obtain ⟨N,hN⟩ :=Int.eq_ofNat_of_zero_le hn.1
  have eN : (s.numV 2).toNat = N:=by omega
  rw [hN] at hn
  rw [hN]
  refine walkLoop [0,1] [4,5] (fun m vs w'=>∃ n t out a cc,m = n∧vs = [.slice a out.length cc,.int .i64 (n : Nat)]∧Sep w0 (fun _=>False) [q,rdr 151 r t (fun _=>False),blk c 102 [.pointer (some ⟨r,0,none⟩)],G,chn (.slice a out.length cc) out] w'∧
    Byt t.l∧itemsF rCh sCh N (s.numS 2) = (out ++ (itemsF rCh sCh n t).1,(itemsF rCh sCh n t).2)∧out.length + n≤65535) (by kernel_rfl) ?_ ?_
  · refine Zv ?_
    exact ⟨_,N,_,[],none,0,rfl,rfl,h,numS_byt s 2 hb,by simp,by simp;omega⟩
  intro ks hk m vs w2 hi
  clear h F
  obtain ⟨n,t,out,a,cc,rfl,rfl,h,hbt,hit,hlen⟩ :=hi
  replace hk:=Zk hk;subst hk
  have done : (itemsF rCh sCh m t).1 = []∧(itemsF rCh sCh m t).2 = t→∀ {w'},Sep w0 (fun _=>False) [q,rdr 151 r t (fun _=>False),blk c 102 [.pointer (some ⟨r,0,none⟩)],G,chn (.slice a out.length cc) out] w'→K (.slice a out.length cc) w':=fun hd w' h=>by
    have e1 : itemsV rCh sCh s = out:=by unfold itemsV;rw [eN,hit,hd.1];simp
    have e2 : itemsS rCh sCh s = t:=by unfold itemsS;rw [eN,hit,hd.2]
    have:=hK a cc w'
    rw [e1,e2] at this
    exact this h
  match m,hit,hlen,done with
  | 0,hit,hlen,done=>
    have h0 : ¬ (0 : Int) < ((0 : Nat) : Int):=by omega
    replace h:=Zd h;have F:=Zf3 h;refine Zs1 (decide_eq_false h0) ?_
    exact done ⟨rfl,rfl⟩ h
  | n + 1,hit,hlen,done=>
  have h0 : (0 : Int) < ((n + 1 : Nat) : Int):=by omega
  have en : IntKind.i64.wrap (((n + 1 : Nat) : Int) - 1) = (n : Int):=by rw [i64w _ (by omega) (by omega)];omega
  replace h:=Zd h;have F:=Zf3 h;refine Zs1 (decide_eq_true h0) ?_
  refine Sep.rdLeft 1 h rfl ?_
  by_cases hl : (0 : Int) < t.left
  case neg=>
    replace h:=Zd h;have F:=Zf3 h;refine Zs1 (decide_eq_false hl) ?_
    exact done (by simp [itemsF,hl]) h
  have hit2 : itemsF rCh sCh N (s.numS 2) = ((out ++ [rCh t]) ++ (itemsF rCh sCh n (sCh t)).1,(itemsF rCh sCh n (sCh t)).2):=by
    rw [hit];simp [itemsF,hl]
  replace h:=Zd h;have F:=Zf3 h;refine Zs1 (decide_eq_true hl) ?_
  refine walk Tryz.func59 rfl (by kernel_rfl) (by rw [Tryz.nt59];simp) ?_
  replace h:=Zd h;have F:=Zf3 h;refine Zs ?_
  refine h.new ?_
  clear h F
  intro w5 b5 h
  replace h:=Zd h;have F:=Zf3 h;refine Zs ?_
  refine walkDraw (.h 0 0 (.h 2 1 (.ll 1 (.ll 3 (.q 4 (.q 5 (.l 6 (.l 7 .fin)))) 6 (.l 3 (.q 4 (.q 5 (.l 7 .fin))))) 6 (.l 1 (.l 3 (.q 4 (.q 5 (.l 7 .fin)))))))) [(c,0,.pointer (some ⟨r,0,none⟩)),(c,0,.pointer (some ⟨r,0,none⟩))] (by kernel_rfl) (by simp [Holds_nil,Holds_cons,F]) ?_
  refine h.draw ?_
  clear h F
  intro w6 h
  replace h:=Zd h;have F:=Zf3 h;refine Zs ?_
  refine ⟨?_,?_⟩
  case' refine_1=>
    refine Sep.rdNum 1 h rfl ?_
    clear h F
    intro w7 h
    replace h:=Zd h;have F:=Zf3 h;refine Zs ?_
    refine ⟨?_,?_⟩
  all_goals
    repeat ((first | refine Sep.new h ?_ | refine Sep.put 0 h rfl ?_ | refine Sep.put 1 h rfl ?_ | refine Sep.put 2 h rfl ?_ | refine Sep.put 3 h rfl ?_ | refine Sep.put 4 h rfl ?_ | refine Sep.put 5 h rfl ?_ | refine Sep.rdNum 1 h rfl ?_ | refine Sep.put 6 h rfl ?_);(clear F;(try clear h);intros;rename_i h;replace h:=Zd h;have F:=Zf3 h;refine Zc ?_))
    refine walkDraw (.h 0 0 (.h 1 1 (.l 2 (.l 3 (.q 4 (.l 5 .fin)))))) [(c,0,.pointer (some ⟨r,0,none⟩)),(c,0,.pointer (some ⟨r,0,none⟩))] (by kernel_rfl) (by simp [Holds_nil,Holds_cons,F]) ?_
    refine h.draw ?_
    clear h F
    intro w8 h
    replace h:=Zd h;have F:=Zf3 h;refine Zs ?_
    repeat ((first | refine Sep.new h ?_ | refine Sep.put 0 h rfl ?_ | refine Sep.put 1 h rfl ?_ | refine Sep.put 2 h rfl ?_ | refine Sep.put 3 h rfl ?_ | refine Sep.put 4 h rfl ?_ | refine Sep.put 5 h rfl ?_ | refine Sep.rdNum 1 h rfl ?_ | refine Sep.rdRaw 1 h rfl ?_ | refine Sep.put 6 h rfl ?_);(clear F;(try clear h);intros;rename_i h;replace h:=Zd h;have F:=Zf3 h;refine Zc1 (@T3.cells.eq_1) ?_))
    refine Sep.appCh 4 7 8 h rfl rfl rfl (by omega) ?_
    clear h F
    intro a7 c7 w9 h
    replace h:=Zd h;have F:=Zf3 h;refine Zs1 en ?_
    refine ⟨_,?_,n,sCh t,out ++ [rCh t],a7,c7,rfl,rfl,(((h.erase 8).erase 7).erase 6).erase 5,sCh_byt hbt,hit2,by simp;omega⟩
    omega
structure MapV where
  w : Int
  h : Int
  te : Int
  wi : Int
  mr : Int
  mb : Int
  ti : Int
  p : List (List Int)
  wa : List (List Int)
  pa : List (List Int)
  re : List (List Int)
  ca : List (List Int)
  is : List (List Int)
  co : List (List Int)
  ch : List Ch
structure MapS where
  p : Value
  wa : Value
  pa : Value
  re : Value
  ca : Value
  is : Value
  co : Value
  ch : Value
def MapV.cells (m : MapV) (s : MapS) : List Value:=[.int .i64 m.w,.int .i64 m.h,.int .i64 m.te,.int .i64 m.wi,.int .i64 m.mr,.int .i64 m.mb,.int .i64 m.ti,s.p,s.wa,s.pa,s.re,s.ca,s.is,s.co,s.ch]
structure MapR (w : World) (m : MapV) (s : MapS) : Prop where
  p : Tab 2 w s.p m.p
  wa : Tab 5 w s.wa m.wa
  pa : Tab 2 w s.pa m.pa
  re : Tab 10 w s.re m.re
  ca : Tab 9 w s.ca m.ca
  is : Tab 3 w s.is m.is
  co : Tab 3 w s.co m.co
  ch : Chn w s.ch m.ch
structure MapV.Ok (m : MapV) : Prop where
  ns : Ok64 [m.w,m.h,m.te,m.wi,m.mr,m.mb,m.ti]
  p : ∀ x ∈ m.p,Ok64 x
  wa : ∀ x ∈ m.wa,Ok64 x
  pa : ∀ x ∈ m.pa,Ok64 x
  re : ∀ x ∈ m.re,Ok64 x
  ca : ∀ x ∈ m.ca,Ok64 x
  is : ∀ x ∈ m.is,Ok64 x
  co : ∀ x ∈ m.co,Ok64 x
  ch : ∀ x ∈ m.ch,-9223372036854775808≤x.t∧x.t≤9223372036854775807
def MapV.room (m : MapV) : Nat:=120 + m.p.length * 16 + m.wa.length * 40 + m.pa.length * 16 + m.re.length * 80 + m.ca.length * 72 + m.is.length * 24 + m.co.length * 24 + roomC m.ch
def MapV.nums (m : MapV) : W8:=(((((((⟨[],false⟩ : W8).num m.w 3).num m.h 3).num m.te 1).num m.wi 2).num m.mr 2).num m.mb 2).num m.ti 4
def MapV.enc (m : MapV) : W8:=encC (encL wCo (encL wIs (encL wCa (encL wRe (encL wPa (encL wW (encL wP m.nums m.p) m.wa) m.pa) m.re) m.ca) m.is) m.co) m.ch
def MapV.fails (m : MapV) : Bool:=m.re.any badRe || (m.enc.bad || decide ((1048576 : Int) < m.enc.l.length))
def MapV.bytes (m : MapV) : List Int:=if m.fails then [] else m.enc.l
theorem Sep.bytNone {w0 w : World} {S : Nat→Prop} {M : List Res} (h : Sep w0 S M w) : Sep w0 S (M ++ [byt (.slice none 0 0) []]) w:=
  h.push (Chg.refl _ _) (A:=fun _=>False) ⟨Own.nil _,by funext x;simp [Value.ownBlock]⟩ (fun _ f=>f.elim) (fun _ f=>f.elim)
theorem Sep.none {w0 w : World} {S : Nat→Prop} {M : List Res} (h : Sep w0 S M w) : Sep w0 S [] w:=⟨h.chg,trivial,fun _ h=>by cases h⟩
theorem encode58 (m : MapV) (s : MapS) (w : World) (R : MapR w m s) (O : m.Ok) (hroom : m.room ≤ 800000) :
    Calls Tryz.prog 7 [.agg (m.cells s).toArray].toArray w (RetK fun r w'=>∃ N,Sep w (fun _=>False) N w'∧(∀ q ∈ N,∀ x,¬ q.rd x)∧
      ∃ a c,r = .tuple #[.slice a m.bytes.length c,.int .i64 (if m.fails then 2 else 0)]∧N = [byt (.slice a m.bytes.length c) m.bytes]):=by
  unfold MapV.room at hroom
  have ons:=O.ns
  simp only [Ok64,List.forall_mem_cons,List.not_mem_nil,false_implies,implies_true,and_true] at ons
  have h:=Sep.nil w
  refine walk Tryz.func7 rfl (by kernel_rfl) (by rw [Tryz.nt7];simp) ?_
  replace h:=Zd h;have F:=Zf2 h
  refine Zv ?_
  refine h.new ?_
  clear h F
  intro w1 b1 h
  simp only [MapV.cells] at h
  replace h:=Zd h;have F:=Zf2 h;refine Zs ?_
  refine Sep.callp h (anyBad s.re m.re w1 (R.re.sep h fun _ _=>id)) ?_
  clear h F
  intro w2 h
  have fin : ∀ {w' : World} {M : List Res}, m.fails = true → Sep w (fun _ => False) M w' → ∃ N, Sep w (fun _ => False) N w' ∧ (∀ q ∈ N, ∀ x, ¬ q.rd x) ∧
      ∃ a c,Value.tuple #[.slice none 0 0,.int .i64 2] = .tuple #[.slice a m.bytes.length c,.int .i64 (if m.fails then 2 else 0)]∧N = [byt (.slice a m.bytes.length c) m.bytes]:=fun hf h=>by
    have e1 : m.bytes = []:=by simp [MapV.bytes,hf]
    rw [e1,hf]
    exact ⟨_,h.none.bytNone,(fun q hq x hx=>by simp at hq;subst hq;exact hx),none,0,rfl,rfl⟩
  cases hbad : m.re.any badRe with
  | true=>
    replace h:=Zd h;have F:=Zf2 h;refine Zs1 hbad ?_
    exact fin (by simp [MapV.fails,hbad]) h
  | false=>
  replace h:=Zd h;have F:=Zf2 h;refine Zs1 hbad ?_
  refine h.new ?_
  clear h F
  intro w3 p h
  have h:=h.wrNew 1 rfl (by decide)
  replace h:=Zd h;have F:=Zf2 h;refine Zs ?_
  refine h.new ?_
  clear h F
  intro w4 c h
  replace h:=Zd h;have F:=Zf2 h;refine Zs ?_
  refine Sep.put 2 h rfl ?_
  clear h F
  intro w5 h
  replace h:=Zd h;have F:=Zf2 h;refine Zs ?_
  refine walkDraw (.q 1 (.q 4 (.q 7 (.q 10 (.q 13 (.q 16 (.q 19 (.h 0 0 (.h 2 1 (.h 5 2 (.h 8 3 (.h 11 4 (.h 14 5 (.h 17 6 (.h 20 7 (.l 3 (.l 6 (.l 9 (.l 12 (.l 15 (.l 18 (.l 21 .fin)))))))))))))))))))))) [(c,0,.pointer (some ⟨p,0,none⟩)),(b1,0,.int .i64 m.w),(b1,1,.int .i64 m.h),(b1,2,.int .i64 m.te),(b1,3,.int .i64 m.wi),(b1,4,.int .i64 m.mr),(b1,5,.int .i64 m.mb),(b1,6,.int .i64 m.ti)] (by kernel_rfl) (by simp [Holds_nil,Holds_cons,F]) ?_
  refine h.draw ?_
  clear h F
  intro w6 h
  replace h:=Zd h;have F:=Zf2 h;refine Zs ?_
  repeat ((first | refine Sep.new h ?_ | refine Sep.put 0 h rfl ?_ | refine Sep.put 1 h rfl ?_ | refine Sep.put 2 h rfl ?_ | refine Sep.put 3 h rfl ?_ | refine Sep.put 4 h rfl ?_ | refine Sep.put 5 h rfl ?_ | refine Sep.num 1 h rfl (by omega) (by omega) (by omega) ?_ | refine listP h R.p O.p (by omega) ?_ | refine listW h R.wa O.wa (by omega) ?_ | refine listPa h R.pa O.pa (by omega) ?_ | refine listRe h R.re O.re (by omega) ?_ | refine listCa h R.ca O.ca (by omega) ?_ | refine listIs h R.is O.is (by omega) ?_ | refine listCo h R.co O.co (by omega) ?_ | refine listCh h R.ch O.ch (by omega) ?_);(clear F;(try clear h);intros;rename_i h;replace h:=Zd h;have F:=Zf2 h;refine Zs ?_))
  refine Sep.bytes 1 h rfl (by omega) ?_
  clear h F
  intro a c7 w7 h
  generalize hE : encC _ m.ch = E at *
  have hE : m.enc = E:=hE
  cases hb : E.bad with
  | true=>
    rw [hb] at h
    replace h:=Zd h;have F:=Zf2 h;refine Zs1 hb ?_
    exact fin (by simp [MapV.fails,hE,hb]) h
  | false=>
  rw [hb] at h
  simp only [Bool.false_eq_true,if_false] at h
  by_cases hlen : (1048576 : Int) < E.l.length
  · replace h:=Zd h;have F:=Zf2 h;refine Zs1 (J hb (decide_eq_true hlen)) ?_
    exact fin (by simp [MapV.fails,hE,hb,hlen]) h
  · replace h:=Zd h;have F:=Zf2 h;refine Zs1 (J hb (decide_eq_false hlen)) ?_
    have hf : m.fails = false:=by simp only [MapV.fails,hE,hb,hbad,decide_eq_false hlen,Bool.or_self]
    have e1 : m.bytes = E.l:=by simp [MapV.bytes,hf,hE]
    rw [e1,hf]
    exact ⟨_,((h.erase 0).erase 0).erase 0,(fun q hq x hx=>by simp at hq;subst hq;exact hx),_,_,rfl,rfl⟩
end Go.Proofs.YtnhgjgoglmadnaaGreat
