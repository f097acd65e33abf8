/- Joined texts of this claim (part 2), printed by a program of this work. The last part holds the claimed theorem: the law answers true at every input of its row. -/
import Derived.Deep.RegionLaw
import Derived.Test.YtnhgjgoglmadnaaGreatSPFieldsa
set_option maxHeartbeats 4000000
namespace Go.Proofs.YtnhgjgoglmadnaaGreat
open Go.RowKit
def ptrK (v : Value) (K : Nat→Nat→Prop) (_t : Tg K:=.mk) : Prop:=match v with | .pointer (some ⟨b,o,none⟩)=>K b o | _=>False
def intK (v : Value) (K : IntKind→Int→Prop) (_t : Tg K:=.mk) : Prop:=match v with | .int k n=>K k n | _=>False
def sliceK (v : Value) (K : Option Addr→Nat→Nat→Prop) (_t : Tg K:=.mk) : Prop:=match v with | .slice a n c=>K a n c | _=>False
def aggK (v : Value) (K : List Value→Prop) (_t : Tg K:=.mk) : Prop:=match v with | .agg cs=>K cs.toList | _=>False
def tupK (v : Value) (K : List Value→Prop) (_t : Tg K:=.mk) : Prop:=match v with | .tuple cs=>K cs.toList | _=>False
theorem ptrK_mk (b o : Nat) (K : Nat→Nat→Prop) : ptrK (.pointer (some ⟨b,o,none⟩)) K = K b o:=(rfl)
theorem intK_mk (k : IntKind) (n : Int) (K : IntKind→Int→Prop) : intK (.int k n) K = K k n:=(rfl)
theorem sliceK_mk (a : Option Addr) (n c : Nat) (K : Option Addr→Nat→Nat→Prop) : sliceK (.slice a n c) K = K a n c:=(rfl)
theorem tupK_mk (l : List Value) (K : List Value→Prop) : tupK (.tuple l.toArray) K = K l:=by simp [tupK]
theorem ptrK_elim {v : Value} {K : Nat→Nat→Prop} (h : ptrK v K) : ∃ b o,v = .pointer (some ⟨b,o,none⟩)∧K b o:=by
  unfold ptrK at h;split at h
  · exact ⟨_,_,rfl,h⟩
  · exact h.elim
theorem intK_elim {v : Value} {K : IntKind→Int→Prop} (h : intK v K) : ∃ k n,v = .int k n∧K k n:=by
  unfold intK at h;split at h
  · exact ⟨_,_,rfl,h⟩
  · exact h.elim
theorem sliceK_elim {v : Value} {K : Option Addr→Nat→Nat→Prop} (h : sliceK v K) : ∃ a n c,v = .slice a n c∧K a n c:=by
  unfold sliceK at h;split at h
  · exact ⟨_,_,_,rfl,h⟩
  · exact h.elim
theorem aggK_elim {v : Value} {K : List Value→Prop} (h : aggK v K) : ∃ cs : Array Value,v = .agg cs∧K cs.toList:=by
  unfold aggK at h;split at h
  · exact ⟨_,rfl,h⟩
  · exact h.elim
theorem tupK_elim {v : Value} {K : List Value→Prop} (h : tupK v K) : ∃ cs : Array Value,v = .tuple cs∧K cs.toList:=by
  unfold tupK at h;split at h
  · exact ⟨_,rfl,h⟩
  · exact h.elim
def cutA (a : Option Addr) (c l sz : Nat) : Option Addr:=if c = l then a else a.map (·.add (l * sz))
def nchkK (v : Value) (K : Value→Prop) (_t : Tg K:=.mk) : Prop:=match v with | .pointer (some a)=>K (.pointer (some a)) | .func (.func f) x y=>K (.func (.func f) x y) | _=>False
def unK (op : UnOp) (v : Value) (K : Value→Prop) (_t : Tg K:=.mk) : Prop:=
  match op,v with
  | .not,.bool b=>valK (.bool (!b)) K
  | .neg,.int k n=>valK (.int k (k.wrap (0 - n))) K
  | .xor,.int k n=>valK (.int k (k.wrap (BitVec.ofInt k.bits (if k.signed = true then -1 else k.max) ^^^ BitVec.ofInt k.bits n).toNat)) K
  | _,_=>False
def bndK (x : Option Value) (dflt : Nat) (most : Nat) (K : Nat→Prop) (_t : Tg K:=.mk) : Prop:=
  match x with
  | none=>K dflt
  | some v=>intK v fun _ i=>(0≤i∧i≤most)∧K i.toNat
def evo (E : Env) : Option Operand→Option (Option Value)
  | none=>some none
  | some x=>(ev E x).map some
def allSizes : List (Nat×Option Nat×Option Bool)→Option (List (Nat×Nat))
  | []=>some []
  | f :: r=>f.2.1.bind fun s=>(allSizes r).map fun l=>(f.1,s) :: l
def places (T : TI) : Option (Nat→Option (Nat×Nat)):=
  match T.lay,T.arr with
  | some lay,_=>(allSizes lay).map fun l i=>l[i]?
  | none,some (_,sz,_)=>sz.map fun s i=>some (i * s,s)
  | _,_=>none
def idxK (s : Option (TypeId×Option Nat)) (r : Option (Nat×Option Nat×Bool)) (A : Nat→Prop) (B : Nat→Nat→Prop) (_t : Tg (A,B):=.mk) : Prop:=
  match s,r with
  | some (_,sz),_=>okK sz A
  | none,some (n,sz,_)=>okK sz (B n)
  | none,none=>False
theorem idxK_elim {s : Option (TypeId × Option Nat)} {r : Option (Nat × Option Nat × Bool)} {A : Nat → Prop} {B : Nat → Nat → Prop} (h : idxK s r A B) :
    (∃ e sz,s = some (e,some sz)∧A sz)∨∃ n sz g,r = some (n,some sz,g)∧s = none∧B n sz:=by
  cases s with
  | some p=>
    obtain ⟨e,sz⟩ :=p
    obtain ⟨v,rfl,h⟩ :=okK_elim (show okK sz A from h)
    exact .inl ⟨_,_,rfl,h⟩
  | none=>
    cases r with
    | none=>exact h.elim
    | some p=>
      obtain ⟨n,sz,g⟩ :=p
      obtain ⟨v,rfl,h⟩ :=okK_elim (show okK sz (B n) from h)
      exact .inr ⟨_,_,_,rfl,rfl,h⟩
def pureK (P : Program) (o : Op) (E : Env) (K : Value→Prop) : Prop:=
  match o with
  | .move x | .assign x=>okK (ev E x) fun v=>valK v K
  | .pick c x y=>okK (ev E c) fun c=>okK (ev E x) fun x=>okK (ev E y) fun y=>boolK c fun b=>valK (bif b then x else y) K
  | .nilCheck x=>okK (ev E x) fun v=>nchkK v K
  | .binOp op t x y _=>okK (ev E x) fun a=>okK (ev E y) fun b=>valK (a,b) fun p=>binK P op t x y p.1 p.2 K
  | .unOp op _ x=>okK (ev E x) fun a=>unK op a K
  | .convert s d x=>okK (ev E x) fun a=>okK (if (tinfo P s).known = true then some () else none) fun _=>okK (tinfo P d).int fun k=>intK a fun _ n=>valK (.int k (k.wrap n)) K
  | .build t parts=>okK (evs E (parts.toList.map (·.2))) fun vs=>okK (tinfo P t).zero fun z=>okK (places (tinfo P t)) fun pl=>okK (fillL pl z.cells.toList ((parts.toList.map (·.1)).zip vs)) fun cs=>K (.agg cs.toArray)
  | .fieldAddr s x f=>okK (ev E x) fun a=>okK (((tinfo P s).lay.bind (·[f]?)).bind fun p=>p.2.1.bind fun sz=>if sz = 0 then none else some p.1) fun off=>ptrK a fun b o=>valK (.pointer (some ⟨b,o + off,none⟩)) K
  | .field t x f => okK (ev E x) fun a => okK ((tinfo P t).lay.bind (·[f]?)) fun p => okK p.2.1 fun sz => aggK a fun cs =>
      okK p.2.2 fun ag=>if ag = true then valK (.agg ((cs.drop p.1).take sz).toArray) K else okK cs[p.1]? K
  | .indexAddr t x i => okK (ev E x) fun a => okK (ev E i) fun i => intK i fun _ i => idxK (tinfo P t).sl (tinfo P t).arr
      (fun sz=>sliceK a fun ad n _=>(0≤i∧i < n)∧ptrK (.pointer ad) fun b o=>valK (.pointer (some ⟨b,o + i.toNat * sz,none⟩)) K)
      (fun n sz=>ptrK a fun b o=>(0≤i∧i < n)∧valK (.pointer (some ⟨b,o + i.toNat * sz,none⟩)) K)
  | .slice t x lo hi none => okK (ev E x) fun a => okK (evo E lo) fun lo => okK (evo E hi) fun hi => okK (tinfo P t).sl fun e => okK e.2 fun sz =>
      sliceK a fun ad n c=>bndK hi n c fun h=>bndK lo 0 h fun l=>valK (.slice (cutA ad c l sz) (h - l) (c - l)) K
  | .extract x i=>okK (ev E x) fun v=>tupK v fun vs=>okK vs[i]? K
  | .makeFunc fn first captured=>okK (evs E first.toList) fun a=>okK (evs E captured.toList) fun b=>K (.func fn a.toArray b.toArray)
  | .call c => (match c.callee, c.args.toList, c.argTypes.toList with
      | .builtin .len, [x], [t] => okK (ev E x) fun v => (match (tinfo P t).slc, (tinfo P t).str with
          | true,_=>sliceK v fun _ n _=>valK (.int .i64 n) K
          | _,true=>(match v with | .string s=>valK (.int .i64 s.size) K | _=>False)
          | _,_=>False)
      | .builtin .min,[x,y],_=>okK (ev E x) fun a=>okK (ev E y) fun b=>intK a fun k n=>intK b fun _ m=>valK (.int k (if m < n then m else n)) K
      | .builtin .max,[x,y],_=>okK (ev E x) fun a=>okK (ev E y) fun b=>intK a fun k n=>intK b fun _ m=>valK (.int k (if n < m then m else n)) K
      | .builtin .max,[x,y,z],_=>okK (ev E x) fun a=>okK (ev E y) fun b=>okK (ev E z) fun c=>intK a fun k n=>intK b fun _ m=>intK c fun _ o=>valK (.int k (if (if n < m then m else n) < o then o else if n < m then m else n)) K
      | .builtin .min,[x,y,z],_=>okK (ev E x) fun a=>okK (ev E y) fun b=>okK (ev E z) fun c=>intK a fun k n=>intK b fun _ m=>intK c fun _ o=>valK (.int k (if o < (if m < n then m else n) then o else if m < n then m else n)) K
      | .builtin .max,[x,y,z,t],_=>okK (ev E x) fun a=>okK (ev E y) fun b=>okK (ev E z) fun c=>okK (ev E t) fun d=>intK a fun k n=>intK b fun _ m=>intK c fun _ o=>intK d fun _ p=>valK (.int k (if (if (if n < m then m else n) < o then o else if n < m then m else n) < p then p else if (if n < m then m else n) < o then o else if n < m then m else n)) K
      | _,_,_=>False)
  | _=>False
theorem evo_some {E : Env} {x : Option Operand} {v : Option Value} (h : evo E x = some v) (a : Act) (n : Nat) (hA : Agree n E a) : x.map a.eval = v:=by
  cases x with
  | none=>simp [evo] at h;simp [h]
  | some x=>
    simp only [evo,Option.map_eq_some_iff] at h
    obtain ⟨u,hu,rfl⟩ :=h
    simp [hA.ev hu]
theorem add_off (b o k : Nat) : (⟨b,o,none⟩ : Addr).add k = ⟨b,o + k,none⟩ :=by
  unfold Addr.add;split<;>simp_all
theorem und_of_str {P : Program} {t : TypeId} {fs : Array Field} (h : strT (P.underlying t) = some fs) : P.underlying t = some (.struct fs):=by
  cases hu : P.underlying t with
  | none=>simp [strT,hu] at h
  | some d=>cases d<;>simp [strT,hu] at h;simp [h]
theorem und_of_slc {P : Program} {t e : TypeId} (h : slcT (P.underlying t) = some e) : P.underlying t = some (.slice e):=by
  cases hu : P.underlying t with
  | none=>simp [slcT,hu] at h
  | some d=>cases d<;>simp [slcT,hu] at h;simp [h]
theorem und_of_arr {P : Program} {t e : TypeId} {n : Nat} (h : arrT (P.underlying t) = some (n,e)) : P.underlying t = some (.array n e):=by
  cases hu : P.underlying t with
  | none=>simp [arrT,hu] at h
  | some d=>cases d<;>simp [arrT,hu] at h;simp [h]
theorem und_of_int {P : Program} {t : TypeId} {k : IntKind} (h : intT (P.underlying t) = some k) : P.underlying t = some (.int k):=by
  cases hu : P.underlying t with
  | none=>simp [intT,hu] at h
  | some d=>cases d<;>simp [intT,hu] at h;simp [h]
theorem und_of_strg {P : Program} {t : TypeId} (h : isStr (P.underlying t) = true) : P.underlying t = some .string:=by
  cases hu : P.underlying t with
  | none=>simp [isStr,hu] at h
  | some d=>cases d<;>simp [isStr,hu] at h;rfl
theorem isAgg_run {P : Program} {t : TypeId} {d : TypeDesc} (hd : P.underlying t = some d) (w : World) : (isAgg t).run P w = .ok (isAggT (P.underlying t)) w:=by
  simp only [isAgg,Sem.run_bind,run_underlying_of hd,Result.andThen_ok,hd]
  cases d<;>simp [isAggT]
def Pure (P : Program) (ρ : Operand→Value) (o : Oper) (v : Value) : Prop:=∀ w,(execOp ρ o).run P w = .ok (.value v) w
theorem bnd_run {x : Option Value} {d m : Nat} {K : Nat→Prop} (h : bndK x d m K) : ∃ l,K l∧((x = none∧l = d)∨∃ k i,x = some (.int k i)∧0≤i∧i≤m∧l = i.toNat):=by
  cases x with
  | none=>exact ⟨d,h,.inl ⟨rfl,rfl⟩⟩
  | some v=>
    obtain ⟨k,i,rfl,h1,h2⟩ :=intK_elim h
    exact ⟨_,h2,.inr ⟨k,i,rfl,h1.1,h1.2,rfl⟩⟩
theorem sliceBounds_run {P : Program} {lo hi : Option Value} {n c h l : Nat} (hh : (hi = none ∧ h = n) ∨ ∃ k i, hi = some (.int k i) ∧ 0 ≤ i ∧ i ≤ c ∧ h = i.toNat)
    (hl : (lo = none∧l = 0)∨∃ k i,lo = some (.int k i)∧0≤i∧i≤h∧l = i.toNat) (w : World) : (Instr.sliceBounds true n c lo hi none).run P w = .ok (l,h,c) w:=by
  rcases hh with ⟨rfl,rfl⟩ | ⟨k,i,rfl,h0,h1,rfl⟩ <;>rcases hl with ⟨rfl,rfl⟩ | ⟨k',i',rfl,h0',h1',rfl⟩ <;>
    simp [Instr.sliceBounds,Instr.sliceBound,asIntOf, *]
  intro hc;exfalso;omega
theorem allSizes_some {P : Program} : ∀ {fs : List Field} {l : List (Nat × Nat)}, allSizes (fs.map fun f => (f.offset, tsize P f.type, (P.underlying f.type).map fun d => isAggT (some d))) = some l →
    fs.mapM (fun f=>(P.info? f.type).map fun i=>(f.offset,i.size)) = some l
  | [],l,h=>by simp [allSizes] at h;simp [h]
  | f :: fs,l,h=>by
    simp only [List.map_cons,allSizes,Option.bind_eq_some_iff,Option.map_eq_some_iff] at h
    obtain ⟨s,hs,l',hl,rfl⟩ :=h
    have ih:=allSizes_some (P:=P) hl
    obtain ⟨i,hi,rfl⟩ :=Option.map_eq_some_iff.1 hs
    simp [List.mapM_cons,hi,ih]
theorem built_of {P : Program} {t : TypeId} {z : Value} {pl : Nat → Option (Nat × Nat)} {ps : List (Nat × Value)} {cs : List Value} (hz : (tinfo P t).zero = some z) (hl : places (tinfo P t) = some pl) (hc : fillL pl z.cells.toList ps = some cs) :
    P.built t ps = some cs.toArray:=by
  obtain ⟨i,hi,hz'⟩ :=Option.bind_eq_some_iff.1 hz
  have hf:=fill_of pl ps z.cells cs hc
  unfold places at hl
  split at hl
  · rename_i lay hlay
    obtain ⟨l,hls,rfl⟩ :=Option.map_eq_some_iff.1 hl
    simp only [tinfo,Option.map_eq_some_iff] at hlay
    obtain ⟨fs,hfs,rfl⟩ :=hlay
    have hu:=und_of_str hfs
    have hm:=allSizes_some (P:=P) hls
    simp only [Program.built,hi,hu,hz',hm]
    simpa using hf
  · rename_i n sz ag hlay harr
    obtain ⟨s,rfl,rfl⟩ :=Option.map_eq_some_iff.1 hl
    simp only [tinfo,Option.map_eq_some_iff,Prod.mk.injEq] at harr
    obtain ⟨⟨n',e⟩,ha,rfl,hs,_⟩ :=harr
    have hu:=und_of_arr ha
    obtain ⟨i',hi',hs'⟩ :=Option.map_eq_some_iff.1 hs
    simp only [Program.built,hi,hu,hz',hi',hs']
    exact hf
  · cases hl
theorem pureK_sound {P : Program} {n : Nat} {E : Env} {a : Act} (hA : Agree n E a) {o : Oper} {K : Value→Prop} (h : pureK P o.op E K) : ∃ v,Pure P a.eval o v∧K v:=by
  unfold pureK at h
  split at h
  case h_1 x hop=>
    obtain ⟨v,hv,hK⟩ :=okK_elim h
    exact ⟨v,fun w=>by simp [execOp,hop,hA.ev hv],hK⟩
  case h_2 x hop=>
    obtain ⟨v,hv,hK⟩ :=okK_elim h
    exact ⟨v,fun w=>by simp [execOp,hop,hA.ev hv],hK⟩
  case h_3 c x y hop=>
    obtain ⟨c',hc,h⟩ :=okK_elim h
    obtain ⟨x',hx,h⟩ :=okK_elim h
    obtain ⟨y',hy,h⟩ :=okK_elim h
    obtain ⟨b,rfl,h⟩ :=boolK_elim h
    exact ⟨_,fun w=>by cases b<;>simp [execOp,hop,hA.ev hc,hA.ev hx,hA.ev hy,asBool],h⟩
  case h_4 x hop=>
    obtain ⟨v,hv,h⟩ :=okK_elim h
    unfold nchkK at h
    split at h
    · exact ⟨_,fun w=>by simp [execOp,hop,hA.ev hv],h⟩
    · exact ⟨_,fun w=>by simp [execOp,hop,hA.ev hv],h⟩
    · exact h.elim
  case h_5 op t x y yt hop=>
    obtain ⟨x',hx,h⟩ :=okK_elim h
    obtain ⟨y',hy,h⟩ :=okK_elim h
    obtain ⟨v,hv,hK⟩ :=binK_sound P op t x y x' y' K h
    refine ⟨v,fun w=>?_,hK⟩
    have:=hv w
    simp only [Sem.run_bind] at this
    simp only [execOp,hop,hA.ev hx,hA.ev hy,Sem.run_bind]
    cases hg : Sem.run P (eqGuard op t x y x' y') w with
    | ok u w'=>
      simp only [hg,Result.andThen_ok] at this ⊢
      simp only [this,Result.andThen_ok,Sem.run_pure]
    | halt u w'=>simp [hg,Result.andThen] at this
  case h_6 op t x hop=>
    obtain ⟨v,hv,h⟩ :=okK_elim h
    unfold unK at h
    split at h
    · exact ⟨_,fun w=>by simp [execOp,hop,hA.ev hv,Op.unary],h⟩
    · exact ⟨.int _ (IntKind.wrap _ (0 - _)),fun w=>by simp [execOp,hop,hA.ev hv,Op.unary,Op.intArith],h⟩
    · exact ⟨_,fun w=>by simp [execOp,hop,hA.ev hv,Op.unary,Op.intBits],h⟩
    · exact h.elim
  case h_7 s d x hop=>
    obtain ⟨v,hv,h⟩ :=okK_elim h
    obtain ⟨_,hu0,h⟩ :=okK_elim h
    have hkn : (P.underlying s).isSome = true:=by
      split at hu0
      · assumption
      · cases hu0
    obtain ⟨u,hu⟩ :=Option.isSome_iff_exists.1 hkn
    obtain ⟨k,hk,h⟩ :=okK_elim h
    obtain ⟨k',i,rfl,h⟩ :=intK_elim h
    have hd:=und_of_int hk
    exact ⟨_,fun w=>by simp [execOp,hop,hA.ev hv,convert,run_underlying_of hu,run_underlying_of hd,Conv.intToInt],h⟩
  case h_8 t parts hop=>
    obtain ⟨vs,hv,h⟩ :=okK_elim h
    obtain ⟨z,hz,h⟩ :=okK_elim h
    obtain ⟨pl,hl,h⟩ :=okK_elim h
    obtain ⟨cs,hc,h⟩ :=okK_elim h
    refine ⟨_,fun w=>?_,h⟩
    have e : (parts.map fun (x : Nat×Operand)=>(x.1,a.eval x.2)).toList = (parts.toList.map (·.1)).zip vs:=by
      rw [← hA.evs hv]
      simp [List.zip_map',List.map_map]
    have hb:=built_of hz hl hc
    rw [← e] at hb
    have:=run_build (P:=P) w t _ cs.toArray hb
    simp only [execOp,hop,Sem.run_bind,this,Result.andThen_ok,Sem.run_pure]
  case h_9 s x f hop=>
    obtain ⟨v,hv,h⟩ :=okK_elim h
    obtain ⟨off,ho,h⟩ :=okK_elim h
    obtain ⟨b,o',rfl,h⟩ :=ptrK_elim h
    refine ⟨_,fun w=>?_,h⟩
    simp only [Option.bind_eq_some_iff] at ho
    obtain ⟨p,⟨lay,hl,hp⟩,sz,hs,h0⟩ :=ho
    simp only [tinfo,Option.map_eq_some_iff] at hl
    obtain ⟨fs,hfs,rfl⟩ :=hl
    have hu:=und_of_str hfs
    simp only [List.getElem?_map,Option.map_eq_some_iff] at hp
    obtain ⟨fd,hfd,rfl⟩ :=hp
    have hfd' : fs[f]? = some fd:=by simpa using hfd
    split at h0
    · cases h0
    · injection h0 with h0
      rename_i hne
      subst h0
      simp [execOp,hop,hA.ev hv,Instr.fieldAt,run_underlying_of hu,hfd',Instr.sureAddr,fieldPlace,tsize_run hs,hne,add_off]
  case h_10 t x f hop=>
    obtain ⟨v,hv,h⟩ :=okK_elim h
    obtain ⟨p,hp,h⟩ :=okK_elim h
    obtain ⟨sz,hsz,h⟩ :=okK_elim h
    obtain ⟨cs,rfl,h⟩ :=aggK_elim h
    simp only [Option.bind_eq_some_iff] at hp
    obtain ⟨lay,hl,hp⟩ :=hp
    simp only [tinfo,Option.map_eq_some_iff] at hl
    obtain ⟨fs,hfs,rfl⟩ :=hl
    have hu:=und_of_str hfs
    simp only [List.getElem?_map,Option.map_eq_some_iff] at hp
    obtain ⟨fd,hfd,rfl⟩ :=hp
    have hfd' : fs[f]? = some fd:=by simpa using hfd
    dsimp only at h hsz
    obtain ⟨ag,hag,h⟩ :=okK_elim h
    obtain ⟨d,hud,rfl⟩ :=Option.map_eq_some_iff.1 hag
    have hisa:=fun w=>isAgg_run (P:=P) hud w
    rw [hud] at hisa
    split at h
    · rename_i hagg
      refine ⟨_,fun w=>?_,h⟩
      simp [execOp,hop,hA.ev hv,Instr.field,run_underlying_of hu,hfd',asAgg,part,hisa,hagg,tsize_run hsz]
      apply Array.ext';simp
    · rename_i hagg
      obtain ⟨u,hu',h⟩ :=okK_elim h
      refine ⟨u,fun w=>?_,h⟩
      have hu2 : cs[fd.offset]? = some u:=by simpa using hu'
      simp [execOp,hop,hA.ev hv,Instr.field,run_underlying_of hu,hfd',asAgg,part,hisa,hagg,hu2]
  case h_11 t x i hop=>
    obtain ⟨v,hv,h⟩ :=okK_elim h
    obtain ⟨u,hu,h⟩ :=okK_elim h
    obtain ⟨k,i',rfl,h⟩ :=intK_elim h
    rcases idxK_elim h with ⟨e,s,hsl,h⟩ | ⟨m,s,ag,harr,hsl,h⟩
    · obtain ⟨ad,m,c,rfl,hb,h⟩ :=sliceK_elim h
      obtain ⟨b,o',hp,hfin⟩ :=ptrK_elim h
      injection hp with hp
      subst hp
      simp only [tinfo,Option.map_eq_some_iff,Prod.mk.injEq] at hsl
      obtain ⟨e',he,rfl,hs⟩ :=hsl
      have hu2:=und_of_slc he
      exact ⟨_,fun w=>by simp [execOp,hop,hA.ev hv,hA.ev hu,Instr.indexAt,asIntOf,run_underlying_of hu2,hb.1,hb.2,tsize_run hs,add_off],hfin⟩
    · obtain ⟨b,o',rfl,hb,hfin⟩ :=ptrK_elim h
      simp only [tinfo,Option.map_eq_some_iff,Prod.mk.injEq] at harr
      obtain ⟨⟨n',e⟩,ha,hn',hs,_⟩ :=harr
      have hu2:=und_of_arr ha
      dsimp only at hn' hs
      subst hn'
      exact ⟨_,fun w=>by simp [execOp,hop,hA.ev hv,hA.ev hu,Instr.indexAt,asIntOf,run_underlying_of hu2,Instr.sureAddr,hb.1,hb.2,tsize_run hs,add_off],hfin⟩
  case h_12 t x lo hi hop=>
    obtain ⟨v,hv,h⟩ :=okK_elim h
    obtain ⟨lo',hlo,h⟩ :=okK_elim h
    obtain ⟨hi',hhi,h⟩ :=okK_elim h
    obtain ⟨⟨e,sz⟩,he,h⟩ :=okK_elim h
    obtain ⟨s,hs,h⟩ :=okK_elim h
    obtain ⟨ad,m,c,rfl,h2⟩ :=sliceK_elim h
    obtain ⟨hh,h3,hh1⟩ :=bnd_run h2
    obtain ⟨l,h4,hl1⟩ :=bnd_run h3
    simp only [tinfo,Option.map_eq_some_iff,Prod.mk.injEq] at he
    obtain ⟨e',he2,he3,he4⟩ :=he
    have hu2:=und_of_slc he2
    dsimp only at hs
    rw [← he4] at hs
    refine ⟨_,fun w=>?_,h4⟩
    have hbnd:=sliceBounds_run (P:=P) hh1 hl1 w
    simp [execOp,hop,hA.ev hv,evo_some hlo a n hA,evo_some hhi a n hA,Instr.sliceAt,Instr.slice,run_underlying_of hu2,hbnd,tsize_run hs,cutA]
  case h_13 x i hop=>
    obtain ⟨v,hv,h⟩ :=okK_elim h
    obtain ⟨vs,rfl,h⟩ :=tupK_elim h
    obtain ⟨u,hu,h⟩ :=okK_elim h
    have hu' : vs[i]? = some u:=by simpa using hu
    exact ⟨u,fun w=>by simp [execOp,hop,hA.ev hv,Instr.extract,hu'],h⟩
  case h_14 fn first captured hop=>
    obtain ⟨v,hv,h⟩ :=okK_elim h
    obtain ⟨u,hu,h⟩ :=okK_elim h
    have e1 : first.map a.eval = v.toArray:=by apply Array.ext';simp [hA.evs hv]
    have e2 : captured.map a.eval = u.toArray:=by apply Array.ext';simp [hA.evs hu]
    exact ⟨_,fun w=>by simp [execOp,hop,Instr.makeFunc,e1,e2],h⟩
  case h_15 c hop=>
    obtain ⟨callee,args,argTypes⟩ :=c
    dsimp only at h
    split at h
    · rename_i x t ha ht
      obtain rfl : args = #[x]:=by apply Array.ext';simpa using ha
      obtain rfl : argTypes = #[t]:=by apply Array.ext';simpa using ht
      obtain ⟨v,hv,h⟩ :=okK_elim h
      split at h
      · rename_i hs
        obtain ⟨ad,m,c,rfl,h⟩ :=sliceK_elim h
        obtain ⟨e,hu⟩ :=isSlc_elim (show isSlc (P.underlying t) = true from hs)
        exact ⟨_,fun w=>by simp [execOp,hop,resolve,invoke,builtin,Builtin.len_,hA.ev hv,run_underlying_of hu,goInt],h⟩
      · rename_i hs _
        have hu:=und_of_strg (show isStr (P.underlying t) = true from hs)
        split at h
        · exact ⟨_,fun w=>by simp [execOp,hop,resolve,invoke,builtin,Builtin.len_,hA.ev hv,run_underlying_of hu,goInt],h⟩
        · exact h.elim
      · exact h.elim
    · rename_i x y ha
      obtain rfl : args = #[x,y]:=by apply Array.ext';simpa using ha
      obtain ⟨v,hv,h⟩ :=okK_elim h
      obtain ⟨u,hu,h⟩ :=okK_elim h
      obtain ⟨k,i,rfl,h3⟩ :=intK_elim h
      obtain ⟨k',i',rfl,h4⟩ :=intK_elim h3
      exact ⟨_,fun w=>by simp [execOp,hop,resolve,invoke,builtin,Builtin.min_,Builtin.min2,hA.ev hv,hA.ev hu],h4⟩
    · rename_i x y ha
      obtain rfl : args = #[x,y]:=by apply Array.ext';simpa using ha
      obtain ⟨v,hv,h⟩ :=okK_elim h
      obtain ⟨u,hu,h⟩ :=okK_elim h
      obtain ⟨k,i,rfl,h3⟩ :=intK_elim h
      obtain ⟨k',i',rfl,h4⟩ :=intK_elim h3
      exact ⟨_,fun w=>by simp [execOp,hop,resolve,invoke,builtin,Builtin.max_,Builtin.max2,hA.ev hv,hA.ev hu],h4⟩
    · rename_i x y z ha
      obtain rfl : args = #[x,y,z]:=by apply Array.ext';simpa using ha
      obtain ⟨v0,hv0,h⟩ :=okK_elim h
      obtain ⟨v1,hv1,h⟩ :=okK_elim h
      obtain ⟨v2,hv2,h⟩ :=okK_elim h
      obtain ⟨k0,i0,rfl,g0⟩ :=intK_elim h
      obtain ⟨k1,i1,rfl,g1⟩ :=intK_elim g0
      obtain ⟨k2,i2,rfl,g2⟩ :=intK_elim g1
      exact ⟨_,fun w=>by simp [execOp,hop,resolve,invoke,builtin,Builtin.max_,Builtin.max2,hA.ev hv0,hA.ev hv1,hA.ev hv2],g2⟩
    · rename_i x y z ha
      obtain rfl : args = #[x,y,z]:=by apply Array.ext';simpa using ha
      obtain ⟨v0,hv0,h⟩ :=okK_elim h
      obtain ⟨v1,hv1,h⟩ :=okK_elim h
      obtain ⟨v2,hv2,h⟩ :=okK_elim h
      obtain ⟨k0,i0,rfl,g0⟩ :=intK_elim h
      obtain ⟨k1,i1,rfl,g1⟩ :=intK_elim g0
      obtain ⟨k2,i2,rfl,g2⟩ :=intK_elim g1
      exact ⟨_,fun w=>by simp [execOp,hop,resolve,invoke,builtin,Builtin.min_,Builtin.min2,hA.ev hv0,hA.ev hv1,hA.ev hv2],g2⟩
    · rename_i x y z t ha
      obtain rfl : args = #[x,y,z,t]:=by apply Array.ext';simpa using ha
      obtain ⟨v0,hv0,h⟩ :=okK_elim h
      obtain ⟨v1,hv1,h⟩ :=okK_elim h
      obtain ⟨v2,hv2,h⟩ :=okK_elim h
      obtain ⟨v3,hv3,h⟩ :=okK_elim h
      obtain ⟨k0,i0,rfl,g0⟩ :=intK_elim h
      obtain ⟨k1,i1,rfl,g1⟩ :=intK_elim g0
      obtain ⟨k2,i2,rfl,g2⟩ :=intK_elim g1
      obtain ⟨k3,i3,rfl,g3⟩ :=intK_elim g2
      exact ⟨_,fun w=>by simp [execOp,hop,resolve,invoke,builtin,Builtin.max_,Builtin.max2,hA.ev hv0,hA.ev hv1,hA.ev hv2,hA.ev hv3],g3⟩
    · exact h.elim
  case h_16=>exact h.elim
def be (n : Int) (s : Nat) : List Int:=(List.range s).map fun i=>n / 2 ^ (8 * (s - 1 - i)) % 256
theorem be_length (n : Int) (s : Nat) : (be n s).length = s:=by simp [be]
theorem be_take (n : Int) (s m : Nat) (h : m < s) : (be n s).take (m + 1) = (be n s).take m ++ [n / 2 ^ (8 * (s - 1 - m)) % 256]:=by
  rw [List.take_succ_eq_append_getElem (by simpa [be] using h)]
  simp [be]
theorem be_exp (n : Int) (s m : Nat) (h : m < s) : [IntKind.u8.wrap (n / 2 ^ (8 * ((s : Int) - 1 - m)).toNat)] = [n / 2 ^ (8 * (s - 1 - m)) % 256]:=by
  have e : (8 * ((s : Int) - 1 - m)).toNat = 8 * (s - 1 - m):=by omega
  rw [e]
  simp [IntKind.wrap,IntKind.bits,IntKind.signed]
set_option maxRecDepth 100000 in
theorem num_good (p : Nat) (v : Value) (xs : List Int) (bad : Bool) (n : Int) (s : Nat) (w : World) (hw : Wr 75 w p v xs bad) (hlen : xs.length ≤ 1000000)
   (h1 : 1≤s) (h8 : s≤8) (hn : 0≤n) (hn1 : n≤9223372036854775807) (hfit : (s : Int) < 8→n / 2 ^ (8 * (s : Int)).toNat = 0) : Calls Tryz.prog 19 #[.pointer (some ⟨p,0,none⟩),.int .i64 n,.int .i64 s] w fun e w'=>e = .returned (.pointer (some ⟨p,0,none⟩))∧∃ v',Wr 75 w' p v' (xs ++ be n s) bad∧WrStep p w v w' v':=by
  obtain ⟨i0,hi,hz0,hz1,hz2⟩ :=info_parts Tryz.info5
  have HW:=Lib.hid hw
  have HL:=Lib.hid hlen
  clear hw hlen
  go_enter Tryz.func19,Tryz.ntmps19
  go_wp2_with fail
  all_goals
    go_loopw [7] (fun i wr=>∃ m : Nat,m≤s∧i = .int .i64 ((s : Int) - 1 - m)∧∃ v' ys,ys = xs ++ (be n s).take m∧Wr 75 wr p v' ys bad∧WrStep p w v wr v') (fun i _=>(intOf i + 1).toNat)
    case atStart=>exact ⟨0,Nat.zero_le _,by simp,v,xs,by simp,HW.out,WrStep.refl _ _ _⟩
    case round=>
      obtain ⟨m,hm,rfl,v',ys,hys,hwr,hst⟩ :=hrel
      by_cases hlt : m < s
      · have h0:=hwr.c0
        have hp:=hwr.lt
        have hl : ys.length≤2000000:=by have:=HL.out;rw [hys];simp [be_length];omega
        have HY:=Lib.hid hys
        clear hys
        have hA : IntKind.i64.wrap (8 * ((s : Int) - 1 - m)) = 8 * ((s : Int) - 1 - m):=IntWalk.i64_in _ (by omega)
        have hB : (0 : Int)≤8 * ((s : Int) - 1 - m):=by omega
        go_wp2_with fail
        go_region_law (refine step_byte (wr:=wr) (t:=75) (p:=p) (v:=v') (ys:=ys) (bad:=bad) (IntKind.u8.wrap (n / 2 ^ (8 * ((s : Int) - 1 - m)).toNat)) hwr (by decide) (by omega) rfl (.tmp 45) (.tmp 51) rfl wr.heap.size (by first | exact (Chg.refl _ _).alloc _ | exact ((Chg.refl _ _).alloc _).drew | exact ((Chg.refl _ _).drew).alloc _) (by simp [Act.eval]) (by simp [Act.eval]) (by simp) ?_;intro g nn cap w1 G0 G1 G2 G3)
        all_goals
          go_wp2
          go_roundw
          case rel=>exact ⟨m + 1,by omega,by go_num,_,_,by rw [be_take n s m hlt,← List.append_assoc,← HY.out,be_exp n s m hlt],G2,hst.trans G3⟩
          case measure=>simp [intOf];omega
      · go_wp2
        go_ret
        have hms : m = s:=by omega
        refine ⟨rfl,v',?_,hst⟩
        rw [hys,hms,List.take_of_length_le (by simp [be_length])] at hwr
        exact hwr
structure New (w w1 : World) (b : Nat) (cs : List Value) (t : TypeId) : Prop where
  eq : b = w.heap.size
  blk : w1.heap[b]? = some (.cells cs.toArray t (0,0))
  chg : Chg (fun _=>False) w w1
  size : w1.heap.size = w.heap.size + 1
theorem New.mk' (w : World) (cs : Array Value) (t : TypeId) : New w (w.alloc (.cells cs t)) w.heap.size cs.toList t:=
  ⟨rfl,by simpa using heap_alloc_new w _,(Chg.refl _ _).alloc _,by simp⟩
structure Put (w w1 : World) (b : Nat) (cs : List Value) (t : TypeId) : Prop where
  blk : w1.heap[b]? = some (.cells cs.toArray t (0,0))
  chg : Chg (fun k=>k = b) w w1
  size : w1.heap.size = w.heap.size
def blkOf (w : World) (b : Nat) : Option (List Value×TypeId):=match w.heap[b]? with | some (.cells cs t (0,0))=>some (cs.toList,t) | _=>none
theorem blkOf_of {w : World} {b : Nat} {cs : Array Value} {t : TypeId} (h : w.heap[b]? = some (.cells cs t (0,0))) : blkOf w b = some (cs.toList,t):=by simp [blkOf,h]
theorem blkOf_elim {w : World} {b : Nat} {p : List Value×TypeId} (h : blkOf w b = some p) : w.heap[b]? = some (.cells p.1.toArray p.2 (0,0)):=by
  unfold blkOf at h
  split at h
  · rename_i cs t hb
    injection h with h
    subst h
    simpa using hb
  · cases h
def cellsAt (w : World) (b : Nat) : Nat→Nat→Option (List Value)
  | _,0=>some []
  | o,n + 1=>(w.cell? ⟨b,o,none⟩).bind fun v=>(cellsAt w b (o + 1) n).map fun vs=>v :: vs
theorem cellsAt_elim {w : World} {b : Nat} : ∀ {o n : Nat} {cs : List Value},cellsAt w b o n = some cs→cs.length = n∧∀ j v,cs[j]? = some v→w.cell? ⟨b,o + j,none⟩ = some v
  | o,0,cs,h=>by simp [cellsAt] at h;subst h;simp
  | o,n + 1,cs,h=>by
    simp only [cellsAt,Option.bind_eq_some_iff,Option.map_eq_some_iff] at h
    obtain ⟨v,hv,vs,hvs,rfl⟩ :=h
    obtain ⟨h1,h2⟩ :=cellsAt_elim hvs
    refine ⟨by simp [h1],fun j u hj=>?_⟩
    cases j with
    | zero=>simp at hj;subst hj;exact hv
    | succ j=>have:=h2 j u (by simpa using hj);rw [← this];congr 2;omega
def RunK (P : Program) (s : Sem Value) (w : World) (K : Value→World→Prop) (_t : Tg K:=.mk) : Prop:=∃ v w',s.run P w = .ok v w'∧K v w'
def RunU (P : Program) (s : Sem Unit) (w : World) (K : World→Prop) (_t : Tg K:=.mk) : Prop:=∃ w',s.run P w = .ok () w'∧K w'
def RetK (K : Value→World→Prop) (e : Ending) (w : World) : Prop:=∃ v,e = .returned v∧K v w
def enters (P : Program) (f : FuncId) : Bool:=match P.funcs[f]? with | some fn=>fn.name != "runtime.NumGoroutine" && fn.body.isSome | none=>false
def callsK (P : Program) (f : FuncId) (args : Array Value) (w : World) (K : Value→World→Prop) (_t : Tg K:=.mk) : Prop:=Calls P f args w (RetK K)
def callK (P : Program) (fv : Value) (vs : List Value) (w : World) (K : Value→World→Prop) (_t : Tg K:=.mk) : Prop:=
  match fv with
  | .func (.func f) first captured=>enters P f = true∧callsK P f (first.toList ++ vs ++ captured.toList).toArray w K
  | _=>False
def zl (zc : List Value) : Nat→List Value
  | 0=>[]
  | n + 1=>zc ++ zl zc n
def storeK (w : World) (b o : Nat) (vs : List Value) (K : World→Prop) (_t : Tg K:=.mk) : Prop:=
  okK (blkOf w b) fun p=>o + vs.length≤p.1.length∧∀ w1,Put w w1 b (setR p.1 o vs) p.2→K w1
def opv (P : Program) (o : Op) (ty : TypeId) (E : Env) (w : World) (K : Value→World→Prop) : Prop:=
  match o with
  | .alloc t=>okK (tinfo P t).zero fun z=>∀ w1 b,New w w1 b z.cells.toList t→K (.pointer (some ⟨b,0,none⟩)) w1
  | .box t x=>okK (ev E x) fun v=>∀ w1 b,New w w1 b v.cells.toList t→K (.pointer (some ⟨b,0,none⟩)) w1
  | .buildSlice t len parts => okK (evs E (parts.toList.map (·.2))) fun vs => okK (tinfo P t).sl fun e => okK e.2 fun sz => okK (tinfo P e.1).zero fun z =>
      (len * sz≤16777216∧z.cells.size = sz)∧okK (fillL (fun i=>some (i * sz,sz)) (if len * sz = 0 then [] else zl z.cells.toList len) ((parts.toList.map (·.1)).zip vs)) fun cs=>
        ∀ w1 b,New w w1 b cs e.1→K (.slice (some ⟨b,0,none⟩) len len) w1
  | .load t x => okK (ev E x) fun a => ptrK a fun b o => okK (if (tinfo P t).known = true then some (tinfo P t).agg else none) fun ag =>
      if ag = true then okK (tinfo P t).size fun n=>okK (cellsAt w b o n) fun cs=>K (.agg cs.toArray) w else okK (w.cell? ⟨b,o,none⟩) fun v=>K v w
  | .store t a x => okK (ev E a) fun a => okK (ev E x) fun v => ptrK a fun b o => okK (tinfo P t).size fun n =>
      (v.cells.size = n∧v.cells.toList.all (·.oneCell') = true)∧storeK w b o v.cells.toList fun w1=>K undef w1
  | .convert s d x=>if (tinfo P d).int.isSome = true then pureK P (.convert s d x) E fun v=>K v w else okK (ev E x) fun v=>RunK P (convert s d v) w K
  | .makeSlice t l c=>okK (ev E l) fun l=>okK (ev E c) fun c=>RunK P (Instr.makeSlice t l c) w K
  | .call c => (match c.callee, c.args.toList with
      | .value f,args=>okK (ev E f) fun fv=>okK (evs E args) fun vs=>callK P fv vs w K
      | .builtin .append,args=>okK (evs E args) fun vs=>RunK P (Builtin.append_ c.argTypes ty vs.toArray) w K
      | .builtin .copy,args=>okK (evs E args) fun vs=>RunK P (Builtin.copy_ c.argTypes ty vs.toArray) w K
      | .builtin .delete,args=>okK (evs E args) fun vs=>RunK P (Builtin.delete_ c.argTypes ty vs.toArray) w K
      | _,_=>pureK P (.call c) E fun v=>K v w)
  | .lookup t x i ok=>okK (ev E x) fun x=>okK (ev E i) fun i=>RunK P (Instr.lookup t x i ok) w K
  | .index t x i=>okK (ev E x) fun x=>okK (ev E i) fun i=>RunK P (Instr.index t x i) w K
  | .mapUpdate t m k x | .insert t m k x=>okK (ev E m) fun m=>okK (ev E k) fun k=>okK (ev E x) fun x=>RunU P (Instr.mapUpdate t m k x) w fun w1=>K undef w1
  | .makeMap t r=>okK (evo E r) fun r=>RunK P (Instr.makeMap t r) w K
  | .range t x=>okK (ev E x) fun x=>RunK P (Instr.range t x) w K
  | .next it s=>okK (ev E it) fun it=>RunK P (Instr.next it s ty) w K
  | .entry it=>okK (ev E it) fun it=>RunK P (Instr.entry it) w K
  | o=>pureK P o E fun v=>K v w
theorem zl_length (zc : List Value) : ∀ n,(zl zc n).length = n * zc.length
  | 0=>by simp [zl]
  | n + 1=>by simp [zl,zl_length zc n,Nat.succ_mul];omega
theorem zl_get (zc : List Value) : ∀ n j (h : j < (zl zc n).length),(zl zc n)[j] = zc[j % zc.length]!
  | 0,j,h=>by simp [zl] at h
  | n + 1,j,h=>by
    simp only [zl] at h ⊢
    by_cases hj : j < zc.length
    · rw [List.getElem_append_left hj,Nat.mod_eq_of_lt hj];simp [hj]
    · have hl : zc.length≤j:=by omega
      rw [List.getElem_append_right hl,zl_get zc n (j - zc.length) (by simp at h;omega)]
      rw [Nat.mod_eq_sub_mod hl]
theorem zl_made (z : Array Value) (n : Nat) : ((Array.range (n * z.size)).map (z[· % z.size]!)).toList = zl z.toList n:=by
  apply List.ext_getElem
  · simp [zl_length]
  · intro j h1 h2
    rw [zl_get]
    simp only [Array.toList_map,Array.toList_range,List.getElem_map,List.getElem_range,Array.length_toList]
    rw [getElem!_def,getElem!_def,Array.getElem?_toList]
theorem run_wp {P : Program} {o : Oper} {a : Act} {w w' : World} {v : Value} {K' : Act→World→Prop} {Q : Exit→Act→World→Prop} (hr : (execOp a.eval o).run P w = .ok (.value v) w') (h : K' (a.put o.dst v) w') : o.wp P a w K' Q:=by
  unfold Oper.wp
  rw [hr]
  exact h
theorem skip_wp {P : Program} {o : Oper} {a : Act} {w w' : World} {K' : Act→World→Prop} {Q : Exit→Act→World→Prop} (hr : (execOp a.eval o).run P w = .ok .skip w') (h : K' (a.put o.dst undef) w') : o.wp P a w K' Q:=by
  unfold Oper.wp
  rw [hr]
  exact h
theorem alloc_run {P : Program} (cs : Array Value) (t : TypeId) (w : World) : (newRow t cs).run P w = .ok ⟨w.heap.size,0,none⟩ (w.alloc (.cells cs t)):=by simp [newRow]
theorem storeCells_put {P : Program} {w : World} {b o : Nat} {cs : List Value} {t : TypeId} (hb : w.heap[b]? = some (.cells cs.toArray t (0, 0))) :
    ∀ (vs : List Value) (i : Nat) (cur : List Value) (w0 : World),w0.heap[b]? = some (.cells cur.toArray t (0,0))→Chg (fun k=>k = b) w w0→w0.heap.size = w.heap.size→o + i + vs.length≤cur.length→vs.all (·.oneCell') = true→
    ∃ w1,(storeCells ⟨b,o,none⟩ vs i).run P w0 = .ok () w1∧w1.heap[b]? = some (.cells (setR cur (o + i) vs).toArray t (0,0))∧Chg (fun k=>k = b) w w1∧w1.heap.size = w.heap.size
  | [],i,cur,w0,h0,hc,hs,_,_=>⟨w0,by simp [storeCells],by rw [setR_nil];exact h0,hc,hs⟩
  | v :: vs,i,cur,w0,h0,hc,hs,hl,h1=>by
    simp only [List.length_cons] at hl
    simp only [List.all_cons,Bool.and_eq_true] at h1
    have hcell : w0.cell? ⟨b,o + i,none⟩ = some (cur[o + i]'(by omega)):=by
      rw [cell_of_row w0 b (o + i) _ _ _ h0];simp
    have hfz : w0.frozen? ⟨b,o + i,none⟩ = false:=by simp [World.frozen?,h0]
    have hb1 : (w0.setCell ⟨b,o + i,none⟩ v).heap[b]? = some (.cells (cur.set (o + i) v).toArray t (0,0)):=by
      have hlt:=lt_of_block h0
      have h' : w0.heap[b] = .cells cur.toArray t (0,0):=by simpa [Array.getElem?_eq_getElem hlt] using h0
      show (w0.heap.modify b _)[b]? = _
      rw [Array.getElem?_eq_getElem (by simpa using hlt),Array.getElem_modify_self,h']
      simp
    have hlen : o + (i + 1) + vs.length≤(cur.set (o + i) v).length:=by rw [List.length_set];omega
    obtain ⟨w1,hr,hw1,hc1,hs1⟩ :=storeCells_put hb vs (i + 1) (cur.set (o + i) v) (w0.setCell ⟨b,o + i,none⟩ v) hb1
      (Chg.setCell (S:=fun k=>k = b) (p:=⟨b,o + i,none⟩) hc (.inl rfl) v) (by simp [World.setCell,hs]) hlen h1.2
    refine ⟨w1,?_,by rw [setR_cons];rw [Nat.add_assoc];exact hw1,hc1,hs1⟩
    simp only [storeCells,add_off,Sem.run_bind]
    have : (store ⟨b,o + i,none⟩ v).run P w0 = .ok () (w0.setCell ⟨b,o + i,none⟩ v):=by
      unfold store
      cases v<;>first | (simp [Value.oneCell'] at h1;done) | simp [Sem.run,hcell,hfz]
    rw [this,Result.andThen_ok]
    exact hr
theorem opv_sound {P : Program} {n : Nat} {E : Env} {a : Act} (hA : Agree n E a) {o : Oper} {w : World} {K : Value → World → Prop} (h : opv P o.op o.type E w K)
    {K' : Act→World→Prop} {Q : Exit→Act→World→Prop} (hK : ∀ v w',K v w'→K' (a.put o.dst v) w') : o.wp P a w K' Q:=by
  have hpure : ∀ {K0 : Value→Prop},pureK P o.op E K0→(∀ v,K0 v→K v w)→o.wp P a w K' Q:=fun hp hk=>by
    obtain ⟨v,hv,h0⟩ :=pureK_sound hA hp
    exact run_wp (hv w) (hK _ _ (hk v h0))
  have hrun : ∀ {s : Sem Value},RunK P s w K→(∀ v w',s.run P w = .ok v w'→(execOp a.eval o).run P w = .ok (.value v) w')→o.wp P a w K' Q:=fun ⟨v,w',hr,hk⟩ he=>run_wp (he v w' hr) (hK _ _ hk)
  unfold opv at h
  split at h
  case h_1 t hop=>
    obtain ⟨z,hz,h⟩ :=okK_elim h
    exact run_wp (by simp [execOp,hop,Instr.alloc,tzero_run hz,newVar,alloc_run]) (hK _ _ (h _ _ (New.mk' w z.cells t)))
  case h_2 t x hop=>
    obtain ⟨v,hv,h⟩ :=okK_elim h
    exact run_wp (by simp [execOp,hop,Instr.box,hA.ev hv,newVar,alloc_run]) (hK _ _ (h _ _ (New.mk' w v.cells t)))
  case h_3 t len parts hop=>
    obtain ⟨vs,hv,h⟩ :=okK_elim h
    obtain ⟨⟨e,sz⟩,he,h⟩ :=okK_elim h
    obtain ⟨s,hs,h⟩ :=okK_elim h
    obtain ⟨z,hz,h⟩ :=okK_elim h
    obtain ⟨⟨hsm,hzs⟩,h⟩ :=h
    obtain ⟨cs,hc,hfin⟩ :=okK_elim h
    simp only [tinfo,Option.map_eq_some_iff,Prod.mk.injEq] at he
    obtain ⟨e',he2,rfl,he4⟩ :=he
    have hu:=und_of_slc he2
    dsimp only at hs hz hfin
    subst hs
    have hfill : Instr.fill (fun i=>some (i * s,s)) (if len * s = 0 then #[] else (Array.range (len * s)).map (z.cells[· % z.cells.size]!)) (parts.map fun (x : Nat×Operand)=>(x.1,a.eval x.2)).toList = some cs.toArray:=by
      have e : (parts.map fun (x : Nat×Operand)=>(x.1,a.eval x.2)).toList = (parts.toList.map (·.1)).zip vs:=by
        rw [← hA.evs hv]
        simp [List.zip_map',List.map_map]
      rw [e]
      refine fill_of _ _ _ _ ?_
      split
      · rename_i h0;rw [if_pos h0] at hc;exact hc
      · rename_i h0;rw [if_neg h0] at hc
        rw [← hzs,zl_made,hzs];exact hc
    refine run_wp ?_ (hK _ _ (hfin _ _ (by simpa using New.mk' w cs.toArray e')))
    have hbig : ¬ 2 ^ 24 < len * s:=by omega
    by_cases h0 : len * s = 0
    · simp only [h0,if_true,Array.toList_map] at hfill
      have hr0 : Array.range 0 = #[]:=rfl
      simp [hr0,execOp,hop,Instr.buildSlice,run_underlying_of hu,tsize_run he4,h0,hfill,alloc_run]
    · simp only [h0,if_false,Array.toList_map] at hfill
      simp [execOp,hop,Instr.buildSlice,run_underlying_of hu,tsize_run he4,h0,hbig,tzero_run hz,hfill,alloc_run]
  case h_4 t x hop=>
    obtain ⟨v,hv,h⟩ :=okK_elim h
    obtain ⟨b,off,rfl,h⟩ :=ptrK_elim h
    obtain ⟨ag,hag,h⟩ :=okK_elim h
    have hag' : (P.underlying t).isSome = true∧ag = (tinfo P t).agg:=by
      split at hag
      · rename_i hk;injection hag with hag;exact ⟨hk,hag.symm⟩
      · cases hag
    obtain ⟨hk,rfl⟩ :=hag'
    obtain ⟨d,hd⟩ :=Option.isSome_iff_exists.1 hk
    have hisa:=isAgg_run (P:=P) hd w
    split at h
    · rename_i hagg
      obtain ⟨m,hm,h⟩ :=okK_elim h
      obtain ⟨cs,hc,h⟩ :=okK_elim h
      obtain ⟨hl,hcell⟩ :=cellsAt_elim hc
      have hr:=run_loadCells_list (P:=P) (w:=w) ⟨b,off,none⟩ cs (fun j u hj=>by rw [add_off];exact hcell j u hj)
      rw [hl] at hr
      refine run_wp ?_ (hK _ _ h)
      have hagg' : isAggT (P.underlying t) = true:=hagg
      rw [hagg'] at hisa
      simp [execOp,hop,hA.ev hv,Instr.loadAt,Instr.sureAddr,loadVar,hisa,tsize_run hm,hr]
    · rename_i hagg
      obtain ⟨u,hu,h⟩ :=okK_elim h
      refine run_wp ?_ (hK _ _ h)
      have hagg' : isAggT (P.underlying t) = false:=by simpa [tinfo] using hagg
      rw [hagg'] at hisa
      simp [execOp,hop,hA.ev hv,Instr.loadAt,Instr.sureAddr,loadVar,hisa,load,Sem.run,hu]
  case h_5 t x y hop=>
    obtain ⟨v,hv,h⟩ :=okK_elim h
    obtain ⟨u,hu,h⟩ :=okK_elim h
    obtain ⟨b,off,rfl,h⟩ :=ptrK_elim h
    obtain ⟨m,hm,h⟩ :=okK_elim h
    obtain ⟨⟨h1,h2⟩,h⟩ :=h
    obtain ⟨⟨cs,tt⟩,hb,hl,h⟩ :=okK_elim h
    have hblk:=blkOf_elim hb
    dsimp only at hl h hblk
    obtain ⟨w1,hr,hw1,hc1,hs1⟩ :=storeCells_put hblk u.cells.toList 0 cs w hblk (Chg.refl _ _) rfl (by simpa using hl) h2
    refine skip_wp ?_ (hK _ _ (h w1 ⟨by simpa using hw1,hc1,hs1⟩))
    simp [execOp,hop,hA.ev hv,hA.ev hu,Instr.storeAt,Instr.sureAddr,storeVar,tsize_run hm,h1]
    rw [hr]
    rfl
  case h_6 s d x hop=>
    split at h
    · rw [← hop] at h
      exact hpure h fun _=>id
    · obtain ⟨v,hv,h⟩ :=okK_elim h
      exact hrun h fun v w' hr=>by simp [execOp,hop,hA.ev hv,hr]
  case h_7 t l c hop=>
    obtain ⟨v,hv,h⟩ :=okK_elim h
    obtain ⟨u,hu,h⟩ :=okK_elim h
    exact hrun h fun v w' hr=>by simp [execOp,hop,hA.ev hv,hA.ev hu,hr]
  case h_8 c hop=>
    obtain ⟨callee,args,argTypes⟩ :=c
    dsimp only at h
    have hargs : ∀ {vs : List Value},evs E args.toList = some vs→args.map a.eval = vs.toArray:=fun hv=>by apply Array.ext';simp [hA.evs hv]
    split at h
    · rename_i f _
      obtain ⟨fv,hf,h⟩ :=okK_elim h
      obtain ⟨vs,hv,h⟩ :=okK_elim h
      unfold callK at h
      split at h
      · rename_i id first captured _
        obtain ⟨he,h⟩ :=h
        have e : (first.toList ++ vs ++ captured.toList).toArray = first ++ vs.toArray ++ captured:=by apply Array.ext';simp
        rw [e] at h
        unfold Oper.wp
        unfold enters at he
        split at he
        · rename_i fn hfn
          have hr : (execOp a.eval o).run P w = .ok (.enter id (first ++ vs.toArray ++ captured)) w:=by
            simp only [Bool.and_eq_true,bne_iff_ne,ne_eq] at he
            obtain ⟨he1,he2⟩ :=he
            have hn : fn.body≠none:=by intro hb;simp [hb] at he2
            simp [execOp,hop,resolve,hA.ev hf,hargs hv,Deferred.ofValue,invoke,callFunc,hfn,he1,hn]
          rw [hr]
          refine Calls.mono h fun e w' he=>?_
          obtain ⟨v,rfl,hk⟩ :=he
          exact hK _ _ hk
        · cases he
      · exact h.elim
    · obtain ⟨vs,hv,h⟩ :=okK_elim h
      exact hrun h fun v w' hr=>by simp [execOp,hop,resolve,hargs hv,invoke,builtin,hr]
    · obtain ⟨vs,hv,h⟩ :=okK_elim h
      exact hrun h fun v w' hr=>by simp [execOp,hop,resolve,hargs hv,invoke,builtin,hr]
    · obtain ⟨vs,hv,h⟩ :=okK_elim h
      exact hrun h fun v w' hr=>by simp [execOp,hop,resolve,hargs hv,invoke,builtin,hr]
    · rw [← hop] at h
      exact hpure h fun _=>id
  case h_9 t x i ok hop=>
    obtain ⟨v,hv,h⟩ :=okK_elim h
    obtain ⟨u,hu,h⟩ :=okK_elim h
    exact hrun h fun v w' hr=>by simp [execOp,hop,hA.ev hv,hA.ev hu,hr]
  case h_10 t x i hop=>
    obtain ⟨v,hv,h⟩ :=okK_elim h
    obtain ⟨u,hu,h⟩ :=okK_elim h
    exact hrun h fun v w' hr=>by simp [execOp,hop,hA.ev hv,hA.ev hu,hr]
  case h_11 t m k x hop=>
    obtain ⟨v,hv,h⟩ :=okK_elim h
    obtain ⟨u,hu,h⟩ :=okK_elim h
    obtain ⟨x',hx,h⟩ :=okK_elim h
    obtain ⟨w',hr,hk⟩ :=h
    exact skip_wp (by simp [execOp,hop,hA.ev hv,hA.ev hu,hA.ev hx,hr]) (hK _ _ hk)
  case h_12 t m k x hop=>
    obtain ⟨v,hv,h⟩ :=okK_elim h
    obtain ⟨u,hu,h⟩ :=okK_elim h
    obtain ⟨x',hx,h⟩ :=okK_elim h
    obtain ⟨w',hr,hk⟩ :=h
    exact skip_wp (by simp [execOp,hop,hA.ev hv,hA.ev hu,hA.ev hx,hr]) (hK _ _ hk)
  case h_13 t r hop=>
    obtain ⟨v,hv,h⟩ :=okK_elim h
    exact hrun h fun v w' hr=>by simp [execOp,hop,evo_some hv a n hA,hr]
  case h_14 t x hop=>
    obtain ⟨v,hv,h⟩ :=okK_elim h
    exact hrun h fun v w' hr=>by simp [execOp,hop,hA.ev hv,hr]
  case h_15 it s hop=>
    obtain ⟨v,hv,h⟩ :=okK_elim h
    exact hrun h fun v w' hr=>by simp [execOp,hop,hA.ev hv,hr]
  case h_16 it hop=>
    obtain ⟨v,hv,h⟩ :=okK_elim h
    exact hrun h fun v w' hr=>by simp [execOp,hop,hA.ev hv,hr]
  case h_17=>exact hpure h fun _=>id
def fits (n size : Int) : Bool:=decide (1≤size∧size≤8∧0≤n∧(size < 8→n / 2 ^ (8 * size).toNat = 0))
structure W8 where
  l : List Int
  bad : Bool
def W8.num (s : W8) (n size : Int) : W8:=if fits n size then ⟨s.l ++ be n size.toNat,s.bad⟩ else ⟨s.l,true⟩
abbrev WrS (t : Nat) (w : World) (p : Nat) (v : Value) (s : W8) : Prop:=Wr t w p v s.l s.bad
def WrPost (t p : Nat) (w : World) (v : Value) (s' : W8) (e : Ending) (w' : World) : Prop:=
  e = .returned (.pointer (some ⟨p,0,none⟩))∧∃ v',WrS t w' p v' s'∧WrStep p w v w' v'
theorem num_spoil (p : Nat) (v : Value) (xs : List Int) (bad : Bool) (n size : Int) (w : World) (hw : Wr 75 w p v xs bad) (hn : -9223372036854775808 ≤ n) (hn1 : n ≤ 9223372036854775807)
    (h : size < 1∨8 < size∨n < 0∨(size < 8∧¬ n / 2 ^ (8 * size).toNat = 0)) : Calls Tryz.prog 19 #[.pointer (some ⟨p,0,none⟩),.int .i64 n,.int .i64 size] w (WrPost 75 p w v ⟨xs,true⟩):=by
  have h1:=hw.c1
  have h2:=hw.fz 1
  have HM:=Lib.hid (hw.mark (by decide) true)
  have HW:=Lib.hid hw
  clear hw
  by_cases a1 : size < 1
  · go_enter Tryz.func19,Tryz.ntmps19
    go_wp2
    go_ret
    exact ⟨rfl,v,HM.out.1,HM.out.2⟩
  by_cases a2 : 8 < size
  · go_enter Tryz.func19,Tryz.ntmps19
    go_wp2
    go_ret
    exact ⟨rfl,v,HM.out.1,HM.out.2⟩
  by_cases a3 : n < 0
  · go_enter Tryz.func19,Tryz.ntmps19
    go_wp2
    go_ret
    exact ⟨rfl,v,HM.out.1,HM.out.2⟩
  have a4 : size < 8:=by omega
  have a5 : 0 < n / 2 ^ (8 * size).toNat:=by
    have : 0≤n / 2 ^ (8 * size).toNat:=Int.ediv_nonneg (by omega) (Int.le_of_lt (Int.pow_pos (by decide)))
    rcases h with h | h | h | h<;>omega
  have a6:=Int.not_lt.1 a1
  have a7:=Int.not_lt.1 a2
  have a8:=Int.not_lt.1 a3
  clear h a1 a2 a3
  go_enter Tryz.func19,Tryz.ntmps19
  go_wp2
  go_ret
  exact ⟨rfl,v,HM.out.1,HM.out.2⟩
theorem num_any (p : Nat) (v : Value) (s : W8) (n size : Int) (w : World) (hw : WrS 75 w p v s) (hlen : s.l.length ≤ 1000000) (hn : -9223372036854775808 ≤ n) (hn1 : n ≤ 9223372036854775807) :
    Calls Tryz.prog 19 #[.pointer (some ⟨p,0,none⟩),.int .i64 n,.int .i64 size] w (WrPost 75 p w v (s.num n size)):=by
  by_cases h : fits n size = true
  · have h' : 1≤size∧size≤8∧0≤n∧(size < 8→n / 2 ^ (8 * size).toNat = 0):=of_decide_eq_true h
    obtain ⟨k,rfl⟩ :=Int.eq_ofNat_of_zero_le (show 0≤size by omega)
    have:=num_good p v s.l s.bad n k w hw hlen (by omega) (by omega) h'.2.2.1 hn1 h'.2.2.2
    have e : s.num n k = ⟨s.l ++ be n k,s.bad⟩ :=by simp [W8.num,h]
    rw [e]
    exact this
  · have h' : size < 1 ∨ 8 < size ∨ n < 0 ∨ (size < 8 ∧ ¬ n / 2 ^ (8 * size).toNat = 0) := by
      simp only [fits,decide_eq_true_eq] at h
      omega
    have:=num_spoil p v s.l s.bad n size w hw hn hn1 h'
    have e : s.num n size = ⟨s.l,true⟩ :=by simp [W8.num,h]
    rw [e]
    exact this
theorem W8.num_len (s : W8) (n size : Int) : (s.num n size).l.length≤s.l.length + 8:=by
  unfold W8.num
  split
  · rename_i h
    have h' : 1≤size∧size≤8∧0≤n∧(size < 8→n / 2 ^ (8 * size).toNat = 0):=of_decide_eq_true h
    simp [be_length];omega
  · simp
end Go.Proofs.YtnhgjgoglmadnaaGreat
