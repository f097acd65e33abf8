/- Joined texts of this claim (part 1), printed by a program of this work. The last part holds the claimed theorem: the law answers true at every input of its row. -/
import Derived.WalkKit
import Derived.Deep.AppendLies
import Derived.Deep.Draws
import Derived.Lib.Hide
import Derived.OrdersHeld
import Derived.RegionTactic
import Derived.WalkLawsBesides
import Derived.Test.YtnhgjgoglmadnaaGreatProg
import Derived.Outline
import Derived.Deep.RegionLaw
namespace Go.Proofs.YtnhgjgoglmadnaaGreat
open Go.RowKit
structure Chg (S : Nat→Prop) (w w' : World) : Prop where
  os : w'.os = w.os
  tape : w'.tape = w.tape
  output : w'.output = w.output
  size : w.heap.size≤w'.heap.size
  block : ∀ k,k < w.heap.size→¬ S k→w'.heap[k]? = w.heap[k]?
theorem Chg.refl (S : Nat→Prop) (w : World) : Chg S w w:=⟨rfl,rfl,rfl,Nat.le_refl _,fun _ _ _=>rfl⟩
theorem Chg.trans {S T : Nat→Prop} {a b c : World} (h : Chg S a b) (k : Chg T b c) (hT : ∀ x,T x→S x∨a.heap.size≤x) : Chg S a c:=
  ⟨k.os.trans h.os,k.tape.trans h.tape,k.output.trans h.output,Nat.le_trans h.size k.size,
    fun i hi hn=>(k.block i (Nat.lt_of_lt_of_le hi h.size) (fun ht=>(hT i ht).elim hn (fun hle=>by omega))).trans (h.block i hi hn)⟩
theorem Chg.mono {S T : Nat→Prop} {a b : World} (h : Chg S a b) (hs : ∀ x,S x→T x) : Chg T a b:=
  ⟨h.os,h.tape,h.output,h.size,fun i hi hn=>h.block i hi (fun hx=>hn (hs i hx))⟩
theorem Chg.mono' {S T : Nat→Prop} {a b : World} (h : Chg S a b) (hs : ∀ x,S x→x < a.heap.size→T x) : Chg T a b:=
  ⟨h.os,h.tape,h.output,h.size,fun i hi hn=>h.block i hi (fun hx=>hn (hs i hx hi))⟩
theorem Chg.ofGrown {a b : World} {row : Option Nat} (h : a.grownBy b row) : Chg (fun k=>row = some k) a b:=
  ⟨h.os,h.tape,h.output,h.size,fun i hi hn=>h.block i hi (fun e=>hn e.symm)⟩
theorem Chg.below {S : Nat→Prop} {a b : World} (h : Chg S a b) (hs : ∀ x,S x→a.heap.size≤x) : Below a.heap.size a b:=
  ⟨h.os,h.tape,h.output,h.size,fun i hi=>h.block i hi (fun hx=>by have:=hs i hx;omega)⟩
theorem Chg.drew {S : Nat→Prop} {a b : World} (h : Chg S a b) : Chg S a b.drew:=⟨h.os,h.tape,h.output,h.size,h.block⟩
theorem Chg.alloc {S : Nat→Prop} {a b : World} (h : Chg S a b) (o : Obj) : Chg S a (b.alloc o):=
  h.trans (T:=fun _=>False) ⟨rfl,rfl,rfl,by simp,fun k hk _=>Below.heap_alloc _ _ _ hk⟩ (fun _ hx=>hx.elim)
theorem Chg.setCell {S : Nat→Prop} {a b : World} (h : Chg S a b) {p : Addr} (hp : S p.block∨a.heap.size≤p.block) (u : Value) : Chg S a (b.setCell p u):=
  h.trans (T:=fun k=>k = p.block) ⟨rfl,rfl,rfl,by simp [World.setCell],fun k _ hn=>Below.heap_setCell _ _ _ _ hn⟩ (fun x hx=>hx▸hp)
theorem Chg.cell {S : Nat→Prop} {a b : World} (h : Chg S a b) {p : Addr} {v : Value} (hc : a.cell? p = some v) (hn : ¬ S p.block) : b.cell? p = some v:=
  (World.cell?_of_block (w:=a) (h.block p.block (World.block_lt_of_cell? a p hc) hn)).trans hc
theorem Chg.at {S : Nat→Prop} {a b : World} (h : Chg S a b) {k : Nat} {o : Obj} (hc : a.heap[k]? = some o) (hn : ¬ S k) : b.heap[k]? = some o:=
  (h.block k (Array.getElem?_eq_some_iff.1 hc).1 hn).trans hc
def u8s (xs : List Int) : List Value:=xs.map (Value.int .u8)
theorem u8s_append (xs ys : List Int) : u8s (xs ++ ys) = u8s xs ++ u8s ys:=by simp [u8s]
def Byt (xs : List Int) : Prop:=∀ x ∈ xs,0≤x∧x≤255
theorem Byt.append {xs ys : List Int} (h : Byt xs) (k : Byt ys) : Byt (xs ++ ys):=fun x hx=>(List.mem_append.1 hx).elim (h x) (k x)
theorem Byt.nil : Byt []:=fun _ h=>by cases h
def Rd (w : World) (v : Value) (xs : List Int) : Prop:=
  ∃ a c,v = .slice a xs.length c∧xs.length≤c∧c≤maxLen∧(a = none→c = 0)∧
    (0 < xs.length→∃ b o,a = some ⟨b,o,none⟩ ∧∀ j,j < xs.length→w.cell? ⟨b,o + j,none⟩ = some (.int .u8 (xs.getD j 0)))
def Own (w : World) (v : Value) (xs : List Int) : Prop:=w.ownsRow 0 5 1 v xs.length (u8s xs)
theorem Own.nil (w : World) : Own w (.slice none 0 0) []:=World.ownsRow_nil _ _ _ _
theorem Own.chg {S : Nat→Prop} {w w' : World} {v : Value} {xs : List Int} (h : Own w v xs) (hc : Chg S w w') (hn : ∀ k,v.ownBlock = some k→¬ S k) : Own w' v xs:=by
  refine ⟨h.1,?_⟩
  rcases h.2 with hz | ⟨g,cap,cur,rfl,hb,hg,rest⟩
  · exact .inl hz
  · exact .inr ⟨g,cap,cur,rfl,hb,hc.at hg (hn g (by simp [Value.ownBlock])),rest⟩
theorem Own.lt {w : World} {v : Value} {xs : List Int} (h : Own w v xs) {k : Nat} (hk : v.ownBlock = some k) : k < w.heap.size:=(World.ownsRow.lt h k hk).2
theorem Rd.chg {S : Nat→Prop} {w w' : World} {v : Value} {xs : List Int} (h : Rd w v xs) (hc : Chg S w w') (hn : ∀ k,v.ownBlock = some k→¬ S k) : Rd w' v xs:=by
  obtain ⟨a,c,rfl,h1,h2,h3,h4⟩ :=h
  refine ⟨a,c,rfl,h1,h2,h3,fun hp=>?_⟩
  obtain ⟨b,o,rfl,hcell⟩ :=h4 hp
  exact ⟨b,o,rfl,fun j hj=>hc.cell (hcell j hj) (hn b (by simp [Value.ownBlock]))⟩
theorem Own.rd {w : World} {v : Value} {xs : List Int} (h : Own w v xs) : Rd w v xs:=by
  rcases h.2 with ⟨rfl,hz⟩ | ⟨g,cap,cur,rfl,hb,hg,hn,hm,hsz,ht⟩
  · refine ⟨none,0,by rw [hz],by omega,by simp [maxLen],fun _=>rfl,fun hp=>by omega⟩
  · refine ⟨some ⟨g,0,none⟩,cap,rfl,hn,hm,(fun h=>by cases h),fun hp=>⟨g,0,rfl,fun j hj=>?_⟩⟩
    have hj' : (u8s xs)[j]? = some (.int .u8 (xs.getD j 0)):=by simp [u8s,List.getD,hj]
    have:=World.ownsRow.cells h (g:=g) rfl j _ hj'
    simpa [Addr.add_lit] using this
theorem Rd.len {w : World} {v : Value} {xs : List Int} (h : Rd w v xs) : xs.length≤maxLen:=by
  obtain ⟨a,c,rfl,h1,h2,_⟩ :=h;omega
inductive Tg {α : Sort _} (K : α) : Type
  | mk
def okK {α : Type} (o : Option α) (K : α→Prop) (_t : Tg K:=.mk) : Prop:=match o with | some v=>K v | none=>False
def valK {α : Type} (v : α) (K : α→Prop) (_t : Tg K:=.mk) : Prop:=K v
def boolK (v : Value) (K : Bool→Prop) (_t : Tg K:=.mk) : Prop:=match v with | .bool b=>K b | _=>False
def ifK (b : Bool) (A B : Prop) (_t : Tg (A,B):=.mk) : Prop:=(b = true→A)∧(b = false→B)
theorem okK_some {α : Type} (v : α) (K : α→Prop) : okK (some v) K = K v:=(rfl)
theorem valK_eq {α : Type} (v : α) (K : α→Prop) : valK v K = K v:=(rfl)
theorem boolK_bool (b : Bool) (K : Bool→Prop) : boolK (.bool b) K = K b:=(rfl)
theorem ifK_true (A B : Prop) : ifK true A B = A:=by simp [ifK]
theorem ifK_false (A B : Prop) : ifK false A B = B:=by simp [ifK]
theorem okK_elim {α : Type} {o : Option α} {K : α→Prop} (h : okK o K) : ∃ v,o = some v∧K v:=by cases o with | none=>exact h.elim | some v=>exact ⟨v,rfl,h⟩
theorem boolK_elim {v : Value} {K : Bool→Prop} (h : boolK v K) : ∃ b,v = .bool b∧K b:=by cases v<;>first | exact ⟨_,rfl,h⟩ | exact h.elim
abbrev Env:=List (Nat×Value)
def Env.get : Env→Nat→Option Value
  | [],_=>none
  | (k,v) :: E,i=>if k = i then some v else Env.get E i
def Env.push (d : Option Tmp) (v : Value) (E : Env) : Env:=match d with | some d=>(d,v) :: E | none=>E
def ev (E : Env) : Operand→Option Value
  | .tmp t=>E.get t
  | .const v=>some v
  | .global g=>some (.pointer (some ⟨g,0,none⟩))
  | .func f=>some (.func (.func f) #[] #[])
def evs (E : Env) : List Operand→Option (List Value)
  | []=>some []
  | x :: xs=>(ev E x).bind fun v=>(evs E xs).bind fun vs=>some (v :: vs)
structure Agree (n : Nat) (E : Env) (a : Act) : Prop where
  size : a.tmps.size = n
  defers : a.defers = []
  get : ∀ i v,E.get i = some v→a.tmps.getD i undef = v
theorem Agree.ev {n : Nat} {E : Env} {a : Act} (h : Agree n E a) {x : Operand} {v : Value} (hx : ev E x = some v) : a.eval x = v:=by
  cases x with
  | tmp t=>exact h.get t v hx
  | const u=>exact Option.some.inj hx
  | global g=>exact Option.some.inj hx
  | func f=>exact Option.some.inj hx
theorem Agree.evs {n : Nat} {E : Env} {a : Act} (h : Agree n E a) : ∀ {xs : List Operand} {vs : List Value},evs E xs = some vs→xs.map a.eval = vs
  | [],vs,hx=>by simp [Go.Proofs.YtnhgjgoglmadnaaGreat.evs] at hx;simp [hx]
  | x :: xs,vs,hx=>by
    simp only [Go.Proofs.YtnhgjgoglmadnaaGreat.evs,Option.bind_eq_some_iff] at hx
    obtain ⟨v,hv,us,hu,he⟩ :=hx
    injection he with he
    subst he
    simp [h.ev hv,Agree.evs h hu]
theorem Agree.put {n : Nat} {E : Env} {a : Act} (h : Agree n E a) (d : Option Tmp) (v : Value) (hd : ∀ k,d = some k→k < n) : Agree n (E.push d v) (a.put d v):=by
  cases d with
  | none=>exact h
  | some k=>
    refine ⟨by simp [Act.put,h.size],h.defers,fun i u hi=>?_⟩
    simp only [Env.push,Env.get,Act.put] at hi ⊢
    by_cases e : k = i
    · subst e
      simp at hi
      have hk:=hd k rfl
      rw [← h.size] at hk
      simp [Array.getD,hk,hi]
    · rw [if_neg e] at hi
      have:=h.get i u hi
      simp only [Array.getD_eq_getD_getElem?] at this ⊢
      rw [Array.getElem?_setIfInBounds_ne e]
      exact this
theorem Agree.weaken {n : Nat} {E E' : Env} {a : Act} (h : Agree n E a) (hs : ∀ i v,E'.get i = some v→E.get i = some v) : Agree n E' a:=⟨h.size,h.defers,fun i v hi=>h.get i v (hs i v hi)⟩
def pureF (P : Program) (s : Sem Value) (K : Value→Prop) (_t : Tg K:=.mk) : Prop:=∃ v,(∀ w,s.run P w = .ok v w)∧K v
def isPtr : Option TypeDesc→Bool | some (.pointer _)=>true | _=>false
def isSlc : Option TypeDesc→Bool | some (.slice _)=>true | _=>false
def isStr : Option TypeDesc→Bool | some .string=>true | _=>false
def isBol : Option TypeDesc→Bool | some .bool=>true | _=>false
def isAggT : Option TypeDesc→Bool | some (.struct _) | some (.array ..)=>true | _=>false
def intT : Option TypeDesc→Option IntKind | some (.int k)=>some k | _=>none
def slcT : Option TypeDesc→Option TypeId | some (.slice e)=>some e | _=>none
def arrT : Option TypeDesc→Option (Nat×TypeId) | some (.array n e)=>some (n,e) | _=>none
def strT : Option TypeDesc→Option (Array Field) | some (.struct fs)=>some fs | _=>none
def tsize (P : Program) (t : TypeId) : Option Nat:=(P.info? t).map (·.size)
structure TI where
  known : Bool
  agg : Bool
  size : Option Nat
  zero : Option Value
  lay : Option (List (Nat×Option Nat×Option Bool))
  arr : Option (Nat×Option Nat×Bool)
  sl : Option (TypeId×Option Nat)
  int : Option IntKind
  ptr : Bool
  slc : Bool
  bol : Bool
  str : Bool
def tinfo (P : Program) (t : TypeId) : TI where
  known:=(P.underlying t).isSome
  agg:=isAggT (P.underlying t)
  size:=tsize P t
  zero:=(P.info? t).bind (·.zero)
  lay:=(strT (P.underlying t)).map fun fs=>fs.toList.map fun f=>(f.offset,tsize P f.type,(P.underlying f.type).map fun d=>isAggT (some d))
  arr:=(arrT (P.underlying t)).map fun a=>(a.1,tsize P a.2,isAggT (P.underlying a.2))
  sl:=(slcT (P.underlying t)).map fun e=>(e,tsize P e)
  int:=intT (P.underlying t)
  ptr:=isPtr (P.underlying t)
  slc:=isSlc (P.underlying t)
  bol:=isBol (P.underlying t)
  str:=isStr (P.underlying t)
theorem tsize_run {P : Program} {t : TypeId} {n : Nat} (h : tsize P t = some n) (w : World) : (sizeOf t).run P w = .ok n w:=by
  obtain ⟨i,hi,rfl⟩ :=Option.map_eq_some_iff.1 h
  simp [sizeOf,typeInfo,hi]
theorem tzero_run {P : Program} {t : TypeId} {z : Value} (h : (tinfo P t).zero = some z) (w : World) : (zeroValue t).run P w = .ok z w:=by
  obtain ⟨i,hi,hz⟩ :=Option.bind_eq_some_iff.1 h
  simp [zeroValue,typeInfo,hi,hz]
def intK2 (op : BinOp) (k : IntKind) (a b : Int) (K : Value→Prop) (_t : Tg K:=.mk) : Prop:=
  match op with
  | .add=>valK (.int k (k.wrap (a + b))) K
  | .sub=>valK (.int k (k.wrap (a - b))) K
  | .mul=>valK (.int k (k.wrap (a * b))) K
  | .quo=>b≠0∧valK (.int k (k.wrap (a.tdiv b))) K
  | .rem=>b≠0∧valK (.int k (a.tmod b)) K
  | .and=>valK (.int k (k.wrap (BitVec.ofInt k.bits a &&& BitVec.ofInt k.bits b).toNat)) K
  | .or=>valK (.int k (k.wrap (BitVec.ofInt k.bits a ||| BitVec.ofInt k.bits b).toNat)) K
  | .xor=>valK (.int k (k.wrap (BitVec.ofInt k.bits a ^^^ BitVec.ofInt k.bits b).toNat)) K
  | .andNot=>valK (.int k (k.wrap (BitVec.ofInt k.bits a &&& ~~~ (BitVec.ofInt k.bits b)).toNat)) K
  | .eql=>valK (.bool (decide (a = b))) K
  | .neq=>valK (.bool (!decide (a = b))) K
  | .lss=>valK (.bool (decide (a < b))) K
  | .leq=>valK (.bool (decide (a≤b))) K
  | .gtr=>valK (.bool (decide (b < a))) K
  | .geq=>valK (.bool (decide (b≤a))) K
  | _=>False
def binK (P : Program) (op : BinOp) (t : TypeId) (xo yo : Operand) (x y : Value) (K : Value→Prop) (_t : Tg K:=.mk) : Prop:=
  match op,x,y with
  | .shl,.int k a,.int _ b=>0≤b∧valK (.int k (k.wrap (a * 2 ^ min b.toNat k.bits))) K
  | .shr,.int k a,.int _ b=>0≤b∧valK (.int k (a / 2 ^ min b.toNat k.bits)) K
  | op,.int k a,.int k' b=>if k = k' then intK2 op k a b K else False
  | .eql,.string a,.string b=>valK (.bool (a.toList == b.toList)) K
  | .neq,.string a,.string b=>valK (.bool (!(a.toList == b.toList))) K
  | .eql,.bool a,.bool b=>(tinfo P t).bol = true∧valK (.bool (a == b)) K
  | .neq,.bool a,.bool b=>(tinfo P t).bol = true∧valK (.bool (!(a == b))) K
  | .eql,.pointer none,.pointer b=>(tinfo P t).ptr = true∧valK (.bool b.isNone) K
  | .neq,.pointer none,.pointer b=>(tinfo P t).ptr = true∧valK (.bool (!b.isNone)) K
  | .eql,.pointer (some _),.pointer none=>(tinfo P t).ptr = true∧valK (.bool false) K
  | .neq,.pointer (some _),.pointer none=>(tinfo P t).ptr = true∧valK (.bool true) K
  | .eql,.slice a _ _,.slice none _ _=>(tinfo P t).slc = true∧valK (.bool a.isNone) K
  | .neq,.slice a _ _,.slice none _ _=>(tinfo P t).slc = true∧valK (.bool (!a.isNone)) K
  | _,_,_=>pureF P (do eqGuard op t xo yo x y;binOp op t x y) K
theorem fdiv_pow (a : Int) (n : Nat) : a.fdiv (2 ^ n) = a / 2 ^ n:=Int.fdiv_eq_ediv_of_nonneg _ (Int.le_of_lt (Int.pow_pos (by decide)))
theorem eqGuard_int (P : Program) (op : BinOp) (t : TypeId) (xo yo : Operand) (k k' : IntKind) (a b : Int) (w : World) : (eqGuard op t xo yo (.int k a) (.int k' b)).run P w = .ok () w:=by
  cases op<;>simp [eqGuard]
theorem eqGuard_bool (P : Program) (op : BinOp) (t : TypeId) (xo yo : Operand) (a b : Bool) (w : World) : (eqGuard op t xo yo (.bool a) (.bool b)).run P w = .ok () w:=by
  cases op<;>simp [eqGuard]
theorem eqGuard_string (P : Program) (op : BinOp) (t : TypeId) (xo yo : Operand) (a b : ByteArray) (w : World) : (eqGuard op t xo yo (.string a) (.string b)).run P w = .ok () w:=by
  cases op<;>simp [eqGuard]
theorem eqGuard_ptr (P : Program) (op : BinOp) (t : TypeId) (xo yo : Operand) (a b : Option Addr) (w : World) : (eqGuard op t xo yo (.pointer a) (.pointer b)).run P w = .ok () w:=by
  cases op<;>simp [eqGuard]
theorem eqGuard_slice (P : Program) (op : BinOp) (t : TypeId) (xo yo : Operand) (a b : Option Addr) (n c n' c' : Nat) (w : World) : (eqGuard op t xo yo (.slice a n c) (.slice b n' c')).run P w = .ok () w:=by
  cases op<;>simp [eqGuard]
theorem run_underlying_of {P : Program} {t : TypeId} {d : TypeDesc} (h : P.underlying t = some d) (w : World) : (underlying t).run P w = .ok d w:=by simp [underlying,h]
theorem isPtr_elim {o : Option TypeDesc} (h : isPtr o = true) : ∃ e,o = some (.pointer e):=by
  cases o with
  | none=>simp [isPtr] at h
  | some d=>cases d<;>first | exact ⟨_,rfl⟩ | simp [isPtr] at h
theorem isSlc_elim {o : Option TypeDesc} (h : isSlc o = true) : ∃ e,o = some (.slice e):=by
  cases o with
  | none=>simp [isSlc] at h
  | some d=>cases d<;>first | exact ⟨_,rfl⟩ | simp [isSlc] at h
theorem isBol_elim {o : Option TypeDesc} (h : isBol o = true) : o = some .bool:=by
  cases o with
  | none=>simp [isBol] at h
  | some d=>cases d<;>first | rfl | simp [isBol] at h
theorem equalIn_ptrs {P : Program} {t e : TypeId} (d : Nat) (hu : P.underlying t = some (.pointer e)) (a b : Option Addr) (h : a = none∨b = none) (w : World) : (Op.equalIn (d + 1) t (.pointer a) (.pointer b)).run P w = .ok (a.isNone && b.isNone) w:=by
  rcases h with rfl | rfl
  · cases b<;>simp [Op.equalIn,run_underlying_of hu]
  · cases a<;>simp [Op.equalIn,run_underlying_of hu]
theorem equalIn_slcs {P : Program} {t e : TypeId} (d : Nat) (hu : P.underlying t = some (.slice e)) (a : Option Addr) (n c n' c' : Nat) (w : World) : (Op.equalIn (d + 1) t (.slice a n c) (.slice none n' c')).run P w = .ok a.isNone w:=by
  cases a<;>simp [Op.equalIn,run_underlying_of hu]
theorem equalIn_bols {P : Program} {t : TypeId} (d : Nat) (hu : P.underlying t = some .bool) (a b : Bool) (w : World) : (Op.equalIn (d + 1) t (.bool a) (.bool b)).run P w = .ok (a == b) w:=by
  simp [Op.equalIn,run_underlying_of hu]
theorem eql_run {P : Program} {t : TypeId} {x y : Value} {b : Bool} {w : World} (h : (Op.equalIn (9999 + 1) t x y).run P w = .ok b w) : (Op.equal t x y).run P w = .ok b w:=h
theorem beqDec (a b : Int) : (a == b) = decide (a = b):=by
  by_cases h : a = b<;>simp [h]
theorem intK2_sound (P : Program) (op : BinOp) (t : TypeId) (k : IntKind) (a b : Int) (K : Value→Prop) (hs : op≠.shl∧op≠.shr) (h : intK2 op k a b K) : ∃ v,(∀ w,(binOp op t (.int k a) (.int k b)).run P w = .ok v w)∧K v:=by
  cases op<;>simp [intK2,valK] at h hs<;>(try exact h.elim)
  case eql=>exact ⟨.bool (decide (a = b)),fun w=>by rw [← beqDec];simp [binOp,Op.intCmp],h⟩
  case neq=>exact ⟨.bool (!decide (a = b)),fun w=>by rw [← beqDec];simp [binOp,Op.intCmp,bne],h⟩
  case quo=>exact ⟨_,fun w=>by simp [binOp,Op.intDiv,h.1],h.2⟩
  case rem=>exact ⟨_,fun w=>by simp [binOp,Op.intDiv,h.1],h.2⟩
  all_goals exact ⟨_,fun w=>by simp [binOp,Op.intArith,Op.intCmp,Op.intBits],h⟩
theorem binK_sound (P : Program) (op : BinOp) (t : TypeId) (xo yo : Operand) (x y : Value) (K : Value → Prop) (h : binK P op t xo yo x y K) :
    pureF P (do eqGuard op t xo yo x y;binOp op t x y) K:=by
  unfold binK at h
  split at h
  · obtain ⟨h1,h2⟩ :=h
    exact ⟨_,fun w=>by simp [eqGuard_int,binOp,Op.shift,Int.not_lt.2 h1],h2⟩
  · obtain ⟨h1,h2⟩ :=h
    exact ⟨_,fun w=>by simp [eqGuard_int,binOp,Op.shift,Int.not_lt.2 h1,fdiv_pow],h2⟩
  · rename_i hn1 hn2
    split at h
    · rename_i hk
      subst hk
      obtain ⟨v,hv,hK⟩ :=intK2_sound P _ t _ _ _ K ⟨fun e=>hn1 e,fun e=>hn2 e⟩ h
      exact ⟨v,fun w=>by simp [eqGuard_int,hv],hK⟩
    · exact h.elim
  · exact ⟨_,fun w=>by simp [eqGuard_string,binOp,Op.stringOp],h⟩
  · exact ⟨_,fun w=>by simp [eqGuard_string,binOp,Op.stringOp],h⟩
  · have hu:=isBol_elim (show isBol (P.underlying t) = true from h.1)
    exact ⟨_,fun w=>by simp only [Sem.run_bind,eqGuard_bool,Result.andThen_ok,binOp,eql_run (equalIn_bols _ hu _ _ _),Sem.run_pure],h.2⟩
  · have hu:=isBol_elim (show isBol (P.underlying t) = true from h.1)
    exact ⟨_,fun w=>by simp only [Sem.run_bind,eqGuard_bool,Result.andThen_ok,binOp,eql_run (equalIn_bols _ hu _ _ _),Sem.run_pure],h.2⟩
  · obtain ⟨e,hu⟩ :=isPtr_elim (show isPtr (P.underlying t) = true from h.1)
    rename_i b
    exact ⟨.bool b.isNone,fun w=>by simp only [Sem.run_bind,eqGuard_ptr,Result.andThen_ok,binOp,eql_run (equalIn_ptrs _ hu _ _ (.inl rfl) _),Sem.run_pure,Option.isNone_none,Bool.true_and],h.2⟩
  · obtain ⟨e,hu⟩ :=isPtr_elim (show isPtr (P.underlying t) = true from h.1)
    rename_i b
    exact ⟨.bool (!b.isNone),fun w=>by simp only [Sem.run_bind,eqGuard_ptr,Result.andThen_ok,binOp,eql_run (equalIn_ptrs _ hu _ _ (.inl rfl) _),Sem.run_pure,Option.isNone_none,Bool.true_and],h.2⟩
  · obtain ⟨e,hu⟩ :=isPtr_elim (show isPtr (P.underlying t) = true from h.1)
    exact ⟨.bool false,fun w=>by simp only [Sem.run_bind,eqGuard_ptr,Result.andThen_ok,binOp,eql_run (equalIn_ptrs _ hu _ _ (.inr rfl) _),Sem.run_pure,Option.isNone_some,Bool.false_and],h.2⟩
  · obtain ⟨e,hu⟩ :=isPtr_elim (show isPtr (P.underlying t) = true from h.1)
    exact ⟨.bool true,fun w=>by simp only [Sem.run_bind,eqGuard_ptr,Result.andThen_ok,binOp,eql_run (equalIn_ptrs _ hu _ _ (.inr rfl) _),Sem.run_pure,Option.isNone_some,Bool.false_and,Bool.not_false],h.2⟩
  · obtain ⟨e,hu⟩ :=isSlc_elim (show isSlc (P.underlying t) = true from h.1)
    exact ⟨_,fun w=>by simp only [Sem.run_bind,eqGuard_slice,Result.andThen_ok,binOp,eql_run (equalIn_slcs _ hu _ _ _ _ _ _),Sem.run_pure],h.2⟩
  · obtain ⟨e,hu⟩ :=isSlc_elim (show isSlc (P.underlying t) = true from h.1)
    exact ⟨_,fun w=>by simp only [Sem.run_bind,eqGuard_slice,Result.andThen_ok,binOp,eql_run (equalIn_slcs _ hu _ _ _ _ _ _),Sem.run_pure],h.2⟩
  · exact h
def overR : List Value→List Value→List Value
  | l,[]=>l
  | _ :: l,v :: vs=>v :: overR l vs
  | [],_ :: _=>[]
def setR : List Value→Nat→List Value→List Value
  | l,0,vs=>overR l vs
  | x :: l,n + 1,vs=>x :: setR l n vs
  | [],_ + 1,_=>[]
theorem overR_length : ∀ (l vs : List Value),(overR l vs).length = l.length
  | l,[]=>by cases l<;>rfl
  | x :: l,v :: vs=>by simp [overR,overR_length l vs]
  | [],v :: vs=>rfl
theorem setR_length : ∀ (l : List Value) (n : Nat) (vs : List Value),(setR l n vs).length = l.length
  | l,0,vs=>by cases l<;>simp [setR,overR_length]
  | x :: l,n + 1,vs=>by simp [setR,setR_length l n vs]
  | [],n + 1,vs=>rfl
theorem setR_cons (v : Value) : ∀ (l : List Value) (n : Nat) (vs : List Value),setR l n (v :: vs) = setR (l.set n v) (n + 1) vs
  | [],0,vs=>by cases vs<;>rfl
  | [],n + 1,vs=>rfl
  | x :: l,0,vs=>by cases l<;>simp [setR,overR]
  | x :: l,n + 1,vs=>by simp [setR,setR_cons v l n vs]
theorem setR_nil : ∀ (l : List Value) (n : Nat),setR l n [] = l
  | l,0=>by cases l<;>rfl
  | x :: l,n + 1=>by simp [setR,setR_nil l n]
  | [],n + 1=>rfl
theorem foldl_setR (off : Nat) : ∀ (vs : List Value) (i : Nat) (cs : Array Value),
    (vs.zipIdx i).foldl (fun (cs : Array Value) (x : Value×Nat)=>cs.setIfInBounds (off + x.2) x.1) cs = (setR cs.toList (off + i) vs).toArray
  | [],i,cs=>by simp [setR_nil]
  | v :: vs,i,cs=>by
    rw [List.zipIdx_cons,List.foldl_cons,foldl_setR off vs (i + 1)]
    simp only [Array.toList_setIfInBounds]
    rw [setR_cons,Nat.add_assoc]
def fillL (place : Nat→Option (Nat×Nat)) (cells : List Value) : List (Nat×Value)→Option (List Value)
  | []=>some cells
  | (i,v) :: rest=>(place i).bind fun p=>if v.cells.size = p.2∧p.1 + p.2≤cells.length then fillL place (setR cells p.1 v.cells.toList) rest else none
theorem fill_of (place : Nat→Option (Nat×Nat)) : ∀ (ps : List (Nat×Value)) (cells : Array Value) (cs : List Value),fillL place cells.toList ps = some cs→Instr.fill place cells ps = some cs.toArray
  | [],cells,cs,h=>by
    simp only [fillL,Option.some.injEq] at h
    simp [Instr.fill,← h]
  | (i,v) :: rest,cells,cs,h=>by
    simp only [fillL,Option.bind_eq_some_iff] at h
    obtain ⟨⟨off,size⟩,hp,h⟩ :=h
    split at h
    · rename_i hc
      obtain ⟨h1,h2⟩ :=hc
      dsimp only at h1 h2 h
      simp only [Instr.fill,hp]
      have h2' : off + v.cells.size≤cells.size:=by rw [h1];simpa using h2
      rw [if_neg (by simp [h1];rw [← h1];omega)]
      have e : Array.foldl (fun cs (x : Value×Nat)=>match x with | (c,j)=>cs.setIfInBounds (off + j) c) cells v.cells.zipIdx = (setR cells.toList off v.cells.toList).toArray:=by
        rw [← Array.foldl_toList,Array.toList_zipIdx]
        exact foldl_setR off v.cells.toList 0 cells
      rw [e]
      exact fill_of place rest _ cs (by simpa using h)
    · cases h
theorem Tryz.info5 : (Tryz.prog.info? 5).map (fun i=>(i.zero,i.size,i.bytes)) = some (some (.int .u8 0),1,1):=by kernel_rfl
structure Wr (t : Nat) (w : World) (p : Nat) (v : Value) (xs : List Int) (bad : Bool) : Prop where
  blk : w.heap[p]? = some (.cells #[v,.bool bad] t (0,0))
  own : Own w v xs
structure WrStep (p : Nat) (w : World) (v : Value) (w' : World) (v' : Value) : Prop where
  chg : Chg (fun k=>k = p∨v.ownBlock = some k) w w'
  new : ∀ k,v'.ownBlock = some k→v.ownBlock = some k∨w.heap.size≤k
theorem WrStep.refl (p : Nat) (w : World) (v : Value) : WrStep p w v w v:=⟨Chg.refl _ _,fun _ h=>.inl h⟩
theorem WrStep.trans {p : Nat} {w w1 w2 : World} {v v1 v2 : Value} (h : WrStep p w v w1 v1) (k : WrStep p w1 v1 w2 v2) : WrStep p w v w2 v2:=
  ⟨h.chg.trans k.chg (fun x hx=>hx.elim (fun e=>.inl (.inl e)) (fun e=>(h.new x e).elim (fun e=>.inl (.inr e)) .inr)),
   fun x hx=>(k.new x hx).elim (h.new x) (fun hle=>.inr (Nat.le_trans h.chg.size hle))⟩
def Safe (p : Nat) (v : Value) (b : Nat) : Prop:=b≠p∧v.ownBlock≠some b
theorem WrStep.cell {p b o : Nat} {w w' : World} {v v' u : Value} (h : WrStep p w v w' v') (hc : w.cell? ⟨b,o,none⟩ = some u) (hs : Safe p v b) : w'.cell? ⟨b,o,none⟩ = some u:=
  h.chg.cell hc (fun e=>e.elim hs.1 hs.2)
theorem WrStep.safe {p b : Nat} {w w' : World} {v v' : Value} (h : WrStep p w v w' v') (hb : b < w.heap.size) (hs : Safe p v b) : Safe p v' b:=
  ⟨hs.1,fun e=>(h.new b e).elim hs.2 (fun hle=>by omega)⟩
theorem Safe.new {p : Nat} {w : World} {v : Value} {xs : List Int} (hp : p < w.heap.size) (ho : Own w v xs) {b : Nat} (hb : w.heap.size≤b) : Safe p v b:=
  ⟨by omega,fun e=>by have:=ho.lt e;omega⟩
theorem Wr.lt {t p : Nat} {w : World} {v : Value} {xs : List Int} {bad : Bool} (h : Wr t w p v xs bad) : p < w.heap.size:=lt_of_block h.blk
theorem Wr.c0 {t p : Nat} {w : World} {v : Value} {xs : List Int} {bad : Bool} (h : Wr t w p v xs bad) : w.cell? ⟨p,0,none⟩ = some v:=by rw [cell_of_row w p 0 _ _ _ h.blk];rfl
theorem Wr.c1 {t p : Nat} {w : World} {v : Value} {xs : List Int} {bad : Bool} (h : Wr t w p v xs bad) : w.cell? ⟨p,1,none⟩ = some (.bool bad):=by rw [cell_of_row w p 1 _ _ _ h.blk];rfl
theorem Wr.fz {t p : Nat} {w : World} {v : Value} {xs : List Int} {bad : Bool} (h : Wr t w p v xs bad) (o : Nat) : w.frozen? ⟨p,o,none⟩ = false:=by simp [World.frozen?,h.blk]
theorem Own.ne {t p : Nat} {w : World} {v : Value} {xs : List Int} {cs : Array Value} {fr : Nat×Nat} (h : Own w v xs) (hb : w.heap[p]? = some (.cells cs t fr)) (ht : t≠5) : v.ownBlock≠some p:=by
  rcases h.2 with ⟨rfl,_⟩ | ⟨g,cap,cur,rfl,_,hg,_⟩
  · simp [Value.ownBlock]
  · intro e
    simp [Value.ownBlock] at e
    subst e
    rw [hg] at hb
    injection hb with hb
    injection hb with _ hb _
    exact ht hb.symm
theorem Wr.chg {t p : Nat} {S : Nat→Prop} {w w' : World} {v : Value} {xs : List Int} {bad : Bool} (h : Wr t w p v xs bad) (hc : Chg S w w') (hp : ¬ S p) (hv : ∀ k,v.ownBlock = some k→¬ S k) : Wr t w' p v xs bad:=
  ⟨hc.at h.blk hp,h.own.chg hc hv⟩
theorem heap_setCell_at {w : World} {p o : Nat} {cs : Array Value} {t : TypeId} {fr : Nat×Nat} {u : Value} (h : w.heap[p]? = some (.cells cs t fr)) : (w.setCell ⟨p,o,none⟩ u).heap[p]? = some (.cells (cs.setIfInBounds o u) t fr):=by
  have hlt:=lt_of_block h
  have h' : w.heap[p] = .cells cs t fr:=by simpa [Array.getElem?_eq_getElem hlt] using h
  show (w.heap.modify p _)[p]? = _
  rw [Array.getElem?_eq_getElem (by simpa using hlt),Array.getElem_modify_self,h']
  rfl
theorem Wr.mark {t p : Nat} {w : World} {v : Value} {xs : List Int} {bad : Bool} (h : Wr t w p v xs bad) (ht : t≠5) (b : Bool) : Wr t (w.setCell ⟨p,1,none⟩ (.bool b)) p v xs b∧WrStep p w v (w.setCell ⟨p,1,none⟩ (.bool b)) v:=by
  have hc : Chg (fun k=>k = p) w (w.setCell ⟨p,1,none⟩ (.bool b)):=Chg.setCell (S:=fun k=>k = p) (p:=⟨p,1,none⟩) (Chg.refl _ w) (.inl rfl) _
  refine ⟨⟨by rw [heap_setCell_at h.blk];rfl,h.own.chg hc fun k hk e=>h.own.ne h.blk ht (e▸hk)⟩,hc.mono fun k hk=>.inl hk,fun k hk=>.inl hk⟩
theorem Wr.grown {t p : Nat} {w w0 w1 : World} {v v1 : Value} {xs ys : List Int} {bad : Bool} (h : Wr t w p v xs bad) (ht : t ≠ 5) (h0 : Chg (fun _ => False) w w0)
    (hown : Own w1 v1 ys) (hg : w0.grownBy w1 v.ownBlock) (hat : ∀ k,v1.ownBlock = some k→v.ownBlock = some k∨w0.heap.size≤k) :
    w1.cell? ⟨p,0,none⟩ = some v∧w1.frozen? ⟨p,0,none⟩ = false∧Wr t (w1.setCell ⟨p,0,none⟩ v1) p v1 ys bad∧WrStep p w v (w1.setCell ⟨p,0,none⟩ v1) v1:=by
  have hne:=h.own.ne h.blk ht
  have hc : Chg (fun k=>v.ownBlock = some k) w w1:=h0.mono (fun _ f=>f.elim) |>.trans (Chg.ofGrown hg) (fun x hx=>.inl hx)
  have hb1 : w1.heap[p]? = some (.cells #[v,.bool bad] t (0,0)):=hc.at h.blk hne
  refine ⟨by rw [cell_of_row w1 p 0 _ _ _ hb1];rfl,by simp [World.frozen?,hb1],⟨by rw [heap_setCell_at hb1];rfl,?_⟩,?_,fun k hk=>(hat k hk).imp id (Nat.le_trans h0.size)⟩
  · exact hown.chg (Chg.setCell (S:=fun k=>k = p) (p:=⟨p,0,none⟩) (Chg.refl _ w1) (.inl rfl) _) fun k hk e=>hown.ne hb1 ht (e▸hk)
  · exact Chg.setCell (S:=fun k=>k = p∨v.ownBlock = some k) (p:=⟨p,0,none⟩) (hc.mono fun x hx=>Or.inr hx) (.inl (.inl rfl)) _
theorem step_byte {ops : Array Oper} {o : Oper} {a : Act} {K : Act → World → Prop} {Q : Exit → Act → World → Prop} {E : Prop} {wr w : World} {t p : Nat} {v : Value} {ys : List Int} {bad : Bool} (x : Int)
    (hwr : Wr t wr p v ys bad) (ht : t≠5) (hl : ys.length≤100000000) (hgd : o.guard = none) (s u : Operand)
    (ho : o.op = .call { callee:=.builtin .append,args:=#[s,u],argTypes:=#[35,35] }) (B : Nat) (h0 : Chg (fun _=>False) wr w)
    (hs : a.eval s = v) (hu : a.eval u = .slice (some ⟨B,0,none⟩) 1 1) (hx : w.cell? ⟨B,0,none⟩ = some (.int .u8 x))
    (hK : ∀ g n cap w1,w1.cell? ⟨p,0,none⟩ = some v→w1.frozen? ⟨p,0,none⟩ = false→Wr t (w1.setCell ⟨p,0,none⟩ (.slice (some ⟨g,0,none⟩) n cap)) p (.slice (some ⟨g,0,none⟩) n cap) (ys ++ [x]) bad→
      WrStep p wr v (w1.setCell ⟨p,0,none⟩ (.slice (some ⟨g,0,none⟩) n cap)) (.slice (some ⟨g,0,none⟩) n cap)→K (a.put o.dst (.slice (some ⟨g,0,none⟩) n cap)) w1) :
    if Region.wanted o (yielded ops a.tmps) = true then Oper.wp Tryz.prog o a w K Q else E:=by
  obtain ⟨i0,hi,hz0,hz1,hz2⟩ :=info_parts Tryz.info5
  have hw0 : Wr t w p v ys bad:=hwr.chg h0 id (fun _ _=>id)
  refine step_append_lies w hgd s u 35 ho 0 5 i0 (.int .u8 0) 1 1 Tryz.underlying35 hi hz0 hz1 hz2 rfl (by decide) v ys.length (u8s ys) hs hw0.own ⟨B,0,none⟩ 1 1 [.int .u8 x] hu rfl ?_ (by intro y hy;simp at hy;subst hy;rfl) (by decide) (by unfold maxLen;omega) (by omega) (Nat.zero_le _) w.heap.size rfl ?_
  · intro j y hj
    match j,hj with
    | 0,hj=>simp at hj;subst hj;simpa [Addr.add] using hx
  · intro g cap w1 hown hg hat hlt
    have e : u8s (ys ++ [x]) = u8s ys ++ [.int .u8 x]:=by simp [u8s]
    obtain ⟨G0,G1,G2,G3⟩ :=Wr.grown (ys:=ys ++ [x]) (v1:=.slice (some ⟨g,0,none⟩) (ys.length + 1) cap) hwr ht h0 (by unfold Own;rw [e];simpa using hown) hg (by
      intro k hk
      simp [Value.ownBlock] at hk
      subst hk
      exact hat.imp id (fun e=>by omega))
    exact hK _ _ _ _ G0 G1 G2 G3
end Go.Proofs.YtnhgjgoglmadnaaGreat
