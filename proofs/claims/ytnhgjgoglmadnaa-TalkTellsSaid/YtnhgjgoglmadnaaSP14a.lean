/- Joined texts of this claim (part 1), printed by a program of this work. The last part holds the claimed theorem: the law answers true at every input of its row. -/
import Derived.WalkKit
import Derived.Deep.AppendLies
import Derived.Deep.Draws
import Derived.Lib.Hide
import Derived.OrdersHeld
import Derived.RegionTactic
import Derived.WalkLawsBesides
import Derived.Test.YtnhgjgoglmadnaaProg
import Derived.Outline
import Derived.Deep.RegionLaw
namespace Go.Proofs.Ytnhgjgoglmadnaa
open Go.RowKit

structure Chg (S : Nat → Prop) (w w' : World) : Prop where
  os : w'.os = w.os
  tape : w'.tape = w.tape
  output : w'.output = w.output
  size : w.heap.size ≤ w'.heap.size
  block : ∀ k, k < w.heap.size → ¬ S k → w'.heap[k]? = w.heap[k]?

theorem Chg.refl (S : Nat → Prop) (w : World) : Chg S w w := ⟨rfl, rfl, rfl, Nat.le_refl _, fun _ _ _ => rfl⟩
theorem Chg.trans {S T : Nat → Prop} {a b c : World} (h : Chg S a b) (k : Chg T b c) (hT : ∀ x, T x → S x ∨ a.heap.size ≤ x) : Chg S a c :=
  ⟨k.os.trans h.os, k.tape.trans h.tape, k.output.trans h.output, Nat.le_trans h.size k.size,
    fun i hi hn => (k.block i (Nat.lt_of_lt_of_le hi h.size) (fun ht => (hT i ht).elim hn (fun hle => by omega))).trans (h.block i hi hn)⟩
theorem Chg.mono {S T : Nat → Prop} {a b : World} (h : Chg S a b) (hs : ∀ x, S x → T x) : Chg T a b :=
  ⟨h.os, h.tape, h.output, h.size, fun i hi hn => h.block i hi (fun hx => hn (hs i hx))⟩
theorem Chg.mono' {S T : Nat → Prop} {a b : World} (h : Chg S a b) (hs : ∀ x, S x → x < a.heap.size → T x) : Chg T a b :=
  ⟨h.os, h.tape, h.output, h.size, fun i hi hn => h.block i hi (fun hx => hn (hs i hx hi))⟩
theorem Chg.ofGrown {a b : World} {row : Option Nat} (h : a.grownBy b row) : Chg (fun k => row = some k) a b :=
  ⟨h.os, h.tape, h.output, h.size, fun i hi hn => h.block i hi (fun e => hn e.symm)⟩
theorem Chg.below {S : Nat → Prop} {a b : World} (h : Chg S a b) (hs : ∀ x, S x → a.heap.size ≤ x) : Below a.heap.size a b :=
  ⟨h.os, h.tape, h.output, h.size, fun i hi => h.block i hi (fun hx => by have := hs i hx; omega)⟩
theorem Chg.drew {S : Nat → Prop} {a b : World} (h : Chg S a b) : Chg S a b.drew := ⟨h.os, h.tape, h.output, h.size, h.block⟩
theorem Chg.alloc {S : Nat → Prop} {a b : World} (h : Chg S a b) (o : Obj) : Chg S a (b.alloc o) :=
  h.trans (T := fun _ => False) ⟨rfl, rfl, rfl, by simp, fun k hk _ => Below.heap_alloc _ _ _ hk⟩ (fun _ hx => hx.elim)
theorem Chg.setCell {S : Nat → Prop} {a b : World} (h : Chg S a b) {p : Addr} (hp : S p.block ∨ a.heap.size ≤ p.block) (u : Value) : Chg S a (b.setCell p u) :=
  h.trans (T := fun k => k = p.block) ⟨rfl, rfl, rfl, by simp [World.setCell], fun k _ hn => Below.heap_setCell _ _ _ _ hn⟩ (fun x hx => hx ▸ hp)
theorem Chg.cell {S : Nat → Prop} {a b : World} (h : Chg S a b) {p : Addr} {v : Value} (hc : a.cell? p = some v) (hn : ¬ S p.block) : b.cell? p = some v :=
  (World.cell?_of_block (w := a) (h.block p.block (World.block_lt_of_cell? a p hc) hn)).trans hc
theorem Chg.at {S : Nat → Prop} {a b : World} (h : Chg S a b) {k : Nat} {o : Obj} (hc : a.heap[k]? = some o) (hn : ¬ S k) : b.heap[k]? = some o :=
  (h.block k (Array.getElem?_eq_some_iff.1 hc).1 hn).trans hc

def u8s (xs : List Int) : List Value := xs.map (Value.int .u8)
theorem u8s_append (xs ys : List Int) : u8s (xs ++ ys) = u8s xs ++ u8s ys := by simp [u8s]
def Byt (xs : List Int) : Prop := ∀ x ∈ xs, 0 ≤ x ∧ x ≤ 255
theorem Byt.append {xs ys : List Int} (h : Byt xs) (k : Byt ys) : Byt (xs ++ ys) := fun x hx => (List.mem_append.1 hx).elim (h x) (k x)
theorem Byt.nil : Byt [] := fun _ h => by cases h

def Rd (w : World) (v : Value) (xs : List Int) : Prop :=
  ∃ a c, v = .slice a xs.length c ∧ xs.length ≤ c ∧ c ≤ maxLen ∧ (a = none → c = 0) ∧
    (0 < xs.length → ∃ b o, a = some ⟨b, o, none⟩ ∧ ∀ j, j < xs.length → w.cell? ⟨b, o + j, none⟩ = some (.int .u8 (xs.getD j 0)))

def Own (w : World) (v : Value) (xs : List Int) : Prop := w.ownsRow 0 5 1 v xs.length (u8s xs)

theorem Own.nil (w : World) : Own w (.slice none 0 0) [] := World.ownsRow_nil _ _ _ _
theorem Own.chg {S : Nat → Prop} {w w' : World} {v : Value} {xs : List Int} (h : Own w v xs) (hc : Chg S w w') (hn : ∀ k, v.ownBlock = some k → ¬ S k) : Own w' v xs := by
  refine ⟨h.1, ?_⟩
  rcases h.2 with hz | ⟨g, cap, cur, rfl, hb, hg, rest⟩
  · exact .inl hz
  · exact .inr ⟨g, cap, cur, rfl, hb, hc.at hg (hn g (by simp [Value.ownBlock])), rest⟩
theorem Own.lt {w : World} {v : Value} {xs : List Int} (h : Own w v xs) {k : Nat} (hk : v.ownBlock = some k) : k < w.heap.size := (World.ownsRow.lt h k hk).2
theorem Rd.chg {S : Nat → Prop} {w w' : World} {v : Value} {xs : List Int} (h : Rd w v xs) (hc : Chg S w w') (hn : ∀ k, v.ownBlock = some k → ¬ S k) : Rd w' v xs := by
  obtain ⟨a, c, rfl, h1, h2, h3, h4⟩ := h
  refine ⟨a, c, rfl, h1, h2, h3, fun hp => ?_⟩
  obtain ⟨b, o, rfl, hcell⟩ := h4 hp
  exact ⟨b, o, rfl, fun j hj => hc.cell (hcell j hj) (hn b (by simp [Value.ownBlock]))⟩
theorem Own.rd {w : World} {v : Value} {xs : List Int} (h : Own w v xs) : Rd w v xs := by
  rcases h.2 with ⟨rfl, hz⟩ | ⟨g, cap, cur, rfl, hb, hg, hn, hm, hsz, ht⟩
  · refine ⟨none, 0, by rw [hz], by omega, by simp [maxLen], fun _ => rfl, fun hp => by omega⟩
  · refine ⟨some ⟨g, 0, none⟩, cap, rfl, hn, hm, (fun h => by cases h), fun hp => ⟨g, 0, rfl, fun j hj => ?_⟩⟩
    have hj' : (u8s xs)[j]? = some (.int .u8 (xs.getD j 0)) := by simp [u8s, List.getD, hj]
    have := World.ownsRow.cells h (g := g) rfl j _ hj'
    simpa [Addr.add_lit] using this
theorem Rd.len {w : World} {v : Value} {xs : List Int} (h : Rd w v xs) : xs.length ≤ maxLen := by
  obtain ⟨a, c, rfl, h1, h2, _⟩ := h; omega
end Go.Proofs.Ytnhgjgoglmadnaa
namespace Go.Proofs.Ytnhgjgoglmadnaa
open Go.RowKit

inductive Tg {α : Sort _} (K : α) : Type
  | mk
def okK {α : Type} (o : Option α) (K : α → Prop) (_t : Tg K := .mk) : Prop := match o with | some v => K v | none => False
def valK {α : Type} (v : α) (K : α → Prop) (_t : Tg K := .mk) : Prop := K v
def boolK (v : Value) (K : Bool → Prop) (_t : Tg K := .mk) : Prop := match v with | .bool b => K b | _ => False
def ifK (b : Bool) (A B : Prop) (_t : Tg (A, B) := .mk) : Prop := (b = true → A) ∧ (b = false → B)
theorem okK_some {α : Type} (v : α) (K : α → Prop) : okK (some v) K = K v := (rfl)
theorem valK_eq {α : Type} (v : α) (K : α → Prop) : valK v K = K v := (rfl)
theorem boolK_bool (b : Bool) (K : Bool → Prop) : boolK (.bool b) K = K b := (rfl)
theorem ifK_true (A B : Prop) : ifK true A B = A := by simp [ifK]
theorem ifK_false (A B : Prop) : ifK false A B = B := by simp [ifK]
theorem okK_elim {α : Type} {o : Option α} {K : α → Prop} (h : okK o K) : ∃ v, o = some v ∧ K v := by cases o with | none => exact h.elim | some v => exact ⟨v, rfl, h⟩
theorem boolK_elim {v : Value} {K : Bool → Prop} (h : boolK v K) : ∃ b, v = .bool b ∧ K b := by cases v <;> first | exact ⟨_, rfl, h⟩ | exact h.elim

abbrev Env := List (Nat × Value)
def Env.get : Env → Nat → Option Value
  | [], _ => none
  | (k, v) :: E, i => if k = i then some v else Env.get E i
def Env.push (d : Option Tmp) (v : Value) (E : Env) : Env := match d with | some d => (d, v) :: E | none => E
def ev (E : Env) : Operand → Option Value
  | .tmp t => E.get t
  | .const v => some v
  | .global g => some (.pointer (some ⟨g, 0, none⟩))
  | .func f => some (.func (.func f) #[] #[])
def evs (E : Env) : List Operand → Option (List Value)
  | [] => some []
  | x :: xs => (ev E x).bind fun v => (evs E xs).bind fun vs => some (v :: vs)

structure Agree (n : Nat) (E : Env) (a : Act) : Prop where
  size : a.tmps.size = n
  defers : a.defers = []
  get : ∀ i v, E.get i = some v → a.tmps.getD i undef = v

theorem Agree.ev {n : Nat} {E : Env} {a : Act} (h : Agree n E a) {x : Operand} {v : Value} (hx : ev E x = some v) : a.eval x = v := by
  cases x with
  | tmp t => exact h.get t v hx
  | const u => exact Option.some.inj hx
  | global g => exact Option.some.inj hx
  | func f => exact Option.some.inj hx
theorem Agree.evs {n : Nat} {E : Env} {a : Act} (h : Agree n E a) : ∀ {xs : List Operand} {vs : List Value}, evs E xs = some vs → xs.map a.eval = vs
  | [], vs, hx => by simp [Go.Proofs.Ytnhgjgoglmadnaa.evs] at hx; simp [hx]
  | x :: xs, vs, hx => by
    simp only [Go.Proofs.Ytnhgjgoglmadnaa.evs, Option.bind_eq_some_iff] at hx
    obtain ⟨v, hv, us, hu, he⟩ := hx
    injection he with he
    subst he
    simp [h.ev hv, Agree.evs h hu]
theorem Agree.put {n : Nat} {E : Env} {a : Act} (h : Agree n E a) (d : Option Tmp) (v : Value) (hd : ∀ k, d = some k → k < n) : Agree n (E.push d v) (a.put d v) := by
  cases d with
  | none => exact h
  | some k =>
    refine ⟨by simp [Act.put, h.size], h.defers, fun i u hi => ?_⟩
    simp only [Env.push, Env.get, Act.put] at hi ⊢
    by_cases e : k = i
    · subst e
      simp at hi
      have hk := hd k rfl
      rw [← h.size] at hk
      simp [Array.getD, hk, hi]
    · rw [if_neg e] at hi
      have := h.get i u hi
      simp only [Array.getD_eq_getD_getElem?] at this ⊢
      rw [Array.getElem?_setIfInBounds_ne e]
      exact this
theorem Agree.weaken {n : Nat} {E E' : Env} {a : Act} (h : Agree n E a) (hs : ∀ i v, E'.get i = some v → E.get i = some v) : Agree n E' a := ⟨h.size, h.defers, fun i v hi => h.get i v (hs i v hi)⟩

def pureF (P : Program) (s : Sem Value) (K : Value → Prop) (_t : Tg K := .mk) : Prop := ∃ v, (∀ w, s.run P w = .ok v w) ∧ K v
def isPtr : Option TypeDesc → Bool | some (.pointer _) => true | _ => false
def isSlc : Option TypeDesc → Bool | some (.slice _) => true | _ => false
def isStr : Option TypeDesc → Bool | some .string => true | _ => false
def isBol : Option TypeDesc → Bool | some .bool => true | _ => false
def isAggT : Option TypeDesc → Bool | some (.struct _) | some (.array ..) => true | _ => false
def intT : Option TypeDesc → Option IntKind | some (.int k) => some k | _ => none
def slcT : Option TypeDesc → Option TypeId | some (.slice e) => some e | _ => none
def arrT : Option TypeDesc → Option (Nat × TypeId) | some (.array n e) => some (n, e) | _ => none
def strT : Option TypeDesc → Option (Array Field) | some (.struct fs) => some fs | _ => none
def tsize (P : Program) (t : TypeId) : Option Nat := (P.info? t).map (·.size)
structure TI where
  known : Bool
  agg : Bool
  size : Option Nat
  zero : Option Value
  lay : Option (List (Nat × Option Nat × Option Bool))
  arr : Option (Nat × Option Nat × Bool)
  sl : Option (TypeId × Option Nat)
  int : Option IntKind
  ptr : Bool
  slc : Bool
  bol : Bool
  str : Bool
def tinfo (P : Program) (t : TypeId) : TI where
  known := (P.underlying t).isSome
  agg := isAggT (P.underlying t)
  size := tsize P t
  zero := (P.info? t).bind (·.zero)
  lay := (strT (P.underlying t)).map fun fs => fs.toList.map fun f => (f.offset, tsize P f.type, (P.underlying f.type).map fun d => isAggT (some d))
  arr := (arrT (P.underlying t)).map fun a => (a.1, tsize P a.2, isAggT (P.underlying a.2))
  sl := (slcT (P.underlying t)).map fun e => (e, tsize P e)
  int := intT (P.underlying t)
  ptr := isPtr (P.underlying t)
  slc := isSlc (P.underlying t)
  bol := isBol (P.underlying t)
  str := isStr (P.underlying t)
theorem tsize_run {P : Program} {t : TypeId} {n : Nat} (h : tsize P t = some n) (w : World) : (sizeOf t).run P w = .ok n w := by
  obtain ⟨i, hi, rfl⟩ := Option.map_eq_some_iff.1 h
  simp [sizeOf, typeInfo, hi]
theorem tzero_run {P : Program} {t : TypeId} {z : Value} (h : (tinfo P t).zero = some z) (w : World) : (zeroValue t).run P w = .ok z w := by
  obtain ⟨i, hi, hz⟩ := Option.bind_eq_some_iff.1 h
  simp [zeroValue, typeInfo, hi, hz]

def intK2 (op : BinOp) (k : IntKind) (a b : Int) (K : Value → Prop) (_t : Tg K := .mk) : Prop :=
  match op with
  | .add => valK (.int k (k.wrap (a + b))) K
  | .sub => valK (.int k (k.wrap (a - b))) K
  | .mul => valK (.int k (k.wrap (a * b))) K
  | .quo => b ≠ 0 ∧ valK (.int k (k.wrap (a.tdiv b))) K
  | .rem => b ≠ 0 ∧ valK (.int k (a.tmod b)) K
  | .and => valK (.int k (k.wrap (BitVec.ofInt k.bits a &&& BitVec.ofInt k.bits b).toNat)) K
  | .or => valK (.int k (k.wrap (BitVec.ofInt k.bits a ||| BitVec.ofInt k.bits b).toNat)) K
  | .xor => valK (.int k (k.wrap (BitVec.ofInt k.bits a ^^^ BitVec.ofInt k.bits b).toNat)) K
  | .andNot => valK (.int k (k.wrap (BitVec.ofInt k.bits a &&& ~~~ (BitVec.ofInt k.bits b)).toNat)) K
  | .eql => valK (.bool (decide (a = b))) K
  | .neq => valK (.bool (!decide (a = b))) K
  | .lss => valK (.bool (decide (a < b))) K
  | .leq => valK (.bool (decide (a ≤ b))) K
  | .gtr => valK (.bool (decide (b < a))) K
  | .geq => valK (.bool (decide (b ≤ a))) K
  | _ => False

def binK (P : Program) (op : BinOp) (t : TypeId) (xo yo : Operand) (x y : Value) (K : Value → Prop) (_t : Tg K := .mk) : Prop :=
  match op, x, y with
  | .shl, .int k a, .int _ b => 0 ≤ b ∧ valK (.int k (k.wrap (a * 2 ^ min b.toNat k.bits))) K
  | .shr, .int k a, .int _ b => 0 ≤ b ∧ valK (.int k (a / 2 ^ min b.toNat k.bits)) K
  | op, .int k a, .int k' b => if k = k' then intK2 op k a b K else False
  | .eql, .string a, .string b => valK (.bool (a.toList == b.toList)) K
  | .neq, .string a, .string b => valK (.bool (!(a.toList == b.toList))) K
  | .eql, .bool a, .bool b => (tinfo P t).bol = true ∧ valK (.bool (a == b)) K
  | .neq, .bool a, .bool b => (tinfo P t).bol = true ∧ valK (.bool (!(a == b))) K
  | .eql, .pointer none, .pointer b => (tinfo P t).ptr = true ∧ valK (.bool b.isNone) K
  | .neq, .pointer none, .pointer b => (tinfo P t).ptr = true ∧ valK (.bool (!b.isNone)) K
  | .eql, .pointer (some _), .pointer none => (tinfo P t).ptr = true ∧ valK (.bool false) K
  | .neq, .pointer (some _), .pointer none => (tinfo P t).ptr = true ∧ valK (.bool true) K
  | .eql, .slice a _ _, .slice none _ _ => (tinfo P t).slc = true ∧ valK (.bool a.isNone) K
  | .neq, .slice a _ _, .slice none _ _ => (tinfo P t).slc = true ∧ valK (.bool (!a.isNone)) K
  | _, _, _ => pureF P (do eqGuard op t xo yo x y; binOp op t x y) K

theorem fdiv_pow (a : Int) (n : Nat) : a.fdiv (2 ^ n) = a / 2 ^ n := Int.fdiv_eq_ediv_of_nonneg _ (Int.le_of_lt (Int.pow_pos (by decide)))

theorem eqGuard_int (P : Program) (op : BinOp) (t : TypeId) (xo yo : Operand) (k k' : IntKind) (a b : Int) (w : World) : (eqGuard op t xo yo (.int k a) (.int k' b)).run P w = .ok () w := by
  cases op <;> simp [eqGuard]
theorem eqGuard_bool (P : Program) (op : BinOp) (t : TypeId) (xo yo : Operand) (a b : Bool) (w : World) : (eqGuard op t xo yo (.bool a) (.bool b)).run P w = .ok () w := by
  cases op <;> simp [eqGuard]
theorem eqGuard_string (P : Program) (op : BinOp) (t : TypeId) (xo yo : Operand) (a b : ByteArray) (w : World) : (eqGuard op t xo yo (.string a) (.string b)).run P w = .ok () w := by
  cases op <;> simp [eqGuard]
theorem eqGuard_ptr (P : Program) (op : BinOp) (t : TypeId) (xo yo : Operand) (a b : Option Addr) (w : World) : (eqGuard op t xo yo (.pointer a) (.pointer b)).run P w = .ok () w := by
  cases op <;> simp [eqGuard]
theorem eqGuard_slice (P : Program) (op : BinOp) (t : TypeId) (xo yo : Operand) (a b : Option Addr) (n c n' c' : Nat) (w : World) : (eqGuard op t xo yo (.slice a n c) (.slice b n' c')).run P w = .ok () w := by
  cases op <;> simp [eqGuard]

theorem run_underlying_of {P : Program} {t : TypeId} {d : TypeDesc} (h : P.underlying t = some d) (w : World) : (underlying t).run P w = .ok d w := by simp [underlying, h]

theorem isPtr_elim {o : Option TypeDesc} (h : isPtr o = true) : ∃ e, o = some (.pointer e) := by
  cases o with
  | none => simp [isPtr] at h
  | some d => cases d <;> first | exact ⟨_, rfl⟩ | simp [isPtr] at h
theorem isSlc_elim {o : Option TypeDesc} (h : isSlc o = true) : ∃ e, o = some (.slice e) := by
  cases o with
  | none => simp [isSlc] at h
  | some d => cases d <;> first | exact ⟨_, rfl⟩ | simp [isSlc] at h
theorem isBol_elim {o : Option TypeDesc} (h : isBol o = true) : o = some .bool := by
  cases o with
  | none => simp [isBol] at h
  | some d => cases d <;> first | rfl | simp [isBol] at h

theorem equalIn_ptrs {P : Program} {t e : TypeId} (d : Nat) (hu : P.underlying t = some (.pointer e)) (a b : Option Addr) (h : a = none ∨ b = none) (w : World) : (Op.equalIn (d + 1) t (.pointer a) (.pointer b)).run P w = .ok (a.isNone && b.isNone) w := by
  rcases h with rfl | rfl
  · cases b <;> simp [Op.equalIn, run_underlying_of hu]
  · cases a <;> simp [Op.equalIn, run_underlying_of hu]
theorem equalIn_slcs {P : Program} {t e : TypeId} (d : Nat) (hu : P.underlying t = some (.slice e)) (a : Option Addr) (n c n' c' : Nat) (w : World) : (Op.equalIn (d + 1) t (.slice a n c) (.slice none n' c')).run P w = .ok a.isNone w := by
  cases a <;> simp [Op.equalIn, run_underlying_of hu]
theorem equalIn_bols {P : Program} {t : TypeId} (d : Nat) (hu : P.underlying t = some .bool) (a b : Bool) (w : World) : (Op.equalIn (d + 1) t (.bool a) (.bool b)).run P w = .ok (a == b) w := by
  simp [Op.equalIn, run_underlying_of hu]
theorem eql_run {P : Program} {t : TypeId} {x y : Value} {b : Bool} {w : World} (h : (Op.equalIn (9999 + 1) t x y).run P w = .ok b w) : (Op.equal t x y).run P w = .ok b w := h
theorem beqDec (a b : Int) : (a == b) = decide (a = b) := by
  by_cases h : a = b <;> simp [h]

theorem intK2_sound (P : Program) (op : BinOp) (t : TypeId) (k : IntKind) (a b : Int) (K : Value → Prop) (hs : op ≠ .shl ∧ op ≠ .shr) (h : intK2 op k a b K) : ∃ v, (∀ w, (binOp op t (.int k a) (.int k b)).run P w = .ok v w) ∧ K v := by
  cases op <;> simp [intK2, valK] at h hs <;> (try exact h.elim)
  case eql => exact ⟨.bool (decide (a = b)), fun w => by rw [← beqDec]; simp [binOp, Op.intCmp], h⟩
  case neq => exact ⟨.bool (!decide (a = b)), fun w => by rw [← beqDec]; simp [binOp, Op.intCmp, bne], h⟩
  case quo => exact ⟨_, fun w => by simp [binOp, Op.intDiv, h.1], h.2⟩
  case rem => exact ⟨_, fun w => by simp [binOp, Op.intDiv, h.1], h.2⟩
  all_goals exact ⟨_, fun w => by simp [binOp, Op.intArith, Op.intCmp, Op.intBits], h⟩

theorem binK_sound (P : Program) (op : BinOp) (t : TypeId) (xo yo : Operand) (x y : Value) (K : Value → Prop) (h : binK P op t xo yo x y K) :
    pureF P (do eqGuard op t xo yo x y; binOp op t x y) K := by
  unfold binK at h
  split at h
  · obtain ⟨h1, h2⟩ := h
    exact ⟨_, fun w => by simp [eqGuard_int, binOp, Op.shift, Int.not_lt.2 h1], h2⟩
  · obtain ⟨h1, h2⟩ := h
    exact ⟨_, fun w => by simp [eqGuard_int, binOp, Op.shift, Int.not_lt.2 h1, fdiv_pow], h2⟩
  · rename_i hn1 hn2
    split at h
    · rename_i hk
      subst hk
      obtain ⟨v, hv, hK⟩ := intK2_sound P _ t _ _ _ K ⟨fun e => hn1 e, fun e => hn2 e⟩ h
      exact ⟨v, fun w => by simp [eqGuard_int, hv], hK⟩
    · exact h.elim
  · exact ⟨_, fun w => by simp [eqGuard_string, binOp, Op.stringOp], h⟩
  · exact ⟨_, fun w => by simp [eqGuard_string, binOp, Op.stringOp], h⟩
  · have hu := isBol_elim (show isBol (P.underlying t) = true from h.1)
    exact ⟨_, fun w => by simp only [Sem.run_bind, eqGuard_bool, Result.andThen_ok, binOp, eql_run (equalIn_bols _ hu _ _ _), Sem.run_pure], h.2⟩
  · have hu := isBol_elim (show isBol (P.underlying t) = true from h.1)
    exact ⟨_, fun w => by simp only [Sem.run_bind, eqGuard_bool, Result.andThen_ok, binOp, eql_run (equalIn_bols _ hu _ _ _), Sem.run_pure], h.2⟩
  · obtain ⟨e, hu⟩ := isPtr_elim (show isPtr (P.underlying t) = true from h.1)
    rename_i b
    exact ⟨.bool b.isNone, fun w => by simp only [Sem.run_bind, eqGuard_ptr, Result.andThen_ok, binOp, eql_run (equalIn_ptrs _ hu _ _ (.inl rfl) _), Sem.run_pure, Option.isNone_none, Bool.true_and], h.2⟩
  · obtain ⟨e, hu⟩ := isPtr_elim (show isPtr (P.underlying t) = true from h.1)
    rename_i b
    exact ⟨.bool (!b.isNone), fun w => by simp only [Sem.run_bind, eqGuard_ptr, Result.andThen_ok, binOp, eql_run (equalIn_ptrs _ hu _ _ (.inl rfl) _), Sem.run_pure, Option.isNone_none, Bool.true_and], h.2⟩
  · obtain ⟨e, hu⟩ := isPtr_elim (show isPtr (P.underlying t) = true from h.1)
    exact ⟨.bool false, fun w => by simp only [Sem.run_bind, eqGuard_ptr, Result.andThen_ok, binOp, eql_run (equalIn_ptrs _ hu _ _ (.inr rfl) _), Sem.run_pure, Option.isNone_some, Bool.false_and], h.2⟩
  · obtain ⟨e, hu⟩ := isPtr_elim (show isPtr (P.underlying t) = true from h.1)
    exact ⟨.bool true, fun w => by simp only [Sem.run_bind, eqGuard_ptr, Result.andThen_ok, binOp, eql_run (equalIn_ptrs _ hu _ _ (.inr rfl) _), Sem.run_pure, Option.isNone_some, Bool.false_and, Bool.not_false], h.2⟩
  · obtain ⟨e, hu⟩ := isSlc_elim (show isSlc (P.underlying t) = true from h.1)
    exact ⟨_, fun w => by simp only [Sem.run_bind, eqGuard_slice, Result.andThen_ok, binOp, eql_run (equalIn_slcs _ hu _ _ _ _ _ _), Sem.run_pure], h.2⟩
  · obtain ⟨e, hu⟩ := isSlc_elim (show isSlc (P.underlying t) = true from h.1)
    exact ⟨_, fun w => by simp only [Sem.run_bind, eqGuard_slice, Result.andThen_ok, binOp, eql_run (equalIn_slcs _ hu _ _ _ _ _ _), Sem.run_pure], h.2⟩
  · exact h

def overR : List Value → List Value → List Value
  | l, [] => l
  | _ :: l, v :: vs => v :: overR l vs
  | [], _ :: _ => []
def setR : List Value → Nat → List Value → List Value
  | l, 0, vs => overR l vs
  | x :: l, n + 1, vs => x :: setR l n vs
  | [], _ + 1, _ => []
theorem setR_cons (v : Value) : ∀ (l : List Value) (n : Nat) (vs : List Value), setR l n (v :: vs) = setR (l.set n v) (n + 1) vs
  | [], 0, vs => by cases vs <;> rfl
  | [], n + 1, vs => rfl
  | x :: l, 0, vs => by cases l <;> simp [setR, overR]
  | x :: l, n + 1, vs => by simp [setR, setR_cons v l n vs]
theorem setR_nil : ∀ (l : List Value) (n : Nat), setR l n [] = l
  | l, 0 => by cases l <;> rfl
  | x :: l, n + 1 => by simp [setR, setR_nil l n]
  | [], n + 1 => rfl
theorem foldl_setR (off : Nat) : ∀ (vs : List Value) (i : Nat) (cs : Array Value),
    (vs.zipIdx i).foldl (fun (cs : Array Value) (x : Value × Nat) => cs.setIfInBounds (off + x.2) x.1) cs = (setR cs.toList (off + i) vs).toArray
  | [], i, cs => by simp [setR_nil]
  | v :: vs, i, cs => by
    rw [List.zipIdx_cons, List.foldl_cons, foldl_setR off vs (i + 1)]
    simp only [Array.toList_setIfInBounds]
    rw [setR_cons, Nat.add_assoc]
def fillL (place : Nat → Option (Nat × Nat)) (cells : List Value) : List (Nat × Value) → Option (List Value)
  | [] => some cells
  | (i, v) :: rest => (place i).bind fun p => if v.cells.size = p.2 ∧ p.1 + p.2 ≤ cells.length then fillL place (setR cells p.1 v.cells.toList) rest else none
theorem fill_of (place : Nat → Option (Nat × Nat)) : ∀ (ps : List (Nat × Value)) (cells : Array Value) (cs : List Value), fillL place cells.toList ps = some cs → Instr.fill place cells ps = some cs.toArray
  | [], cells, cs, h => by
    simp only [fillL, Option.some.injEq] at h
    simp [Instr.fill, ← h]
  | (i, v) :: rest, cells, cs, h => by
    simp only [fillL, Option.bind_eq_some_iff] at h
    obtain ⟨⟨off, size⟩, hp, h⟩ := h
    split at h
    · rename_i hc
      obtain ⟨h1, h2⟩ := hc
      dsimp only at h1 h2 h
      simp only [Instr.fill, hp]
      have h2' : off + v.cells.size ≤ cells.size := by rw [h1]; simpa using h2
      rw [if_neg (by simp [h1]; rw [← h1]; omega)]
      have e : Array.foldl (fun cs (x : Value × Nat) => match x with | (c, j) => cs.setIfInBounds (off + j) c) cells v.cells.zipIdx = (setR cells.toList off v.cells.toList).toArray := by
        rw [← Array.foldl_toList, Array.toList_zipIdx]
        exact foldl_setR off v.cells.toList 0 cells
      rw [e]
      exact fill_of place rest _ cs (by simpa using h)
    · cases h
end Go.Proofs.Ytnhgjgoglmadnaa
namespace Go.Proofs.Ytnhgjgoglmadnaa
open Go.RowKit

theorem Try.info5 : (Try.prog.info? 5).map (fun i => (i.zero, i.size, i.bytes)) = some (some (.int .u8 0), 1, 1) := by kernel_rfl

structure Wr (t : Nat) (w : World) (p : Nat) (v : Value) (xs : List Int) (bad : Bool) : Prop where
  blk : w.heap[p]? = some (.cells #[v, .bool bad] t (0, 0))
  own : Own w v xs

structure WrStep (p : Nat) (w : World) (v : Value) (w' : World) (v' : Value) : Prop where
  chg : Chg (fun k => k = p ∨ v.ownBlock = some k) w w'
  new : ∀ k, v'.ownBlock = some k → v.ownBlock = some k ∨ w.heap.size ≤ k

theorem WrStep.refl (p : Nat) (w : World) (v : Value) : WrStep p w v w v := ⟨Chg.refl _ _, fun _ h => .inl h⟩
theorem WrStep.trans {p : Nat} {w w1 w2 : World} {v v1 v2 : Value} (h : WrStep p w v w1 v1) (k : WrStep p w1 v1 w2 v2) : WrStep p w v w2 v2 :=
  ⟨h.chg.trans k.chg (fun x hx => hx.elim (fun e => .inl (.inl e)) (fun e => (h.new x e).elim (fun e => .inl (.inr e)) .inr)),
   fun x hx => (k.new x hx).elim (h.new x) (fun hle => .inr (Nat.le_trans h.chg.size hle))⟩
def Safe (p : Nat) (v : Value) (b : Nat) : Prop := b ≠ p ∧ v.ownBlock ≠ some b
theorem WrStep.cell {p b o : Nat} {w w' : World} {v v' u : Value} (h : WrStep p w v w' v') (hc : w.cell? ⟨b, o, none⟩ = some u) (hs : Safe p v b) : w'.cell? ⟨b, o, none⟩ = some u :=
  h.chg.cell hc (fun e => e.elim hs.1 hs.2)
theorem WrStep.safe {p b : Nat} {w w' : World} {v v' : Value} (h : WrStep p w v w' v') (hb : b < w.heap.size) (hs : Safe p v b) : Safe p v' b :=
  ⟨hs.1, fun e => (h.new b e).elim hs.2 (fun hle => by omega)⟩
theorem Safe.new {p : Nat} {w : World} {v : Value} {xs : List Int} (hp : p < w.heap.size) (ho : Own w v xs) {b : Nat} (hb : w.heap.size ≤ b) : Safe p v b :=
  ⟨by omega, fun e => by have := ho.lt e; omega⟩
theorem Wr.lt {t p : Nat} {w : World} {v : Value} {xs : List Int} {bad : Bool} (h : Wr t w p v xs bad) : p < w.heap.size := lt_of_block h.blk
theorem Wr.c0 {t p : Nat} {w : World} {v : Value} {xs : List Int} {bad : Bool} (h : Wr t w p v xs bad) : w.cell? ⟨p, 0, none⟩ = some v := by rw [cell_of_row w p 0 _ _ _ h.blk]; rfl
theorem Wr.c1 {t p : Nat} {w : World} {v : Value} {xs : List Int} {bad : Bool} (h : Wr t w p v xs bad) : w.cell? ⟨p, 1, none⟩ = some (.bool bad) := by rw [cell_of_row w p 1 _ _ _ h.blk]; rfl
theorem Wr.fz {t p : Nat} {w : World} {v : Value} {xs : List Int} {bad : Bool} (h : Wr t w p v xs bad) (o : Nat) : w.frozen? ⟨p, o, none⟩ = false := by simp [World.frozen?, h.blk]
theorem Own.ne {t p : Nat} {w : World} {v : Value} {xs : List Int} {cs : Array Value} {fr : Nat × Nat} (h : Own w v xs) (hb : w.heap[p]? = some (.cells cs t fr)) (ht : t ≠ 5) : v.ownBlock ≠ some p := by
  rcases h.2 with ⟨rfl, _⟩ | ⟨g, cap, cur, rfl, _, hg, _⟩
  · simp [Value.ownBlock]
  · intro e
    simp [Value.ownBlock] at e
    subst e
    rw [hg] at hb
    injection hb with hb
    injection hb with _ hb _
    exact ht hb.symm
theorem Wr.chg {t p : Nat} {S : Nat → Prop} {w w' : World} {v : Value} {xs : List Int} {bad : Bool} (h : Wr t w p v xs bad) (hc : Chg S w w') (hp : ¬ S p) (hv : ∀ k, v.ownBlock = some k → ¬ S k) : Wr t w' p v xs bad :=
  ⟨hc.at h.blk hp, h.own.chg hc hv⟩

theorem heap_setCell_at {w : World} {p o : Nat} {cs : Array Value} {t : TypeId} {fr : Nat × Nat} {u : Value} (h : w.heap[p]? = some (.cells cs t fr)) : (w.setCell ⟨p, o, none⟩ u).heap[p]? = some (.cells (cs.setIfInBounds o u) t fr) := by
  have hlt := lt_of_block h
  have h' : w.heap[p] = .cells cs t fr := by simpa [Array.getElem?_eq_getElem hlt] using h
  show (w.heap.modify p _)[p]? = _
  rw [Array.getElem?_eq_getElem (by simpa using hlt), Array.getElem_modify_self, h']
  rfl

theorem Wr.mark {t p : Nat} {w : World} {v : Value} {xs : List Int} {bad : Bool} (h : Wr t w p v xs bad) (ht : t ≠ 5) (b : Bool) : Wr t (w.setCell ⟨p, 1, none⟩ (.bool b)) p v xs b ∧ WrStep p w v (w.setCell ⟨p, 1, none⟩ (.bool b)) v := by
  have hc : Chg (fun k => k = p) w (w.setCell ⟨p, 1, none⟩ (.bool b)) := Chg.setCell (S := fun k => k = p) (p := ⟨p, 1, none⟩) (Chg.refl _ w) (.inl rfl) _
  refine ⟨⟨by rw [heap_setCell_at h.blk]; rfl, h.own.chg hc fun k hk e => h.own.ne h.blk ht (e ▸ hk)⟩, hc.mono fun k hk => .inl hk, fun k hk => .inl hk⟩

theorem Wr.grown {t p : Nat} {w w0 w1 : World} {v v1 : Value} {xs ys : List Int} {bad : Bool} (h : Wr t w p v xs bad) (ht : t ≠ 5) (h0 : Chg (fun _ => False) w w0)
    (hown : Own w1 v1 ys) (hg : w0.grownBy w1 v.ownBlock) (hat : ∀ k, v1.ownBlock = some k → v.ownBlock = some k ∨ w0.heap.size ≤ k) :
    w1.cell? ⟨p, 0, none⟩ = some v ∧ w1.frozen? ⟨p, 0, none⟩ = false ∧ Wr t (w1.setCell ⟨p, 0, none⟩ v1) p v1 ys bad ∧ WrStep p w v (w1.setCell ⟨p, 0, none⟩ v1) v1 := by
  have hne := h.own.ne h.blk ht
  have hc : Chg (fun k => v.ownBlock = some k) w w1 := h0.mono (fun _ f => f.elim) |>.trans (Chg.ofGrown hg) (fun x hx => .inl hx)
  have hb1 : w1.heap[p]? = some (.cells #[v, .bool bad] t (0, 0)) := hc.at h.blk hne
  refine ⟨by rw [cell_of_row w1 p 0 _ _ _ hb1]; rfl, by simp [World.frozen?, hb1], ⟨by rw [heap_setCell_at hb1]; rfl, ?_⟩, ?_, fun k hk => (hat k hk).imp id (Nat.le_trans h0.size)⟩
  · exact hown.chg (Chg.setCell (S := fun k => k = p) (p := ⟨p, 0, none⟩) (Chg.refl _ w1) (.inl rfl) _) fun k hk e => hown.ne hb1 ht (e ▸ hk)
  · exact Chg.setCell (S := fun k => k = p ∨ v.ownBlock = some k) (p := ⟨p, 0, none⟩) (hc.mono fun x hx => Or.inr hx) (.inl (.inl rfl)) _

theorem step_byte {ops : Array Oper} {o : Oper} {a : Act} {K : Act → World → Prop} {Q : Exit → Act → World → Prop} {E : Prop} {wr w : World} {t p : Nat} {v : Value} {ys : List Int} {bad : Bool} (x : Int)
    (hwr : Wr t wr p v ys bad) (ht : t ≠ 5) (hl : ys.length ≤ 100000000) (hgd : o.guard = none) (s u : Operand)
    (ho : o.op = .call { callee := .builtin .append, args := #[s, u], argTypes := #[22, 22] }) (B : Nat) (h0 : Chg (fun _ => False) wr w)
    (hs : a.eval s = v) (hu : a.eval u = .slice (some ⟨B, 0, none⟩) 1 1) (hx : w.cell? ⟨B, 0, none⟩ = some (.int .u8 x))
    (hK : ∀ g n cap w1, w1.cell? ⟨p, 0, none⟩ = some v → w1.frozen? ⟨p, 0, none⟩ = false → Wr t (w1.setCell ⟨p, 0, none⟩ (.slice (some ⟨g, 0, none⟩) n cap)) p (.slice (some ⟨g, 0, none⟩) n cap) (ys ++ [x]) bad →
      WrStep p wr v (w1.setCell ⟨p, 0, none⟩ (.slice (some ⟨g, 0, none⟩) n cap)) (.slice (some ⟨g, 0, none⟩) n cap) → K (a.put o.dst (.slice (some ⟨g, 0, none⟩) n cap)) w1) :
    if Region.wanted o (yielded ops a.tmps) = true then Oper.wp Try.prog o a w K Q else E := by
  obtain ⟨i0, hi, hz0, hz1, hz2⟩ := info_parts Try.info5
  have hw0 : Wr t w p v ys bad := hwr.chg h0 id (fun _ _ => id)
  refine step_append_lies w hgd s u 22 ho 0 5 i0 (.int .u8 0) 1 1 Try.underlying22 hi hz0 hz1 hz2 rfl (by decide) v ys.length (u8s ys) hs hw0.own ⟨B, 0, none⟩ 1 1 [.int .u8 x] hu rfl ?_ (by intro y hy; simp at hy; subst hy; rfl) (by decide) (by unfold maxLen; omega) (by omega) (Nat.zero_le _) w.heap.size rfl ?_
  · intro j y hj
    match j, hj with
    | 0, hj => simp at hj; subst hj; simpa [Addr.add] using hx
  · intro g cap w1 hown hg hat hlt
    have e : u8s (ys ++ [x]) = u8s ys ++ [.int .u8 x] := by simp [u8s]
    obtain ⟨G0, G1, G2, G3⟩ := Wr.grown (ys := ys ++ [x]) (v1 := .slice (some ⟨g, 0, none⟩) (ys.length + 1) cap) hwr ht h0 (by unfold Own; rw [e]; simpa using hown) hg (by
      intro k hk
      simp [Value.ownBlock] at hk
      subst hk
      exact hat.imp id (fun e => by omega))
    exact hK _ _ _ _ G0 G1 G2 G3
end Go.Proofs.Ytnhgjgoglmadnaa
namespace Go.Proofs.Ytnhgjgoglmadnaa
open Go.RowKit

def ptrK (v : Value) (K : Nat → Nat → Prop) (_t : Tg K := .mk) : Prop := match v with | .pointer (some ⟨b, o, none⟩) => K b o | _ => False
def intK (v : Value) (K : IntKind → Int → Prop) (_t : Tg K := .mk) : Prop := match v with | .int k n => K k n | _ => False
def sliceK (v : Value) (K : Option Addr → Nat → Nat → Prop) (_t : Tg K := .mk) : Prop := match v with | .slice a n c => K a n c | _ => False
def aggK (v : Value) (K : List Value → Prop) (_t : Tg K := .mk) : Prop := match v with | .agg cs => K cs.toList | _ => False
def tupK (v : Value) (K : List Value → Prop) (_t : Tg K := .mk) : Prop := match v with | .tuple cs => K cs.toList | _ => False
theorem ptrK_mk (b o : Nat) (K : Nat → Nat → Prop) : ptrK (.pointer (some ⟨b, o, none⟩)) K = K b o := (rfl)
theorem intK_mk (k : IntKind) (n : Int) (K : IntKind → Int → Prop) : intK (.int k n) K = K k n := (rfl)
theorem sliceK_mk (a : Option Addr) (n c : Nat) (K : Option Addr → Nat → Nat → Prop) : sliceK (.slice a n c) K = K a n c := (rfl)
theorem tupK_mk (l : List Value) (K : List Value → Prop) : tupK (.tuple l.toArray) K = K l := by simp [tupK]
theorem ptrK_elim {v : Value} {K : Nat → Nat → Prop} (h : ptrK v K) : ∃ b o, v = .pointer (some ⟨b, o, none⟩) ∧ K b o := by
  unfold ptrK at h; split at h
  · exact ⟨_, _, rfl, h⟩
  · exact h.elim
theorem intK_elim {v : Value} {K : IntKind → Int → Prop} (h : intK v K) : ∃ k n, v = .int k n ∧ K k n := by
  unfold intK at h; split at h
  · exact ⟨_, _, rfl, h⟩
  · exact h.elim
theorem sliceK_elim {v : Value} {K : Option Addr → Nat → Nat → Prop} (h : sliceK v K) : ∃ a n c, v = .slice a n c ∧ K a n c := by
  unfold sliceK at h; split at h
  · exact ⟨_, _, _, rfl, h⟩
  · exact h.elim
theorem aggK_elim {v : Value} {K : List Value → Prop} (h : aggK v K) : ∃ cs : Array Value, v = .agg cs ∧ K cs.toList := by
  unfold aggK at h; split at h
  · exact ⟨_, rfl, h⟩
  · exact h.elim
theorem tupK_elim {v : Value} {K : List Value → Prop} (h : tupK v K) : ∃ cs : Array Value, v = .tuple cs ∧ K cs.toList := by
  unfold tupK at h; split at h
  · exact ⟨_, rfl, h⟩
  · exact h.elim

def cutA (a : Option Addr) (c l sz : Nat) : Option Addr := if c = l then a else a.map (·.add (l * sz))

def nchkK (v : Value) (K : Value → Prop) (_t : Tg K := .mk) : Prop := match v with | .pointer (some a) => K (.pointer (some a)) | .func (.func f) x y => K (.func (.func f) x y) | _ => False
def unK (op : UnOp) (v : Value) (K : Value → Prop) (_t : Tg K := .mk) : Prop :=
  match op, v with
  | .not, .bool b => valK (.bool (!b)) K
  | .neg, .int k n => valK (.int k (k.wrap (0 - n))) K
  | _, _ => False
def bndK (x : Option Value) (dflt : Nat) (most : Nat) (K : Nat → Prop) (_t : Tg K := .mk) : Prop :=
  match x with
  | none => K dflt
  | some v => intK v fun _ i => (0 ≤ i ∧ i ≤ most) ∧ K i.toNat
def evo (E : Env) : Option Operand → Option (Option Value)
  | none => some none
  | some x => (ev E x).map some

def allSizes : List (Nat × Option Nat × Option Bool) → Option (List (Nat × Nat))
  | [] => some []
  | f :: r => f.2.1.bind fun s => (allSizes r).map fun l => (f.1, s) :: l
def places (T : TI) : Option (Nat → Option (Nat × Nat)) :=
  match T.lay, T.arr with
  | some lay, _ => (allSizes lay).map fun l i => l[i]?
  | none, some (_, sz, _) => sz.map fun s i => some (i * s, s)
  | _, _ => none

def idxK (s : Option (TypeId × Option Nat)) (r : Option (Nat × Option Nat × Bool)) (A : Nat → Prop) (B : Nat → Nat → Prop) (_t : Tg (A, B) := .mk) : Prop :=
  match s, r with
  | some (_, sz), _ => okK sz A
  | none, some (n, sz, _) => okK sz (B n)
  | none, none => False
theorem idxK_elim {s : Option (TypeId × Option Nat)} {r : Option (Nat × Option Nat × Bool)} {A : Nat → Prop} {B : Nat → Nat → Prop} (h : idxK s r A B) :
    (∃ e sz, s = some (e, some sz) ∧ A sz) ∨ ∃ n sz g, r = some (n, some sz, g) ∧ s = none ∧ B n sz := by
  cases s with
  | some p =>
    obtain ⟨e, sz⟩ := p
    obtain ⟨v, rfl, h⟩ := okK_elim (show okK sz A from h)
    exact .inl ⟨_, _, rfl, h⟩
  | none =>
    cases r with
    | none => exact h.elim
    | some p =>
      obtain ⟨n, sz, g⟩ := p
      obtain ⟨v, rfl, h⟩ := okK_elim (show okK sz (B n) from h)
      exact .inr ⟨_, _, _, rfl, rfl, h⟩

def pureK (P : Program) (o : Op) (E : Env) (K : Value → Prop) : Prop :=
  match o with
  | .move x | .assign x => okK (ev E x) fun v => valK v K
  | .pick c x y => okK (ev E c) fun c => okK (ev E x) fun x => okK (ev E y) fun y => boolK c fun b => valK (bif b then x else y) K
  | .nilCheck x => okK (ev E x) fun v => nchkK v K
  | .binOp op t x y _ => okK (ev E x) fun a => okK (ev E y) fun b => valK (a, b) fun p => binK P op t x y p.1 p.2 K
  | .unOp op _ x => okK (ev E x) fun a => unK op a K
  | .convert s d x => okK (ev E x) fun a => okK (if (tinfo P s).known = true then some () else none) fun _ => okK (tinfo P d).int fun k => intK a fun _ n => valK (.int k (k.wrap n)) K
  | .build t parts => okK (evs E (parts.toList.map (·.2))) fun vs => okK (tinfo P t).zero fun z => okK (places (tinfo P t)) fun pl => okK (fillL pl z.cells.toList ((parts.toList.map (·.1)).zip vs)) fun cs => K (.agg cs.toArray)
  | .fieldAddr s x f => okK (ev E x) fun a => okK (((tinfo P s).lay.bind (·[f]?)).bind fun p => p.2.1.bind fun sz => if sz = 0 then none else some p.1) fun off => ptrK a fun b o => valK (.pointer (some ⟨b, o + off, none⟩)) K
  | .field t x f => okK (ev E x) fun a => okK ((tinfo P t).lay.bind (·[f]?)) fun p => okK p.2.1 fun sz => aggK a fun cs =>
      okK p.2.2 fun ag => if ag = true then valK (.agg ((cs.drop p.1).take sz).toArray) K else okK cs[p.1]? K
  | .indexAddr t x i => okK (ev E x) fun a => okK (ev E i) fun i => intK i fun _ i => idxK (tinfo P t).sl (tinfo P t).arr
      (fun sz => sliceK a fun ad n _ => (0 ≤ i ∧ i < n) ∧ ptrK (.pointer ad) fun b o => valK (.pointer (some ⟨b, o + i.toNat * sz, none⟩)) K)
      (fun n sz => ptrK a fun b o => (0 ≤ i ∧ i < n) ∧ valK (.pointer (some ⟨b, o + i.toNat * sz, none⟩)) K)
  | .slice t x lo hi none => okK (ev E x) fun a => okK (evo E lo) fun lo => okK (evo E hi) fun hi => okK (tinfo P t).sl fun e => okK e.2 fun sz =>
      sliceK a fun ad n c => bndK hi n c fun h => bndK lo 0 h fun l => valK (.slice (cutA ad c l sz) (h - l) (c - l)) K
  | .extract x i => okK (ev E x) fun v => tupK v fun vs => okK vs[i]? K
  | .makeFunc fn first captured => okK (evs E first.toList) fun a => okK (evs E captured.toList) fun b => K (.func fn a.toArray b.toArray)
  | .call c => (match c.callee, c.args.toList, c.argTypes.toList with
      | .builtin .len, [x], [t] => okK (ev E x) fun v => (match (tinfo P t).slc, (tinfo P t).str with
          | true, _ => sliceK v fun _ n _ => valK (.int .i64 n) K
          | _, true => (match v with | .string s => valK (.int .i64 s.size) K | _ => False)
          | _, _ => False)
      | .builtin .min, [x, y], _ => okK (ev E x) fun a => okK (ev E y) fun b => intK a fun k n => intK b fun _ m => valK (.int k (if m < n then m else n)) K
      | .builtin .max, [x, y], _ => okK (ev E x) fun a => okK (ev E y) fun b => intK a fun k n => intK b fun _ m => valK (.int k (if n < m then m else n)) K
      | _, _, _ => False)
  | _ => False

theorem evo_some {E : Env} {x : Option Operand} {v : Option Value} (h : evo E x = some v) (a : Act) (n : Nat) (hA : Agree n E a) : x.map a.eval = v := by
  cases x with
  | none => simp [evo] at h; simp [h]
  | some x =>
    simp only [evo, Option.map_eq_some_iff] at h
    obtain ⟨u, hu, rfl⟩ := h
    simp [hA.ev hu]
theorem add_off (b o k : Nat) : (⟨b, o, none⟩ : Addr).add k = ⟨b, o + k, none⟩ := by
  unfold Addr.add; split <;> simp_all
theorem und_of_str {P : Program} {t : TypeId} {fs : Array Field} (h : strT (P.underlying t) = some fs) : P.underlying t = some (.struct fs) := by
  cases hu : P.underlying t with
  | none => simp [strT, hu] at h
  | some d => cases d <;> simp [strT, hu] at h; simp [h]
theorem und_of_slc {P : Program} {t e : TypeId} (h : slcT (P.underlying t) = some e) : P.underlying t = some (.slice e) := by
  cases hu : P.underlying t with
  | none => simp [slcT, hu] at h
  | some d => cases d <;> simp [slcT, hu] at h; simp [h]
theorem und_of_arr {P : Program} {t e : TypeId} {n : Nat} (h : arrT (P.underlying t) = some (n, e)) : P.underlying t = some (.array n e) := by
  cases hu : P.underlying t with
  | none => simp [arrT, hu] at h
  | some d => cases d <;> simp [arrT, hu] at h; simp [h]
theorem und_of_int {P : Program} {t : TypeId} {k : IntKind} (h : intT (P.underlying t) = some k) : P.underlying t = some (.int k) := by
  cases hu : P.underlying t with
  | none => simp [intT, hu] at h
  | some d => cases d <;> simp [intT, hu] at h; simp [h]
theorem und_of_strg {P : Program} {t : TypeId} (h : isStr (P.underlying t) = true) : P.underlying t = some .string := by
  cases hu : P.underlying t with
  | none => simp [isStr, hu] at h
  | some d => cases d <;> simp [isStr, hu] at h; rfl
theorem isAgg_run {P : Program} {t : TypeId} {d : TypeDesc} (hd : P.underlying t = some d) (w : World) : (isAgg t).run P w = .ok (isAggT (P.underlying t)) w := by
  simp only [isAgg, Sem.run_bind, run_underlying_of hd, Result.andThen_ok, hd]
  cases d <;> simp [isAggT]

def Pure (P : Program) (ρ : Operand → Value) (o : Oper) (v : Value) : Prop := ∀ w, (execOp ρ o).run P w = .ok (.value v) w

theorem bnd_run {x : Option Value} {d m : Nat} {K : Nat → Prop} (h : bndK x d m K) : ∃ l, K l ∧ ((x = none ∧ l = d) ∨ ∃ k i, x = some (.int k i) ∧ 0 ≤ i ∧ i ≤ m ∧ l = i.toNat) := by
  cases x with
  | none => exact ⟨d, h, .inl ⟨rfl, rfl⟩⟩
  | some v =>
    obtain ⟨k, i, rfl, h1, h2⟩ := intK_elim h
    exact ⟨_, h2, .inr ⟨k, i, rfl, h1.1, h1.2, rfl⟩⟩

theorem sliceBounds_run {P : Program} {lo hi : Option Value} {n c h l : Nat} (hh : (hi = none ∧ h = n) ∨ ∃ k i, hi = some (.int k i) ∧ 0 ≤ i ∧ i ≤ c ∧ h = i.toNat)
    (hl : (lo = none ∧ l = 0) ∨ ∃ k i, lo = some (.int k i) ∧ 0 ≤ i ∧ i ≤ h ∧ l = i.toNat) (w : World) : (Instr.sliceBounds true n c lo hi none).run P w = .ok (l, h, c) w := by
  rcases hh with ⟨rfl, rfl⟩ | ⟨k, i, rfl, h0, h1, rfl⟩ <;> rcases hl with ⟨rfl, rfl⟩ | ⟨k', i', rfl, h0', h1', rfl⟩ <;>
    simp [Instr.sliceBounds, Instr.sliceBound, asIntOf, *]
  intro hc; exfalso; omega

theorem allSizes_some {P : Program} : ∀ {fs : List Field} {l : List (Nat × Nat)}, allSizes (fs.map fun f => (f.offset, tsize P f.type, (P.underlying f.type).map fun d => isAggT (some d))) = some l →
    fs.mapM (fun f => (P.info? f.type).map fun i => (f.offset, i.size)) = some l
  | [], l, h => by simp [allSizes] at h; simp [h]
  | f :: fs, l, h => by
    simp only [List.map_cons, allSizes, Option.bind_eq_some_iff, Option.map_eq_some_iff] at h
    obtain ⟨s, hs, l', hl, rfl⟩ := h
    have ih := allSizes_some (P := P) hl
    obtain ⟨i, hi, rfl⟩ := Option.map_eq_some_iff.1 hs
    simp [List.mapM_cons, hi, ih]
theorem built_of {P : Program} {t : TypeId} {z : Value} {pl : Nat → Option (Nat × Nat)} {ps : List (Nat × Value)} {cs : List Value} (hz : (tinfo P t).zero = some z) (hl : places (tinfo P t) = some pl) (hc : fillL pl z.cells.toList ps = some cs) :
    P.built t ps = some cs.toArray := by
  obtain ⟨i, hi, hz'⟩ := Option.bind_eq_some_iff.1 hz
  have hf := fill_of pl ps z.cells cs hc
  unfold places at hl
  split at hl
  · rename_i lay hlay
    obtain ⟨l, hls, rfl⟩ := Option.map_eq_some_iff.1 hl
    simp only [tinfo, Option.map_eq_some_iff] at hlay
    obtain ⟨fs, hfs, rfl⟩ := hlay
    have hu := und_of_str hfs
    have hm := allSizes_some (P := P) hls
    simp only [Program.built, hi, hu, hz', hm]
    simpa using hf
  · rename_i n sz ag hlay harr
    obtain ⟨s, rfl, rfl⟩ := Option.map_eq_some_iff.1 hl
    simp only [tinfo, Option.map_eq_some_iff, Prod.mk.injEq] at harr
    obtain ⟨⟨n', e⟩, ha, rfl, hs, _⟩ := harr
    have hu := und_of_arr ha
    obtain ⟨i', hi', hs'⟩ := Option.map_eq_some_iff.1 hs
    simp only [Program.built, hi, hu, hz', hi', hs']
    exact hf
  · cases hl

theorem pureK_sound {P : Program} {n : Nat} {E : Env} {a : Act} (hA : Agree n E a) {o : Oper} {K : Value → Prop} (h : pureK P o.op E K) : ∃ v, Pure P a.eval o v ∧ K v := by
  unfold pureK at h
  split at h
  case h_1 x hop =>
    obtain ⟨v, hv, hK⟩ := okK_elim h
    exact ⟨v, fun w => by simp [execOp, hop, hA.ev hv], hK⟩
  case h_2 x hop =>
    obtain ⟨v, hv, hK⟩ := okK_elim h
    exact ⟨v, fun w => by simp [execOp, hop, hA.ev hv], hK⟩
  case h_3 c x y hop =>
    obtain ⟨c', hc, h⟩ := okK_elim h
    obtain ⟨x', hx, h⟩ := okK_elim h
    obtain ⟨y', hy, h⟩ := okK_elim h
    obtain ⟨b, rfl, h⟩ := boolK_elim h
    exact ⟨_, fun w => by cases b <;> simp [execOp, hop, hA.ev hc, hA.ev hx, hA.ev hy, asBool], h⟩
  case h_4 x hop =>
    obtain ⟨v, hv, h⟩ := okK_elim h
    unfold nchkK at h
    split at h
    · exact ⟨_, fun w => by simp [execOp, hop, hA.ev hv], h⟩
    · exact ⟨_, fun w => by simp [execOp, hop, hA.ev hv], h⟩
    · exact h.elim
  case h_5 op t x y yt hop =>
    obtain ⟨x', hx, h⟩ := okK_elim h
    obtain ⟨y', hy, h⟩ := okK_elim h
    obtain ⟨v, hv, hK⟩ := binK_sound P op t x y x' y' K h
    refine ⟨v, fun w => ?_, hK⟩
    have := hv w
    simp only [Sem.run_bind] at this
    simp only [execOp, hop, hA.ev hx, hA.ev hy, Sem.run_bind]
    cases hg : Sem.run P (eqGuard op t x y x' y') w with
    | ok u w' =>
      simp only [hg, Result.andThen_ok] at this ⊢
      simp only [this, Result.andThen_ok, Sem.run_pure]
    | halt u w' => simp [hg, Result.andThen] at this
  case h_6 op t x hop =>
    obtain ⟨v, hv, h⟩ := okK_elim h
    unfold unK at h
    split at h
    · exact ⟨_, fun w => by simp [execOp, hop, hA.ev hv, Op.unary], h⟩
    · exact ⟨.int _ (IntKind.wrap _ (0 - _)), fun w => by simp [execOp, hop, hA.ev hv, Op.unary, Op.intArith], h⟩
    · exact h.elim
  case h_7 s d x hop =>
    obtain ⟨v, hv, h⟩ := okK_elim h
    obtain ⟨_, hu0, h⟩ := okK_elim h
    have hkn : (P.underlying s).isSome = true := by
      split at hu0
      · assumption
      · cases hu0
    obtain ⟨u, hu⟩ := Option.isSome_iff_exists.1 hkn
    obtain ⟨k, hk, h⟩ := okK_elim h
    obtain ⟨k', i, rfl, h⟩ := intK_elim h
    have hd := und_of_int hk
    exact ⟨_, fun w => by simp [execOp, hop, hA.ev hv, convert, run_underlying_of hu, run_underlying_of hd, Conv.intToInt], h⟩
  case h_8 t parts hop =>
    obtain ⟨vs, hv, h⟩ := okK_elim h
    obtain ⟨z, hz, h⟩ := okK_elim h
    obtain ⟨pl, hl, h⟩ := okK_elim h
    obtain ⟨cs, hc, h⟩ := okK_elim h
    refine ⟨_, fun w => ?_, h⟩
    have e : (parts.map fun (x : Nat × Operand) => (x.1, a.eval x.2)).toList = (parts.toList.map (·.1)).zip vs := by
      rw [← hA.evs hv]
      simp [List.zip_map', List.map_map]
    have hb := built_of hz hl hc
    rw [← e] at hb
    have := run_build (P := P) w t _ cs.toArray hb
    simp only [execOp, hop, Sem.run_bind, this, Result.andThen_ok, Sem.run_pure]
  case h_9 s x f hop =>
    obtain ⟨v, hv, h⟩ := okK_elim h
    obtain ⟨off, ho, h⟩ := okK_elim h
    obtain ⟨b, o', rfl, h⟩ := ptrK_elim h
    refine ⟨_, fun w => ?_, h⟩
    simp only [Option.bind_eq_some_iff] at ho
    obtain ⟨p, ⟨lay, hl, hp⟩, sz, hs, h0⟩ := ho
    simp only [tinfo, Option.map_eq_some_iff] at hl
    obtain ⟨fs, hfs, rfl⟩ := hl
    have hu := und_of_str hfs
    simp only [List.getElem?_map, Option.map_eq_some_iff] at hp
    obtain ⟨fd, hfd, rfl⟩ := hp
    have hfd' : fs[f]? = some fd := by simpa using hfd
    split at h0
    · cases h0
    · injection h0 with h0
      rename_i hne
      subst h0
      simp [execOp, hop, hA.ev hv, Instr.fieldAt, run_underlying_of hu, hfd', Instr.sureAddr, fieldPlace, tsize_run hs, hne, add_off]
  case h_10 t x f hop =>
    obtain ⟨v, hv, h⟩ := okK_elim h
    obtain ⟨p, hp, h⟩ := okK_elim h
    obtain ⟨sz, hsz, h⟩ := okK_elim h
    obtain ⟨cs, rfl, h⟩ := aggK_elim h
    simp only [Option.bind_eq_some_iff] at hp
    obtain ⟨lay, hl, hp⟩ := hp
    simp only [tinfo, Option.map_eq_some_iff] at hl
    obtain ⟨fs, hfs, rfl⟩ := hl
    have hu := und_of_str hfs
    simp only [List.getElem?_map, Option.map_eq_some_iff] at hp
    obtain ⟨fd, hfd, rfl⟩ := hp
    have hfd' : fs[f]? = some fd := by simpa using hfd
    dsimp only at h hsz
    obtain ⟨ag, hag, h⟩ := okK_elim h
    obtain ⟨d, hud, rfl⟩ := Option.map_eq_some_iff.1 hag
    have hisa := fun w => isAgg_run (P := P) hud w
    rw [hud] at hisa
    split at h
    · rename_i hagg
      refine ⟨_, fun w => ?_, h⟩
      simp [execOp, hop, hA.ev hv, Instr.field, run_underlying_of hu, hfd', asAgg, part, hisa, hagg, tsize_run hsz]
      apply Array.ext'; simp
    · rename_i hagg
      obtain ⟨u, hu', h⟩ := okK_elim h
      refine ⟨u, fun w => ?_, h⟩
      have hu2 : cs[fd.offset]? = some u := by simpa using hu'
      simp [execOp, hop, hA.ev hv, Instr.field, run_underlying_of hu, hfd', asAgg, part, hisa, hagg, hu2]
  case h_11 t x i hop =>
    obtain ⟨v, hv, h⟩ := okK_elim h
    obtain ⟨u, hu, h⟩ := okK_elim h
    obtain ⟨k, i', rfl, h⟩ := intK_elim h
    rcases idxK_elim h with ⟨e, s, hsl, h⟩ | ⟨m, s, ag, harr, hsl, h⟩
    · obtain ⟨ad, m, c, rfl, hb, h⟩ := sliceK_elim h
      obtain ⟨b, o', hp, hfin⟩ := ptrK_elim h
      injection hp with hp
      subst hp
      simp only [tinfo, Option.map_eq_some_iff, Prod.mk.injEq] at hsl
      obtain ⟨e', he, rfl, hs⟩ := hsl
      have hu2 := und_of_slc he
      exact ⟨_, fun w => by simp [execOp, hop, hA.ev hv, hA.ev hu, Instr.indexAt, asIntOf, run_underlying_of hu2, hb.1, hb.2, tsize_run hs, add_off], hfin⟩
    · obtain ⟨b, o', rfl, hb, hfin⟩ := ptrK_elim h
      simp only [tinfo, Option.map_eq_some_iff, Prod.mk.injEq] at harr
      obtain ⟨⟨n', e⟩, ha, hn', hs, _⟩ := harr
      have hu2 := und_of_arr ha
      dsimp only at hn' hs
      subst hn'
      exact ⟨_, fun w => by simp [execOp, hop, hA.ev hv, hA.ev hu, Instr.indexAt, asIntOf, run_underlying_of hu2, Instr.sureAddr, hb.1, hb.2, tsize_run hs, add_off], hfin⟩
  case h_12 t x lo hi hop =>
    obtain ⟨v, hv, h⟩ := okK_elim h
    obtain ⟨lo', hlo, h⟩ := okK_elim h
    obtain ⟨hi', hhi, h⟩ := okK_elim h
    obtain ⟨⟨e, sz⟩, he, h⟩ := okK_elim h
    obtain ⟨s, hs, h⟩ := okK_elim h
    obtain ⟨ad, m, c, rfl, h2⟩ := sliceK_elim h
    obtain ⟨hh, h3, hh1⟩ := bnd_run h2
    obtain ⟨l, h4, hl1⟩ := bnd_run h3
    simp only [tinfo, Option.map_eq_some_iff, Prod.mk.injEq] at he
    obtain ⟨e', he2, he3, he4⟩ := he
    have hu2 := und_of_slc he2
    dsimp only at hs
    rw [← he4] at hs
    refine ⟨_, fun w => ?_, h4⟩
    have hbnd := sliceBounds_run (P := P) hh1 hl1 w
    simp [execOp, hop, hA.ev hv, evo_some hlo a n hA, evo_some hhi a n hA, Instr.sliceAt, Instr.slice, run_underlying_of hu2, hbnd, tsize_run hs, cutA]
  case h_13 x i hop =>
    obtain ⟨v, hv, h⟩ := okK_elim h
    obtain ⟨vs, rfl, h⟩ := tupK_elim h
    obtain ⟨u, hu, h⟩ := okK_elim h
    have hu' : vs[i]? = some u := by simpa using hu
    exact ⟨u, fun w => by simp [execOp, hop, hA.ev hv, Instr.extract, hu'], h⟩
  case h_14 fn first captured hop =>
    obtain ⟨v, hv, h⟩ := okK_elim h
    obtain ⟨u, hu, h⟩ := okK_elim h
    have e1 : first.map a.eval = v.toArray := by apply Array.ext'; simp [hA.evs hv]
    have e2 : captured.map a.eval = u.toArray := by apply Array.ext'; simp [hA.evs hu]
    exact ⟨_, fun w => by simp [execOp, hop, Instr.makeFunc, e1, e2], h⟩
  case h_15 c hop =>
    obtain ⟨callee, args, argTypes⟩ := c
    dsimp only at h
    split at h
    · rename_i x t ha ht
      obtain rfl : args = #[x] := by apply Array.ext'; simpa using ha
      obtain rfl : argTypes = #[t] := by apply Array.ext'; simpa using ht
      obtain ⟨v, hv, h⟩ := okK_elim h
      split at h
      · rename_i hs
        obtain ⟨ad, m, c, rfl, h⟩ := sliceK_elim h
        obtain ⟨e, hu⟩ := isSlc_elim (show isSlc (P.underlying t) = true from hs)
        exact ⟨_, fun w => by simp [execOp, hop, resolve, invoke, builtin, Builtin.len_, hA.ev hv, run_underlying_of hu, goInt], h⟩
      · rename_i hs _
        have hu := und_of_strg (show isStr (P.underlying t) = true from hs)
        split at h
        · exact ⟨_, fun w => by simp [execOp, hop, resolve, invoke, builtin, Builtin.len_, hA.ev hv, run_underlying_of hu, goInt], h⟩
        · exact h.elim
      · exact h.elim
    · rename_i x y ha
      obtain rfl : args = #[x, y] := by apply Array.ext'; simpa using ha
      obtain ⟨v, hv, h⟩ := okK_elim h
      obtain ⟨u, hu, h⟩ := okK_elim h
      obtain ⟨k, i, rfl, h3⟩ := intK_elim h
      obtain ⟨k', i', rfl, h4⟩ := intK_elim h3
      exact ⟨_, fun w => by simp [execOp, hop, resolve, invoke, builtin, Builtin.min_, Builtin.min2, hA.ev hv, hA.ev hu], h4⟩
    · rename_i x y ha
      obtain rfl : args = #[x, y] := by apply Array.ext'; simpa using ha
      obtain ⟨v, hv, h⟩ := okK_elim h
      obtain ⟨u, hu, h⟩ := okK_elim h
      obtain ⟨k, i, rfl, h3⟩ := intK_elim h
      obtain ⟨k', i', rfl, h4⟩ := intK_elim h3
      exact ⟨_, fun w => by simp [execOp, hop, resolve, invoke, builtin, Builtin.max_, Builtin.max2, hA.ev hv, hA.ev hu], h4⟩
    · exact h.elim
  case h_16 => exact h.elim
end Go.Proofs.Ytnhgjgoglmadnaa
namespace Go.Proofs.Ytnhgjgoglmadnaa
open Go.RowKit

def be (n : Int) (s : Nat) : List Int := (List.range s).map fun i => n / 2 ^ (8 * (s - 1 - i)) % 256
theorem be_length (n : Int) (s : Nat) : (be n s).length = s := by simp [be]
theorem be_take (n : Int) (s m : Nat) (h : m < s) : (be n s).take (m + 1) = (be n s).take m ++ [n / 2 ^ (8 * (s - 1 - m)) % 256] := by
  rw [List.take_succ_eq_append_getElem (by simpa [be] using h)]
  simp [be]

theorem be_exp (n : Int) (s m : Nat) (h : m < s) : [IntKind.u8.wrap (n / 2 ^ (8 * ((s : Int) - 1 - m)).toNat)] = [n / 2 ^ (8 * (s - 1 - m)) % 256] := by
  have e : (8 * ((s : Int) - 1 - m)).toNat = 8 * (s - 1 - m) := by omega
  rw [e]
  simp [IntKind.wrap, IntKind.bits, IntKind.signed]

set_option maxRecDepth 100000 in
set_option maxHeartbeats 400000 in
theorem num_good (p : Nat) (v : Value) (xs : List Int) (bad : Bool) (n : Int) (s : Nat) (w : World) (hw : Wr 32 w p v xs bad) (hlen : xs.length ≤ 1000000)
   (h1 : 1 ≤ s) (h8 : s ≤ 8) (hn : 0 ≤ n) (hn1 : n ≤ 9223372036854775807) (hfit : (s : Int) < 8 → n / 2 ^ (8 * (s : Int)).toNat = 0) : Calls Try.prog 23 #[.pointer (some ⟨p, 0, none⟩), .int .i64 n, .int .i64 s] w fun e w' => e = .returned (.pointer (some ⟨p, 0, none⟩)) ∧ ∃ v', Wr 32 w' p v' (xs ++ be n s) bad ∧ WrStep p w v w' v' := by
  obtain ⟨i0, hi, hz0, hz1, hz2⟩ := info_parts Try.info5
  have HW := Lib.hid hw
  have HL := Lib.hid hlen
  clear hw hlen
  go_enter Try.func23, Try.ntmps23
  go_wp2_with fail
  all_goals
    go_loopw [7] (fun i wr => ∃ m : Nat, m ≤ s ∧ i = .int .i64 ((s : Int) - 1 - m) ∧ ∃ v' ys, ys = xs ++ (be n s).take m ∧ Wr 32 wr p v' ys bad ∧ WrStep p w v wr v') (fun i _ => (intOf i + 1).toNat)
    case atStart => exact ⟨0, Nat.zero_le _, by simp, v, xs, by simp, HW.out, WrStep.refl _ _ _⟩
    case round =>
      obtain ⟨m, hm, rfl, v', ys, hys, hwr, hst⟩ := hrel
      by_cases hlt : m < s
      · have h0 := hwr.c0
        have hp := hwr.lt
        have hl : ys.length ≤ 2000000 := by have := HL.out; rw [hys]; simp [be_length]; omega
        have HY := Lib.hid hys
        clear hys
        have hA : IntKind.i64.wrap (8 * ((s : Int) - 1 - m)) = 8 * ((s : Int) - 1 - m) := IntWalk.i64_in _ (by omega)
        have hB : (0 : Int) ≤ 8 * ((s : Int) - 1 - m) := by omega
        go_wp2_with fail
        go_region_law (refine step_byte (wr := wr) (t := 32) (p := p) (v := v') (ys := ys) (bad := bad) (IntKind.u8.wrap (n / 2 ^ (8 * ((s : Int) - 1 - m)).toNat)) hwr (by decide) (by omega) rfl (.tmp 45) (.tmp 51) rfl wr.heap.size (by first | exact (Chg.refl _ _).alloc _ | exact ((Chg.refl _ _).alloc _).drew | exact ((Chg.refl _ _).drew).alloc _) (by simp [Act.eval]) (by simp [Act.eval]) (by simp) ?_; intro g nn cap w1 G0 G1 G2 G3)
        all_goals
          go_wp2
          go_roundw
          case rel => exact ⟨m + 1, by omega, by go_num, _, _, by rw [be_take n s m hlt, ← List.append_assoc, ← HY.out, be_exp n s m hlt], G2, hst.trans G3⟩
          case measure => simp [intOf]; omega
      · go_wp2
        go_ret
        have hms : m = s := by omega
        refine ⟨rfl, v', ?_, hst⟩
        rw [hys, hms, List.take_of_length_le (by simp [be_length])] at hwr
        exact hwr
end Go.Proofs.Ytnhgjgoglmadnaa
namespace Go.Proofs.Ytnhgjgoglmadnaa
open Go.RowKit

structure New (w w1 : World) (b : Nat) (cs : List Value) (t : TypeId) : Prop where
  eq : b = w.heap.size
  blk : w1.heap[b]? = some (.cells cs.toArray t (0, 0))
  chg : Chg (fun _ => False) w w1
  size : w1.heap.size = w.heap.size + 1
theorem New.mk' (w : World) (cs : Array Value) (t : TypeId) : New w (w.alloc (.cells cs t)) w.heap.size cs.toList t :=
  ⟨rfl, by simpa using heap_alloc_new w _, (Chg.refl _ _).alloc _, by simp⟩
structure Put (w w1 : World) (b : Nat) (cs : List Value) (t : TypeId) : Prop where
  blk : w1.heap[b]? = some (.cells cs.toArray t (0, 0))
  chg : Chg (fun k => k = b) w w1
  size : w1.heap.size = w.heap.size

def blkOf (w : World) (b : Nat) : Option (List Value × TypeId) := match w.heap[b]? with | some (.cells cs t (0, 0)) => some (cs.toList, t) | _ => none
theorem blkOf_of {w : World} {b : Nat} {cs : Array Value} {t : TypeId} (h : w.heap[b]? = some (.cells cs t (0, 0))) : blkOf w b = some (cs.toList, t) := by simp [blkOf, h]
theorem blkOf_elim {w : World} {b : Nat} {p : List Value × TypeId} (h : blkOf w b = some p) : w.heap[b]? = some (.cells p.1.toArray p.2 (0, 0)) := by
  unfold blkOf at h
  split at h
  · rename_i cs t hb
    injection h with h
    subst h
    simpa using hb
  · cases h

def cellsAt (w : World) (b : Nat) : Nat → Nat → Option (List Value)
  | _, 0 => some []
  | o, n + 1 => (w.cell? ⟨b, o, none⟩).bind fun v => (cellsAt w b (o + 1) n).map fun vs => v :: vs
theorem cellsAt_elim {w : World} {b : Nat} : ∀ {o n : Nat} {cs : List Value}, cellsAt w b o n = some cs → cs.length = n ∧ ∀ j v, cs[j]? = some v → w.cell? ⟨b, o + j, none⟩ = some v
  | o, 0, cs, h => by simp [cellsAt] at h; subst h; simp
  | o, n + 1, cs, h => by
    simp only [cellsAt, Option.bind_eq_some_iff, Option.map_eq_some_iff] at h
    obtain ⟨v, hv, vs, hvs, rfl⟩ := h
    obtain ⟨h1, h2⟩ := cellsAt_elim hvs
    refine ⟨by simp [h1], fun j u hj => ?_⟩
    cases j with
    | zero => simp at hj; subst hj; exact hv
    | succ j => have := h2 j u (by simpa using hj); rw [← this]; congr 2; omega

def RunK (P : Program) (s : Sem Value) (w : World) (K : Value → World → Prop) (_t : Tg K := .mk) : Prop := ∃ v w', s.run P w = .ok v w' ∧ K v w'
def RunU (P : Program) (s : Sem Unit) (w : World) (K : World → Prop) (_t : Tg K := .mk) : Prop := ∃ w', s.run P w = .ok () w' ∧ K w'
def RetK (K : Value → World → Prop) (e : Ending) (w : World) : Prop := ∃ v, e = .returned v ∧ K v w
def enters (P : Program) (f : FuncId) : Bool := match P.funcs[f]? with | some fn => fn.name != "runtime.NumGoroutine" && fn.body.isSome | none => false
def callsK (P : Program) (f : FuncId) (args : Array Value) (w : World) (K : Value → World → Prop) (_t : Tg K := .mk) : Prop := Calls P f args w (RetK K)
def callK (P : Program) (fv : Value) (vs : List Value) (w : World) (K : Value → World → Prop) (_t : Tg K := .mk) : Prop :=
  match fv with
  | .func (.func f) first captured => enters P f = true ∧ callsK P f (first.toList ++ vs ++ captured.toList).toArray w K
  | _ => False

def zl (zc : List Value) : Nat → List Value
  | 0 => []
  | n + 1 => zc ++ zl zc n

def storeK (w : World) (b o : Nat) (vs : List Value) (K : World → Prop) (_t : Tg K := .mk) : Prop :=
  okK (blkOf w b) fun p => o + vs.length ≤ p.1.length ∧ ∀ w1, Put w w1 b (setR p.1 o vs) p.2 → K w1

def opv (P : Program) (o : Op) (ty : TypeId) (E : Env) (w : World) (K : Value → World → Prop) : Prop :=
  match o with
  | .alloc t => okK (tinfo P t).zero fun z => ∀ w1 b, New w w1 b z.cells.toList t → K (.pointer (some ⟨b, 0, none⟩)) w1
  | .box t x => okK (ev E x) fun v => ∀ w1 b, New w w1 b v.cells.toList t → K (.pointer (some ⟨b, 0, none⟩)) w1
  | .buildSlice t len parts => okK (evs E (parts.toList.map (·.2))) fun vs => okK (tinfo P t).sl fun e => okK e.2 fun sz => okK (tinfo P e.1).zero fun z =>
      (len * sz ≤ 16777216 ∧ z.cells.size = sz) ∧ okK (fillL (fun i => some (i * sz, sz)) (if len * sz = 0 then [] else zl z.cells.toList len) ((parts.toList.map (·.1)).zip vs)) fun cs =>
        ∀ w1 b, New w w1 b cs e.1 → K (.slice (some ⟨b, 0, none⟩) len len) w1
  | .load t x => okK (ev E x) fun a => ptrK a fun b o => okK (if (tinfo P t).known = true then some (tinfo P t).agg else none) fun ag =>
      if ag = true then okK (tinfo P t).size fun n => okK (cellsAt w b o n) fun cs => K (.agg cs.toArray) w else okK (w.cell? ⟨b, o, none⟩) fun v => K v w
  | .store t a x => okK (ev E a) fun a => okK (ev E x) fun v => ptrK a fun b o => okK (tinfo P t).size fun n =>
      (v.cells.size = n ∧ v.cells.toList.all (·.oneCell') = true) ∧ storeK w b o v.cells.toList fun w1 => K undef w1
  | .convert s d x => if (tinfo P d).int.isSome = true then pureK P (.convert s d x) E fun v => K v w else okK (ev E x) fun v => RunK P (convert s d v) w K
  | .makeSlice t l c => okK (ev E l) fun l => okK (ev E c) fun c => RunK P (Instr.makeSlice t l c) w K
  | .call c => (match c.callee, c.args.toList with
      | .value f, args => okK (ev E f) fun fv => okK (evs E args) fun vs => callK P fv vs w K
      | .builtin .append, args => okK (evs E args) fun vs => RunK P (Builtin.append_ c.argTypes ty vs.toArray) w K
      | .builtin .copy, args => okK (evs E args) fun vs => RunK P (Builtin.copy_ c.argTypes ty vs.toArray) w K
      | .builtin .delete, args => okK (evs E args) fun vs => RunK P (Builtin.delete_ c.argTypes ty vs.toArray) w K
      | _, _ => pureK P (.call c) E fun v => K v w)
  | .lookup t x i ok => okK (ev E x) fun x => okK (ev E i) fun i => RunK P (Instr.lookup t x i ok) w K
  | .index t x i => okK (ev E x) fun x => okK (ev E i) fun i => RunK P (Instr.index t x i) w K
  | .mapUpdate t m k x | .insert t m k x => okK (ev E m) fun m => okK (ev E k) fun k => okK (ev E x) fun x => RunU P (Instr.mapUpdate t m k x) w fun w1 => K undef w1
  | .makeMap t r => okK (evo E r) fun r => RunK P (Instr.makeMap t r) w K
  | .range t x => okK (ev E x) fun x => RunK P (Instr.range t x) w K
  | .next it s => okK (ev E it) fun it => RunK P (Instr.next it s ty) w K
  | o => pureK P o E fun v => K v w

theorem zl_length (zc : List Value) : ∀ n, (zl zc n).length = n * zc.length
  | 0 => by simp [zl]
  | n + 1 => by simp [zl, zl_length zc n, Nat.succ_mul]; omega
theorem zl_get (zc : List Value) : ∀ n j (h : j < (zl zc n).length), (zl zc n)[j] = zc[j % zc.length]! 
  | 0, j, h => by simp [zl] at h
  | n + 1, j, h => by
    simp only [zl] at h ⊢
    by_cases hj : j < zc.length
    · rw [List.getElem_append_left hj, Nat.mod_eq_of_lt hj]; simp [hj]
    · have hl : zc.length ≤ j := by omega
      rw [List.getElem_append_right hl, zl_get zc n (j - zc.length) (by simp at h; omega)]
      rw [Nat.mod_eq_sub_mod hl]
theorem zl_made (z : Array Value) (n : Nat) : ((Array.range (n * z.size)).map (z[· % z.size]!)).toList = zl z.toList n := by
  apply List.ext_getElem
  · simp [zl_length]
  · intro j h1 h2
    rw [zl_get]
    simp only [Array.toList_map, Array.toList_range, List.getElem_map, List.getElem_range, Array.length_toList]
    rw [getElem!_def, getElem!_def, Array.getElem?_toList]

theorem run_wp {P : Program} {o : Oper} {a : Act} {w w' : World} {v : Value} {K' : Act → World → Prop} {Q : Exit → Act → World → Prop} (hr : (execOp a.eval o).run P w = .ok (.value v) w') (h : K' (a.put o.dst v) w') : o.wp P a w K' Q := by
  unfold Oper.wp
  rw [hr]
  exact h
theorem skip_wp {P : Program} {o : Oper} {a : Act} {w w' : World} {K' : Act → World → Prop} {Q : Exit → Act → World → Prop} (hr : (execOp a.eval o).run P w = .ok .skip w') (h : K' (a.put o.dst undef) w') : o.wp P a w K' Q := by
  unfold Oper.wp
  rw [hr]
  exact h
theorem alloc_run {P : Program} (cs : Array Value) (t : TypeId) (w : World) : (newRow t cs).run P w = .ok ⟨w.heap.size, 0, none⟩ (w.alloc (.cells cs t)) := by simp [newRow]
theorem storeCells_put {P : Program} {w : World} {b o : Nat} {cs : List Value} {t : TypeId} (hb : w.heap[b]? = some (.cells cs.toArray t (0, 0))) :
    ∀ (vs : List Value) (i : Nat) (cur : List Value) (w0 : World), w0.heap[b]? = some (.cells cur.toArray t (0, 0)) → Chg (fun k => k = b) w w0 → w0.heap.size = w.heap.size → o + i + vs.length ≤ cur.length → vs.all (·.oneCell') = true →
    ∃ w1, (storeCells ⟨b, o, none⟩ vs i).run P w0 = .ok () w1 ∧ w1.heap[b]? = some (.cells (setR cur (o + i) vs).toArray t (0, 0)) ∧ Chg (fun k => k = b) w w1 ∧ w1.heap.size = w.heap.size
  | [], i, cur, w0, h0, hc, hs, _, _ => ⟨w0, by simp [storeCells], by rw [setR_nil]; exact h0, hc, hs⟩
  | v :: vs, i, cur, w0, h0, hc, hs, hl, h1 => by
    simp only [List.length_cons] at hl
    simp only [List.all_cons, Bool.and_eq_true] at h1
    have hcell : w0.cell? ⟨b, o + i, none⟩ = some (cur[o + i]'(by omega)) := by
      rw [cell_of_row w0 b (o + i) _ _ _ h0]; simp
    have hfz : w0.frozen? ⟨b, o + i, none⟩ = false := by simp [World.frozen?, h0]
    have hb1 : (w0.setCell ⟨b, o + i, none⟩ v).heap[b]? = some (.cells (cur.set (o + i) v).toArray t (0, 0)) := by
      have hlt := lt_of_block h0
      have h' : w0.heap[b] = .cells cur.toArray t (0, 0) := by simpa [Array.getElem?_eq_getElem hlt] using h0
      show (w0.heap.modify b _)[b]? = _
      rw [Array.getElem?_eq_getElem (by simpa using hlt), Array.getElem_modify_self, h']
      simp
    have hlen : o + (i + 1) + vs.length ≤ (cur.set (o + i) v).length := by rw [List.length_set]; omega
    obtain ⟨w1, hr, hw1, hc1, hs1⟩ := storeCells_put hb vs (i + 1) (cur.set (o + i) v) (w0.setCell ⟨b, o + i, none⟩ v) hb1
      (Chg.setCell (S := fun k => k = b) (p := ⟨b, o + i, none⟩) hc (.inl rfl) v) (by simp [World.setCell, hs]) hlen h1.2
    refine ⟨w1, ?_, by rw [setR_cons]; rw [Nat.add_assoc]; exact hw1, hc1, hs1⟩
    simp only [storeCells, add_off, Sem.run_bind]
    have : (store ⟨b, o + i, none⟩ v).run P w0 = .ok () (w0.setCell ⟨b, o + i, none⟩ v) := by
      unfold store
      cases v <;> first | (simp [Value.oneCell'] at h1; done) | simp [Sem.run, hcell, hfz]
    rw [this, Result.andThen_ok]
    exact hr

theorem opv_sound {P : Program} {n : Nat} {E : Env} {a : Act} (hA : Agree n E a) {o : Oper} {w : World} {K : Value → World → Prop} (h : opv P o.op o.type E w K)
    {K' : Act → World → Prop} {Q : Exit → Act → World → Prop} (hK : ∀ v w', K v w' → K' (a.put o.dst v) w') : o.wp P a w K' Q := by
  have hpure : ∀ {K0 : Value → Prop}, pureK P o.op E K0 → (∀ v, K0 v → K v w) → o.wp P a w K' Q := fun hp hk => by
    obtain ⟨v, hv, h0⟩ := pureK_sound hA hp
    exact run_wp (hv w) (hK _ _ (hk v h0))
  have hrun : ∀ {s : Sem Value}, RunK P s w K → (∀ v w', s.run P w = .ok v w' → (execOp a.eval o).run P w = .ok (.value v) w') → o.wp P a w K' Q := fun ⟨v, w', hr, hk⟩ he => run_wp (he v w' hr) (hK _ _ hk)
  unfold opv at h
  split at h
  case h_1 t hop =>
    obtain ⟨z, hz, h⟩ := okK_elim h
    exact run_wp (by simp [execOp, hop, Instr.alloc, tzero_run hz, newVar, alloc_run]) (hK _ _ (h _ _ (New.mk' w z.cells t)))
  case h_2 t x hop =>
    obtain ⟨v, hv, h⟩ := okK_elim h
    exact run_wp (by simp [execOp, hop, Instr.box, hA.ev hv, newVar, alloc_run]) (hK _ _ (h _ _ (New.mk' w v.cells t)))
  case h_3 t len parts hop =>
    obtain ⟨vs, hv, h⟩ := okK_elim h
    obtain ⟨⟨e, sz⟩, he, h⟩ := okK_elim h
    obtain ⟨s, hs, h⟩ := okK_elim h
    obtain ⟨z, hz, h⟩ := okK_elim h
    obtain ⟨⟨hsm, hzs⟩, h⟩ := h
    obtain ⟨cs, hc, hfin⟩ := okK_elim h
    simp only [tinfo, Option.map_eq_some_iff, Prod.mk.injEq] at he
    obtain ⟨e', he2, rfl, he4⟩ := he
    have hu := und_of_slc he2
    dsimp only at hs hz hfin
    subst hs
    have hfill : Instr.fill (fun i => some (i * s, s)) (if len * s = 0 then #[] else (Array.range (len * s)).map (z.cells[· % z.cells.size]!)) (parts.map fun (x : Nat × Operand) => (x.1, a.eval x.2)).toList = some cs.toArray := by
      have e : (parts.map fun (x : Nat × Operand) => (x.1, a.eval x.2)).toList = (parts.toList.map (·.1)).zip vs := by
        rw [← hA.evs hv]
        simp [List.zip_map', List.map_map]
      rw [e]
      refine fill_of _ _ _ _ ?_
      split
      · rename_i h0; rw [if_pos h0] at hc; exact hc
      · rename_i h0; rw [if_neg h0] at hc
        rw [← hzs, zl_made, hzs]; exact hc
    refine run_wp ?_ (hK _ _ (hfin _ _ (by simpa using New.mk' w cs.toArray e')))
    have hbig : ¬ 2 ^ 24 < len * s := by omega
    by_cases h0 : len * s = 0
    · simp only [h0, if_true, Array.toList_map] at hfill
      have hr0 : Array.range 0 = #[] := rfl
      simp [hr0, execOp, hop, Instr.buildSlice, run_underlying_of hu, tsize_run he4, h0, hfill, alloc_run]
    · simp only [h0, if_false, Array.toList_map] at hfill
      simp [execOp, hop, Instr.buildSlice, run_underlying_of hu, tsize_run he4, h0, hbig, tzero_run hz, hfill, alloc_run]
  case h_4 t x hop =>
    obtain ⟨v, hv, h⟩ := okK_elim h
    obtain ⟨b, off, rfl, h⟩ := ptrK_elim h
    obtain ⟨ag, hag, h⟩ := okK_elim h
    have hag' : (P.underlying t).isSome = true ∧ ag = (tinfo P t).agg := by
      split at hag
      · rename_i hk; injection hag with hag; exact ⟨hk, hag.symm⟩
      · cases hag
    obtain ⟨hk, rfl⟩ := hag'
    obtain ⟨d, hd⟩ := Option.isSome_iff_exists.1 hk
    have hisa := isAgg_run (P := P) hd w
    split at h
    · rename_i hagg
      obtain ⟨m, hm, h⟩ := okK_elim h
      obtain ⟨cs, hc, h⟩ := okK_elim h
      obtain ⟨hl, hcell⟩ := cellsAt_elim hc
      have hr := run_loadCells_list (P := P) (w := w) ⟨b, off, none⟩ cs (fun j u hj => by rw [add_off]; exact hcell j u hj)
      rw [hl] at hr
      refine run_wp ?_ (hK _ _ h)
      have hagg' : isAggT (P.underlying t) = true := hagg
      rw [hagg'] at hisa
      simp [execOp, hop, hA.ev hv, Instr.loadAt, Instr.sureAddr, loadVar, hisa, tsize_run hm, hr]
    · rename_i hagg
      obtain ⟨u, hu, h⟩ := okK_elim h
      refine run_wp ?_ (hK _ _ h)
      have hagg' : isAggT (P.underlying t) = false := by simpa [tinfo] using hagg
      rw [hagg'] at hisa
      simp [execOp, hop, hA.ev hv, Instr.loadAt, Instr.sureAddr, loadVar, hisa, load, Sem.run, hu]
  case h_5 t x y hop =>
    obtain ⟨v, hv, h⟩ := okK_elim h
    obtain ⟨u, hu, h⟩ := okK_elim h
    obtain ⟨b, off, rfl, h⟩ := ptrK_elim h
    obtain ⟨m, hm, h⟩ := okK_elim h
    obtain ⟨⟨h1, h2⟩, h⟩ := h
    obtain ⟨⟨cs, tt⟩, hb, hl, h⟩ := okK_elim h
    have hblk := blkOf_elim hb
    dsimp only at hl h hblk
    obtain ⟨w1, hr, hw1, hc1, hs1⟩ := storeCells_put hblk u.cells.toList 0 cs w hblk (Chg.refl _ _) rfl (by simpa using hl) h2
    refine skip_wp ?_ (hK _ _ (h w1 ⟨by simpa using hw1, hc1, hs1⟩))
    simp [execOp, hop, hA.ev hv, hA.ev hu, Instr.storeAt, Instr.sureAddr, storeVar, tsize_run hm, h1]
    rw [hr]
    rfl
  case h_6 s d x hop =>
    split at h
    · rw [← hop] at h
      exact hpure h fun _ => id
    · obtain ⟨v, hv, h⟩ := okK_elim h
      exact hrun h fun v w' hr => by simp [execOp, hop, hA.ev hv, hr]
  case h_7 t l c hop =>
    obtain ⟨v, hv, h⟩ := okK_elim h
    obtain ⟨u, hu, h⟩ := okK_elim h
    exact hrun h fun v w' hr => by simp [execOp, hop, hA.ev hv, hA.ev hu, hr]
  case h_8 c hop =>
    obtain ⟨callee, args, argTypes⟩ := c
    dsimp only at h
    have hargs : ∀ {vs : List Value}, evs E args.toList = some vs → args.map a.eval = vs.toArray := fun hv => by apply Array.ext'; simp [hA.evs hv]
    split at h
    · rename_i f _
      obtain ⟨fv, hf, h⟩ := okK_elim h
      obtain ⟨vs, hv, h⟩ := okK_elim h
      unfold callK at h
      split at h
      · rename_i id first captured _
        obtain ⟨he, h⟩ := h
        have e : (first.toList ++ vs ++ captured.toList).toArray = first ++ vs.toArray ++ captured := by apply Array.ext'; simp
        rw [e] at h
        unfold Oper.wp
        unfold enters at he
        split at he
        · rename_i fn hfn
          have hr : (execOp a.eval o).run P w = .ok (.enter id (first ++ vs.toArray ++ captured)) w := by
            simp only [Bool.and_eq_true, bne_iff_ne, ne_eq] at he
            obtain ⟨he1, he2⟩ := he
            have hn : fn.body ≠ none := by intro hb; simp [hb] at he2
            simp [execOp, hop, resolve, hA.ev hf, hargs hv, Deferred.ofValue, invoke, callFunc, hfn, he1, hn]
          rw [hr]
          refine Calls.mono h fun e w' he => ?_
          obtain ⟨v, rfl, hk⟩ := he
          exact hK _ _ hk
        · cases he
      · exact h.elim
    · obtain ⟨vs, hv, h⟩ := okK_elim h
      exact hrun h fun v w' hr => by simp [execOp, hop, resolve, hargs hv, invoke, builtin, hr]
    · obtain ⟨vs, hv, h⟩ := okK_elim h
      exact hrun h fun v w' hr => by simp [execOp, hop, resolve, hargs hv, invoke, builtin, hr]
    · obtain ⟨vs, hv, h⟩ := okK_elim h
      exact hrun h fun v w' hr => by simp [execOp, hop, resolve, hargs hv, invoke, builtin, hr]
    · rw [← hop] at h
      exact hpure h fun _ => id
  case h_9 t x i ok hop =>
    obtain ⟨v, hv, h⟩ := okK_elim h
    obtain ⟨u, hu, h⟩ := okK_elim h
    exact hrun h fun v w' hr => by simp [execOp, hop, hA.ev hv, hA.ev hu, hr]
  case h_10 t x i hop =>
    obtain ⟨v, hv, h⟩ := okK_elim h
    obtain ⟨u, hu, h⟩ := okK_elim h
    exact hrun h fun v w' hr => by simp [execOp, hop, hA.ev hv, hA.ev hu, hr]
  case h_11 t m k x hop =>
    obtain ⟨v, hv, h⟩ := okK_elim h
    obtain ⟨u, hu, h⟩ := okK_elim h
    obtain ⟨x', hx, h⟩ := okK_elim h
    obtain ⟨w', hr, hk⟩ := h
    exact skip_wp (by simp [execOp, hop, hA.ev hv, hA.ev hu, hA.ev hx, hr]) (hK _ _ hk)
  case h_12 t m k x hop =>
    obtain ⟨v, hv, h⟩ := okK_elim h
    obtain ⟨u, hu, h⟩ := okK_elim h
    obtain ⟨x', hx, h⟩ := okK_elim h
    obtain ⟨w', hr, hk⟩ := h
    exact skip_wp (by simp [execOp, hop, hA.ev hv, hA.ev hu, hA.ev hx, hr]) (hK _ _ hk)
  case h_13 t r hop =>
    obtain ⟨v, hv, h⟩ := okK_elim h
    exact hrun h fun v w' hr => by simp [execOp, hop, evo_some hv a n hA, hr]
  case h_14 t x hop =>
    obtain ⟨v, hv, h⟩ := okK_elim h
    exact hrun h fun v w' hr => by simp [execOp, hop, hA.ev hv, hr]
  case h_15 it s hop =>
    obtain ⟨v, hv, h⟩ := okK_elim h
    exact hrun h fun v w' hr => by simp [execOp, hop, hA.ev hv, hr]
  case h_16 => exact hpure h fun _ => id
end Go.Proofs.Ytnhgjgoglmadnaa
namespace Go.Proofs.Ytnhgjgoglmadnaa
open Go.RowKit

def fits (n size : Int) : Bool := decide (1 ≤ size ∧ size ≤ 8 ∧ 0 ≤ n ∧ (size < 8 → n / 2 ^ (8 * size).toNat = 0))

structure W8 where
  l : List Int
  bad : Bool
def W8.num (s : W8) (n size : Int) : W8 := if fits n size then ⟨s.l ++ be n size.toNat, s.bad⟩ else ⟨s.l, true⟩

abbrev WrS (t : Nat) (w : World) (p : Nat) (v : Value) (s : W8) : Prop := Wr t w p v s.l s.bad

def WrPost (t p : Nat) (w : World) (v : Value) (s' : W8) (e : Ending) (w' : World) : Prop :=
  e = .returned (.pointer (some ⟨p, 0, none⟩)) ∧ ∃ v', WrS t w' p v' s' ∧ WrStep p w v w' v'

theorem num_spoil (p : Nat) (v : Value) (xs : List Int) (bad : Bool) (n size : Int) (w : World) (hw : Wr 32 w p v xs bad) (hn : -9223372036854775808 ≤ n) (hn1 : n ≤ 9223372036854775807)
    (h : size < 1 ∨ 8 < size ∨ n < 0 ∨ (size < 8 ∧ ¬ n / 2 ^ (8 * size).toNat = 0)) : Calls Try.prog 23 #[.pointer (some ⟨p, 0, none⟩), .int .i64 n, .int .i64 size] w (WrPost 32 p w v ⟨xs, true⟩) := by
  have h1 := hw.c1
  have h2 := hw.fz 1
  have HM := Lib.hid (hw.mark (by decide) true)
  have HW := Lib.hid hw
  clear hw
  by_cases a1 : size < 1
  · go_enter Try.func23, Try.ntmps23
    go_wp2
    go_ret
    exact ⟨rfl, v, HM.out.1, HM.out.2⟩
  by_cases a2 : 8 < size
  · go_enter Try.func23, Try.ntmps23
    go_wp2
    go_ret
    exact ⟨rfl, v, HM.out.1, HM.out.2⟩
  by_cases a3 : n < 0
  · go_enter Try.func23, Try.ntmps23
    go_wp2
    go_ret
    exact ⟨rfl, v, HM.out.1, HM.out.2⟩
  have a4 : size < 8 := by omega
  have a5 : 0 < n / 2 ^ (8 * size).toNat := by
    have : 0 ≤ n / 2 ^ (8 * size).toNat := Int.ediv_nonneg (by omega) (Int.le_of_lt (Int.pow_pos (by decide)))
    rcases h with h | h | h | h <;> omega
  have a6 := Int.not_lt.1 a1
  have a7 := Int.not_lt.1 a2
  have a8 := Int.not_lt.1 a3
  clear h a1 a2 a3
  go_enter Try.func23, Try.ntmps23
  go_wp2
  go_ret
  exact ⟨rfl, v, HM.out.1, HM.out.2⟩

theorem num_any (p : Nat) (v : Value) (s : W8) (n size : Int) (w : World) (hw : WrS 32 w p v s) (hlen : s.l.length ≤ 1000000) (hn : -9223372036854775808 ≤ n) (hn1 : n ≤ 9223372036854775807) :
    Calls Try.prog 23 #[.pointer (some ⟨p, 0, none⟩), .int .i64 n, .int .i64 size] w (WrPost 32 p w v (s.num n size)) := by
  by_cases h : fits n size = true
  · have h' : 1 ≤ size ∧ size ≤ 8 ∧ 0 ≤ n ∧ (size < 8 → n / 2 ^ (8 * size).toNat = 0) := of_decide_eq_true h
    obtain ⟨k, rfl⟩ := Int.eq_ofNat_of_zero_le (show 0 ≤ size by omega)
    have := num_good p v s.l s.bad n k w hw hlen (by omega) (by omega) h'.2.2.1 hn1 h'.2.2.2
    have e : s.num n k = ⟨s.l ++ be n k, s.bad⟩ := by simp [W8.num, h]
    rw [e]
    exact this
  · have h' : size < 1 ∨ 8 < size ∨ n < 0 ∨ (size < 8 ∧ ¬ n / 2 ^ (8 * size).toNat = 0) := by
      simp only [fits, decide_eq_true_eq] at h
      omega
    have := num_spoil p v s.l s.bad n size w hw hn hn1 h'
    have e : s.num n size = ⟨s.l, true⟩ := by simp [W8.num, h]
    rw [e]
    exact this

theorem W8.num_len (s : W8) (n size : Int) : (s.num n size).l.length ≤ s.l.length + 8 := by
  unfold W8.num
  split
  · rename_i h
    have h' : 1 ≤ size ∧ size ≤ 8 ∧ 0 ≤ n ∧ (size < 8 → n / 2 ^ (8 * size).toNat = 0) := of_decide_eq_true h
    simp [be_length]; omega
  · simp
end Go.Proofs.Ytnhgjgoglmadnaa
