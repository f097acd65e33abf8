/- A walk by reckoning: what an operation asks and leaves, as a proposition that is reckoned from the program's text over what the slots hold; each rule proved once. No program in sight. -/
import Derived.Test.YtnhgjgoglmadnaaFrame
import Derived.OrdersHeld
import Derived.RegionTactic
import Derived.WalkLawsBesides
namespace Go.Proofs.Ytnhgjgoglmadnaa
open Go.RowKit

/-! ### What is reckoned first: the rest of a walk is not looked into before -/
/-- A mark that keeps simp from looking into K. -/
inductive Tg {α : Sort _} (K : α) : Type
  | mk
def okK {α : Type} (o : Option α) (K : α → Prop) (_t : Tg K := .mk) : Prop := match o with | some v => K v | none => False
def valK {α : Type} (v : α) (K : α → Prop) (_t : Tg K := .mk) : Prop := K v
def boolK (v : Value) (K : Bool → Prop) (_t : Tg K := .mk) : Prop := match v with | .bool b => K b | _ => False
def ifK (b : Bool) (A B : Prop) (_t : Tg (A, B) := .mk) : Prop := (b = true → A) ∧ (b = false → B)
theorem okK_some {α : Type} (v : α) (K : α → Prop) : okK (some v) K = K v := (rfl)
theorem valK_eq {α : Type} (v : α) (K : α → Prop) : valK v K = K v := (rfl)
theorem boolK_bool (b : Bool) (K : Bool → Prop) : boolK (.bool b) K = K b := (rfl)
theorem ifK_true (A B : Prop) : ifK true A B = A := by simp [ifK]
theorem ifK_false (A B : Prop) : ifK false A B = B := by simp [ifK]
theorem okK_elim {α : Type} {o : Option α} {K : α → Prop} (h : okK o K) : ∃ v, o = some v ∧ K v := by cases o with | none => exact h.elim | some v => exact ⟨v, rfl, h⟩
theorem boolK_elim {v : Value} {K : Bool → Prop} (h : boolK v K) : ∃ b, v = .bool b ∧ K b := by cases v <;> first | exact ⟨_, rfl, h⟩ | exact h.elim

/-! ### The slots -/
abbrev Env := List (Nat × Value)
def Env.get : Env → Nat → Option Value
  | [], _ => none
  | (k, v) :: E, i => if k = i then some v else Env.get E i
def Env.push (d : Option Tmp) (v : Value) (E : Env) : Env := match d with | some d => (d, v) :: E | none => E
def ev (E : Env) : Operand → Option Value
  | .tmp t => E.get t
  | .const v => some v
  | .global g => some (.pointer (some ⟨g, 0, none⟩))
  | .func f => some (.func (.func f) #[] #[])
def evs (E : Env) : List Operand → Option (List Value)
  | [] => some []
  | x :: xs => (ev E x).bind fun v => (evs E xs).bind fun vs => some (v :: vs)

structure Agree (n : Nat) (E : Env) (a : Act) : Prop where
  size : a.tmps.size = n
  defers : a.defers = []
  get : ∀ i v, E.get i = some v → a.tmps.getD i undef = v

theorem Agree.ev {n : Nat} {E : Env} {a : Act} (h : Agree n E a) {x : Operand} {v : Value} (hx : ev E x = some v) : a.eval x = v := by
  cases x with
  | tmp t => exact h.get t v hx
  | const u => exact Option.some.inj hx
  | global g => exact Option.some.inj hx
  | func f => exact Option.some.inj hx
theorem Agree.evs {n : Nat} {E : Env} {a : Act} (h : Agree n E a) : ∀ {xs : List Operand} {vs : List Value}, evs E xs = some vs → xs.map a.eval = vs
  | [], vs, hx => by simp [Go.Proofs.Ytnhgjgoglmadnaa.evs] at hx; simp [hx]
  | x :: xs, vs, hx => by
    simp only [Go.Proofs.Ytnhgjgoglmadnaa.evs, Option.bind_eq_some_iff] at hx
    obtain ⟨v, hv, us, hu, he⟩ := hx
    injection he with he
    subst he
    simp [h.ev hv, Agree.evs h hu]
theorem Agree.put {n : Nat} {E : Env} {a : Act} (h : Agree n E a) (d : Option Tmp) (v : Value) (hd : ∀ k, d = some k → k < n) : Agree n (E.push d v) (a.put d v) := by
  cases d with
  | none => exact h
  | some k =>
    refine ⟨by simp [Act.put, h.size], h.defers, fun i u hi => ?_⟩
    simp only [Env.push, Env.get, Act.put] at hi ⊢
    by_cases e : k = i
    · subst e
      simp at hi
      have hk := hd k rfl
      rw [← h.size] at hk
      simp [Array.getD, hk, hi]
    · rw [if_neg e] at hi
      have := h.get i u hi
      simp only [Array.getD_eq_getD_getElem?] at this ⊢
      rw [Array.getElem?_setIfInBounds_ne e]
      exact this
theorem Agree.weaken {n : Nat} {E E' : Env} {a : Act} (h : Agree n E a) (hs : ∀ i v, E'.get i = some v → E.get i = some v) : Agree n E' a := ⟨h.size, h.defers, fun i v hi => h.get i v (hs i v hi)⟩

/-! ### Operations that look at no memory -/
def pureF (P : Program) (s : Sem Value) (K : Value → Prop) (_t : Tg K := .mk) : Prop := ∃ v, (∀ w, s.run P w = .ok v w) ∧ K v
def isPtr : Option TypeDesc → Bool | some (.pointer _) => true | _ => false
def isSlc : Option TypeDesc → Bool | some (.slice _) => true | _ => false
def isStr : Option TypeDesc → Bool | some .string => true | _ => false
def isBol : Option TypeDesc → Bool | some .bool => true | _ => false
def isAggT : Option TypeDesc → Bool | some (.struct _) | some (.array ..) => true | _ => false
def intT : Option TypeDesc → Option IntKind | some (.int k) => some k | _ => none
def slcT : Option TypeDesc → Option TypeId | some (.slice e) => some e | _ => none
def arrT : Option TypeDesc → Option (Nat × TypeId) | some (.array n e) => some (n, e) | _ => none
def strT : Option TypeDesc → Option (Array Field) | some (.struct fs) => some fs | _ => none
def tsize (P : Program) (t : TypeId) : Option Nat := (P.info? t).map (·.size)
/-- What a walk asks of a type. -/
structure TI where
  known : Bool
  agg : Bool
  size : Option Nat
  zero : Option Value
  lay : Option (List (Nat × Option Nat × Option Bool))
  arr : Option (Nat × Option Nat × Bool)
  sl : Option (TypeId × Option Nat)
  int : Option IntKind
  ptr : Bool
  slc : Bool
  bol : Bool
  str : Bool
def tinfo (P : Program) (t : TypeId) : TI where
  known := (P.underlying t).isSome
  agg := isAggT (P.underlying t)
  size := tsize P t
  zero := (P.info? t).bind (·.zero)
  lay := (strT (P.underlying t)).map fun fs => fs.toList.map fun f => (f.offset, tsize P f.type, (P.underlying f.type).map fun d => isAggT (some d))
  arr := (arrT (P.underlying t)).map fun a => (a.1, tsize P a.2, isAggT (P.underlying a.2))
  sl := (slcT (P.underlying t)).map fun e => (e, tsize P e)
  int := intT (P.underlying t)
  ptr := isPtr (P.underlying t)
  slc := isSlc (P.underlying t)
  bol := isBol (P.underlying t)
  str := isStr (P.underlying t)
theorem tsize_run {P : Program} {t : TypeId} {n : Nat} (h : tsize P t = some n) (w : World) : (sizeOf t).run P w = .ok n w := by
  obtain ⟨i, hi, rfl⟩ := Option.map_eq_some_iff.1 h
  simp [sizeOf, typeInfo, hi]
theorem tzero_run {P : Program} {t : TypeId} {z : Value} (h : (tinfo P t).zero = some z) (w : World) : (zeroValue t).run P w = .ok z w := by
  obtain ⟨i, hi, hz⟩ := Option.bind_eq_some_iff.1 h
  simp [zeroValue, typeInfo, hi, hz]

def intK2 (op : BinOp) (k : IntKind) (a b : Int) (K : Value → Prop) (_t : Tg K := .mk) : Prop :=
  match op with
  | .add => valK (.int k (k.wrap (a + b))) K
  | .sub => valK (.int k (k.wrap (a - b))) K
  | .mul => valK (.int k (k.wrap (a * b))) K
  | .quo => b ≠ 0 ∧ valK (.int k (k.wrap (a.tdiv b))) K
  | .rem => b ≠ 0 ∧ valK (.int k (a.tmod b)) K
  | .and => valK (.int k (k.wrap (BitVec.ofInt k.bits a &&& BitVec.ofInt k.bits b).toNat)) K
  | .or => valK (.int k (k.wrap (BitVec.ofInt k.bits a ||| BitVec.ofInt k.bits b).toNat)) K
  | .xor => valK (.int k (k.wrap (BitVec.ofInt k.bits a ^^^ BitVec.ofInt k.bits b).toNat)) K
  | .andNot => valK (.int k (k.wrap (BitVec.ofInt k.bits a &&& ~~~ (BitVec.ofInt k.bits b)).toNat)) K
  | .eql => valK (.bool (decide (a = b))) K
  | .neq => valK (.bool (!decide (a = b))) K
  | .lss => valK (.bool (decide (a < b))) K
  | .leq => valK (.bool (decide (a ≤ b))) K
  | .gtr => valK (.bool (decide (b < a))) K
  | .geq => valK (.bool (decide (b ≤ a))) K
  | _ => False

def binK (P : Program) (op : BinOp) (t : TypeId) (xo yo : Operand) (x y : Value) (K : Value → Prop) (_t : Tg K := .mk) : Prop :=
  match op, x, y with
  | .shl, .int k a, .int _ b => 0 ≤ b ∧ valK (.int k (k.wrap (a * 2 ^ min b.toNat k.bits))) K
  | .shr, .int k a, .int _ b => 0 ≤ b ∧ valK (.int k (a / 2 ^ min b.toNat k.bits)) K
  | op, .int k a, .int k' b => if k = k' then intK2 op k a b K else False
  | .eql, .string a, .string b => valK (.bool (a.toList == b.toList)) K
  | .neq, .string a, .string b => valK (.bool (!(a.toList == b.toList))) K
  | .eql, .bool a, .bool b => (tinfo P t).bol = true ∧ valK (.bool (a == b)) K
  | .neq, .bool a, .bool b => (tinfo P t).bol = true ∧ valK (.bool (!(a == b))) K
  | .eql, .pointer none, .pointer b => (tinfo P t).ptr = true ∧ valK (.bool b.isNone) K
  | .neq, .pointer none, .pointer b => (tinfo P t).ptr = true ∧ valK (.bool (!b.isNone)) K
  | .eql, .pointer (some _), .pointer none => (tinfo P t).ptr = true ∧ valK (.bool false) K
  | .neq, .pointer (some _), .pointer none => (tinfo P t).ptr = true ∧ valK (.bool true) K
  | .eql, .slice a _ _, .slice none _ _ => (tinfo P t).slc = true ∧ valK (.bool a.isNone) K
  | .neq, .slice a _ _, .slice none _ _ => (tinfo P t).slc = true ∧ valK (.bool (!a.isNone)) K
  | _, _, _ => pureF P (do eqGuard op t xo yo x y; binOp op t x y) K

theorem fdiv_pow (a : Int) (n : Nat) : a.fdiv (2 ^ n) = a / 2 ^ n := Int.fdiv_eq_ediv_of_nonneg _ (Int.le_of_lt (Int.pow_pos (by decide)))

theorem eqGuard_int (P : Program) (op : BinOp) (t : TypeId) (xo yo : Operand) (k k' : IntKind) (a b : Int) (w : World) : (eqGuard op t xo yo (.int k a) (.int k' b)).run P w = .ok () w := by
  cases op <;> simp [eqGuard]
theorem eqGuard_bool (P : Program) (op : BinOp) (t : TypeId) (xo yo : Operand) (a b : Bool) (w : World) : (eqGuard op t xo yo (.bool a) (.bool b)).run P w = .ok () w := by
  cases op <;> simp [eqGuard]
theorem eqGuard_string (P : Program) (op : BinOp) (t : TypeId) (xo yo : Operand) (a b : ByteArray) (w : World) : (eqGuard op t xo yo (.string a) (.string b)).run P w = .ok () w := by
  cases op <;> simp [eqGuard]
theorem eqGuard_ptr (P : Program) (op : BinOp) (t : TypeId) (xo yo : Operand) (a b : Option Addr) (w : World) : (eqGuard op t xo yo (.pointer a) (.pointer b)).run P w = .ok () w := by
  cases op <;> simp [eqGuard]
theorem eqGuard_slice (P : Program) (op : BinOp) (t : TypeId) (xo yo : Operand) (a b : Option Addr) (n c n' c' : Nat) (w : World) : (eqGuard op t xo yo (.slice a n c) (.slice b n' c')).run P w = .ok () w := by
  cases op <;> simp [eqGuard]

theorem run_underlying_of {P : Program} {t : TypeId} {d : TypeDesc} (h : P.underlying t = some d) (w : World) : (underlying t).run P w = .ok d w := by simp [underlying, h]

theorem isPtr_elim {o : Option TypeDesc} (h : isPtr o = true) : ∃ e, o = some (.pointer e) := by
  cases o with
  | none => simp [isPtr] at h
  | some d => cases d <;> first | exact ⟨_, rfl⟩ | simp [isPtr] at h
theorem isSlc_elim {o : Option TypeDesc} (h : isSlc o = true) : ∃ e, o = some (.slice e) := by
  cases o with
  | none => simp [isSlc] at h
  | some d => cases d <;> first | exact ⟨_, rfl⟩ | simp [isSlc] at h
theorem isBol_elim {o : Option TypeDesc} (h : isBol o = true) : o = some .bool := by
  cases o with
  | none => simp [isBol] at h
  | some d => cases d <;> first | rfl | simp [isBol] at h

theorem equalIn_ptrs {P : Program} {t e : TypeId} (d : Nat) (hu : P.underlying t = some (.pointer e)) (a b : Option Addr) (h : a = none ∨ b = none) (w : World) : (Op.equalIn (d + 1) t (.pointer a) (.pointer b)).run P w = .ok (a.isNone && b.isNone) w := by
  rcases h with rfl | rfl
  · cases b <;> simp [Op.equalIn, run_underlying_of hu]
  · cases a <;> simp [Op.equalIn, run_underlying_of hu]
theorem equalIn_slcs {P : Program} {t e : TypeId} (d : Nat) (hu : P.underlying t = some (.slice e)) (a : Option Addr) (n c n' c' : Nat) (w : World) : (Op.equalIn (d + 1) t (.slice a n c) (.slice none n' c')).run P w = .ok a.isNone w := by
  cases a <;> simp [Op.equalIn, run_underlying_of hu]
theorem equalIn_bols {P : Program} {t : TypeId} (d : Nat) (hu : P.underlying t = some .bool) (a b : Bool) (w : World) : (Op.equalIn (d + 1) t (.bool a) (.bool b)).run P w = .ok (a == b) w := by
  simp [Op.equalIn, run_underlying_of hu]
theorem eql_run {P : Program} {t : TypeId} {x y : Value} {b : Bool} {w : World} (h : (Op.equalIn (9999 + 1) t x y).run P w = .ok b w) : (Op.equal t x y).run P w = .ok b w := h
theorem beqDec (a b : Int) : (a == b) = decide (a = b) := by
  by_cases h : a = b <;> simp [h]

theorem intK2_sound (P : Program) (op : BinOp) (t : TypeId) (k : IntKind) (a b : Int) (K : Value → Prop) (hs : op ≠ .shl ∧ op ≠ .shr) (h : intK2 op k a b K) : ∃ v, (∀ w, (binOp op t (.int k a) (.int k b)).run P w = .ok v w) ∧ K v := by
  cases op <;> simp [intK2, valK] at h hs <;> (try exact h.elim)
  case eql => exact ⟨.bool (decide (a = b)), fun w => by rw [← beqDec]; simp [binOp, Op.intCmp], h⟩
  case neq => exact ⟨.bool (!decide (a = b)), fun w => by rw [← beqDec]; simp [binOp, Op.intCmp, bne], h⟩
  case quo => exact ⟨_, fun w => by simp [binOp, Op.intDiv, h.1], h.2⟩
  case rem => exact ⟨_, fun w => by simp [binOp, Op.intDiv, h.1], h.2⟩
  all_goals exact ⟨_, fun w => by simp [binOp, Op.intArith, Op.intCmp, Op.intBits], h⟩

theorem binK_sound (P : Program) (op : BinOp) (t : TypeId) (xo yo : Operand) (x y : Value) (K : Value → Prop) (h : binK P op t xo yo x y K) :
    pureF P (do eqGuard op t xo yo x y; binOp op t x y) K := by
  unfold binK at h
  split at h
  · obtain ⟨h1, h2⟩ := h
    exact ⟨_, fun w => by simp [eqGuard_int, binOp, Op.shift, Int.not_lt.2 h1], h2⟩
  · obtain ⟨h1, h2⟩ := h
    exact ⟨_, fun w => by simp [eqGuard_int, binOp, Op.shift, Int.not_lt.2 h1, fdiv_pow], h2⟩
  · rename_i hn1 hn2
    split at h
    · rename_i hk
      subst hk
      obtain ⟨v, hv, hK⟩ := intK2_sound P _ t _ _ _ K ⟨fun e => hn1 e, fun e => hn2 e⟩ h
      exact ⟨v, fun w => by simp [eqGuard_int, hv], hK⟩
    · exact h.elim
  · exact ⟨_, fun w => by simp [eqGuard_string, binOp, Op.stringOp], h⟩
  · exact ⟨_, fun w => by simp [eqGuard_string, binOp, Op.stringOp], h⟩
  · have hu := isBol_elim (show isBol (P.underlying t) = true from h.1)
    exact ⟨_, fun w => by simp only [Sem.run_bind, eqGuard_bool, Result.andThen_ok, binOp, eql_run (equalIn_bols _ hu _ _ _), Sem.run_pure], h.2⟩
  · have hu := isBol_elim (show isBol (P.underlying t) = true from h.1)
    exact ⟨_, fun w => by simp only [Sem.run_bind, eqGuard_bool, Result.andThen_ok, binOp, eql_run (equalIn_bols _ hu _ _ _), Sem.run_pure], h.2⟩
  · obtain ⟨e, hu⟩ := isPtr_elim (show isPtr (P.underlying t) = true from h.1)
    rename_i b
    exact ⟨.bool b.isNone, fun w => by simp only [Sem.run_bind, eqGuard_ptr, Result.andThen_ok, binOp, eql_run (equalIn_ptrs _ hu _ _ (.inl rfl) _), Sem.run_pure, Option.isNone_none, Bool.true_and], h.2⟩
  · obtain ⟨e, hu⟩ := isPtr_elim (show isPtr (P.underlying t) = true from h.1)
    rename_i b
    exact ⟨.bool (!b.isNone), fun w => by simp only [Sem.run_bind, eqGuard_ptr, Result.andThen_ok, binOp, eql_run (equalIn_ptrs _ hu _ _ (.inl rfl) _), Sem.run_pure, Option.isNone_none, Bool.true_and], h.2⟩
  · obtain ⟨e, hu⟩ := isPtr_elim (show isPtr (P.underlying t) = true from h.1)
    exact ⟨.bool false, fun w => by simp only [Sem.run_bind, eqGuard_ptr, Result.andThen_ok, binOp, eql_run (equalIn_ptrs _ hu _ _ (.inr rfl) _), Sem.run_pure, Option.isNone_some, Bool.false_and], h.2⟩
  · obtain ⟨e, hu⟩ := isPtr_elim (show isPtr (P.underlying t) = true from h.1)
    exact ⟨.bool true, fun w => by simp only [Sem.run_bind, eqGuard_ptr, Result.andThen_ok, binOp, eql_run (equalIn_ptrs _ hu _ _ (.inr rfl) _), Sem.run_pure, Option.isNone_some, Bool.false_and, Bool.not_false], h.2⟩
  · obtain ⟨e, hu⟩ := isSlc_elim (show isSlc (P.underlying t) = true from h.1)
    exact ⟨_, fun w => by simp only [Sem.run_bind, eqGuard_slice, Result.andThen_ok, binOp, eql_run (equalIn_slcs _ hu _ _ _ _ _ _), Sem.run_pure], h.2⟩
  · obtain ⟨e, hu⟩ := isSlc_elim (show isSlc (P.underlying t) = true from h.1)
    exact ⟨_, fun w => by simp only [Sem.run_bind, eqGuard_slice, Result.andThen_ok, binOp, eql_run (equalIn_slcs _ hu _ _ _ _ _ _), Sem.run_pure], h.2⟩
  · exact h

/-! ### Cells of a struct or an array -/
/-- vs over the cells of l from the n-th on -/
def overR : List Value → List Value → List Value
  | l, [] => l
  | _ :: l, v :: vs => v :: overR l vs
  | [], _ :: _ => []
def setR : List Value → Nat → List Value → List Value
  | l, 0, vs => overR l vs
  | x :: l, n + 1, vs => x :: setR l n vs
  | [], _ + 1, _ => []
theorem overR_length : ∀ (l vs : List Value), (overR l vs).length = l.length
  | l, [] => by cases l <;> rfl
  | x :: l, v :: vs => by simp [overR, overR_length l vs]
  | [], v :: vs => rfl
theorem setR_length : ∀ (l : List Value) (n : Nat) (vs : List Value), (setR l n vs).length = l.length
  | l, 0, vs => by cases l <;> simp [setR, overR_length]
  | x :: l, n + 1, vs => by simp [setR, setR_length l n vs]
  | [], n + 1, vs => rfl
theorem setR_cons (v : Value) : ∀ (l : List Value) (n : Nat) (vs : List Value), setR l n (v :: vs) = setR (l.set n v) (n + 1) vs
  | [], 0, vs => by cases vs <;> rfl
  | [], n + 1, vs => rfl
  | x :: l, 0, vs => by cases l <;> simp [setR, overR]
  | x :: l, n + 1, vs => by simp [setR, setR_cons v l n vs]
theorem setR_nil : ∀ (l : List Value) (n : Nat), setR l n [] = l
  | l, 0 => by cases l <;> rfl
  | x :: l, n + 1 => by simp [setR, setR_nil l n]
  | [], n + 1 => rfl
theorem foldl_setR (off : Nat) : ∀ (vs : List Value) (i : Nat) (cs : Array Value),
    (vs.zipIdx i).foldl (fun (cs : Array Value) (x : Value × Nat) => cs.setIfInBounds (off + x.2) x.1) cs = (setR cs.toList (off + i) vs).toArray
  | [], i, cs => by simp [setR_nil]
  | v :: vs, i, cs => by
    rw [List.zipIdx_cons, List.foldl_cons, foldl_setR off vs (i + 1)]
    simp only [Array.toList_setIfInBounds]
    rw [setR_cons, Nat.add_assoc]
/-- The parts of a literal, laid into the cells of the zero value. -/
def fillL (place : Nat → Option (Nat × Nat)) (cells : List Value) : List (Nat × Value) → Option (List Value)
  | [] => some cells
  | (i, v) :: rest => (place i).bind fun p => if v.cells.size = p.2 ∧ p.1 + p.2 ≤ cells.length then fillL place (setR cells p.1 v.cells.toList) rest else none
theorem fill_of (place : Nat → Option (Nat × Nat)) : ∀ (ps : List (Nat × Value)) (cells : Array Value) (cs : List Value), fillL place cells.toList ps = some cs → Instr.fill place cells ps = some cs.toArray
  | [], cells, cs, h => by
    simp only [fillL, Option.some.injEq] at h
    simp [Instr.fill, ← h]
  | (i, v) :: rest, cells, cs, h => by
    simp only [fillL, Option.bind_eq_some_iff] at h
    obtain ⟨⟨off, size⟩, hp, h⟩ := h
    split at h
    · rename_i hc
      obtain ⟨h1, h2⟩ := hc
      dsimp only at h1 h2 h
      simp only [Instr.fill, hp]
      have h2' : off + v.cells.size ≤ cells.size := by rw [h1]; simpa using h2
      rw [if_neg (by simp [h1]; rw [← h1]; omega)]
      have e : Array.foldl (fun cs (x : Value × Nat) => match x with | (c, j) => cs.setIfInBounds (off + j) c) cells v.cells.zipIdx = (setR cells.toList off v.cells.toList).toArray := by
        rw [← Array.foldl_toList, Array.toList_zipIdx]
        exact foldl_setR off v.cells.toList 0 cells
      rw [e]
      exact fill_of place rest _ cs (by simpa using h)
    · cases h
end Go.Proofs.Ytnhgjgoglmadnaa
