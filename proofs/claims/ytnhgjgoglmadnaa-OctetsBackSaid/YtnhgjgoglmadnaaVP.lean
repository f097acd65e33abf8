/- A walk by reckoning, 2: the operations that look at no memory. -/
import Derived.Test.YtnhgjgoglmadnaaV
namespace Go.Proofs.Ytnhgjgoglmadnaa
open Go.RowKit

def ptrK (v : Value) (K : Nat → Nat → Prop) (_t : Tg K := .mk) : Prop := match v with | .pointer (some ⟨b, o, none⟩) => K b o | _ => False
def intK (v : Value) (K : IntKind → Int → Prop) (_t : Tg K := .mk) : Prop := match v with | .int k n => K k n | _ => False
def sliceK (v : Value) (K : Option Addr → Nat → Nat → Prop) (_t : Tg K := .mk) : Prop := match v with | .slice a n c => K a n c | _ => False
def aggK (v : Value) (K : List Value → Prop) (_t : Tg K := .mk) : Prop := match v with | .agg cs => K cs.toList | _ => False
def tupK (v : Value) (K : List Value → Prop) (_t : Tg K := .mk) : Prop := match v with | .tuple cs => K cs.toList | _ => False
theorem ptrK_mk (b o : Nat) (K : Nat → Nat → Prop) : ptrK (.pointer (some ⟨b, o, none⟩)) K = K b o := (rfl)
theorem intK_mk (k : IntKind) (n : Int) (K : IntKind → Int → Prop) : intK (.int k n) K = K k n := (rfl)
theorem sliceK_mk (a : Option Addr) (n c : Nat) (K : Option Addr → Nat → Nat → Prop) : sliceK (.slice a n c) K = K a n c := (rfl)
theorem aggK_mk (l : List Value) (K : List Value → Prop) : aggK (.agg l.toArray) K = K l := by simp [aggK]
theorem tupK_mk (l : List Value) (K : List Value → Prop) : tupK (.tuple l.toArray) K = K l := by simp [tupK]
theorem ptrK_elim {v : Value} {K : Nat → Nat → Prop} (h : ptrK v K) : ∃ b o, v = .pointer (some ⟨b, o, none⟩) ∧ K b o := by
  unfold ptrK at h; split at h
  · exact ⟨_, _, rfl, h⟩
  · exact h.elim
theorem intK_elim {v : Value} {K : IntKind → Int → Prop} (h : intK v K) : ∃ k n, v = .int k n ∧ K k n := by
  unfold intK at h; split at h
  · exact ⟨_, _, rfl, h⟩
  · exact h.elim
theorem sliceK_elim {v : Value} {K : Option Addr → Nat → Nat → Prop} (h : sliceK v K) : ∃ a n c, v = .slice a n c ∧ K a n c := by
  unfold sliceK at h; split at h
  · exact ⟨_, _, _, rfl, h⟩
  · exact h.elim
theorem aggK_elim {v : Value} {K : List Value → Prop} (h : aggK v K) : ∃ cs : Array Value, v = .agg cs ∧ K cs.toList := by
  unfold aggK at h; split at h
  · exact ⟨_, rfl, h⟩
  · exact h.elim
theorem tupK_elim {v : Value} {K : List Value → Prop} (h : tupK v K) : ∃ cs : Array Value, v = .tuple cs ∧ K cs.toList := by
  unfold tupK at h; split at h
  · exact ⟨_, rfl, h⟩
  · exact h.elim

/-- A slice cut from l on: at the capacity's end Go keeps the old address. -/
def cutA (a : Option Addr) (c l sz : Nat) : Option Addr := if c = l then a else a.map (·.add (l * sz))

def nchkK (v : Value) (K : Value → Prop) (_t : Tg K := .mk) : Prop := match v with | .pointer (some a) => K (.pointer (some a)) | .func (.func f) x y => K (.func (.func f) x y) | _ => False
def unK (op : UnOp) (v : Value) (K : Value → Prop) (_t : Tg K := .mk) : Prop :=
  match op, v with
  | .not, .bool b => valK (.bool (!b)) K
  | .neg, .int k n => valK (.int k (k.wrap (0 - n))) K
  | _, _ => False
def bndK (x : Option Value) (dflt : Nat) (most : Nat) (K : Nat → Prop) (_t : Tg K := .mk) : Prop :=
  match x with
  | none => K dflt
  | some v => intK v fun _ i => (0 ≤ i ∧ i ≤ most) ∧ K i.toNat
def evo (E : Env) : Option Operand → Option (Option Value)
  | none => some none
  | some x => (ev E x).map some

/-- Where the parts of a struct, or an array, stand. -/
def allSizes : List (Nat × Option Nat × Option Bool) → Option (List (Nat × Nat))
  | [] => some []
  | f :: r => f.2.1.bind fun s => (allSizes r).map fun l => (f.1, s) :: l
def places (T : TI) : Option (Nat → Option (Nat × Nat)) :=
  match T.lay, T.arr with
  | some lay, _ => (allSizes lay).map fun l i => l[i]?
  | none, some (_, sz, _) => sz.map fun s i => some (i * s, s)
  | _, _ => none

def idxK (s : Option (TypeId × Option Nat)) (r : Option (Nat × Option Nat × Bool)) (A : Nat → Prop) (B : Nat → Nat → Prop) (_t : Tg (A, B) := .mk) : Prop :=
  match s, r with
  | some (_, sz), _ => okK sz A
  | none, some (n, sz, _) => okK sz (B n)
  | none, none => False
theorem idxK_elim {s : Option (TypeId × Option Nat)} {r : Option (Nat × Option Nat × Bool)} {A : Nat → Prop} {B : Nat → Nat → Prop} (h : idxK s r A B) :
    (∃ e sz, s = some (e, some sz) ∧ A sz) ∨ ∃ n sz g, r = some (n, some sz, g) ∧ s = none ∧ B n sz := by
  cases s with
  | some p =>
    obtain ⟨e, sz⟩ := p
    obtain ⟨v, rfl, h⟩ := okK_elim (show okK sz A from h)
    exact .inl ⟨_, _, rfl, h⟩
  | none =>
    cases r with
    | none => exact h.elim
    | some p =>
      obtain ⟨n, sz, g⟩ := p
      obtain ⟨v, rfl, h⟩ := okK_elim (show okK sz (B n) from h)
      exact .inr ⟨_, _, _, rfl, rfl, h⟩

/-- What a pure operation asks and leaves. -/
def pureK (P : Program) (o : Op) (E : Env) (K : Value → Prop) : Prop :=
  match o with
  | .move x | .assign x => okK (ev E x) fun v => valK v K
  | .pick c x y => okK (ev E c) fun c => okK (ev E x) fun x => okK (ev E y) fun y => boolK c fun b => valK (bif b then x else y) K
  | .nilCheck x => okK (ev E x) fun v => nchkK v K
  | .binOp op t x y _ => okK (ev E x) fun a => okK (ev E y) fun b => valK (a, b) fun p => binK P op t x y p.1 p.2 K
  | .unOp op _ x => okK (ev E x) fun a => unK op a K
  | .convert s d x => okK (ev E x) fun a => okK (if (tinfo P s).known = true then some () else none) fun _ => okK (tinfo P d).int fun k => intK a fun _ n => valK (.int k (k.wrap n)) K
  | .build t parts => okK (evs E (parts.toList.map (·.2))) fun vs => okK (tinfo P t).zero fun z => okK (places (tinfo P t)) fun pl => okK (fillL pl z.cells.toList ((parts.toList.map (·.1)).zip vs)) fun cs => K (.agg cs.toArray)
  | .fieldAddr s x f => okK (ev E x) fun a => okK (((tinfo P s).lay.bind (·[f]?)).bind fun p => p.2.1.bind fun sz => if sz = 0 then none else some p.1) fun off => ptrK a fun b o => valK (.pointer (some ⟨b, o + off, none⟩)) K
  | .field t x f => okK (ev E x) fun a => okK ((tinfo P t).lay.bind (·[f]?)) fun p => okK p.2.1 fun sz => aggK a fun cs =>
      okK p.2.2 fun ag => if ag = true then valK (.agg ((cs.drop p.1).take sz).toArray) K else okK cs[p.1]? K
  | .indexAddr t x i => okK (ev E x) fun a => okK (ev E i) fun i => intK i fun _ i => idxK (tinfo P t).sl (tinfo P t).arr
      (fun sz => sliceK a fun ad n _ => (0 ≤ i ∧ i < n) ∧ ptrK (.pointer ad) fun b o => valK (.pointer (some ⟨b, o + i.toNat * sz, none⟩)) K)
      (fun n sz => ptrK a fun b o => (0 ≤ i ∧ i < n) ∧ valK (.pointer (some ⟨b, o + i.toNat * sz, none⟩)) K)
  | .slice t x lo hi none => okK (ev E x) fun a => okK (evo E lo) fun lo => okK (evo E hi) fun hi => okK (tinfo P t).sl fun e => okK e.2 fun sz =>
      sliceK a fun ad n c => bndK hi n c fun h => bndK lo 0 h fun l => valK (.slice (cutA ad c l sz) (h - l) (c - l)) K
  | .extract x i => okK (ev E x) fun v => tupK v fun vs => okK vs[i]? K
  | .makeFunc fn first captured => okK (evs E first.toList) fun a => okK (evs E captured.toList) fun b => K (.func fn a.toArray b.toArray)
  | .call c => (match c.callee, c.args.toList, c.argTypes.toList with
      | .builtin .len, [x], [t] => okK (ev E x) fun v => (match (tinfo P t).slc, (tinfo P t).str with
          | true, _ => sliceK v fun _ n _ => valK (.int .i64 n) K
          | _, true => (match v with | .string s => valK (.int .i64 s.size) K | _ => False)
          | _, _ => False)
      | .builtin .min, [x, y], _ => okK (ev E x) fun a => okK (ev E y) fun b => intK a fun k n => intK b fun _ m => valK (.int k (if m < n then m else n)) K
      | .builtin .max, [x, y], _ => okK (ev E x) fun a => okK (ev E y) fun b => intK a fun k n => intK b fun _ m => valK (.int k (if n < m then m else n)) K
      | _, _, _ => False)
  | _ => False

theorem evo_some {E : Env} {x : Option Operand} {v : Option Value} (h : evo E x = some v) (a : Act) (n : Nat) (hA : Agree n E a) : x.map a.eval = v := by
  cases x with
  | none => simp [evo] at h; simp [h]
  | some x =>
    simp only [evo, Option.map_eq_some_iff] at h
    obtain ⟨u, hu, rfl⟩ := h
    simp [hA.ev hu]
theorem add_off (b o k : Nat) : (⟨b, o, none⟩ : Addr).add k = ⟨b, o + k, none⟩ := by
  unfold Addr.add; split <;> simp_all
theorem und_of_str {P : Program} {t : TypeId} {fs : Array Field} (h : strT (P.underlying t) = some fs) : P.underlying t = some (.struct fs) := by
  cases hu : P.underlying t with
  | none => simp [strT, hu] at h
  | some d => cases d <;> simp [strT, hu] at h; simp [h]
theorem und_of_slc {P : Program} {t e : TypeId} (h : slcT (P.underlying t) = some e) : P.underlying t = some (.slice e) := by
  cases hu : P.underlying t with
  | none => simp [slcT, hu] at h
  | some d => cases d <;> simp [slcT, hu] at h; simp [h]
theorem und_of_arr {P : Program} {t e : TypeId} {n : Nat} (h : arrT (P.underlying t) = some (n, e)) : P.underlying t = some (.array n e) := by
  cases hu : P.underlying t with
  | none => simp [arrT, hu] at h
  | some d => cases d <;> simp [arrT, hu] at h; simp [h]
theorem und_of_int {P : Program} {t : TypeId} {k : IntKind} (h : intT (P.underlying t) = some k) : P.underlying t = some (.int k) := by
  cases hu : P.underlying t with
  | none => simp [intT, hu] at h
  | some d => cases d <;> simp [intT, hu] at h; simp [h]
theorem und_of_strg {P : Program} {t : TypeId} (h : isStr (P.underlying t) = true) : P.underlying t = some .string := by
  cases hu : P.underlying t with
  | none => simp [isStr, hu] at h
  | some d => cases d <;> simp [isStr, hu] at h; rfl
theorem isAgg_run {P : Program} {t : TypeId} {d : TypeDesc} (hd : P.underlying t = some d) (w : World) : (isAgg t).run P w = .ok (isAggT (P.underlying t)) w := by
  simp only [isAgg, Sem.run_bind, run_underlying_of hd, Result.andThen_ok, hd]
  cases d <;> simp [isAggT]

/-- What a run of an operation that looks at no memory says. -/
def Pure (P : Program) (ρ : Operand → Value) (o : Oper) (v : Value) : Prop := ∀ w, (execOp ρ o).run P w = .ok (.value v) w

theorem bnd_run {x : Option Value} {d m : Nat} {K : Nat → Prop} (h : bndK x d m K) : ∃ l, K l ∧ ((x = none ∧ l = d) ∨ ∃ k i, x = some (.int k i) ∧ 0 ≤ i ∧ i ≤ m ∧ l = i.toNat) := by
  cases x with
  | none => exact ⟨d, h, .inl ⟨rfl, rfl⟩⟩
  | some v =>
    obtain ⟨k, i, rfl, h1, h2⟩ := intK_elim h
    exact ⟨_, h2, .inr ⟨k, i, rfl, h1.1, h1.2, rfl⟩⟩

theorem sliceBounds_run {P : Program} {lo hi : Option Value} {n c h l : Nat} (hh : (hi = none ∧ h = n) ∨ ∃ k i, hi = some (.int k i) ∧ 0 ≤ i ∧ i ≤ c ∧ h = i.toNat)
    (hl : (lo = none ∧ l = 0) ∨ ∃ k i, lo = some (.int k i) ∧ 0 ≤ i ∧ i ≤ h ∧ l = i.toNat) (w : World) : (Instr.sliceBounds true n c lo hi none).run P w = .ok (l, h, c) w := by
  rcases hh with ⟨rfl, rfl⟩ | ⟨k, i, rfl, h0, h1, rfl⟩ <;> rcases hl with ⟨rfl, rfl⟩ | ⟨k', i', rfl, h0', h1', rfl⟩ <;>
    simp [Instr.sliceBounds, Instr.sliceBound, asIntOf, *]
  intro hc; exfalso; omega

theorem allSizes_some {P : Program} : ∀ {fs : List Field} {l : List (Nat × Nat)}, allSizes (fs.map fun f => (f.offset, tsize P f.type, (P.underlying f.type).map fun d => isAggT (some d))) = some l →
    fs.mapM (fun f => (P.info? f.type).map fun i => (f.offset, i.size)) = some l
  | [], l, h => by simp [allSizes] at h; simp [h]
  | f :: fs, l, h => by
    simp only [List.map_cons, allSizes, Option.bind_eq_some_iff, Option.map_eq_some_iff] at h
    obtain ⟨s, hs, l', hl, rfl⟩ := h
    have ih := allSizes_some (P := P) hl
    obtain ⟨i, hi, rfl⟩ := Option.map_eq_some_iff.1 hs
    simp [List.mapM_cons, hi, ih]
theorem built_of {P : Program} {t : TypeId} {z : Value} {pl : Nat → Option (Nat × Nat)} {ps : List (Nat × Value)} {cs : List Value} (hz : (tinfo P t).zero = some z) (hl : places (tinfo P t) = some pl) (hc : fillL pl z.cells.toList ps = some cs) :
    P.built t ps = some cs.toArray := by
  obtain ⟨i, hi, hz'⟩ := Option.bind_eq_some_iff.1 hz
  have hf := fill_of pl ps z.cells cs hc
  unfold places at hl
  split at hl
  · rename_i lay hlay
    obtain ⟨l, hls, rfl⟩ := Option.map_eq_some_iff.1 hl
    simp only [tinfo, Option.map_eq_some_iff] at hlay
    obtain ⟨fs, hfs, rfl⟩ := hlay
    have hu := und_of_str hfs
    have hm := allSizes_some (P := P) hls
    simp only [Program.built, hi, hu, hz', hm]
    simpa using hf
  · rename_i n sz ag hlay harr
    obtain ⟨s, rfl, rfl⟩ := Option.map_eq_some_iff.1 hl
    simp only [tinfo, Option.map_eq_some_iff, Prod.mk.injEq] at harr
    obtain ⟨⟨n', e⟩, ha, rfl, hs, _⟩ := harr
    have hu := und_of_arr ha
    obtain ⟨i', hi', hs'⟩ := Option.map_eq_some_iff.1 hs
    simp only [Program.built, hi, hu, hz', hi', hs']
    exact hf
  · cases hl

theorem pureK_sound {P : Program} {n : Nat} {E : Env} {a : Act} (hA : Agree n E a) {o : Oper} {K : Value → Prop} (h : pureK P o.op E K) : ∃ v, Pure P a.eval o v ∧ K v := by
  unfold pureK at h
  split at h
  case h_1 x hop =>
    obtain ⟨v, hv, hK⟩ := okK_elim h
    exact ⟨v, fun w => by simp [execOp, hop, hA.ev hv], hK⟩
  case h_2 x hop =>
    obtain ⟨v, hv, hK⟩ := okK_elim h
    exact ⟨v, fun w => by simp [execOp, hop, hA.ev hv], hK⟩
  case h_3 c x y hop =>
    obtain ⟨c', hc, h⟩ := okK_elim h
    obtain ⟨x', hx, h⟩ := okK_elim h
    obtain ⟨y', hy, h⟩ := okK_elim h
    obtain ⟨b, rfl, h⟩ := boolK_elim h
    exact ⟨_, fun w => by cases b <;> simp [execOp, hop, hA.ev hc, hA.ev hx, hA.ev hy, asBool], h⟩
  case h_4 x hop =>
    obtain ⟨v, hv, h⟩ := okK_elim h
    unfold nchkK at h
    split at h
    · exact ⟨_, fun w => by simp [execOp, hop, hA.ev hv], h⟩
    · exact ⟨_, fun w => by simp [execOp, hop, hA.ev hv], h⟩
    · exact h.elim
  case h_5 op t x y yt hop =>
    obtain ⟨x', hx, h⟩ := okK_elim h
    obtain ⟨y', hy, h⟩ := okK_elim h
    obtain ⟨v, hv, hK⟩ := binK_sound P op t x y x' y' K h
    refine ⟨v, fun w => ?_, hK⟩
    have := hv w
    simp only [Sem.run_bind] at this
    simp only [execOp, hop, hA.ev hx, hA.ev hy, Sem.run_bind]
    cases hg : Sem.run P (eqGuard op t x y x' y') w with
    | ok u w' =>
      simp only [hg, Result.andThen_ok] at this ⊢
      simp only [this, Result.andThen_ok, Sem.run_pure]
    | halt u w' => simp [hg, Result.andThen] at this
  case h_6 op t x hop =>
    obtain ⟨v, hv, h⟩ := okK_elim h
    unfold unK at h
    split at h
    · exact ⟨_, fun w => by simp [execOp, hop, hA.ev hv, Op.unary], h⟩
    · exact ⟨.int _ (IntKind.wrap _ (0 - _)), fun w => by simp [execOp, hop, hA.ev hv, Op.unary, Op.intArith], h⟩
    · exact h.elim
  case h_7 s d x hop =>
    obtain ⟨v, hv, h⟩ := okK_elim h
    obtain ⟨_, hu0, h⟩ := okK_elim h
    have hkn : (P.underlying s).isSome = true := by
      split at hu0
      · assumption
      · cases hu0
    obtain ⟨u, hu⟩ := Option.isSome_iff_exists.1 hkn
    obtain ⟨k, hk, h⟩ := okK_elim h
    obtain ⟨k', i, rfl, h⟩ := intK_elim h
    have hd := und_of_int hk
    exact ⟨_, fun w => by simp [execOp, hop, hA.ev hv, convert, run_underlying_of hu, run_underlying_of hd, Conv.intToInt], h⟩
  case h_8 t parts hop =>
    obtain ⟨vs, hv, h⟩ := okK_elim h
    obtain ⟨z, hz, h⟩ := okK_elim h
    obtain ⟨pl, hl, h⟩ := okK_elim h
    obtain ⟨cs, hc, h⟩ := okK_elim h
    refine ⟨_, fun w => ?_, h⟩
    have e : (parts.map fun (x : Nat × Operand) => (x.1, a.eval x.2)).toList = (parts.toList.map (·.1)).zip vs := by
      rw [← hA.evs hv]
      simp [List.zip_map', List.map_map]
    have hb := built_of hz hl hc
    rw [← e] at hb
    have := run_build (P := P) w t _ cs.toArray hb
    simp only [execOp, hop, Sem.run_bind, this, Result.andThen_ok, Sem.run_pure]
  case h_9 s x f hop =>
    obtain ⟨v, hv, h⟩ := okK_elim h
    obtain ⟨off, ho, h⟩ := okK_elim h
    obtain ⟨b, o', rfl, h⟩ := ptrK_elim h
    refine ⟨_, fun w => ?_, h⟩
    simp only [Option.bind_eq_some_iff] at ho
    obtain ⟨p, ⟨lay, hl, hp⟩, sz, hs, h0⟩ := ho
    simp only [tinfo, Option.map_eq_some_iff] at hl
    obtain ⟨fs, hfs, rfl⟩ := hl
    have hu := und_of_str hfs
    simp only [List.getElem?_map, Option.map_eq_some_iff] at hp
    obtain ⟨fd, hfd, rfl⟩ := hp
    have hfd' : fs[f]? = some fd := by simpa using hfd
    split at h0
    · cases h0
    · injection h0 with h0
      rename_i hne
      subst h0
      simp [execOp, hop, hA.ev hv, Instr.fieldAt, run_underlying_of hu, hfd', Instr.sureAddr, fieldPlace, tsize_run hs, hne, add_off]
  case h_10 t x f hop =>
    obtain ⟨v, hv, h⟩ := okK_elim h
    obtain ⟨p, hp, h⟩ := okK_elim h
    obtain ⟨sz, hsz, h⟩ := okK_elim h
    obtain ⟨cs, rfl, h⟩ := aggK_elim h
    simp only [Option.bind_eq_some_iff] at hp
    obtain ⟨lay, hl, hp⟩ := hp
    simp only [tinfo, Option.map_eq_some_iff] at hl
    obtain ⟨fs, hfs, rfl⟩ := hl
    have hu := und_of_str hfs
    simp only [List.getElem?_map, Option.map_eq_some_iff] at hp
    obtain ⟨fd, hfd, rfl⟩ := hp
    have hfd' : fs[f]? = some fd := by simpa using hfd
    dsimp only at h hsz
    obtain ⟨ag, hag, h⟩ := okK_elim h
    obtain ⟨d, hud, rfl⟩ := Option.map_eq_some_iff.1 hag
    have hisa := fun w => isAgg_run (P := P) hud w
    rw [hud] at hisa
    split at h
    · rename_i hagg
      refine ⟨_, fun w => ?_, h⟩
      simp [execOp, hop, hA.ev hv, Instr.field, run_underlying_of hu, hfd', asAgg, part, hisa, hagg, tsize_run hsz]
      apply Array.ext'; simp
    · rename_i hagg
      obtain ⟨u, hu', h⟩ := okK_elim h
      refine ⟨u, fun w => ?_, h⟩
      have hu2 : cs[fd.offset]? = some u := by simpa using hu'
      simp [execOp, hop, hA.ev hv, Instr.field, run_underlying_of hu, hfd', asAgg, part, hisa, hagg, hu2]
  case h_11 t x i hop =>
    obtain ⟨v, hv, h⟩ := okK_elim h
    obtain ⟨u, hu, h⟩ := okK_elim h
    obtain ⟨k, i', rfl, h⟩ := intK_elim h
    rcases idxK_elim h with ⟨e, s, hsl, h⟩ | ⟨m, s, ag, harr, hsl, h⟩
    · obtain ⟨ad, m, c, rfl, hb, h⟩ := sliceK_elim h
      obtain ⟨b, o', hp, hfin⟩ := ptrK_elim h
      injection hp with hp
      subst hp
      simp only [tinfo, Option.map_eq_some_iff, Prod.mk.injEq] at hsl
      obtain ⟨e', he, rfl, hs⟩ := hsl
      have hu2 := und_of_slc he
      exact ⟨_, fun w => by simp [execOp, hop, hA.ev hv, hA.ev hu, Instr.indexAt, asIntOf, run_underlying_of hu2, hb.1, hb.2, tsize_run hs, add_off], hfin⟩
    · obtain ⟨b, o', rfl, hb, hfin⟩ := ptrK_elim h
      simp only [tinfo, Option.map_eq_some_iff, Prod.mk.injEq] at harr
      obtain ⟨⟨n', e⟩, ha, hn', hs, _⟩ := harr
      have hu2 := und_of_arr ha
      dsimp only at hn' hs
      subst hn'
      exact ⟨_, fun w => by simp [execOp, hop, hA.ev hv, hA.ev hu, Instr.indexAt, asIntOf, run_underlying_of hu2, Instr.sureAddr, hb.1, hb.2, tsize_run hs, add_off], hfin⟩
  case h_12 t x lo hi hop =>
    obtain ⟨v, hv, h⟩ := okK_elim h
    obtain ⟨lo', hlo, h⟩ := okK_elim h
    obtain ⟨hi', hhi, h⟩ := okK_elim h
    obtain ⟨⟨e, sz⟩, he, h⟩ := okK_elim h
    obtain ⟨s, hs, h⟩ := okK_elim h
    obtain ⟨ad, m, c, rfl, h2⟩ := sliceK_elim h
    obtain ⟨hh, h3, hh1⟩ := bnd_run h2
    obtain ⟨l, h4, hl1⟩ := bnd_run h3
    simp only [tinfo, Option.map_eq_some_iff, Prod.mk.injEq] at he
    obtain ⟨e', he2, he3, he4⟩ := he
    have hu2 := und_of_slc he2
    dsimp only at hs
    rw [← he4] at hs
    refine ⟨_, fun w => ?_, h4⟩
    have hbnd := sliceBounds_run (P := P) hh1 hl1 w
    simp [execOp, hop, hA.ev hv, evo_some hlo a n hA, evo_some hhi a n hA, Instr.sliceAt, Instr.slice, run_underlying_of hu2, hbnd, tsize_run hs, cutA]
  case h_13 x i hop =>
    obtain ⟨v, hv, h⟩ := okK_elim h
    obtain ⟨vs, rfl, h⟩ := tupK_elim h
    obtain ⟨u, hu, h⟩ := okK_elim h
    have hu' : vs[i]? = some u := by simpa using hu
    exact ⟨u, fun w => by simp [execOp, hop, hA.ev hv, Instr.extract, hu'], h⟩
  case h_14 fn first captured hop =>
    obtain ⟨v, hv, h⟩ := okK_elim h
    obtain ⟨u, hu, h⟩ := okK_elim h
    have e1 : first.map a.eval = v.toArray := by apply Array.ext'; simp [hA.evs hv]
    have e2 : captured.map a.eval = u.toArray := by apply Array.ext'; simp [hA.evs hu]
    exact ⟨_, fun w => by simp [execOp, hop, Instr.makeFunc, e1, e2], h⟩
  case h_15 c hop =>
    obtain ⟨callee, args, argTypes⟩ := c
    dsimp only at h
    split at h
    · rename_i x t ha ht
      obtain rfl : args = #[x] := by apply Array.ext'; simpa using ha
      obtain rfl : argTypes = #[t] := by apply Array.ext'; simpa using ht
      obtain ⟨v, hv, h⟩ := okK_elim h
      split at h
      · rename_i hs
        obtain ⟨ad, m, c, rfl, h⟩ := sliceK_elim h
        obtain ⟨e, hu⟩ := isSlc_elim (show isSlc (P.underlying t) = true from hs)
        exact ⟨_, fun w => by simp [execOp, hop, resolve, invoke, builtin, Builtin.len_, hA.ev hv, run_underlying_of hu, goInt], h⟩
      · rename_i hs _
        have hu := und_of_strg (show isStr (P.underlying t) = true from hs)
        split at h
        · exact ⟨_, fun w => by simp [execOp, hop, resolve, invoke, builtin, Builtin.len_, hA.ev hv, run_underlying_of hu, goInt], h⟩
        · exact h.elim
      · exact h.elim
    · rename_i x y ha
      obtain rfl : args = #[x, y] := by apply Array.ext'; simpa using ha
      obtain ⟨v, hv, h⟩ := okK_elim h
      obtain ⟨u, hu, h⟩ := okK_elim h
      obtain ⟨k, i, rfl, h3⟩ := intK_elim h
      obtain ⟨k', i', rfl, h4⟩ := intK_elim h3
      exact ⟨_, fun w => by simp [execOp, hop, resolve, invoke, builtin, Builtin.min_, Builtin.min2, hA.ev hv, hA.ev hu], h4⟩
    · rename_i x y ha
      obtain rfl : args = #[x, y] := by apply Array.ext'; simpa using ha
      obtain ⟨v, hv, h⟩ := okK_elim h
      obtain ⟨u, hu, h⟩ := okK_elim h
      obtain ⟨k, i, rfl, h3⟩ := intK_elim h
      obtain ⟨k', i', rfl, h4⟩ := intK_elim h3
      exact ⟨_, fun w => by simp [execOp, hop, resolve, invoke, builtin, Builtin.max_, Builtin.max2, hA.ev hv, hA.ev hu], h4⟩
    · exact h.elim
  case h_16 => exact h.elim
end Go.Proofs.Ytnhgjgoglmadnaa
