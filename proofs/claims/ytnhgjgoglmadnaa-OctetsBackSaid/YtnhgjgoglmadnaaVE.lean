/- A walk by reckoning, 3: the operations that look at memory, or change it. -/
import Derived.Test.YtnhgjgoglmadnaaVP
namespace Go.Proofs.Ytnhgjgoglmadnaa
open Go.RowKit

/-- w1 is w with a new block b. -/
structure New (w w1 : World) (b : Nat) (cs : List Value) (t : TypeId) : Prop where
  eq : b = w.heap.size
  blk : w1.heap[b]? = some (.cells cs.toArray t (0, 0))
  chg : Chg (fun _ => False) w w1
  size : w1.heap.size = w.heap.size + 1
theorem New.mk' (w : World) (cs : Array Value) (t : TypeId) : New w (w.alloc (.cells cs t)) w.heap.size cs.toList t :=
  ⟨rfl, by simpa using heap_alloc_new w _, (Chg.refl _ _).alloc _, by simp⟩
/-- w1 is w, but block b holds other cells. -/
structure Put (w w1 : World) (b : Nat) (cs : List Value) (t : TypeId) : Prop where
  blk : w1.heap[b]? = some (.cells cs.toArray t (0, 0))
  chg : Chg (fun k => k = b) w w1
  size : w1.heap.size = w.heap.size

def blkOf (w : World) (b : Nat) : Option (List Value × TypeId) := match w.heap[b]? with | some (.cells cs t (0, 0)) => some (cs.toList, t) | _ => none
theorem blkOf_of {w : World} {b : Nat} {cs : Array Value} {t : TypeId} (h : w.heap[b]? = some (.cells cs t (0, 0))) : blkOf w b = some (cs.toList, t) := by simp [blkOf, h]
theorem blkOf_elim {w : World} {b : Nat} {p : List Value × TypeId} (h : blkOf w b = some p) : w.heap[b]? = some (.cells p.1.toArray p.2 (0, 0)) := by
  unfold blkOf at h
  split at h
  · rename_i cs t hb
    injection h with h
    subst h
    simpa using hb
  · cases h

/-- The cells from an address on. -/
def cellsAt (w : World) (b : Nat) : Nat → Nat → Option (List Value)
  | _, 0 => some []
  | o, n + 1 => (w.cell? ⟨b, o, none⟩).bind fun v => (cellsAt w b (o + 1) n).map fun vs => v :: vs
theorem cellsAt_elim {w : World} {b : Nat} : ∀ {o n : Nat} {cs : List Value}, cellsAt w b o n = some cs → cs.length = n ∧ ∀ j v, cs[j]? = some v → w.cell? ⟨b, o + j, none⟩ = some v
  | o, 0, cs, h => by simp [cellsAt] at h; subst h; simp
  | o, n + 1, cs, h => by
    simp only [cellsAt, Option.bind_eq_some_iff, Option.map_eq_some_iff] at h
    obtain ⟨v, hv, vs, hvs, rfl⟩ := h
    obtain ⟨h1, h2⟩ := cellsAt_elim hvs
    refine ⟨by simp [h1], fun j u hj => ?_⟩
    cases j with
    | zero => simp at hj; subst hj; exact hv
    | succ j => have := h2 j u (by simpa using hj); rw [← this]; congr 2; omega

def RunK (P : Program) (s : Sem Value) (w : World) (K : Value → World → Prop) (_t : Tg K := .mk) : Prop := ∃ v w', s.run P w = .ok v w' ∧ K v w'
def RunU (P : Program) (s : Sem Unit) (w : World) (K : World → Prop) (_t : Tg K := .mk) : Prop := ∃ w', s.run P w = .ok () w' ∧ K w'
/-- A call comes back. -/
def RetK (K : Value → World → Prop) (e : Ending) (w : World) : Prop := ∃ v, e = .returned v ∧ K v w
def enters (P : Program) (f : FuncId) : Bool := match P.funcs[f]? with | some fn => fn.name != "runtime.NumGoroutine" && fn.body.isSome | none => false
def callsK (P : Program) (f : FuncId) (args : Array Value) (w : World) (K : Value → World → Prop) (_t : Tg K := .mk) : Prop := Calls P f args w (RetK K)
def callK (P : Program) (fv : Value) (vs : List Value) (w : World) (K : Value → World → Prop) (_t : Tg K := .mk) : Prop :=
  match fv with
  | .func (.func f) first captured => enters P f = true ∧ callsK P f (first.toList ++ vs ++ captured.toList).toArray w K
  | _ => False

def zl (zc : List Value) : Nat → List Value
  | 0 => []
  | n + 1 => zc ++ zl zc n

def storeK (w : World) (b o : Nat) (vs : List Value) (K : World → Prop) (_t : Tg K := .mk) : Prop :=
  okK (blkOf w b) fun p => o + vs.length ≤ p.1.length ∧ ∀ w1, Put w w1 b (setR p.1 o vs) p.2 → K w1

/-- What an operation asks and leaves. -/
def opv (P : Program) (o : Op) (ty : TypeId) (E : Env) (w : World) (K : Value → World → Prop) : Prop :=
  match o with
  | .alloc t => okK (tinfo P t).zero fun z => ∀ w1 b, New w w1 b z.cells.toList t → K (.pointer (some ⟨b, 0, none⟩)) w1
  | .box t x => okK (ev E x) fun v => ∀ w1 b, New w w1 b v.cells.toList t → K (.pointer (some ⟨b, 0, none⟩)) w1
  | .buildSlice t len parts => okK (evs E (parts.toList.map (·.2))) fun vs => okK (tinfo P t).sl fun e => okK e.2 fun sz => okK (tinfo P e.1).zero fun z =>
      (len * sz ≤ 16777216 ∧ z.cells.size = sz) ∧ okK (fillL (fun i => some (i * sz, sz)) (if len * sz = 0 then [] else zl z.cells.toList len) ((parts.toList.map (·.1)).zip vs)) fun cs =>
        ∀ w1 b, New w w1 b cs e.1 → K (.slice (some ⟨b, 0, none⟩) len len) w1
  | .load t x => okK (ev E x) fun a => ptrK a fun b o => okK (if (tinfo P t).known = true then some (tinfo P t).agg else none) fun ag =>
      if ag = true then okK (tinfo P t).size fun n => okK (cellsAt w b o n) fun cs => K (.agg cs.toArray) w else okK (w.cell? ⟨b, o, none⟩) fun v => K v w
  | .store t a x => okK (ev E a) fun a => okK (ev E x) fun v => ptrK a fun b o => okK (tinfo P t).size fun n =>
      (v.cells.size = n ∧ v.cells.toList.all (·.oneCell') = true) ∧ storeK w b o v.cells.toList fun w1 => K undef w1
  | .convert s d x => if (tinfo P d).int.isSome = true then pureK P (.convert s d x) E fun v => K v w else okK (ev E x) fun v => RunK P (convert s d v) w K
  | .makeSlice t l c => okK (ev E l) fun l => okK (ev E c) fun c => RunK P (Instr.makeSlice t l c) w K
  | .call c => (match c.callee, c.args.toList with
      | .value f, args => okK (ev E f) fun fv => okK (evs E args) fun vs => callK P fv vs w K
      | .builtin .append, args => okK (evs E args) fun vs => RunK P (Builtin.append_ c.argTypes ty vs.toArray) w K
      | .builtin .copy, args => okK (evs E args) fun vs => RunK P (Builtin.copy_ c.argTypes ty vs.toArray) w K
      | .builtin .delete, args => okK (evs E args) fun vs => RunK P (Builtin.delete_ c.argTypes ty vs.toArray) w K
      | _, _ => pureK P (.call c) E fun v => K v w)
  | .lookup t x i ok => okK (ev E x) fun x => okK (ev E i) fun i => RunK P (Instr.lookup t x i ok) w K
  | .index t x i => okK (ev E x) fun x => okK (ev E i) fun i => RunK P (Instr.index t x i) w K
  | .mapUpdate t m k x | .insert t m k x => okK (ev E m) fun m => okK (ev E k) fun k => okK (ev E x) fun x => RunU P (Instr.mapUpdate t m k x) w fun w1 => K undef w1
  | .makeMap t r => okK (evo E r) fun r => RunK P (Instr.makeMap t r) w K
  | .range t x => okK (ev E x) fun x => RunK P (Instr.range t x) w K
  | .next it s => okK (ev E it) fun it => RunK P (Instr.next it s ty) w K
  | o => pureK P o E fun v => K v w

theorem zl_length (zc : List Value) : ∀ n, (zl zc n).length = n * zc.length
  | 0 => by simp [zl]
  | n + 1 => by simp [zl, zl_length zc n, Nat.succ_mul]; omega
theorem zl_get (zc : List Value) : ∀ n j (h : j < (zl zc n).length), (zl zc n)[j] = zc[j % zc.length]! 
  | 0, j, h => by simp [zl] at h
  | n + 1, j, h => by
    simp only [zl] at h ⊢
    by_cases hj : j < zc.length
    · rw [List.getElem_append_left hj, Nat.mod_eq_of_lt hj]; simp [hj]
    · have hl : zc.length ≤ j := by omega
      rw [List.getElem_append_right hl, zl_get zc n (j - zc.length) (by simp at h; omega)]
      rw [Nat.mod_eq_sub_mod hl]
theorem zl_made (z : Array Value) (n : Nat) : ((Array.range (n * z.size)).map (z[· % z.size]!)).toList = zl z.toList n := by
  apply List.ext_getElem
  · simp [zl_length]
  · intro j h1 h2
    rw [zl_get]
    simp only [Array.toList_map, Array.toList_range, List.getElem_map, List.getElem_range, Array.length_toList]
    rw [getElem!_def, getElem!_def, Array.getElem?_toList]

theorem run_wp {P : Program} {o : Oper} {a : Act} {w w' : World} {v : Value} {K' : Act → World → Prop} {Q : Exit → Act → World → Prop} (hr : (execOp a.eval o).run P w = .ok (.value v) w') (h : K' (a.put o.dst v) w') : o.wp P a w K' Q := by
  unfold Oper.wp
  rw [hr]
  exact h
theorem skip_wp {P : Program} {o : Oper} {a : Act} {w w' : World} {K' : Act → World → Prop} {Q : Exit → Act → World → Prop} (hr : (execOp a.eval o).run P w = .ok .skip w') (h : K' (a.put o.dst undef) w') : o.wp P a w K' Q := by
  unfold Oper.wp
  rw [hr]
  exact h
theorem alloc_run {P : Program} (cs : Array Value) (t : TypeId) (w : World) : (newRow t cs).run P w = .ok ⟨w.heap.size, 0, none⟩ (w.alloc (.cells cs t)) := by simp [newRow]
theorem storeCells_put {P : Program} {w : World} {b o : Nat} {cs : List Value} {t : TypeId} (hb : w.heap[b]? = some (.cells cs.toArray t (0, 0))) :
    ∀ (vs : List Value) (i : Nat) (cur : List Value) (w0 : World), w0.heap[b]? = some (.cells cur.toArray t (0, 0)) → Chg (fun k => k = b) w w0 → w0.heap.size = w.heap.size → o + i + vs.length ≤ cur.length → vs.all (·.oneCell') = true →
    ∃ w1, (storeCells ⟨b, o, none⟩ vs i).run P w0 = .ok () w1 ∧ w1.heap[b]? = some (.cells (setR cur (o + i) vs).toArray t (0, 0)) ∧ Chg (fun k => k = b) w w1 ∧ w1.heap.size = w.heap.size
  | [], i, cur, w0, h0, hc, hs, _, _ => ⟨w0, by simp [storeCells], by rw [setR_nil]; exact h0, hc, hs⟩
  | v :: vs, i, cur, w0, h0, hc, hs, hl, h1 => by
    simp only [List.length_cons] at hl
    simp only [List.all_cons, Bool.and_eq_true] at h1
    have hcell : w0.cell? ⟨b, o + i, none⟩ = some (cur[o + i]'(by omega)) := by
      rw [cell_of_row w0 b (o + i) _ _ _ h0]; simp
    have hfz : w0.frozen? ⟨b, o + i, none⟩ = false := by simp [World.frozen?, h0]
    have hb1 : (w0.setCell ⟨b, o + i, none⟩ v).heap[b]? = some (.cells (cur.set (o + i) v).toArray t (0, 0)) := by
      have hlt := lt_of_block h0
      have h' : w0.heap[b] = .cells cur.toArray t (0, 0) := by simpa [Array.getElem?_eq_getElem hlt] using h0
      show (w0.heap.modify b _)[b]? = _
      rw [Array.getElem?_eq_getElem (by simpa using hlt), Array.getElem_modify_self, h']
      simp
    have hlen : o + (i + 1) + vs.length ≤ (cur.set (o + i) v).length := by rw [List.length_set]; omega
    obtain ⟨w1, hr, hw1, hc1, hs1⟩ := storeCells_put hb vs (i + 1) (cur.set (o + i) v) (w0.setCell ⟨b, o + i, none⟩ v) hb1
      (Chg.setCell (S := fun k => k = b) (p := ⟨b, o + i, none⟩) hc (.inl rfl) v) (by simp [World.setCell, hs]) hlen h1.2
    refine ⟨w1, ?_, by rw [setR_cons]; rw [Nat.add_assoc]; exact hw1, hc1, hs1⟩
    simp only [storeCells, add_off, Sem.run_bind]
    have : (store ⟨b, o + i, none⟩ v).run P w0 = .ok () (w0.setCell ⟨b, o + i, none⟩ v) := by
      unfold store
      cases v <;> first | (simp [Value.oneCell'] at h1; done) | simp [Sem.run, hcell, hfz]
    rw [this, Result.andThen_ok]
    exact hr

theorem opv_sound {P : Program} {n : Nat} {E : Env} {a : Act} (hA : Agree n E a) {o : Oper} {w : World} {K : Value → World → Prop} (h : opv P o.op o.type E w K)
    {K' : Act → World → Prop} {Q : Exit → Act → World → Prop} (hK : ∀ v w', K v w' → K' (a.put o.dst v) w') : o.wp P a w K' Q := by
  have hpure : ∀ {K0 : Value → Prop}, pureK P o.op E K0 → (∀ v, K0 v → K v w) → o.wp P a w K' Q := fun hp hk => by
    obtain ⟨v, hv, h0⟩ := pureK_sound hA hp
    exact run_wp (hv w) (hK _ _ (hk v h0))
  have hrun : ∀ {s : Sem Value}, RunK P s w K → (∀ v w', s.run P w = .ok v w' → (execOp a.eval o).run P w = .ok (.value v) w') → o.wp P a w K' Q := fun ⟨v, w', hr, hk⟩ he => run_wp (he v w' hr) (hK _ _ hk)
  unfold opv at h
  split at h
  case h_1 t hop =>
    obtain ⟨z, hz, h⟩ := okK_elim h
    exact run_wp (by simp [execOp, hop, Instr.alloc, tzero_run hz, newVar, alloc_run]) (hK _ _ (h _ _ (New.mk' w z.cells t)))
  case h_2 t x hop =>
    obtain ⟨v, hv, h⟩ := okK_elim h
    exact run_wp (by simp [execOp, hop, Instr.box, hA.ev hv, newVar, alloc_run]) (hK _ _ (h _ _ (New.mk' w v.cells t)))
  case h_3 t len parts hop =>
    obtain ⟨vs, hv, h⟩ := okK_elim h
    obtain ⟨⟨e, sz⟩, he, h⟩ := okK_elim h
    obtain ⟨s, hs, h⟩ := okK_elim h
    obtain ⟨z, hz, h⟩ := okK_elim h
    obtain ⟨⟨hsm, hzs⟩, h⟩ := h
    obtain ⟨cs, hc, hfin⟩ := okK_elim h
    simp only [tinfo, Option.map_eq_some_iff, Prod.mk.injEq] at he
    obtain ⟨e', he2, rfl, he4⟩ := he
    have hu := und_of_slc he2
    dsimp only at hs hz hfin
    subst hs
    have hfill : Instr.fill (fun i => some (i * s, s)) (if len * s = 0 then #[] else (Array.range (len * s)).map (z.cells[· % z.cells.size]!)) (parts.map fun (x : Nat × Operand) => (x.1, a.eval x.2)).toList = some cs.toArray := by
      have e : (parts.map fun (x : Nat × Operand) => (x.1, a.eval x.2)).toList = (parts.toList.map (·.1)).zip vs := by
        rw [← hA.evs hv]
        simp [List.zip_map', List.map_map]
      rw [e]
      refine fill_of _ _ _ _ ?_
      split
      · rename_i h0; rw [if_pos h0] at hc; exact hc
      · rename_i h0; rw [if_neg h0] at hc
        rw [← hzs, zl_made, hzs]; exact hc
    refine run_wp ?_ (hK _ _ (hfin _ _ (by simpa using New.mk' w cs.toArray e')))
    have hbig : ¬ 2 ^ 24 < len * s := by omega
    by_cases h0 : len * s = 0
    · simp only [h0, if_true, Array.toList_map] at hfill
      have hr0 : Array.range 0 = #[] := rfl
      simp [hr0, execOp, hop, Instr.buildSlice, run_underlying_of hu, tsize_run he4, h0, hfill, alloc_run]
    · simp only [h0, if_false, Array.toList_map] at hfill
      simp [execOp, hop, Instr.buildSlice, run_underlying_of hu, tsize_run he4, h0, hbig, tzero_run hz, hfill, alloc_run]
  case h_4 t x hop =>
    obtain ⟨v, hv, h⟩ := okK_elim h
    obtain ⟨b, off, rfl, h⟩ := ptrK_elim h
    obtain ⟨ag, hag, h⟩ := okK_elim h
    have hag' : (P.underlying t).isSome = true ∧ ag = (tinfo P t).agg := by
      split at hag
      · rename_i hk; injection hag with hag; exact ⟨hk, hag.symm⟩
      · cases hag
    obtain ⟨hk, rfl⟩ := hag'
    obtain ⟨d, hd⟩ := Option.isSome_iff_exists.1 hk
    have hisa := isAgg_run (P := P) hd w
    split at h
    · rename_i hagg
      obtain ⟨m, hm, h⟩ := okK_elim h
      obtain ⟨cs, hc, h⟩ := okK_elim h
      obtain ⟨hl, hcell⟩ := cellsAt_elim hc
      have hr := run_loadCells_list (P := P) (w := w) ⟨b, off, none⟩ cs (fun j u hj => by rw [add_off]; exact hcell j u hj)
      rw [hl] at hr
      refine run_wp ?_ (hK _ _ h)
      have hagg' : isAggT (P.underlying t) = true := hagg
      rw [hagg'] at hisa
      simp [execOp, hop, hA.ev hv, Instr.loadAt, Instr.sureAddr, loadVar, hisa, tsize_run hm, hr]
    · rename_i hagg
      obtain ⟨u, hu, h⟩ := okK_elim h
      refine run_wp ?_ (hK _ _ h)
      have hagg' : isAggT (P.underlying t) = false := by simpa [tinfo] using hagg
      rw [hagg'] at hisa
      simp [execOp, hop, hA.ev hv, Instr.loadAt, Instr.sureAddr, loadVar, hisa, load, Sem.run, hu]
  case h_5 t x y hop =>
    obtain ⟨v, hv, h⟩ := okK_elim h
    obtain ⟨u, hu, h⟩ := okK_elim h
    obtain ⟨b, off, rfl, h⟩ := ptrK_elim h
    obtain ⟨m, hm, h⟩ := okK_elim h
    obtain ⟨⟨h1, h2⟩, h⟩ := h
    obtain ⟨⟨cs, tt⟩, hb, hl, h⟩ := okK_elim h
    have hblk := blkOf_elim hb
    dsimp only at hl h hblk
    obtain ⟨w1, hr, hw1, hc1, hs1⟩ := storeCells_put hblk u.cells.toList 0 cs w hblk (Chg.refl _ _) rfl (by simpa using hl) h2
    refine skip_wp ?_ (hK _ _ (h w1 ⟨by simpa using hw1, hc1, hs1⟩))
    simp [execOp, hop, hA.ev hv, hA.ev hu, Instr.storeAt, Instr.sureAddr, storeVar, tsize_run hm, h1]
    rw [hr]
    rfl
  case h_6 s d x hop =>
    split at h
    · rw [← hop] at h
      exact hpure h fun _ => id
    · obtain ⟨v, hv, h⟩ := okK_elim h
      exact hrun h fun v w' hr => by simp [execOp, hop, hA.ev hv, hr]
  case h_7 t l c hop =>
    obtain ⟨v, hv, h⟩ := okK_elim h
    obtain ⟨u, hu, h⟩ := okK_elim h
    exact hrun h fun v w' hr => by simp [execOp, hop, hA.ev hv, hA.ev hu, hr]
  case h_8 c hop =>
    obtain ⟨callee, args, argTypes⟩ := c
    dsimp only at h
    have hargs : ∀ {vs : List Value}, evs E args.toList = some vs → args.map a.eval = vs.toArray := fun hv => by apply Array.ext'; simp [hA.evs hv]
    split at h
    · rename_i f _
      obtain ⟨fv, hf, h⟩ := okK_elim h
      obtain ⟨vs, hv, h⟩ := okK_elim h
      unfold callK at h
      split at h
      · rename_i id first captured _
        obtain ⟨he, h⟩ := h
        have e : (first.toList ++ vs ++ captured.toList).toArray = first ++ vs.toArray ++ captured := by apply Array.ext'; simp
        rw [e] at h
        unfold Oper.wp
        unfold enters at he
        split at he
        · rename_i fn hfn
          have hr : (execOp a.eval o).run P w = .ok (.enter id (first ++ vs.toArray ++ captured)) w := by
            simp only [Bool.and_eq_true, bne_iff_ne, ne_eq] at he
            obtain ⟨he1, he2⟩ := he
            have hn : fn.body ≠ none := by intro hb; simp [hb] at he2
            simp [execOp, hop, resolve, hA.ev hf, hargs hv, Deferred.ofValue, invoke, callFunc, hfn, he1, hn]
          rw [hr]
          refine Calls.mono h fun e w' he => ?_
          obtain ⟨v, rfl, hk⟩ := he
          exact hK _ _ hk
        · cases he
      · exact h.elim
    · obtain ⟨vs, hv, h⟩ := okK_elim h
      exact hrun h fun v w' hr => by simp [execOp, hop, resolve, hargs hv, invoke, builtin, hr]
    · obtain ⟨vs, hv, h⟩ := okK_elim h
      exact hrun h fun v w' hr => by simp [execOp, hop, resolve, hargs hv, invoke, builtin, hr]
    · obtain ⟨vs, hv, h⟩ := okK_elim h
      exact hrun h fun v w' hr => by simp [execOp, hop, resolve, hargs hv, invoke, builtin, hr]
    · rw [← hop] at h
      exact hpure h fun _ => id
  case h_9 t x i ok hop =>
    obtain ⟨v, hv, h⟩ := okK_elim h
    obtain ⟨u, hu, h⟩ := okK_elim h
    exact hrun h fun v w' hr => by simp [execOp, hop, hA.ev hv, hA.ev hu, hr]
  case h_10 t x i hop =>
    obtain ⟨v, hv, h⟩ := okK_elim h
    obtain ⟨u, hu, h⟩ := okK_elim h
    exact hrun h fun v w' hr => by simp [execOp, hop, hA.ev hv, hA.ev hu, hr]
  case h_11 t m k x hop =>
    obtain ⟨v, hv, h⟩ := okK_elim h
    obtain ⟨u, hu, h⟩ := okK_elim h
    obtain ⟨x', hx, h⟩ := okK_elim h
    obtain ⟨w', hr, hk⟩ := h
    exact skip_wp (by simp [execOp, hop, hA.ev hv, hA.ev hu, hA.ev hx, hr]) (hK _ _ hk)
  case h_12 t m k x hop =>
    obtain ⟨v, hv, h⟩ := okK_elim h
    obtain ⟨u, hu, h⟩ := okK_elim h
    obtain ⟨x', hx, h⟩ := okK_elim h
    obtain ⟨w', hr, hk⟩ := h
    exact skip_wp (by simp [execOp, hop, hA.ev hv, hA.ev hu, hA.ev hx, hr]) (hK _ _ hk)
  case h_13 t r hop =>
    obtain ⟨v, hv, h⟩ := okK_elim h
    exact hrun h fun v w' hr => by simp [execOp, hop, evo_some hv a n hA, hr]
  case h_14 t x hop =>
    obtain ⟨v, hv, h⟩ := okK_elim h
    exact hrun h fun v w' hr => by simp [execOp, hop, hA.ev hv, hr]
  case h_15 it s hop =>
    obtain ⟨v, hv, h⟩ := okK_elim h
    exact hrun h fun v w' hr => by simp [execOp, hop, hA.ev hv, hr]
  case h_16 => exact hpure h fun _ => id
end Go.Proofs.Ytnhgjgoglmadnaa
