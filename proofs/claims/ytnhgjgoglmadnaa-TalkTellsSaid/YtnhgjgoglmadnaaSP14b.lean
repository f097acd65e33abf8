/- Joined texts of this claim (part 2), printed by a program of this work. The last part holds the claimed theorem: the law answers true at every input of its row. -/
import Derived.Deep.LoopGhost
import Derived.Test.YtnhgjgoglmadnaaSP14a
namespace Go.Proofs.Ytnhgjgoglmadnaa
open Go.RowKit

def grd (ops : Array Oper) (g : Nat) (E : Env) : Option Value := (ops[g]?).bind fun o => o.dst.bind fun d => E.get d
def guardK (gv : Value) (want : Bool) (A B : Prop) (_t : Tg (A, B) := .mk) : Prop := match gv with | .bool b => ifK (b == want) A B | .tuple _ => B | _ => False
theorem guardK_bool (b want : Bool) (A B : Prop) : guardK (.bool b) want A B = okK (some (b == want)) fun c => ifK c A B := (rfl)
theorem guardK_undef (want : Bool) (A B : Prop) : guardK undef want A B = B := (rfl)
def gK (ops : Array Oper) (g : Option (Nat × Bool)) (E : Env) (A B : Prop) : Prop :=
  match g with
  | none => A
  | some (j, want) => okK (grd ops j E) fun gv => guardK gv want A B
theorem gK_elim {ops : Array Oper} {n : Nat} {E : Env} {a : Act} (hA : Agree n E a) {o : Oper} {A B : Prop} (h : gK ops o.guard E A B) :
    (Region.wanted o (yielded ops a.tmps) = true ∧ A) ∨ (Region.wanted o (yielded ops a.tmps) = false ∧ B) := by
  unfold gK at h
  split at h
  · rename_i hg
    exact .inl ⟨by simp [Region.wanted, hg], h⟩
  · rename_i j want hg
    obtain ⟨v, hv, h⟩ := okK_elim h
    simp only [grd, Option.bind_eq_some_iff] at hv
    obtain ⟨oj, hoj, d, hd, he⟩ := hv
    have ht := hA.get d _ he
    unfold guardK at h
    split at h
    · rename_i b
      have hy : yielded ops a.tmps j = some b := by
        unfold yielded
        have hlt : d < a.tmps.size := by
          rcases Nat.lt_or_ge d a.tmps.size with hl | hl
          · exact hl
          · simp [Array.getD, Nat.not_lt.2 hl, undef] at ht
        simp [hoj, hd, hlt]
        have : a.tmps[d] = .bool b := by simpa [Array.getD, hlt] using ht
        rw [this]
      cases hb : (b == want)
      · exact .inr ⟨by simp [Region.wanted, hg, hy, hb], h.2 hb⟩
      · exact .inl ⟨by simp [Region.wanted, hg, hy]; simpa using hb, h.1 hb⟩
    · rename_i cs
      have hy : yielded ops a.tmps j = none := by
        unfold yielded
        simp only [hoj, Option.bind_some, hd]
        rcases Nat.lt_or_ge d a.tmps.size with hl | hl
        · have : a.tmps[d] = .tuple cs := by simpa [Array.getD, hl] using ht
          simp [hl, this]
        · simp [Array.getElem?_eq_none hl]
      exact .inr ⟨by simp [Region.wanted, hg, hy], h⟩
    · exact h.elim

def opsv (P : Program) (ops : Array Oper) : List Oper → Env → World → (Env → World → Prop) → Prop
  | [], E, w, K => K E w
  | o :: rest, E, w, K => gK ops o.guard E (opv P o.op o.type E w fun v w' => opsv P ops rest (E.push o.dst v) w' K) (opsv P ops rest (E.push o.dst undef) w K)

def dOk (n : Nat) (d : Option Tmp) : Bool := match d with | some d => d < n | none => true
theorem dOk_lt {n : Nat} {d : Option Tmp} (h : dOk n d = true) : ∀ k, d = some k → k < n := fun k e => by subst e; simpa [dOk] using h

theorem opsv_sound {P : Program} {ops : Array Oper} {n : Nat} {K : Env → World → Prop} {Q : Exit → Act → World → Prop} (hK : ∀ E a w, Agree n E a → K E w → Q .normal a w) :
    ∀ (l : List Oper) (E : Env) (a : Act) (w : World), l.all (fun o => dOk n o.dst) = true → Agree n E a → opsv P ops l E w K → wpList P ops Q l a w
  | [], E, a, w, _, hA, h => hK _ _ _ hA h
  | o :: rest, E, a, w, hd, hA, h => by
    simp only [List.all_cons, Bool.and_eq_true] at hd
    refine wpList_step fun K' hK' => ?_
    rcases gK_elim (ops := ops) hA h with ⟨hw, h⟩ | ⟨hw, h⟩
    · rw [if_pos hw]
      exact opv_sound hA h fun v w' hk => hK' _ _ (opsv_sound hK rest _ _ _ hd.2 (hA.put o.dst v (dOk_lt hd.1)) hk)
    · rw [if_neg (by simp [hw])]
      exact hK' _ _ (opsv_sound hK rest _ _ _ hd.2 (hA.put o.dst undef (dOk_lt hd.1)) h)

inductive Plan where
  | fin
  | q (i : Nat) (p : Plan)
  | h (i j : Nat) (p : Plan)
  | l (i : Nat) (p : Plan)
  | ll (i : Nat) (p : Plan) (k : Nat) (r : Plan)
  | lll (i : Nat) (p : Plan) (k : Nat) (r : Plan) (j : Nat) (t : Plan)

abbrev Held := List (Nat × Nat × Value)
def Holds (L : Held) (w : World) : Prop := ∀ b o v, (b, o, v) ∈ L → w.cell? ⟨b, o, none⟩ = some v
def heldC (L : Held) (b : Nat) : Nat → Nat → Nat → Option (List Value)
  | _, _, 0 => some []
  | o, j, m + 1 => (L[j]?).bind fun p => if p.1 = b ∧ p.2.1 = o then (heldC L b (o + 1) (j + 1) m).map fun vs => p.2.2 :: vs else none
def heldK (P : Program) (o : Op) (E : Env) (L : Held) (j : Nat) (K : Value → Prop) : Prop :=
  match o with
  | .load t x => okK (ev E x) fun a => ptrK a fun b o => okK (if (tinfo P t).known = true then some (tinfo P t).agg else none) fun ag =>
      if ag = true then okK (tinfo P t).size fun n => okK (heldC L b o j n) fun cs => K (.agg cs.toArray) else okK (heldC L b o j 1) fun cs => okK cs[0]? K
  | _ => False

def planv (P : Program) (ops : Array Oper) (L : Held) : Plan → Env → World → (Env → World → Prop) → Prop
  | .fin, E, w, K => K E w
  | .q i p, E, w, K => okK ops[i]? fun o => gK ops o.guard E (pureK P o.op E fun v => planv P ops L p (E.push o.dst v) w K) (planv P ops L p (E.push o.dst undef) w K)
  | .h i j p, E, w, K => okK ops[i]? fun o => gK ops o.guard E (heldK P o.op E L j fun v => planv P ops L p (E.push o.dst v) w K) (planv P ops L p (E.push o.dst undef) w K)
  | .l i p, E, w, K => okK ops[i]? fun o => gK ops o.guard E (opv P o.op o.type E w fun v w' => Holds L w' ∧ planv P ops L p (E.push o.dst v) w' K) (planv P ops L p (E.push o.dst undef) w K)
  | .ll i p k r, E, w, K =>
      (okK ops[i]? fun o => gK ops o.guard E (opv P o.op o.type E w fun v w' => Holds L w' ∧ planv P ops L p (E.push o.dst v) w' K) (planv P ops L p (E.push o.dst undef) w K)) ∧
      (okK ops[k]? fun o => gK ops o.guard E (opv P o.op o.type E w fun v w' => Holds L w' ∧ planv P ops L r (E.push o.dst v) w' K) (planv P ops L r (E.push o.dst undef) w K))
  | .lll i p k r j t, E, w, K =>
      (okK ops[i]? fun o => gK ops o.guard E (opv P o.op o.type E w fun v w' => Holds L w' ∧ planv P ops L p (E.push o.dst v) w' K) (planv P ops L p (E.push o.dst undef) w K)) ∧
      (okK ops[k]? fun o => gK ops o.guard E (opv P o.op o.type E w fun v w' => Holds L w' ∧ planv P ops L r (E.push o.dst v) w' K) (planv P ops L r (E.push o.dst undef) w K)) ∧
      (okK ops[j]? fun o => gK ops o.guard E (opv P o.op o.type E w fun v w' => Holds L w' ∧ planv P ops L t (E.push o.dst v) w' K) (planv P ops L t (E.push o.dst undef) w K))

def planOk (ops : Array Oper) : Plan → Array Bool → Nat → Bool
  | .fin, listed, _ => (Region.ready .any ops listed).isEmpty
  | .q i p, listed, f + 1 => Region.free .any ops listed i && (Region.ready .any ops listed).contains i && planOk ops p (listed.setIfInBounds i true) f
  | .h i _ p, listed, f + 1 => Region.free .any ops listed i && (Region.ready .any ops listed).contains i && planOk ops p (listed.setIfInBounds i true) f
  | .l i p, listed, f + 1 => Region.ready .any ops listed == [i] && planOk ops p (listed.setIfInBounds i true) f
  | .ll i p k r, listed, f + 1 => Region.ready .any ops listed == [i, k] && planOk ops p (listed.setIfInBounds i true) f && planOk ops r (listed.setIfInBounds k true) f
  | .lll i p k r j t, listed, f + 1 => Region.ready .any ops listed == [i, k, j] && planOk ops p (listed.setIfInBounds i true) f && planOk ops r (listed.setIfInBounds k true) f && planOk ops t (listed.setIfInBounds j true) f
  | _, _, 0 => false

theorem heldC_elim {L : Held} {b : Nat} : ∀ {o j n : Nat} {cs : List Value}, heldC L b o j n = some cs → ∀ w, Holds L w → cellsAt w b o n = some cs
  | o, j, 0, cs, h, w, hw => by simpa [heldC, cellsAt] using h
  | o, j, m + 1, cs, h, w, hw => by
    simp only [heldC, Option.bind_eq_some_iff] at h
    obtain ⟨⟨b', o', v⟩, hp, h⟩ := h
    split at h
    · rename_i he
      obtain ⟨h1, h2⟩ := he
      dsimp only at h1 h2
      subst h1 h2
      simp only [Option.map_eq_some_iff] at h
      obtain ⟨vs, hvs, rfl⟩ := h
      simp [cellsAt, hw _ _ _ (List.mem_of_getElem? hp), heldC_elim hvs w hw]
    · cases h

theorem heldK_sound {P : Program} {n : Nat} {E : Env} {a : Act} (hA : Agree n E a) {o : Oper} {L : Held} {j : Nat} {K : Value → Prop} (h : heldK P o.op E L j K) :
    ∃ v, (∀ w, Holds L w → (execOp a.eval o).run P w = .ok (.value v) w) ∧ K v := by
  unfold heldK at h
  split at h
  · rename_i t x hop
    obtain ⟨v, hv, h⟩ := okK_elim h
    obtain ⟨b, off, rfl, h⟩ := ptrK_elim h
    obtain ⟨ag, hag, h⟩ := okK_elim h
    have hag' : (P.underlying t).isSome = true ∧ ag = (tinfo P t).agg := by
      split at hag
      · rename_i hk; injection hag with hag; exact ⟨hk, hag.symm⟩
      · cases hag
    obtain ⟨hk, rfl⟩ := hag'
    obtain ⟨d, hd⟩ := Option.isSome_iff_exists.1 hk
    split at h
    · rename_i hagg
      obtain ⟨m, hm, h⟩ := okK_elim h
      obtain ⟨cs, hc, h⟩ := okK_elim h
      refine ⟨_, fun w hw => ?_, h⟩
      obtain ⟨hl, hcell⟩ := cellsAt_elim (heldC_elim hc w hw)
      have hr := run_loadCells_list (P := P) (w := w) ⟨b, off, none⟩ cs (fun j u hj => by rw [add_off]; exact hcell j u hj)
      rw [hl] at hr
      have hisa := isAgg_run (P := P) hd w
      have hagg' : isAggT (P.underlying t) = true := hagg
      rw [hagg'] at hisa
      simp [execOp, hop, hA.ev hv, Instr.loadAt, Instr.sureAddr, loadVar, hisa, tsize_run hm, hr]
    · rename_i hagg
      obtain ⟨cs, hc, h⟩ := okK_elim h
      obtain ⟨u, hu, h⟩ := okK_elim h
      refine ⟨u, fun w hw => ?_, h⟩
      obtain ⟨hl, hcell⟩ := cellsAt_elim (heldC_elim hc w hw)
      have hc0 := hcell 0 u hu
      rw [Nat.add_zero] at hc0
      have hisa := isAgg_run (P := P) hd w
      have hagg' : isAggT (P.underlying t) = false := by simpa [tinfo] using hagg
      rw [hagg'] at hisa
      simp [execOp, hop, hA.ev hv, Instr.loadAt, Instr.sureAddr, loadVar, hisa, load, Sem.run, hc0]
  · exact h.elim

def lift (n : Nat) (Q : Exit → Env → World → Prop) (e : Exit) (a : Act) (w : World) : Prop :=
  match e with
  | .panic _ | .outgrown => False
  | e => ∃ E, Agree n E a ∧ Q e E w

theorem planv_sound {P : Program} {ops : Array Oper} {L : Held} {n : Nat} {K : Env → World → Prop} {Q : Exit → Act → World → Prop} (hK : ∀ E a w, Agree n E a → K E w → Q .normal a w)
    (hQ : ∀ c a w, ¬ Q (.panic c) a w) (hns : Region.noSelect ops = true) (hd : ops.all (fun o => dOk n o.dst) = true) :
    ∀ (p : Plan) (listed : Array Bool) (f : Nat) (E : Env) (a : Act) (w : World), planOk ops p listed f = true → Agree n E a → Holds L w → planv P ops L p E w K → wpAnyH P .any ops Q (Holds L) f listed a w := by
  have hdo : ∀ {i : Nat} {o : Oper}, ops[i]? = some o → dOk n o.dst = true := fun hi => (Array.all_eq_true_iff_forall_mem.1 hd) _ (Array.mem_of_getElem? hi)
  have loud : ∀ {i : Nat} {listed : Array Bool} {f : Nat} {E : Env} {a : Act} {w : World} {p : Plan}, Agree n E a → Holds L w →
      (∀ (E : Env) (a : Act) (w : World), Agree n E a → Holds L w → planv P ops L p E w K → wpAnyH P .any ops Q (Holds L) f (listed.setIfInBounds i true) a w) →
      (okK ops[i]? fun o => gK ops o.guard E (opv P o.op o.type E w fun v w' => Holds L w' ∧ planv P ops L p (E.push o.dst v) w' K) (planv P ops L p (E.push o.dst undef) w K)) →
      wpOp P ops Q i (fun a' w' => Holds L w' ∧ wpAnyH P .any ops Q (Holds L) f (listed.setIfInBounds i true) a' w') a w := by
    intro i listed f E a w p hA hw ih h
    obtain ⟨o, ho, h⟩ := okK_elim h
    unfold wpOp
    simp only [ho]
    rcases gK_elim (ops := ops) hA h with ⟨hwt, h⟩ | ⟨hwt, h⟩
    · rw [if_pos hwt]
      exact .inl (opv_sound hA h fun v w' hk => ⟨hk.1, ih _ _ _ (hA.put o.dst v (dOk_lt (hdo ho))) hk.1 hk.2⟩)
    · rw [if_neg (by simp [hwt])]
      exact ⟨hw, ih _ _ _ (hA.put o.dst undef (dOk_lt (hdo ho))) hw h⟩
  intro p
  induction p with
  | fin =>
    intro listed f E a w hp hA hw h
    exact wpAnyH_done (by simpa [planOk] using hp) (hK _ _ _ hA h) f
  | q i p ih =>
    intro listed f E a w hp hA hw h
    cases f with
    | zero => simp [planOk] at hp
    | succ f =>
      simp only [planOk, Bool.and_eq_true] at hp
      obtain ⟨o, ho, h⟩ := okK_elim h
      rcases gK_elim (ops := ops) hA h with ⟨hwt, h⟩ | ⟨hwt, h⟩
      · obtain ⟨v, hv, h⟩ := pureK_sound hA h
        exact wpAnyH_take ho hns hp.1.1 hp.1.2 (fun c a w hq => absurd hq (hQ _ _ _)) (.inl ⟨hwt, fun w _ => hv w⟩) hw (ih _ _ _ _ _ hp.2 (hA.put o.dst v (dOk_lt (hdo ho))) hw h)
      · exact wpAnyH_take ho hns hp.1.1 hp.1.2 (fun c a w hq => absurd hq (hQ _ _ _)) (.inr ⟨hwt, rfl⟩) hw (ih _ _ _ _ _ hp.2 (hA.put o.dst undef (dOk_lt (hdo ho))) hw h)
  | h i j p ih =>
    intro listed f E a w hp hA hw h
    cases f with
    | zero => simp [planOk] at hp
    | succ f =>
      simp only [planOk, Bool.and_eq_true] at hp
      obtain ⟨o, ho, h⟩ := okK_elim h
      rcases gK_elim (ops := ops) hA h with ⟨hwt, h⟩ | ⟨hwt, h⟩
      · obtain ⟨v, hv, h⟩ := heldK_sound hA h
        exact wpAnyH_take ho hns hp.1.1 hp.1.2 (fun c a w hq => absurd hq (hQ _ _ _)) (.inl ⟨hwt, hv⟩) hw (ih _ _ _ _ _ hp.2 (hA.put o.dst v (dOk_lt (hdo ho))) hw h)
      · exact wpAnyH_take ho hns hp.1.1 hp.1.2 (fun c a w hq => absurd hq (hQ _ _ _)) (.inr ⟨hwt, rfl⟩) hw (ih _ _ _ _ _ hp.2 (hA.put o.dst undef (dOk_lt (hdo ho))) hw h)
  | l i p ih =>
    intro listed f E a w hp hA hw h
    cases f with
    | zero => simp [planOk] at hp
    | succ f =>
      simp only [planOk, Bool.and_eq_true, beq_iff_eq] at hp
      refine wpAnyH_all hp.1 (by simp) fun k hk => ?_
      simp only [List.mem_singleton] at hk
      subst hk
      exact loud hA hw (fun E a w h1 h2 h3 => ih _ _ _ _ _ hp.2 h1 h2 h3) h
  | ll i p k r ih1 ih2 =>
    intro listed f E a w hp hA hw h
    cases f with
    | zero => simp [planOk] at hp
    | succ f =>
      simp only [planOk, Bool.and_eq_true, beq_iff_eq] at hp
      refine wpAnyH_all hp.1.1 (by simp) fun m hm => ?_
      simp only [List.mem_cons, List.not_mem_nil, or_false] at hm
      rcases hm with rfl | rfl
      · exact loud hA hw (fun E a w h1 h2 h3 => ih1 _ _ _ _ _ hp.1.2 h1 h2 h3) h.1
      · exact loud hA hw (fun E a w h1 h2 h3 => ih2 _ _ _ _ _ hp.2 h1 h2 h3) h.2
  | lll i p k r j t ih1 ih2 ih3 =>
    intro listed f E a w hp hA hw h
    cases f with
    | zero => simp [planOk] at hp
    | succ f =>
      simp only [planOk, Bool.and_eq_true, beq_iff_eq] at hp
      refine wpAnyH_all hp.1.1.1 (by simp) fun m hm => ?_
      simp only [List.mem_cons, List.not_mem_nil, or_false] at hm
      rcases hm with rfl | rfl | rfl
      · exact loud hA hw (fun E a w h1 h2 h3 => ih1 _ _ _ _ _ hp.1.1.2 h1 h2 h3) h.1
      · exact loud hA hw (fun E a w h1 h2 h3 => ih2 _ _ _ _ _ hp.1.2 h1 h2 h3) h.2.1
      · exact loud hA hw (fun E a w h1 h2 h3 => ih3 _ _ _ _ _ hp.2 h1 h2 h3) h.2.2
end Go.Proofs.Ytnhgjgoglmadnaa
namespace Go.Proofs.Ytnhgjgoglmadnaa
open Go.RowKit

abbrev XQ := Exit → Env → World → Prop
def seqQ (K : Env → World → Prop) (Q : XQ) : XQ := fun e E w => match e with | .normal => K E w | e => Q e E w
def blkQ (id : Nat) (Q : XQ) : XQ := fun e E w => match e with | .exit i => if i = id then Q .normal E w else Q (.exit i) E w | e => Q e E w
def normQ (K : Env → World → Prop) : XQ := fun e E w => match e with | .normal => K E w | _ => False

def drawG (P : Program) (n : Nat) (ops : Array Oper) (E : Env) (w : World) (K : Env → World → Prop) : Prop :=
  ∀ id a, Agree n E a → (Code.region id ops true).wp P (lift n (normQ K)) a w
def loopG (P : Program) (n : Nat) (b : Code) (E : Env) (w : World) (Q : XQ) : Prop :=
  ∀ a, Agree n E a → (Code.loop b).wp P (lift n Q) a w

def codev (P : Program) (n : Nat) : Code → Env → World → XQ → Prop
  | .skip, E, w, Q => Q .normal E w
  | .label _, E, w, Q => Q .normal E w
  | .seq a b, E, w, Q => codev P n a E w (seqQ (fun E w => codev P n b E w Q) Q)
  | .region _ ops false, E, w, Q => opsv P ops ops.toList E w (fun E w => Q .normal E w)
  | .region _ ops true, E, w, Q => drawG P n ops E w (fun E w => Q .normal E w)
  | .cond c x y, E, w, Q => okK (ev E c) fun v => boolK v fun b => ifK b (codev P n x E w Q) (codev P n y E w Q)
  | .block id b, E, w, Q => codev P n b E w (blkQ id Q)
  | .loop b, E, w, Q => loopG P n b E w Q
  | .exit id, E, w, Q => Q (.exit id) E w
  | .ret, E, w, Q => Q .ret E w
  | _, _, _, _ => False

def codeOk (n : Nat) : Code → Bool
  | .skip | .label _ | .exit _ | .ret => true
  | .seq a b => codeOk n a && codeOk n b
  | .region _ ops _ => ops.toList.all (fun o => dOk n o.dst)
  | .cond _ x y => codeOk n x && codeOk n y
  | .block _ b => codeOk n b
  | .loop b => codeOk n b
  | _ => false

theorem codev_sound {P : Program} {n : Nat} : ∀ (c : Code) (E : Env) (a : Act) (w : World) (Q : XQ), codeOk n c = true → Agree n E a → codev P n c E w Q → c.wp P (lift n Q) a w
  | .skip, E, a, w, Q, _, hA, h => wp_skip ⟨E, hA, h⟩
  | .label _, E, a, w, Q, _, hA, h => wp_label ⟨E, hA, h⟩
  | .exit id, E, a, w, Q, _, hA, h => wp_exit ⟨E, hA, h⟩
  | .ret, E, a, w, Q, _, hA, h => wp_ret ⟨E, hA, h⟩
  | .seq x y, E, a, w, Q, hc, hA, h => by
    simp only [codeOk, Bool.and_eq_true] at hc
    refine wp_seq (wp_mono (codev_sound x E a w _ hc.1 hA h) fun e a' w' he => ?_)
    cases e with
    | normal => obtain ⟨E', hA', h'⟩ := he; exact codev_sound y E' a' w' Q hc.2 hA' h'
    | _ => exact he
  | .region _ ops false, E, a, w, Q, hc, hA, h =>
    wp_region_list (opsv_sound (fun E a w hA hk => ⟨E, hA, hk⟩) _ _ _ _ hc hA h)
  | .region id ops true, E, a, w, Q, hc, hA, h => by
    refine wp_mono (h id a hA) fun e a' w' he => ?_
    cases e with
    | normal => exact he
    | panic c => exact he.elim
    | outgrown => exact he.elim
    | _ => obtain ⟨_, _, hf⟩ := he; exact hf.elim
  | .cond c x y, E, a, w, Q, hc, hA, h => by
    simp only [codeOk, Bool.and_eq_true] at hc
    obtain ⟨v, hv, h⟩ := okK_elim h
    obtain ⟨b, rfl, h⟩ := boolK_elim h
    exact wp_cond_split (hA.ev hv) (fun hb => codev_sound x E a w Q hc.1 hA (h.1 hb)) (fun hb => codev_sound y E a w Q hc.2 hA (h.2 hb))
  | .block id b, E, a, w, Q, hc, hA, h => by
    refine wp_block (wp_mono (codev_sound b E a w _ hc hA h) fun e a' w' he => ?_)
    cases e with
    | exit i =>
      obtain ⟨E', hA', h'⟩ := he
      show if i = id then _ else _
      simp only [blkQ] at h'
      split
      · rename_i hi; rw [if_pos hi] at h'; exact ⟨E', hA', h'⟩
      · rename_i hi; rw [if_neg hi] at h'; exact ⟨E', hA', h'⟩
    | _ => exact he
  | .loop b, E, a, w, Q, hc, hA, h => h a hA
  | .goto _, _, _, _, _, hc, _, _ => by simp [codeOk] at hc
  | .scope _, _, _, _, _, hc, _, _ => by simp [codeOk] at hc
  | .rangeFunc .., _, _, _, _, hc, _, _ => by simp [codeOk] at hc
  | .refuse _, _, _, _, _, hc, _, _ => by simp [codeOk] at hc

def drawOk (P : Program) (n : Nat) (ops : Array Oper) (p : Plan) : Bool :=
  P.follows .mixedOrders && Region.noSelect ops && ops.all (fun o => dOk n o.dst) && planOk ops p (Array.replicate ops.size false) ops.size
theorem draw_rule {P : Program} {n : Nat} {ops : Array Oper} {E : Env} {w : World} {K : Env → World → Prop} (p : Plan) (L : Held) (hp : drawOk P n ops p = true) (hL : Holds L w)
    (h : ∀ w1, w1.heap = w.heap → Chg (fun _ => False) w w1 → planv P ops L p E w1 K) : drawG P n ops E w K := by
  intro id a hA
  simp only [drawOk, Bool.and_eq_true] at hp
  refine wp_region_held (S := Holds L) hp.1.1.1 (planv_sound (n := n) (fun E a w hA hk => ⟨E, hA, hk⟩) (fun c a w hq => hq) hp.1.1.2 hp.1.2 p _ _ E a _ hp.2 hA ?_ (h _ rfl (Chg.refl _ _).drew))
  exact hL

def gets (E : Env) : List Nat → Option (List Value)
  | [] => some []
  | i :: is => (E.get i).bind fun v => (gets E is).map fun vs => v :: vs
def roundQ (keep : List Nat) (ks : List Value) (slots : List Nat) (I : Nat → List Value → World → Prop) (m : Nat) (Q : XQ) : XQ := fun e E w =>
  match e with
  | .normal => okK (gets E keep) fun ks' => okK (gets E slots) fun vs => ks' = ks ∧ ∃ m', m' < m ∧ I m' vs w
  | e => Q e E w

theorem Env.get_append (A B : Env) (i : Nat) : (A ++ B).get i = (A.get i).or (B.get i) := by
  induction A with
  | nil => simp [Env.get]
  | cons p A ih =>
    obtain ⟨k, v⟩ := p
    simp only [List.cons_append, Env.get]
    split
    · rfl
    · exact ih
theorem gets_zip {E : Env} : ∀ {is : List Nat} {vs : List Value}, gets E is = some vs → ∀ i v, Env.get (is.zip vs) i = some v → E.get i = some v
  | [], vs, h, i, v, hv => by simp [Env.get] at hv
  | k :: is, vs, h, i, v, hv => by
    simp only [gets, Option.bind_eq_some_iff, Option.map_eq_some_iff] at h
    obtain ⟨u, hu, us, hus, rfl⟩ := h
    simp only [List.zip_cons_cons, Env.get] at hv
    split at hv
    · rename_i hk; subst hk; rw [← hv]; exact hu
    · exact gets_zip hus i v hv
theorem Agree.two {n : Nat} {E : Env} {a : Act} {A B : Env} (hA : Agree n E a) (h1 : ∀ i v, A.get i = some v → E.get i = some v) (h2 : ∀ i v, B.get i = some v → E.get i = some v) : Agree n (A ++ B) a :=
  hA.weaken fun i v h => by
    rw [Env.get_append] at h
    cases hh : A.get i with
    | none => rw [hh] at h; exact h2 i v (by simpa using h)
    | some u => rw [hh] at h; simp at h; subst h; exact h1 i u hh

theorem loop_rule {P : Program} {n : Nat} {b : Code} {E : Env} {w : World} {Q : XQ} (keep slots : List Nat) (I : Nat → List Value → World → Prop) (hb : codeOk n b = true)
    (h0 : okK (gets E keep) fun _ => okK (gets E slots) fun vs => ∃ m, I m vs w)
    (hr : ∀ ks, gets E keep = some ks → ∀ m vs w1, I m vs w1 → codev P n b (slots.zip vs ++ keep.zip ks) w1 (roundQ keep ks slots I m Q)) : loopG P n b E w Q := by
  intro a hA
  obtain ⟨ks, hks, h0⟩ := okK_elim h0
  obtain ⟨vs, hvs, m0, h0⟩ := okK_elim h0
  let J : Nat → Act → World → Prop := fun m a w => ∃ vs, Agree n (slots.zip vs ++ keep.zip ks) a ∧ I m vs w
  have h00 : J m0 a w := ⟨vs, hA.two (gets_zip hvs) (gets_zip hks), h0⟩
  refine wp_loop_ghost J m0 h00 (fun m a w hJ => ?_)
  obtain ⟨vs, hA, hI⟩ := hJ
  refine wp_mono (codev_sound b _ a w _ hb hA (hr ks hks m vs w hI)) fun e a' w' he => ?_
  cases e with
  | normal =>
    obtain ⟨E', hA', h'⟩ := he
    obtain ⟨ks', hks', h'⟩ := okK_elim h'
    obtain ⟨vs', hvs', rfl, m', hm, hI'⟩ := okK_elim h'
    exact ⟨m', hm, vs', hA'.two (gets_zip hvs') (gets_zip hks'), hI'⟩
  | _ => exact he

def argE : Nat → List Value → Env
  | _, [] => []
  | i, v :: vs => (i, v) :: argE (i + 1) vs
def resK (P : Program) (E : Env) (w : World) : List ResultVar → (List Value → Prop) → Prop
  | [], K => K []
  | .tmp t :: rs, K => okK (E.get t) fun v => resK P E w rs fun vs => K (v :: vs)
  | .cell a t :: rs, K => okK (E.get a) fun x => ptrK x fun b o => okK (if (tinfo P t).known = true then some (tinfo P t).agg else none) fun ag =>
      if ag = true then okK (tinfo P t).size fun n => okK (cellsAt w b o n) fun cs => resK P E w rs fun vs => K (.agg cs.toArray :: vs) else okK (w.cell? ⟨b, o, none⟩) fun v => resK P E w rs fun vs => K (v :: vs)
def retV : List Value → Value
  | [v] => v
  | vs => .tuple vs.toArray
def endQ (P : Program) (rs : List ResultVar) (R : Ending → World → Prop) : XQ := fun e E w =>
  match e with
  | .normal | .ret => resK P E w rs fun vs => R (.returned (retV vs)) w
  | _ => False

def resS (tmps : Array Value) (r : ResultVar) : Sem Value := match r with
  | .tmp t => pure (tmps.getD t undef)
  | .cell a t => do loadVar t (← asAddr (tmps.getD a undef))
theorem results_eq (fn : Func) (tmps : Array Value) : results fn tmps = (do let vs ← fn.results.mapM (resS tmps); pure (if h : vs.size = 1 then vs[0] else .tuple vs)) := rfl

theorem results_mapM {P : Program} {n : Nat} {E : Env} {a : Act} (hA : Agree n E a) {w : World} : ∀ (rs : List ResultVar) (K : List Value → Prop), resK P E w rs K →
    ∃ vs, (rs.mapM (resS a.tmps)).run P w = .ok vs w ∧ K vs
  | [], K, h => ⟨[], by simp, h⟩
  | r :: rs, K, h => by
    have key : ∃ v, (resS a.tmps r).run P w = .ok v w ∧ resK P E w rs fun vs => K (v :: vs) := by
      cases r with
      | tmp t =>
        obtain ⟨v, hv, h⟩ := okK_elim h
        exact ⟨v, by simp only [resS, Sem.run_pure, hA.get t v hv], h⟩
      | cell x t =>
        obtain ⟨v, hv, h⟩ := okK_elim h
        obtain ⟨b, off, rfl, h⟩ := ptrK_elim h
        obtain ⟨ag, hag, h⟩ := okK_elim h
        have hag' : (P.underlying t).isSome = true ∧ ag = (tinfo P t).agg := by
          split at hag
          · rename_i hk; injection hag with hag; exact ⟨hk, hag.symm⟩
          · cases hag
        obtain ⟨hk, rfl⟩ := hag'
        obtain ⟨d, hd⟩ := Option.isSome_iff_exists.1 hk
        have hisa := isAgg_run (P := P) hd w
        have hx : (asAddr (a.tmps.getD x undef)).run P w = .ok ⟨b, off, none⟩ w := by rw [hA.get x _ hv]; rfl
        split at h
        · rename_i hagg
          obtain ⟨m, hm, h⟩ := okK_elim h
          obtain ⟨cs, hc, h⟩ := okK_elim h
          obtain ⟨hl, hcell⟩ := cellsAt_elim hc
          have hr2 := run_loadCells_list (P := P) (w := w) ⟨b, off, none⟩ cs (fun j u hj => by rw [add_off]; exact hcell j u hj)
          rw [hl] at hr2
          have hagg' : isAggT (P.underlying t) = true := hagg
          rw [hagg'] at hisa
          refine ⟨.agg cs.toArray, ?_, h⟩
          simp only [resS, Sem.run_bind, hx, Result.andThen_ok]
          simp [loadVar, hisa, tsize_run hm, hr2]
        · rename_i hagg
          obtain ⟨u, hu, h⟩ := okK_elim h
          have hagg' : isAggT (P.underlying t) = false := by simpa [tinfo] using hagg
          rw [hagg'] at hisa
          refine ⟨u, ?_, h⟩
          simp only [resS, Sem.run_bind, hx, Result.andThen_ok]
          simp [loadVar, hisa, load, Sem.run, hu]
    obtain ⟨v, hv, h⟩ := key
    obtain ⟨vs, hr, hk⟩ := results_mapM hA rs _ h
    exact ⟨v :: vs, by simp only [List.mapM_cons, Sem.run_bind, hv, Result.andThen_ok, hr, Sem.run_pure], hk⟩

theorem results_run {P : Program} {n : Nat} {E : Env} {a : Act} (hA : Agree n E a) {w : World} {fn : Func} {K : List Value → Prop} (h : resK P E w fn.results.toList K) :
    ∃ vs, (results fn a.tmps).run P w = .ok (retV vs) w ∧ K vs := by
  obtain ⟨vs, hr, hk⟩ := results_mapM hA fn.results.toList K h
  refine ⟨vs, ?_, hk⟩
  rw [results_eq, Sem.run_bind, Array.mapM_eq_mapM_toList]
  have : (List.toArray <$> fn.results.toList.mapM (resS a.tmps)).run P w = .ok vs.toArray w := by
    rw [map_eq_pure_bind, Sem.run_bind, hr]; rfl
  rw [this, Result.andThen_ok, Sem.run_pure]
  congr 1
  match vs with
  | [] => rfl
  | [v] => rfl
  | v :: u :: vs => simp [retV]

theorem argE_get : ∀ (vs : List Value) (i : Nat) (k : Nat) (v : Value), (argE i vs).get k = some v → i ≤ k ∧ vs[k - i]? = some v
  | [], i, k, v, h => by simp [argE, Env.get] at h
  | u :: vs, i, k, v, h => by
    simp only [argE, Env.get] at h
    split at h
    · rename_i he; subst he; simp at h; simp [h]
    · rename_i he
      obtain ⟨h1, h2⟩ := argE_get vs (i + 1) k v h
      refine ⟨by omega, ?_⟩
      rw [show k - i = (k - (i + 1)) + 1 by omega]
      simpa using h2

theorem calls_rule {P : Program} {f : FuncId} {fn : Func} {c : Code} {args : List Value} {w : World} {R : Ending → World → Prop} (hf : P.funcs[f]? = some fn) (hb : fn.body = some c)
    (hok : codeOk fn.ntmps c = true) (hn : args.length ≤ fn.ntmps) (h : codev P fn.ntmps c (argE 0 args) w (endQ P fn.results.toList R)) : Calls P f args.toArray w R := by
  refine calls_of_wp hf hb (wp_mono (codev_sound c (argE 0 args) _ w _ hok ⟨by simp; omega, rfl, fun i v hi => ?_⟩ h) fun e a' w' he => ?_)
  · obtain ⟨_, h2⟩ := argE_get _ _ _ _ hi
    rw [Nat.sub_zero] at h2
    have hlt := (List.getElem?_eq_some_iff.1 h2).1
    simp only [Array.getD_eq_getD_getElem?]
    rw [Array.getElem?_append_left (by simpa using hlt)]
    simp [h2]
  · cases e with
    | normal =>
      obtain ⟨E', hA', h'⟩ := he
      obtain ⟨vs, hr, hk⟩ := results_run hA' h'
      exact ⟨hA'.defers, _, hr, hk⟩
    | ret =>
      obtain ⟨E', hA', h'⟩ := he
      obtain ⟨vs, hr, hk⟩ := results_run hA' h'
      exact ⟨hA'.defers, _, hr, hk⟩
    | panic c => exact he.elim
    | outgrown => exact he.elim
    | exit i => obtain ⟨_, _, hf⟩ := he; exact hf.elim
    | goto l => obtain ⟨_, _, hf⟩ := he; exact hf.elim

def opsvT (P : Program) (ops : Array Oper) (l : List Oper) (E : Env) (w : World) (K : Env → World → Prop) (_t : Tg (ops, l, E, K) := .mk) : Prop := opsv P ops l E w K
def codevT (P : Program) (n : Nat) (c : Code) (E : Env) (w : World) (Q : XQ) (_t : Tg (n, c, E, Q) := .mk) : Prop := codev P n c E w Q
def planvT (P : Program) (ops : Array Oper) (L : Held) (p : Plan) (E : Env) (w : World) (K : Env → World → Prop) (_t : Tg (ops, L, p, E, K) := .mk) : Prop := planv P ops L p E w K
def drawT (P : Program) (n : Nat) (ops : Array Oper) (E : Env) (w : World) (K : Env → World → Prop) (_t : Tg (n, ops, E, K) := .mk) : Prop := drawG P n ops E w K
def loopT (P : Program) (n : Nat) (b : Code) (E : Env) (w : World) (Q : XQ) (_t : Tg (n, b, E, Q) := .mk) : Prop := loopG P n b E w Q
def operK (o : Option Oper) (K : Option Tmp → Op → TypeId → Option (Nat × Bool) → Prop) (_t : Tg K := .mk) : Prop := match o with | some o => K o.dst o.op o.type o.guard | none => False
def resT (P : Program) (E : Env) (w : World) (l : List ResultVar) (K : List Value → Prop) (_t : Tg (E, K) := .mk) : Prop := resK P E w l K
def exitT (Q : XQ) (e : Exit) (E : Env) (w : World) (_t : Tg (Q, E) := .mk) : Prop := Q e E w
def gT (ops : Array Oper) (g : Option (Nat × Bool)) (E : Env) (A B : Prop) (_t : Tg (ops, g, E, A, B) := .mk) : Prop := gK ops g E A B
def pureT (P : Program) (o : Op) (E : Env) (K : Value → Prop) (_t : Tg (o, E, K) := .mk) : Prop := pureK P o E K
def opvT (P : Program) (o : Op) (ty : TypeId) (E : Env) (w : World) (K : Value → World → Prop) (_t : Tg (o, E, K) := .mk) : Prop := opv P o ty E w K
def heldT (P : Program) (o : Op) (E : Env) (L : Held) (j : Nat) (K : Value → Prop) (_t : Tg (o, E, K) := .mk) : Prop := heldK P o E L j K
theorem ite_ifK (b : Bool) (A B : Prop) : (if b = true then A else B) = ifK b A B := by cases b <;> simp [ifK]
theorem okK_ext {α : Type} {o : Option α} {K K' : α → Prop} (h : ∀ v, K v = K' v) : okK o K = okK o K' := by
  have : K = K' := funext h
  subst this; rfl
theorem ptrK_ext {v : Value} {K K' : Nat → Nat → Prop} (h : ∀ a b, K a b = K' a b) : ptrK v K = ptrK v K' := by
  have : K = K' := funext fun a => funext (h a)
  subst this; rfl
theorem aggK_ext {v : Value} {K K' : List Value → Prop} (h : ∀ a, K a = K' a) : aggK v K = aggK v K' := by
  have : K = K' := funext h
  subst this; rfl
section
variable (P : Program) (ops : Array Oper) (L : Held) (ty : TypeId) (E : Env) (w : World) (K : Value → World → Prop) (H : Value → Prop)
theorem gT_none (A B : Prop) : gT ops none E A B = A := (rfl)
theorem gT_some (j : Nat) (want : Bool) (A B : Prop) : gT ops (some (j, want)) E A B = operK ops[j]? fun d _ _ _ => okK (d.bind E.get) fun gv => guardK gv want A B := by
  show okK (grd ops j E) _ = _
  unfold grd
  cases ops[j]? <;> rfl
theorem beqT (b : Bool) : (b == true) = b := by cases b <;> rfl
theorem beqF (b : Bool) : (b == false) = !b := by cases b <;> rfl
theorem pureT_move (x : Operand) : pureT P (.move x) E H = okK (ev E x) fun v => valK v H := (rfl)
theorem pureT_assign (x : Operand) : pureT P (.assign x) E H = okK (ev E x) fun v => valK v H := (rfl)
theorem pureT_pick (c x y : Operand) : pureT P (.pick c x y) E H = okK (ev E c) fun c => okK (ev E x) fun x => okK (ev E y) fun y => boolK c fun b => valK (bif b then x else y) H := (rfl)
theorem pureT_nilCheck (x : Operand) : pureT P (.nilCheck x) E H = okK (ev E x) fun v => nchkK v H := (rfl)
theorem pureT_binOp (op : BinOp) (t : TypeId) (x y : Operand) (yt : TypeId) : pureT P (.binOp op t x y yt) E H = okK (ev E x) fun a => okK (ev E y) fun b => valK (a, b) fun p => binK P op t x y p.1 p.2 H := (rfl)
theorem pureT_unOp (op : UnOp) (t : TypeId) (x : Operand) : pureT P (.unOp op t x) E H = okK (ev E x) fun a => unK op a H := (rfl)
theorem pureT_convert (s d : TypeId) (x : Operand) : pureT P (.convert s d x) E H = okK (ev E x) fun a => okK (if (tinfo P s).known = true then some () else none) fun _ => okK (tinfo P d).int fun k => intK a fun _ n => valK (.int k (k.wrap n)) H := (rfl)
theorem pureT_build (t : TypeId) (parts : List (Nat × Operand)) : pureT P (.build t parts.toArray) E H = okK (evs E (parts.map (·.2))) fun vs => okK (tinfo P t).zero fun z => okK (places (tinfo P t)) fun pl => okK (fillL pl z.cells.toList ((parts.map (·.1)).zip vs)) fun cs => H (.agg cs.toArray) := (rfl)
theorem pureT_fieldAddr (s : TypeId) (x : Operand) (f : Nat) : pureT P (.fieldAddr s x f) E H = okK (ev E x) fun a => okK (((tinfo P s).lay.bind (·[f]?)).bind fun p => p.2.1.bind fun sz => if sz = 0 then none else some p.1) fun off => ptrK a fun b o => valK (.pointer (some ⟨b, o + off, none⟩)) H := (rfl)
theorem pureT_field (t : TypeId) (x : Operand) (f : Nat) : pureT P (.field t x f) E H = okK (ev E x) fun a => okK ((tinfo P t).lay.bind (·[f]?)) fun p => okK p.2.1 fun sz => aggK a fun cs =>
      okK p.2.2 fun ag => ifK ag (valK (.agg ((cs.drop p.1).take sz).toArray) H) (okK cs[p.1]? H) :=
  okK_ext fun _ => okK_ext fun _ => okK_ext fun _ => aggK_ext fun _ => okK_ext fun _ => ite_ifK _ _ _
theorem pureT_indexAddr (t : TypeId) (x i : Operand) : pureT P (.indexAddr t x i) E H = okK (ev E x) fun a => okK (ev E i) fun i => intK i fun _ i => idxK (tinfo P t).sl (tinfo P t).arr
      (fun sz => sliceK a fun ad n _ => (0 ≤ i ∧ i < n) ∧ ptrK (.pointer ad) fun b o => valK (.pointer (some ⟨b, o + i.toNat * sz, none⟩)) H)
      (fun n sz => ptrK a fun b o => (0 ≤ i ∧ i < n) ∧ valK (.pointer (some ⟨b, o + i.toNat * sz, none⟩)) H) := (rfl)
theorem pureT_slice (t : TypeId) (x : Operand) (lo hi : Option Operand) : pureT P (.slice t x lo hi none) E H = okK (ev E x) fun a => okK (evo E lo) fun lo => okK (evo E hi) fun hi => okK (tinfo P t).sl fun e => okK e.2 fun sz =>
      sliceK a fun ad n c => bndK hi n c fun h => bndK lo 0 h fun l => valK (.slice (cutA ad c l sz) (h - l) (c - l)) H := (rfl)
theorem pureT_extract (x : Operand) (i : Nat) : pureT P (.extract x i) E H = okK (ev E x) fun v => tupK v fun vs => okK vs[i]? H := (rfl)
theorem pureT_makeFunc (fn : Fn) (first captured : List Operand) : pureT P (.makeFunc fn first.toArray captured.toArray) E H = okK (evs E first) fun a => okK (evs E captured) fun b => H (.func fn a.toArray b.toArray) := (rfl)
theorem pureT_len (x : Operand) (t : TypeId) : pureT P (.call ⟨.builtin .len, #[x], #[t]⟩) E H = okK (ev E x) fun v => (match (tinfo P t).slc, (tinfo P t).str with
          | true, _ => sliceK v fun _ n _ => valK (.int .i64 n) H
          | _, true => (match v with | .string s => valK (.int .i64 s.size) H | _ => False)
          | _, _ => False) := (rfl)
theorem pureT_lenS (x : Operand) (t : TypeId) (ht : (tinfo P t).slc = true) : pureT P (.call ⟨.builtin .len, #[x], #[t]⟩) E H = okK (ev E x) fun v => sliceK v fun _ n _ => valK (.int .i64 n) H := by
  rw [pureT_len]; refine okK_ext fun v => ?_; rw [ht]
theorem pureT_min (x y : Operand) (ts : Array TypeId) : pureT P (.call ⟨.builtin .min, #[x, y], ts⟩) E H = okK (ev E x) fun a => okK (ev E y) fun b => intK a fun k n => intK b fun _ m => valK (.int k (if m < n then m else n)) H := (rfl)
theorem pureT_max (x y : Operand) (ts : Array TypeId) : pureT P (.call ⟨.builtin .max, #[x, y], ts⟩) E H = okK (ev E x) fun a => okK (ev E y) fun b => intK a fun k n => intK b fun _ m => valK (.int k (if n < m then m else n)) H := (rfl)
theorem opvT_move (x : Operand) : opvT P (.move x) ty E w K = pureT P (.move x) E fun v => K v w := (rfl)
theorem opvT_assign (x : Operand) : opvT P (.assign x) ty E w K = pureT P (.assign x) E fun v => K v w := (rfl)
theorem opvT_pick (c x y : Operand) : opvT P (.pick c x y) ty E w K = pureT P (.pick c x y) E fun v => K v w := (rfl)
theorem opvT_nilCheck (x : Operand) : opvT P (.nilCheck x) ty E w K = pureT P (.nilCheck x) E fun v => K v w := (rfl)
theorem opvT_binOp (op : BinOp) (t : TypeId) (x y : Operand) (yt : TypeId) : opvT P (.binOp op t x y yt) ty E w K = pureT P (.binOp op t x y yt) E fun v => K v w := (rfl)
theorem opvT_unOp (op : UnOp) (t : TypeId) (x : Operand) : opvT P (.unOp op t x) ty E w K = pureT P (.unOp op t x) E fun v => K v w := (rfl)
theorem opvT_build (t : TypeId) (parts : Array (Nat × Operand)) : opvT P (.build t parts) ty E w K = pureT P (.build t parts) E fun v => K v w := (rfl)
theorem opvT_fieldAddr (s : TypeId) (x : Operand) (f : Nat) : opvT P (.fieldAddr s x f) ty E w K = pureT P (.fieldAddr s x f) E fun v => K v w := (rfl)
theorem opvT_field (s : TypeId) (x : Operand) (f : Nat) : opvT P (.field s x f) ty E w K = pureT P (.field s x f) E fun v => K v w := (rfl)
theorem opvT_indexAddr (t : TypeId) (x i : Operand) : opvT P (.indexAddr t x i) ty E w K = pureT P (.indexAddr t x i) E fun v => K v w := (rfl)
theorem opvT_slice (t : TypeId) (x : Operand) (lo hi m : Option Operand) : opvT P (.slice t x lo hi m) ty E w K = pureT P (.slice t x lo hi m) E fun v => K v w := (rfl)
theorem opvT_extract (x : Operand) (i : Nat) : opvT P (.extract x i) ty E w K = pureT P (.extract x i) E fun v => K v w := (rfl)
theorem opvT_makeFunc (fn : Fn) (first captured : Array Operand) : opvT P (.makeFunc fn first captured) ty E w K = pureT P (.makeFunc fn first captured) E fun v => K v w := (rfl)
theorem opvT_len (x : Operand) (t : TypeId) : opvT P (.call ⟨.builtin .len, #[x], #[t]⟩) ty E w K = pureT P (.call ⟨.builtin .len, #[x], #[t]⟩) E fun v => K v w := (rfl)
theorem opvT_min (x y : Operand) (ts : Array TypeId) : opvT P (.call ⟨.builtin .min, #[x, y], ts⟩) ty E w K = pureT P (.call ⟨.builtin .min, #[x, y], ts⟩) E fun v => K v w := (rfl)
theorem opvT_max (x y : Operand) (ts : Array TypeId) : opvT P (.call ⟨.builtin .max, #[x, y], ts⟩) ty E w K = pureT P (.call ⟨.builtin .max, #[x, y], ts⟩) E fun v => K v w := (rfl)
theorem opvT_alloc (t : TypeId) : opvT P (.alloc t) ty E w K = okK (tinfo P t).zero fun z => ∀ w1 b, New w w1 b z.cells.toList t → K (.pointer (some ⟨b, 0, none⟩)) w1 := (rfl)
theorem opvT_box (t : TypeId) (x : Operand) : opvT P (.box t x) ty E w K = okK (ev E x) fun v => ∀ w1 b, New w w1 b v.cells.toList t → K (.pointer (some ⟨b, 0, none⟩)) w1 := (rfl)
theorem opvT_buildSlice (t : TypeId) (len : Nat) (parts : List (Nat × Operand)) : opvT P (.buildSlice t len parts.toArray) ty E w K = okK (evs E (parts.map (·.2))) fun vs => okK (tinfo P t).sl fun e => okK e.2 fun sz => okK (tinfo P e.1).zero fun z =>
      (len * sz ≤ 16777216 ∧ z.cells.size = sz) ∧ okK (fillL (fun i => some (i * sz, sz)) (if len * sz = 0 then [] else zl z.cells.toList len) ((parts.map (·.1)).zip vs)) fun cs =>
        ∀ w1 b, New w w1 b cs e.1 → K (.slice (some ⟨b, 0, none⟩) len len) w1 := (rfl)
theorem opvT_load (t : TypeId) (x : Operand) : opvT P (.load t x) ty E w K = okK (ev E x) fun a => ptrK a fun b o => okK (if (tinfo P t).known = true then some (tinfo P t).agg else none) fun ag =>
      ifK ag (okK (tinfo P t).size fun n => okK (cellsAt w b o n) fun cs => K (.agg cs.toArray) w) (okK (w.cell? ⟨b, o, none⟩) fun v => K v w) :=
  okK_ext fun _ => ptrK_ext fun _ _ => okK_ext fun _ => ite_ifK _ _ _
theorem opvT_store (t : TypeId) (a x : Operand) : opvT P (.store t a x) ty E w K = okK (ev E a) fun a => okK (ev E x) fun v => ptrK a fun b o => okK (tinfo P t).size fun n =>
      (v.cells.size = n ∧ v.cells.toList.all (·.oneCell') = true) ∧ storeK w b o v.cells.toList fun w1 => K undef w1 := (rfl)
theorem opvT_convert (s d : TypeId) (x : Operand) : opvT P (.convert s d x) ty E w K = okK (some (tinfo P d).int.isSome) fun b => ifK b (pureT P (.convert s d x) E fun v => K v w) (okK (ev E x) fun v => RunK P (convert s d v) w K) := by
  show _ = ifK _ _ _
  rw [← ite_ifK]; rfl
theorem opvT_makeSlice (t : TypeId) (l c : Operand) : opvT P (.makeSlice t l c) ty E w K = okK (ev E l) fun l => okK (ev E c) fun c => RunK P (Instr.makeSlice t l c) w K := (rfl)
theorem opvT_call (f : Operand) (args : List Operand) (ts : Array TypeId) : opvT P (.call ⟨.value f, args.toArray, ts⟩) ty E w K = okK (ev E f) fun fv => okK (evs E args) fun vs => callK P fv vs w K := (rfl)
theorem opvT_append (args : List Operand) (ts : Array TypeId) : opvT P (.call ⟨.builtin .append, args.toArray, ts⟩) ty E w K = okK (evs E args) fun vs => RunK P (Builtin.append_ ts ty vs.toArray) w K := (rfl)
theorem opvT_copy (args : List Operand) (ts : Array TypeId) : opvT P (.call ⟨.builtin .copy, args.toArray, ts⟩) ty E w K = okK (evs E args) fun vs => RunK P (Builtin.copy_ ts ty vs.toArray) w K := (rfl)
theorem opvT_lookup (t : TypeId) (x i : Operand) (ok : Bool) : opvT P (.lookup t x i ok) ty E w K = okK (ev E x) fun x => okK (ev E i) fun i => RunK P (Instr.lookup t x i ok) w K := (rfl)
theorem opvT_index (t : TypeId) (x i : Operand) : opvT P (.index t x i) ty E w K = okK (ev E x) fun x => okK (ev E i) fun i => RunK P (Instr.index t x i) w K := (rfl)
theorem opvT_mapUpdate (t : TypeId) (m k x : Operand) : opvT P (.mapUpdate t m k x) ty E w K = okK (ev E m) fun m => okK (ev E k) fun k => okK (ev E x) fun x => RunU P (Instr.mapUpdate t m k x) w fun w1 => K undef w1 := (rfl)
theorem opvT_insert (t : TypeId) (m k x : Operand) : opvT P (.insert t m k x) ty E w K = okK (ev E m) fun m => okK (ev E k) fun k => okK (ev E x) fun x => RunU P (Instr.mapUpdate t m k x) w fun w1 => K undef w1 := (rfl)
theorem opvT_makeMap (t : TypeId) (r : Option Operand) : opvT P (.makeMap t r) ty E w K = okK (evo E r) fun r => RunK P (Instr.makeMap t r) w K := (rfl)
theorem opvT_range (t : TypeId) (x : Operand) : opvT P (.range t x) ty E w K = okK (ev E x) fun x => RunK P (Instr.range t x) w K := (rfl)
theorem opvT_next (it : Operand) (s : Bool) : opvT P (.next it s) ty E w K = okK (ev E it) fun it => RunK P (Instr.next it s ty) w K := (rfl)
theorem heldT_load (t : TypeId) (x : Operand) (j : Nat) : heldT P (.load t x) E L j H = okK (ev E x) fun a => ptrK a fun b o => okK (if (tinfo P t).known = true then some (tinfo P t).agg else none) fun ag =>
      ifK ag (okK (tinfo P t).size fun n => okK (heldC L b o j n) fun cs => H (.agg cs.toArray)) (okK (heldC L b o j 1) fun cs => okK cs[0]? H) :=
  okK_ext fun _ => ptrK_ext fun _ _ => okK_ext fun _ => ite_ifK _ _ _
theorem callK_func (f : FuncId) (first captured vs : List Value) : callK P (.func (.func f) first.toArray captured.toArray) vs w K = (enters P f = true ∧ callsK P f (first ++ vs ++ captured).toArray w K) := (rfl)
end
section
variable (P : Program) (n : Nat) (ops : Array Oper) (L : Held) (E : Env) (w : World) (K : Env → World → Prop) (Q : XQ)
theorem opsvT_nil : opsvT P ops [] E w K = K E w := (rfl)
theorem opsvT_cons (dst : Option Tmp) (op : Op) (ty : TypeId) (pos : String) (after : Array Edge) (guard : Option (Nat × Bool)) (rest : List Oper) :
    opsvT P ops (⟨dst, op, ty, pos, after, guard⟩ :: rest) E w K = gT ops guard E (opvT P op ty E w fun v w' => opsvT P ops rest (E.push dst v) w' K) (opsvT P ops rest (E.push dst undef) w K) := (rfl)
theorem codevT_skip : codevT P n .skip E w Q = exitT Q .normal E w := (rfl)
theorem codevT_seq (a b : Code) : codevT P n (.seq a b) E w Q = codevT P n a E w (seqQ (fun E w => codevT P n b E w Q) Q) := (rfl)
theorem codevT_region (id : Nat) (ops : List Oper) : codevT P n (.region id ops.toArray false) E w Q = opsvT P ops.toArray ops E w (fun E w => exitT Q .normal E w) := by simp [codevT, codev, opsvT, exitT]
theorem codevT_draw (id : Nat) (ops : Array Oper) : codevT P n (.region id ops true) E w Q = drawT P n ops E w (fun E w => exitT Q .normal E w) := (rfl)
theorem codevT_cond (c : Operand) (x y : Code) : codevT P n (.cond c x y) E w Q = okK (ev E c) fun v => boolK v fun b => ifK b (codevT P n x E w Q) (codevT P n y E w Q) := (rfl)
theorem codevT_block (id : Nat) (b : Code) : codevT P n (.block id b) E w Q = codevT P n b E w (blkQ id Q) := (rfl)
theorem codevT_loop (b : Code) : codevT P n (.loop b) E w Q = loopT P n b E w Q := (rfl)
theorem codevT_exit (id : Nat) : codevT P n (.exit id) E w Q = exitT Q (.exit id) E w := (rfl)
theorem codevT_ret : codevT P n .ret E w Q = exitT Q .ret E w := (rfl)
theorem exitT_seq_normal (K : Env → World → Prop) : exitT (seqQ K Q) .normal E w = K E w := (rfl)
theorem exitT_seq_exit (K : Env → World → Prop) (i : Nat) : exitT (seqQ K Q) (.exit i) E w = exitT Q (.exit i) E w := (rfl)
theorem exitT_seq_ret (K : Env → World → Prop) : exitT (seqQ K Q) .ret E w = exitT Q .ret E w := (rfl)
theorem exitT_blk_normal (id : Nat) : exitT (blkQ id Q) .normal E w = exitT Q .normal E w := (rfl)
theorem exitT_blk_ret (id : Nat) : exitT (blkQ id Q) .ret E w = exitT Q .ret E w := (rfl)
theorem exitT_blk_exit (id i : Nat) : exitT (blkQ id Q) (.exit i) E w = if i = id then exitT Q .normal E w else exitT Q (.exit i) E w := (rfl)
theorem exitT_end_normal (rs : List ResultVar) (R : Ending → World → Prop) : exitT (endQ P rs R) .normal E w = resT P E w rs fun vs => R (.returned (retV vs)) w := (rfl)
theorem exitT_end_ret (rs : List ResultVar) (R : Ending → World → Prop) : exitT (endQ P rs R) .ret E w = resT P E w rs fun vs => R (.returned (retV vs)) w := (rfl)
theorem exitT_round_normal (keep : List Nat) (ks : List Value) (slots : List Nat) (I : Nat → List Value → World → Prop) (m : Nat) :
    exitT (roundQ keep ks slots I m Q) .normal E w = okK (gets E keep) fun ks' => okK (gets E slots) fun vs => valK ks' fun ks' => valK vs fun vs => ks' = ks ∧ ∃ m', m' < m ∧ I m' vs w := (rfl)
theorem exitT_round_exit (keep : List Nat) (ks : List Value) (slots : List Nat) (I : Nat → List Value → World → Prop) (m : Nat) (i : Nat) : exitT (roundQ keep ks slots I m Q) (.exit i) E w = exitT Q (.exit i) E w := (rfl)
theorem exitT_round_ret (keep : List Nat) (ks : List Value) (slots : List Nat) (I : Nat → List Value → World → Prop) (m : Nat) : exitT (roundQ keep ks slots I m Q) .ret E w = exitT Q .ret E w := (rfl)
theorem resT_nil (K : List Value → Prop) : resT P E w [] K = K [] := (rfl)
theorem resT_tmp (t : Tmp) (rs : List ResultVar) (K : List Value → Prop) : resT P E w (.tmp t :: rs) K = okK (E.get t) fun v => valK v fun v => resT P E w rs fun vs => K (v :: vs) := (rfl)
theorem resT_cell (a : Tmp) (t : TypeId) (rs : List ResultVar) (K : List Value → Prop) : resT P E w (.cell a t :: rs) K = okK (E.get a) fun x => ptrK x fun b o => okK (if (tinfo P t).known = true then some (tinfo P t).agg else none) fun ag =>
      ifK ag (okK (tinfo P t).size fun n => okK (cellsAt w b o n) fun cs => valK cs fun cs => resT P E w rs fun vs => K (.agg cs.toArray :: vs)) (okK (w.cell? ⟨b, o, none⟩) fun v => resT P E w rs fun vs => K (v :: vs)) :=
  okK_ext fun _ => ptrK_ext fun _ _ => okK_ext fun _ => ite_ifK _ _ _
theorem operK_mk (dst : Option Tmp) (op : Op) (ty : TypeId) (pos : String) (after : Array Edge) (guard : Option (Nat × Bool)) (K : Option Tmp → Op → TypeId → Option (Nat × Bool) → Prop) :
    operK (some ⟨dst, op, ty, pos, after, guard⟩) K = K dst op ty guard := (rfl)
theorem operK_eq (o : Option Oper) (K : Option Tmp → Op → TypeId → Option (Nat × Bool) → Prop) : (okK o fun o => K o.dst o.op o.type o.guard) = operK o K := by cases o <;> rfl
theorem planvT_fin : planvT P ops L .fin E w K = K E w := (rfl)
theorem planvT_q (i : Nat) (p : Plan) : planvT P ops L (.q i p) E w K = operK ops[i]? fun d op _ g => gT ops g E (pureT P op E fun v => planvT P ops L p (E.push d v) w K) (planvT P ops L p (E.push d undef) w K) := by
  symm; exact (operK_eq _ _).symm
theorem planvT_h (i j : Nat) (p : Plan) : planvT P ops L (.h i j p) E w K = operK ops[i]? fun d op _ g => gT ops g E (heldT P op E L j fun v => planvT P ops L p (E.push d v) w K) (planvT P ops L p (E.push d undef) w K) := by
  symm; exact (operK_eq _ _).symm
theorem planvT_l (i : Nat) (p : Plan) : planvT P ops L (.l i p) E w K = operK ops[i]? fun d op ty g => gT ops g E (opvT P op ty E w fun v w' => Holds L w' ∧ planvT P ops L p (E.push d v) w' K) (planvT P ops L p (E.push d undef) w K) := by
  symm; exact (operK_eq _ _).symm
theorem planvT_ll (i k : Nat) (p r : Plan) : planvT P ops L (.ll i p k r) E w K = ((operK ops[i]? fun d op ty g => gT ops g E (opvT P op ty E w fun v w' => Holds L w' ∧ planvT P ops L p (E.push d v) w' K) (planvT P ops L p (E.push d undef) w K)) ∧
    (operK ops[k]? fun d op ty g => gT ops g E (opvT P op ty E w fun v w' => Holds L w' ∧ planvT P ops L r (E.push d v) w' K) (planvT P ops L r (E.push d undef) w K))) := by
  symm; exact congr (congrArg And (operK_eq _ _).symm) (operK_eq _ _).symm
theorem planvT_lll (i k j : Nat) (p r t : Plan) : planvT P ops L (.lll i p k r j t) E w K = ((operK ops[i]? fun d op ty g => gT ops g E (opvT P op ty E w fun v w' => Holds L w' ∧ planvT P ops L p (E.push d v) w' K) (planvT P ops L p (E.push d undef) w K)) ∧
    (operK ops[k]? fun d op ty g => gT ops g E (opvT P op ty E w fun v w' => Holds L w' ∧ planvT P ops L r (E.push d v) w' K) (planvT P ops L r (E.push d undef) w K)) ∧
    (operK ops[j]? fun d op ty g => gT ops g E (opvT P op ty E w fun v w' => Holds L w' ∧ planvT P ops L t (E.push d v) w' K) (planvT P ops L t (E.push d undef) w K))) := by
  symm; exact congr (congrArg And (operK_eq _ _).symm) (congr (congrArg And (operK_eq _ _).symm) (operK_eq _ _).symm)
end
section
variable (P : Program) (t : TypeId) (xo yo : Operand) (k k2 : IntKind) (a b : Int) (K : Value → Prop)
theorem binK_add : binK P .add t xo yo (.int k a) (.int k b) K = valK (.int k (k.wrap (a + b))) K := by simp [binK, intK2]
theorem binK_sub : binK P .sub t xo yo (.int k a) (.int k b) K = valK (.int k (k.wrap (a - b))) K := by simp [binK, intK2]
theorem binK_mul : binK P .mul t xo yo (.int k a) (.int k b) K = valK (.int k (k.wrap (a * b))) K := by simp [binK, intK2]
theorem binK_and : binK P .and t xo yo (.int k a) (.int k b) K = valK (.int k (k.wrap (BitVec.ofInt k.bits a &&& BitVec.ofInt k.bits b).toNat)) K := by simp [binK, intK2]
theorem binK_or : binK P .or t xo yo (.int k a) (.int k b) K = valK (.int k (k.wrap (BitVec.ofInt k.bits a ||| BitVec.ofInt k.bits b).toNat)) K := by simp [binK, intK2]
theorem binK_xor : binK P .xor t xo yo (.int k a) (.int k b) K = valK (.int k (k.wrap (BitVec.ofInt k.bits a ^^^ BitVec.ofInt k.bits b).toNat)) K := by simp [binK, intK2]
theorem binK_andNot : binK P .andNot t xo yo (.int k a) (.int k b) K = valK (.int k (k.wrap (BitVec.ofInt k.bits a &&& ~~~ (BitVec.ofInt k.bits b)).toNat)) K := by simp [binK, intK2]
theorem binK_eql : binK P .eql t xo yo (.int k a) (.int k b) K = valK (.bool (decide (a = b))) K := by simp [binK, intK2]
theorem binK_neq : binK P .neq t xo yo (.int k a) (.int k b) K = valK (.bool (!decide (a = b))) K := by simp [binK, intK2]
theorem binK_lss : binK P .lss t xo yo (.int k a) (.int k b) K = valK (.bool (decide (a < b))) K := by simp [binK, intK2]
theorem binK_leq : binK P .leq t xo yo (.int k a) (.int k b) K = valK (.bool (decide (a ≤ b))) K := by simp [binK, intK2]
theorem binK_gtr : binK P .gtr t xo yo (.int k a) (.int k b) K = valK (.bool (decide (b < a))) K := by simp [binK, intK2]
theorem binK_geq : binK P .geq t xo yo (.int k a) (.int k b) K = valK (.bool (decide (b ≤ a))) K := by simp [binK, intK2]
theorem binK_quo : binK P .quo t xo yo (.int k a) (.int k b) K = (b ≠ 0 ∧ valK (.int k (k.wrap (a.tdiv b))) K) := by simp [binK, intK2]
theorem binK_rem : binK P .rem t xo yo (.int k a) (.int k b) K = (b ≠ 0 ∧ valK (.int k (a.tmod b)) K) := by simp [binK, intK2]
theorem binK_shl : binK P .shl t xo yo (.int k a) (.int k2 b) K = (0 ≤ b ∧ valK (.int k (k.wrap (a * 2 ^ min b.toNat k.bits))) K) := (rfl)
theorem binK_shr : binK P .shr t xo yo (.int k a) (.int k2 b) K = (0 ≤ b ∧ valK (.int k (a / 2 ^ min b.toNat k.bits)) K) := (rfl)
theorem binK_seq (a b : ByteArray) : binK P .eql t xo yo (.string a) (.string b) K = valK (.bool (a.toList == b.toList)) K := (rfl)
theorem binK_sne (a b : ByteArray) : binK P .neq t xo yo (.string a) (.string b) K = valK (.bool (!(a.toList == b.toList))) K := (rfl)
theorem binK_beq (a b : Bool) : binK P .eql t xo yo (.bool a) (.bool b) K = ((tinfo P t).bol = true ∧ valK (.bool (a == b)) K) := (rfl)
theorem binK_bne (a b : Bool) : binK P .neq t xo yo (.bool a) (.bool b) K = ((tinfo P t).bol = true ∧ valK (.bool (!(a == b))) K) := (rfl)
theorem binK_pnn : binK P .eql t xo yo (.pointer none) (.pointer none) K = ((tinfo P t).ptr = true ∧ valK (.bool true) K) := (rfl)
theorem binK_pns (p : Addr) : binK P .eql t xo yo (.pointer none) (.pointer (some p)) K = ((tinfo P t).ptr = true ∧ valK (.bool false) K) := (rfl)
theorem binK_psn (p : Addr) : binK P .eql t xo yo (.pointer (some p)) (.pointer none) K = ((tinfo P t).ptr = true ∧ valK (.bool false) K) := (rfl)
theorem binK_qnn : binK P .neq t xo yo (.pointer none) (.pointer none) K = ((tinfo P t).ptr = true ∧ valK (.bool false) K) := (rfl)
theorem binK_qns (p : Addr) : binK P .neq t xo yo (.pointer none) (.pointer (some p)) K = ((tinfo P t).ptr = true ∧ valK (.bool true) K) := (rfl)
theorem binK_qsn (p : Addr) : binK P .neq t xo yo (.pointer (some p)) (.pointer none) K = ((tinfo P t).ptr = true ∧ valK (.bool true) K) := (rfl)
theorem binK_sln (p : Option Addr) (n c n2 c2 : Nat) : binK P .eql t xo yo (.slice p n c) (.slice none n2 c2) K = ((tinfo P t).slc = true ∧ valK (.bool p.isNone) K) := (rfl)
theorem binK_qln (p : Option Addr) (n c n2 c2 : Nat) : binK P .neq t xo yo (.slice p n c) (.slice none n2 c2) K = ((tinfo P t).slc = true ∧ valK (.bool (!p.isNone)) K) := (rfl)
theorem unK_not (b : Bool) : unK .not (.bool b) K = valK (.bool (!b)) K := (rfl)
theorem unK_neg : unK .neg (.int k a) K = valK (.int k (k.wrap (0 - a))) K := (rfl)
theorem nchkK_ptr (p : Addr) : nchkK (.pointer (some p)) K = K (.pointer (some p)) := (rfl)
theorem nchkK_func (f : FuncId) (x y : Array Value) : nchkK (.func (.func f) x y) K = K (.func (.func f) x y) := (rfl)
theorem bndK_none (d m : Nat) (K : Nat → Prop) : bndK none d m K = K d := (rfl)
theorem bndK_some (i : Int) (d m : Nat) (K : Nat → Prop) : bndK (some (.int k i)) d m K = ((0 ≤ i ∧ i ≤ m) ∧ K i.toNat) := (rfl)
theorem idxK_slice (e : TypeId) (sz : Nat) (r : Option (Nat × Option Nat × Bool)) (A : Nat → Prop) (B : Nat → Nat → Prop) : idxK (some (e, some sz)) r A B = A sz := (rfl)
theorem idxK_arr (n sz : Nat) (g : Bool) (A : Nat → Prop) (B : Nat → Nat → Prop) : idxK none (some (n, some sz, g)) A B = B n sz := (rfl)
theorem storeK_eq (w : World) (b o : Nat) (vs : List Value) (K : World → Prop) : storeK w b o vs K = okK (blkOf w b) fun p => o + vs.length ≤ p.1.length ∧ ∀ w1, Put w w1 b (setR p.1 o vs) p.2 → K w1 := (rfl)
theorem iteT {α : Sort _} (a b : α) : (if true = true then a else b) = a := (rfl)
theorem iteF {α : Sort _} (a b : α) : (if false = true then a else b) = b := (rfl)
end
theorem walk {P : Program} {f : FuncId} {fn : Func} {c : Code} {args : List Value} {w : World} {R : Ending → World → Prop} (hf : P.funcs[f]? = some fn) (hb : fn.body = some c)
    (hok : codeOk fn.ntmps c = true) (hn : args.length ≤ fn.ntmps) (h : codevT P fn.ntmps c (argE 0 args) w (endQ P fn.results.toList R)) : Calls P f args.toArray w R := calls_rule hf hb hok hn h
theorem walkLoop {P : Program} {n : Nat} {b : Code} {E : Env} {w : World} {Q : XQ} (keep slots : List Nat) (I : Nat → List Value → World → Prop) (hb : codeOk n b = true)
    (h0 : okK (gets E keep) fun _ => okK (gets E slots) fun vs => valK vs fun vs => ∃ m, I m vs w)
    (hr : ∀ ks, gets E keep = some ks → ∀ m vs w1, I m vs w1 → codevT P n b (slots.zip vs ++ keep.zip ks) w1 (roundQ keep ks slots I m Q)) : loopT P n b E w Q := loop_rule keep slots I hb h0 hr
theorem walkDraw {P : Program} {n : Nat} {ops : Array Oper} {E : Env} {w : World} {K : Env → World → Prop} (p : Plan) (L : Held) (hp : drawOk P n ops p = true) (hL : Holds L w)
    (h : ∀ w1, w1.heap = w.heap → Chg (fun _ => False) w w1 → planvT P ops L p E w1 K) : drawT P n ops E w K := draw_rule p L hp hL h
end Go.Proofs.Ytnhgjgoglmadnaa
namespace Go.Proofs.Ytnhgjgoglmadnaa
open Go.RowKit

theorem New.cell {w w1 : World} {b : Nat} {cs : List Value} {t : TypeId} (h : New w w1 b cs t) (o : Nat) : w1.cell? ⟨b, o, none⟩ = cs[o]? := by
  rw [cell_of_row w1 b o _ _ _ h.blk]; simp
theorem New.blkOf {w w1 : World} {b : Nat} {cs : List Value} {t : TypeId} (h : New w w1 b cs t) : blkOf w1 b = some (cs, t) := by
  simpa using blkOf_of h.blk
theorem New.lt {w w1 : World} {b : Nat} {cs : List Value} {t : TypeId} (h : New w w1 b cs t) : b < w1.heap.size := lt_of_block h.blk
theorem Put.cell {w w1 : World} {b : Nat} {cs : List Value} {t : TypeId} (h : Put w w1 b cs t) (o : Nat) : w1.cell? ⟨b, o, none⟩ = cs[o]? := by
  rw [cell_of_row w1 b o _ _ _ h.blk]; simp
theorem Put.blkOf {w w1 : World} {b : Nat} {cs : List Value} {t : TypeId} (h : Put w w1 b cs t) : blkOf w1 b = some (cs, t) := by
  simpa using blkOf_of h.blk
theorem Chg.blkOf {S : Nat → Prop} {w w1 : World} {b : Nat} {x : List Value × TypeId} (h : Chg S w w1) (hb : blkOf w b = some x) (hn : ¬ S b) : blkOf w1 b = some x := by
  have := blkOf_elim hb
  have h1 := h.at this hn
  simpa using blkOf_of h1
theorem cell_of_blkOf {w : World} {b : Nat} {x : List Value × TypeId} (h : blkOf w b = some x) (o : Nat) : w.cell? ⟨b, o, none⟩ = x.1[o]? := by
  rw [cell_of_row w b o _ _ _ (blkOf_elim h)]; simp
theorem lt_of_blkOf {w : World} {b : Nat} {x : List Value × TypeId} (h : blkOf w b = some x) : b < w.heap.size := lt_of_block (blkOf_elim h)

theorem Holds_nil (w : World) : Holds [] w = True := by simp [Holds]
theorem Holds_cons (b o : Nat) (v : Value) (L : Held) (w : World) : Holds ((b, o, v) :: L) w = (w.cell? ⟨b, o, none⟩ = some v ∧ Holds L w) := by
  apply propext
  constructor
  · intro h
    exact ⟨h _ _ _ (.head _), fun b' o' v' hm => h _ _ _ (.tail _ hm)⟩
  · rintro ⟨h1, h2⟩ b' o' v' hm
    cases hm with
    | head => exact h1
    | tail _ hm => exact h2 _ _ _ hm

theorem RetK_mk (K : Value → World → Prop) (v : Value) (w : World) : RetK K (.returned v) w = K v w :=
  propext ⟨fun ⟨_, e, h⟩ => by injection e with e; subst e; exact h, fun h => ⟨v, rfl, h⟩⟩
theorem Chg.seq {w w1 w2 : World} {S : Nat → Prop} (h : Chg (fun _ => False) w w1) (k : Chg S w1 w2) : Chg S w w2 := (h.mono (fun _ f => f.elim)).trans k (fun _ hx => .inl hx)
theorem ifK_dec {p : Prop} [Decidable p] {A B : Prop} (h1 : p → A) (h2 : ¬ p → B) : ifK (decide p) A B :=
  ⟨fun h => h1 (of_decide_eq_true h), fun h => h2 (of_decide_eq_false h)⟩
theorem callsK_use {P : Program} {f : FuncId} {args : Array Value} {w : World} {R K : Value → World → Prop} (h : Calls P f args w (RetK R)) (hk : ∀ v w', R v w' → K v w') : callsK P f args w K :=
  Calls.mono h fun _ _ ⟨v, e, hr⟩ => ⟨v, e, hk _ _ hr⟩

theorem callsK_pure {P : Program} {f : FuncId} {args : Array Value} {w : World} {x : Value} {K : Value → World → Prop} (h : Calls P f args w (RetK fun r w' => r = x ∧ w' = w)) (hk : K x w) : callsK P f args w K :=
  callsK_use h fun _ _ ⟨e1, e2⟩ => by rw [e1, e2]; exact hk

structure Row (s : Nat) (w : World) (v : Value) (n : Nat) (cs : List Value) : Prop where
  len : cs.length = n * s
  one : ∀ u ∈ cs, u.oneCell' = true
  shape : ∃ a c, v = .slice a n c ∧ n ≤ c ∧ c ≤ maxLen ∧ (a = none → c = 0) ∧ (0 < n → ∃ b o, a = some ⟨b, o, none⟩ ∧ ∀ j u, cs[j]? = some u → w.cell? ⟨b, o + j, none⟩ = some u)
theorem Row.chg {S : Nat → Prop} {s : Nat} {w w' : World} {v : Value} {n : Nat} {cs : List Value} (h : Row s w v n cs) (hc : Chg S w w') (hn : ∀ k, v.ownBlock = some k → ¬ S k) : Row s w' v n cs := by
  obtain ⟨h1, h2, a, c, rfl, h3, h4, h5, h6⟩ := h
  refine ⟨h1, h2, a, c, rfl, h3, h4, h5, fun hp => ?_⟩
  obtain ⟨b, o, rfl, hcell⟩ := h6 hp
  exact ⟨b, o, rfl, fun j u hj => hc.cell (hcell j u hj) (hn b (by simp [Value.ownBlock]))⟩
theorem Row.nil (s : Nat) (w : World) : Row s w (.slice none 0 0) 0 [] := ⟨by simp, by simp, none, 0, rfl, by omega, by simp [maxLen], fun _ => rfl, fun h => by omega⟩
theorem Rd.row {w : World} {v : Value} {xs : List Int} (h : Rd w v xs) : Row 1 w v xs.length (u8s xs) := by
  obtain ⟨a, c, rfl, h1, h2, h3, h4⟩ := h
  refine ⟨by simp [u8s], fun u hu => ?_, a, c, rfl, h1, h2, h3, fun hp => ?_⟩
  · obtain ⟨x, _, rfl⟩ := List.mem_map.1 hu; rfl
  · obtain ⟨b, o, rfl, hc⟩ := h4 hp
    refine ⟨b, o, rfl, fun j u hj => ?_⟩
    simp only [u8s, List.getElem?_map, Option.map_eq_some_iff] at hj
    obtain ⟨x, hx, rfl⟩ := hj
    obtain ⟨hlt, hx⟩ := List.getElem?_eq_some_iff.1 hx
    rw [hc j hlt]
    simp [List.getD, hlt, hx]
theorem row_of_owns {w : World} {e : TypeId} {s : Nat} {v : Value} {n : Nat} {xs : List Value} (h : w.ownsRow 0 e s v n xs) (h1 : ∀ u ∈ xs, u.oneCell' = true) : Row s w v n xs := by
  refine ⟨h.1, h1, ?_⟩
  rcases h.2 with ⟨rfl, hz⟩ | ⟨g, cap, cur, rfl, hb, hg, hn, hm, hsz, ht⟩
  · exact ⟨none, 0, by rw [hz], by omega, by simp [maxLen], fun _ => rfl, fun hp => by omega⟩
  · refine ⟨some ⟨g, 0, none⟩, cap, rfl, hn, hm, (fun h => by cases h), fun hp => ⟨g, 0, rfl, fun j u hj => ?_⟩⟩
    have := World.ownsRow.cells h (g := g) rfl j _ hj
    simpa [Addr.add_lit] using this
theorem New.owns {w w1 : World} {b : Nat} {cs : List Value} {e : TypeId} {s n : Nat} (h : New w w1 b cs e) (hn : cs.length = n * s) (hm : n ≤ maxLen) : w1.ownsRow 0 e s (.slice (some ⟨b, 0, none⟩) n n) n cs :=
  ⟨hn, .inr ⟨b, n, cs.toArray, rfl, Nat.zero_le _, h.blk, Nat.le_refl _, hm, by simpa using hn, List.take_of_length_le (by simp [hn])⟩⟩
theorem append_rule {P : Program} {t e : TypeId} {z : Value} {s by' : Nat} (hi : (P.info? e).map (fun i => (i.zero, i.size, i.bytes)) = some (some z, s, by')) (ht : P.underlying t = some (.slice e)) (hzs : z.cells.size = s) (hs : 0 < s)
    {w : World} {v : Value} {n : Nat} {xs : List Value} {src : Value} {m : Nat} {news : List Value} {ty : TypeId} {K : Value → World → Prop} (hown : w.ownsRow 0 e s v n xs) (hsrc : Row s w src m news)
    (hl : (n + m) * by' ≤ 140737488355328) (h63 : n + m ≤ maxLen)
    (hK : ∀ v' w', w'.ownsRow 0 e s v' (n + m) (xs ++ news) → w.grownBy w' v.ownBlock → (v'.ownBlock = v.ownBlock ∨ v'.ownBlock = some w.heap.size) → K v' w') : RunK P (Builtin.append_ #[t, t] ty #[v, src]) w K := by
  obtain ⟨i, hi, hp⟩ := Option.map_eq_some_iff.1 hi
  simp only [Prod.mk.injEq] at hp
  obtain ⟨hz, hsz, hby⟩ := hp
  obtain ⟨h1, h2, a, c, rfl, h3, h4, h5, h6⟩ := hsrc
  cases a with
  | none =>
    obtain rfl := h5 rfl
    obtain rfl : m = 0 := by omega
    obtain rfl : news = [] := List.eq_nil_of_length_eq_zero (by simpa using h1)
    refine ⟨v, w, run_append_owned_none w 0 t ty e i s ht hi v n xs hown, hK _ _ (by simpa using hown) ⟨rfl, rfl, rfl, Nat.le_refl _, fun _ _ _ => rfl⟩ (.inl rfl)⟩
  | some a =>
    obtain ⟨v', w', hr, h7, h8, _, h9⟩ := run_append_own_at (P := P) w 0 t ty e i z s by' ht hi hz hsz hby hzs hs v n xs hown a m c news h1 (fun j u hj => by
      have hlt := (List.getElem?_eq_some_iff.1 hj).1
      have hm : 0 < m := by
        rcases Nat.eq_zero_or_pos m with rfl | h
        · simp [h1] at hlt
        · exact h
      obtain ⟨b, o, he, hc⟩ := h6 hm
      injection he with he
      subst he
      rw [add_off]
      exact hc j u hj) h2 h63 hl (Nat.zero_le _)
    exact ⟨v', w', hr, hK _ _ h7 h8 h9⟩
end Go.Proofs.Ytnhgjgoglmadnaa
