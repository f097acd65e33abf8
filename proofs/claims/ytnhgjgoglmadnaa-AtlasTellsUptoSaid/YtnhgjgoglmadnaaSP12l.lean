/- Joined texts of this claim (part 12), printed by a program of this work. The last part holds the claimed theorem: the law answers true at every input of its row. -/
import Derived.Test.YtnhgjgoglmadnaaSP12k
namespace Go.Proofs.Ytnhgjgoglmadnaa
open Go.RowKit
set_option maxRecDepth 100000
set_option linter.unusedSimpArgs false
set_option linter.unusedVariables false
set_option pp.maxSteps 1500
set_option pp.deepTerms.threshold 8

section
variable {w0 w : World} {S : Nat → Prop} {M : List Res}
theorem Sep.wrOpen (i : Nat) {t p k : Nat} {s : W8} (h : Sep w0 S M w) (hi : M[i]? = some (wr t p s k)) : ∃ a c, Sep w0 S (M.set i (blk p t [.slice a s.l.length c, .bool s.bad]) ++ [byt (.slice a s.l.length c) s.l]) w ∧ s.l.length ≤ k := by
  obtain ⟨A, ⟨h1, h2, v, h3, rfl⟩, h4⟩ := h.split i hi
  obtain ⟨a, c, rfl⟩ := owns_shape h3.own
  exact ⟨a, c, h4 _ _ (fun x => x = p) (fun x => (Value.slice a s.l.length c).ownBlock = some x) ⟨h3.blk, rfl⟩ ⟨h3.own, rfl⟩ (fun x hx => .inl hx) (fun x hx => ⟨.inr hx, fun e => by subst e; exact h3.own.ne h3.blk h2 hx⟩) (fun _ f => f) (fun _ f => f), h1⟩
theorem Sep.wrClose (i j : Nat) {t p : Nat} {b : Bool} {v : Value} {l : List Int} (k : Nat) (h : Sep w0 S M w) (hi : (M.set j emp)[i]? = some (blk p t [v, .bool b])) (hj : M[j]? = some (byt v l)) (ht : t ≠ 5) (hl : l.length ≤ k) : Sep w0 S ((M.set j emp).set i (wr t p ⟨l, b⟩ k)) w :=
  h.join i j hi hj (fun A B ⟨h1, e1⟩ ⟨h2, e2⟩ _ => ⟨hl, ht, v, ⟨h1, h2⟩, by subst e1 e2; rfl⟩) (fun _ f => f.elim)
end
def W8.spoil (s : W8) (b : Bool) : W8 := ⟨s.l, s.bad || b⟩
theorem spoil_num (s : W8) (b : Bool) (n k : Int) : (s.spoil b).num n k = (s.num n k).spoil b := by
  unfold W8.num W8.spoil; split <;> simp
theorem spoil_pt (s : W8) (b : Bool) (x y : Int) : (s.spoil b).pt x y = (s.pt x y).spoil b := by unfold W8.pt; rw [spoil_num, spoil_num]
theorem spoil_tri (s : W8) (b : Bool) (ax ay bx by' cx cy : Int) : (s.spoil b).tri ax ay bx by' cx cy = (s.tri ax ay bx by' cx cy).spoil b := by unfold W8.tri; rw [spoil_pt, spoil_pt, spoil_pt]
theorem spoil_raw (s : W8) (b : Bool) (l : List Int) : (s.spoil b).raw l = (s.raw l).spoil b := rfl
theorem spoil_spoil (s : W8) (a b : Bool) : (s.spoil a).spoil b = s.spoil (a || b) := by simp [W8.spoil, Bool.or_assoc]
theorem spoil_no (s : W8) : s.spoil false = s := by simp [W8.spoil]
theorem spoil_fold {f : W8 → List Int → W8} (hf : ∀ s b x, f (W8.spoil s b) x = (f s x).spoil b) : ∀ (xs : List (List Int)) (s : W8) (b : Bool), xs.foldl f (s.spoil b) = (xs.foldl f s).spoil b
  | [], _, _ => rfl
  | x :: xs, s, b => by simp only [List.foldl_cons]; rw [hf, spoil_fold hf xs]
theorem spoil_encL {f : W8 → List Int → W8} (hf : ∀ s b x, f (W8.spoil s b) x = (f s x).spoil b) (xs : List (List Int)) (s : W8) (b : Bool) : encL f (s.spoil b) xs = (encL f s xs).spoil b := by
  unfold encL; rw [spoil_num, spoil_fold hf]
theorem spoil_encC : ∀ (xs : List Ch) (s : W8) (b : Bool), encC (s.spoil b) xs = (encC s xs).spoil b := by
  intro xs s b
  unfold encC
  rw [spoil_num]
  generalize s.num xs.length 2 = r
  induction xs generalizing r with
  | nil => rfl
  | cons x xs ih => simp only [List.foldl_cons]; rw [show wCh (r.spoil b) x = (wCh r x).spoil b by unfold wCh; rw [spoil_num, spoil_num, spoil_num, spoil_raw], ih]
theorem spoil_wCa (s : W8) (b : Bool) : ∀ x, wCa (s.spoil b) x = (wCa s x).spoil b := by
  intro x; unfold wCa; split <;> simp only [spoil_num]
theorem spoil_wIs (s : W8) (b : Bool) : ∀ x, wIs (s.spoil b) x = (wIs s x).spoil b := by
  intro x; unfold wIs; split <;> simp only [spoil_num]
theorem spoil_wCo (s : W8) (b : Bool) : ∀ x, wCo (s.spoil b) x = (wCo s x).spoil b := by
  intro x; unfold wCo; split <;> simp only [spoil_num]
theorem spoil_wRe (s : W8) (b : Bool) : ∀ x, wRe (s.spoil b) x = (wRe s x).spoil b := by
  intro x; unfold wRe; split <;> simp only [spoil_num, spoil_tri]
def wReR (s : W8) (x : List Int) : W8 := (wRe s x).spoil (badRe x)
theorem foldReR : ∀ (xs : List (List Int)) (s : W8), xs.foldl wReR s = (xs.foldl wRe s).spoil (xs.any badRe)
  | [], s => by simp [spoil_no]
  | x :: xs, s => by
    simp only [List.foldl_cons, List.any_cons]
    rw [foldReR xs]
    unfold wReR
    rw [spoil_fold (fun s b x => spoil_wRe s b x), spoil_spoil]
def MapV.encR (m : MapV) : W8 := encC (encL wCo (encL wIs (encL wCa (encL wReR (encL wPa (encL wW (encL wP m.nums m.p) m.wa) m.pa) m.re) m.ca) m.is) m.co) m.ch
theorem MapV.encR_eq (m : MapV) : m.encR = m.enc.spoil (m.re.any badRe) := by
  unfold MapV.encR MapV.enc
  have e : ∀ s, encL wReR s m.re = (encL wRe s m.re).spoil (m.re.any badRe) := fun s => foldReR m.re _
  rw [e, spoil_encL (fun s b x => spoil_wCa s b x), spoil_encL (fun s b x => spoil_wIs s b x), spoil_encL (fun s b x => spoil_wCo s b x), spoil_encC]
theorem caMark (s : W8) (n : Int) (h0 : -9223372036854775808 ≤ n ∧ n ≤ 9223372036854775807) (h : n < -1 ∨ 65534 < n) : s.num (IntKind.i64.wrap (n + 1)) 2 = ⟨s.l, true⟩ := by
  have hf : fits (IntKind.i64.wrap (n + 1)) 2 = false := by
    have e : (8 * (2 : Int)).toNat = 16 := rfl
    have e2 : (2 : Int) ^ 16 = 65536 := by decide
    simp only [fits, e, e2, decide_eq_false_iff_not]
    rintro ⟨_, _, k1, k2⟩
    have k2 := k2 (by omega)
    by_cases hm : n = 9223372036854775807
    · subst hm
      have : IntKind.i64.wrap (9223372036854775807 + 1) = -9223372036854775808 := by decide
      rw [this] at k1; omega
    · rw [i64w _ (by omega) (by omega)] at k1 k2; omega
  simp [W8.num, hf]
theorem Sep.appByt {w0 w : World} {S : Nat → Prop} {M : List Res} (i : Nat) {v src : Value} {xs : List Int} (ys : List Int) {ty : TypeId} {K : Value → World → Prop} (h : Sep w0 S M w) (hi : M[i]? = some (byt v xs)) (hr : Rd w src ys) (hl : xs.length + ys.length ≤ 100000000)
    (hK : ∀ a c w', Sep w0 S (M.set i (byt (.slice a (xs ++ ys).length c) (xs ++ ys))) w' → K (.slice a (xs ++ ys).length c) w') : RunK Try.prog (Builtin.append_ #[22, 22] ty #[v, src]) w K := by
  obtain ⟨A, ⟨h1, rfl⟩, _, h3⟩ := h.at hi
  refine Go.Proofs.Ytnhgjgoglmadnaa.app h1 hr hl ?_
  intro a c w' ho hg hat
  rw [← List.length_append] at ho hat ⊢
  refine hK a c w' (h3 _ _ w' ⟨ho, rfl⟩ (fun x hx => ?_) (Chg.ofGrown hg) (fun _ f => f))
  rcases hat with e | e
  · exact .inl (by rw [← e]; exact hx)
  · rw [hx] at e; injection e with e; exact .inr (by omega)
theorem Tab.cell {s : Nat} {w : World} {b o i : Nat} {x : List Int} (h : cellsAt w b (o + i * s) s = some (cellsI x)) (j : Nat) (hj : j < x.length) : w.cell? ⟨b, o + i * s + j, none⟩ = some (.int .i64 x[j]) := (cellsAt_elim h).2 j _ (by simp [cellsI, hj])


set_option maxHeartbeats 4000000 in
theorem encode59 (m : MapV) (s : MapS) (w : World) (R : MapR w m s) (O : m.Ok) (hroom : m.room ≤ 800000) :
    Calls Try.prog 59 [.agg (m.cells s).toArray].toArray w (RetK fun r w' => ∃ N, Sep w (fun _ => False) N w' ∧ (∀ q ∈ N, ∀ x, ¬ q.rd x) ∧
      ∃ a c, r = .tuple #[.slice a m.bytes.length c, .bool (!m.fails)] ∧ N = [byt (.slice a m.bytes.length c) m.bytes]) := by
  unfold MapV.room at hroom
  have ons := O.ns
  simp only [Ok64, List.forall_mem_cons, List.not_mem_nil, false_implies, implies_true, and_true] at ons
  have h := Sep.nil w
  obtain ⟨sp, swa, spa, sre, sca, sis, sco, sch⟩ := s
  obtain ⟨ap, cp, rfl⟩ := R.p.shape
  have lp := R.p.len
  obtain ⟨awa, cwa, rfl⟩ := R.wa.shape
  have lwa := R.wa.len
  obtain ⟨apa, cpa, rfl⟩ := R.pa.shape
  have lpa := R.pa.len
  obtain ⟨are, cre, rfl⟩ := R.re.shape
  have lre := R.re.len
  obtain ⟨aca, cca, rfl⟩ := R.ca.shape
  have lca := R.ca.len
  obtain ⟨ais, cis, rfl⟩ := R.is.shape
  have lis := R.is.len
  obtain ⟨aco, cco, rfl⟩ := R.co.shape
  have lco := R.co.len
  obtain ⟨ach, cch, rfl⟩ := R.ch.shape
  have lch := R.ch.len
  simp only [maxLen] at lp lwa lpa lre lca lis lco lch
  have Rp : Tab 2 w _ _ := R.p
  have Rwa : Tab 5 w _ _ := R.wa
  have Rpa : Tab 2 w _ _ := R.pa
  have Rre : Tab 10 w _ _ := R.re
  have Rca : Tab 9 w _ _ := R.ca
  have Ris : Tab 3 w _ _ := R.is
  have Rco : Tab 3 w _ _ := R.co
  have Rch : Chn w _ _ := R.ch
  clear R
  dsimp only at Rp Rwa Rpa Rre Rca Ris Rco Rch
  refine walk Try.func59 rfl (by kernel_rfl) (by rw [Try.nt59]; simp) ?_
  (try simp only [nfD] at h); have F := h.facts; (try simp only [nfF, emp_fact, rds_fact, frm_fact, tab_fact] at F)
  simp -dsimp only [↓vcA, vcB, vcD, ↓pureT_lenS, ↓iteT, ↓iteF, cond_true, cond_false, eq_self, argE, Env.get, Env.push, ev, evs, evo, retV, Value.cells, Value.oneCell', setR, overR, fillL, zl, places, allSizes, heldC, ne_eq, Int.reduceLE, Int.reduceLT, Int.reduceEq, Int.reduceNe, Int.reduceToNat, Int.cast_ofNat_Int, Nat.reduceMul, Nat.reduceLeDiff, reduceIte, Nat.reduceEqDiff, Nat.reduceAdd, ↓reduceIte, Try.vcT]
  refine h.new ?_
  clear h F
  intro w1 b1 h
  simp only [MapV.cells] at h
  (try simp only [nfD] at h); have F := h.facts; (try simp only [nfF, emp_fact, rds_fact, frm_fact, tab_fact] at F); try simp -dsimp only [↓vcA, vcB, vcD, ↓pureT_lenS, ↓iteT, ↓iteF, cond_true, cond_false, eq_self, argE, Env.get, Env.push, ev, evs, evo, retV, Value.cells, Value.oneCell', setR, overR, fillL, zl, places, allSizes, heldC, ne_eq, Int.reduceLE, Int.reduceLT, Int.reduceEq, Int.reduceNe, Int.reduceToNat, Int.cast_ofNat_Int, Nat.reduceMul, Nat.reduceLeDiff, reduceIte, Nat.reduceEqDiff, Nat.reduceAdd, ↓reduceIte, Try.vcT, F, h.cell0, gets, vsD, if_true, if_false, Bool.false_eq_true]
  refine h.new ?_
  clear h F
  intro w3 p h
  have h := h.wrNew 1 rfl (by decide)
  (try simp only [nfD] at h); have F := h.facts; (try simp only [nfF, emp_fact, rds_fact, frm_fact, tab_fact] at F); try simp -dsimp only [↓vcA, vcB, vcD, ↓pureT_lenS, ↓iteT, ↓iteF, cond_true, cond_false, eq_self, argE, Env.get, Env.push, ev, evs, evo, retV, Value.cells, Value.oneCell', setR, overR, fillL, zl, places, allSizes, heldC, ne_eq, Int.reduceLE, Int.reduceLT, Int.reduceEq, Int.reduceNe, Int.reduceToNat, Int.cast_ofNat_Int, Nat.reduceMul, Nat.reduceLeDiff, reduceIte, Nat.reduceEqDiff, Nat.reduceAdd, ↓reduceIte, Try.vcT, F, h.cell0, gets, vsD, if_true, if_false, Bool.false_eq_true]
  repeat ((first | refine Sep.new h ?_ | refine Sep.put 0 h rfl ?_ | refine Sep.put 1 h rfl ?_ | refine Sep.put 2 h rfl ?_ | refine Sep.put 3 h rfl ?_ | refine Sep.put 4 h rfl ?_ | refine Sep.put 5 h rfl ?_ | refine Sep.rnum 1 h rfl (by omega) (by omega) (by omega) ?_); (clear F; (try clear h); intros; rename_i h; (try simp only [nfD] at h); have F := h.facts; (try simp only [nfF, emp_fact, rds_fact, frm_fact, tab_fact] at F); try simp -dsimp only [↓vcA, vcB, vcD, ↓pureT_lenS, ↓iteT, ↓iteF, cond_true, cond_false, eq_self, argE, Env.get, Env.push, ev, evs, evo, retV, Value.cells, Value.oneCell', setR, overR, fillL, zl, places, allSizes, heldC, ne_eq, Int.reduceLE, Int.reduceLT, Int.reduceEq, Int.reduceNe, Int.reduceToNat, Int.cast_ofNat_Int, Nat.reduceMul, Nat.reduceLeDiff, reduceIte, Nat.reduceEqDiff, Nat.reduceAdd, ↓reduceIte, Try.vcT, F, h.cell0, gets, vsD, if_true, if_false, Bool.false_eq_true]))
  refine walkLoop [1, 4] [5] (fun mm vs w' => ∃ i, i ≤ m.p.length ∧ mm = m.p.length - i ∧ vs = [.int .i64 i] ∧ Sep w (fun _ => False) [blk b1 96 [.int .i64 m.w, .int .i64 m.h, .int .i64 m.te, .int .i64 m.wi, .int .i64 m.mr, .int .i64 m.mb, .int .i64 m.ti, .slice ap m.p.length cp, .slice awa m.wa.length cwa, .slice apa m.pa.length cpa, .slice are m.re.length cre, .slice aca m.ca.length cca, .slice ais m.is.length cis, .slice aco m.co.length cco, .slice ach m.ch.length cch], wr 35 p ((m.p.take i).foldl wP ((m.nums).num m.p.length 2)) (0 + 8 + 8 + 8 + 8 + 8 + 8 + 8 + 8 + i * 16)] w') (by kernel_rfl) ?_ ?_
  · simp -dsimp only [↓vcA, vcB, vcD, ↓pureT_lenS, ↓iteT, ↓iteF, cond_true, cond_false, eq_self, argE, Env.get, Env.push, ev, evs, evo, retV, Value.cells, Value.oneCell', setR, overR, fillL, zl, places, allSizes, heldC, ne_eq, Int.reduceLE, Int.reduceLT, Int.reduceEq, Int.reduceNe, Int.reduceToNat, Int.cast_ofNat_Int, Nat.reduceMul, Nat.reduceLeDiff, reduceIte, Nat.reduceEqDiff, Nat.reduceAdd, ↓reduceIte, Try.vcT, gets]
    exact ⟨_, 0, Nat.zero_le _, rfl, rfl, by simpa [MapV.nums] using h⟩
  intro ks hk mm vs wz hi
  clear h F
  obtain ⟨i, hi, rfl, rfl, h⟩ := hi
  simp -dsimp only [gets, argE, List.zip_cons_cons, List.zip_nil_left, List.cons_append, List.nil_append, Env.get, Env.push, Option.bind_some, Option.map_some, Option.some.injEq, reduceIte, Nat.reduceEqDiff, Nat.reduceAdd, ↓reduceIte] at hk; subst hk
  by_cases hlt : (i : Int) < m.p.length
  case pos =>
    have hil : i < m.p.length := by omega
    have hfold : (m.p.take (i + 1)).foldl wP ((m.nums).num m.p.length 2) = wP ((m.p.take i).foldl wP ((m.nums).num m.p.length 2)) m.p[i] := by rw [List.take_succ_eq_append_getElem hil, List.foldl_append]; rfl
    obtain ⟨b, o, rfl, hcells⟩ := Rp.at hil (by decide)
    have hx := Rp.wid _ (List.getElem_mem hil)
    have ho := O.p _ (List.getElem_mem hil)
    generalize m.p[i] = x at *
    obtain ⟨a0, a1, rfl⟩ := len_2 hx
    simp only [Ok64, List.forall_mem_cons, List.not_mem_nil, false_implies, implies_true, and_true] at ho
    have ei : IntKind.i64.wrap ((i : Int) + 1) = ((i + 1 : Nat) : Int) := by rw [i64w _ (by omega) (by omega)]; omega
    have h0i : (0 : Int) ≤ i := by omega
    have k0 : w.cell? ⟨b, o + i * 2, none⟩ = some (.int .i64 a0) := Tab.cell hcells 0 (by simp)
    have k1 : w.cell? ⟨b, o + i * 2 + 1, none⟩ = some (.int .i64 a1) := Tab.cell hcells 1 (by simp)
    (try simp only [nfD] at h); have F := h.facts; (try simp only [nfF, emp_fact, rds_fact, frm_fact, tab_fact] at F); try simp -dsimp only [↓vcA, vcB, vcD, ↓pureT_lenS, ↓iteT, ↓iteF, cond_true, cond_false, eq_self, argE, Env.get, Env.push, ev, evs, evo, retV, Value.cells, Value.oneCell', setR, overR, fillL, zl, places, allSizes, heldC, ne_eq, Int.reduceLE, Int.reduceLT, Int.reduceEq, Int.reduceNe, Int.reduceToNat, Int.cast_ofNat_Int, Nat.reduceMul, Nat.reduceLeDiff, reduceIte, Nat.reduceEqDiff, Nat.reduceAdd, ↓reduceIte, Try.vcT, F, h.cell0, gets, vsD, if_true, if_false, Bool.false_eq_true,  hlt, h0i, decide_true, cellsAt, k0, k1, ei]
    repeat ((first | refine Sep.new h ?_ | refine Sep.put 0 h rfl ?_ | refine Sep.put 1 h rfl ?_ | refine Sep.put 2 h rfl ?_ | refine Sep.put 3 h rfl ?_ | refine Sep.put 4 h rfl ?_ | refine Sep.put 5 h rfl ?_ | refine Sep.rnum 1 h rfl (by omega) (by omega) (by omega) ?_ | refine Sep.rpoint 1 h rfl (by omega) (by omega) (by omega) (by omega) (by omega) ?_ | refine Sep.rtri 1 h rfl (by omega) (by simp only [Ok64, List.forall_mem_cons, List.not_mem_nil, false_implies, implies_true, and_true]; omega) ?_); (clear F; (try clear h); intros; rename_i h; (try simp only [nfD] at h); have F := h.facts; (try simp only [nfF, emp_fact, rds_fact, frm_fact, tab_fact] at F); try simp -dsimp only [↓vcA, vcB, vcD, ↓pureT_lenS, ↓iteT, ↓iteF, cond_true, cond_false, eq_self, argE, Env.get, Env.push, ev, evs, evo, retV, Value.cells, Value.oneCell', setR, overR, fillL, zl, places, allSizes, heldC, ne_eq, Int.reduceLE, Int.reduceLT, Int.reduceEq, Int.reduceNe, Int.reduceToNat, Int.cast_ofNat_Int, Nat.reduceMul, Nat.reduceLeDiff, reduceIte, Nat.reduceEqDiff, Nat.reduceAdd, ↓reduceIte, Try.vcT, F, h.cell0, gets, vsD, if_true, if_false, Bool.false_eq_true, hlt, h0i, decide_true, cellsAt, k0, k1, ei]))
    refine ⟨_, ?_, i + 1, by omega, rfl, rfl, ?_⟩
    · omega
    rw [hfold]
    exact h.wrMono' 1 _ rfl (by omega)
  have hil : i = m.p.length := by omega
  subst hil
  rw [List.take_of_length_le (Nat.le_refl _), show m.p.foldl wP ((m.nums).num m.p.length 2) = encL wP (m.nums) m.p from rfl] at h
  (try simp only [nfD] at h); have F := h.facts; (try simp only [nfF, emp_fact, rds_fact, frm_fact, tab_fact] at F); try simp -dsimp only [↓vcA, vcB, vcD, ↓pureT_lenS, ↓iteT, ↓iteF, cond_true, cond_false, eq_self, argE, Env.get, Env.push, ev, evs, evo, retV, Value.cells, Value.oneCell', setR, overR, fillL, zl, places, allSizes, heldC, ne_eq, Int.reduceLE, Int.reduceLT, Int.reduceEq, Int.reduceNe, Int.reduceToNat, Int.cast_ofNat_Int, Nat.reduceMul, Nat.reduceLeDiff, reduceIte, Nat.reduceEqDiff, Nat.reduceAdd, ↓reduceIte, Try.vcT, F, h.cell0, gets, vsD, if_true, if_false, Bool.false_eq_true,  decide_eq_false hlt]
  repeat ((first | refine Sep.new h ?_ | refine Sep.put 0 h rfl ?_ | refine Sep.put 1 h rfl ?_ | refine Sep.put 2 h rfl ?_ | refine Sep.put 3 h rfl ?_ | refine Sep.put 4 h rfl ?_ | refine Sep.put 5 h rfl ?_ | refine Sep.rnum 1 h rfl (by omega) (by omega) (by omega) ?_); (clear F; (try clear h); intros; rename_i h; (try simp only [nfD] at h); have F := h.facts; (try simp only [nfF, emp_fact, rds_fact, frm_fact, tab_fact] at F); try simp -dsimp only [↓vcA, vcB, vcD, ↓pureT_lenS, ↓iteT, ↓iteF, cond_true, cond_false, eq_self, argE, Env.get, Env.push, ev, evs, evo, retV, Value.cells, Value.oneCell', setR, overR, fillL, zl, places, allSizes, heldC, ne_eq, Int.reduceLE, Int.reduceLT, Int.reduceEq, Int.reduceNe, Int.reduceToNat, Int.cast_ofNat_Int, Nat.reduceMul, Nat.reduceLeDiff, reduceIte, Nat.reduceEqDiff, Nat.reduceAdd, ↓reduceIte, Try.vcT, F, h.cell0, gets, vsD, if_true, if_false, Bool.false_eq_true]))
  refine walkLoop [1, 4] [6] (fun mm vs w' => ∃ i, i ≤ m.wa.length ∧ mm = m.wa.length - i ∧ vs = [.int .i64 i] ∧ Sep w (fun _ => False) [blk b1 96 [.int .i64 m.w, .int .i64 m.h, .int .i64 m.te, .int .i64 m.wi, .int .i64 m.mr, .int .i64 m.mb, .int .i64 m.ti, .slice ap m.p.length cp, .slice awa m.wa.length cwa, .slice apa m.pa.length cpa, .slice are m.re.length cre, .slice aca m.ca.length cca, .slice ais m.is.length cis, .slice aco m.co.length cco, .slice ach m.ch.length cch], wr 35 p ((m.wa.take i).foldl wW ((encL wP (m.nums) m.p).num m.wa.length 2)) (0 + 8 + 8 + 8 + 8 + 8 + 8 + 8 + 8 + m.p.length * 16 + 8 + i * 40)] w') (by kernel_rfl) ?_ ?_
  · simp -dsimp only [↓vcA, vcB, vcD, ↓pureT_lenS, ↓iteT, ↓iteF, cond_true, cond_false, eq_self, argE, Env.get, Env.push, ev, evs, evo, retV, Value.cells, Value.oneCell', setR, overR, fillL, zl, places, allSizes, heldC, ne_eq, Int.reduceLE, Int.reduceLT, Int.reduceEq, Int.reduceNe, Int.reduceToNat, Int.cast_ofNat_Int, Nat.reduceMul, Nat.reduceLeDiff, reduceIte, Nat.reduceEqDiff, Nat.reduceAdd, ↓reduceIte, Try.vcT, gets]
    exact ⟨_, 0, Nat.zero_le _, rfl, rfl, by simpa [MapV.nums] using h⟩
  intro ks hk mm vs wz hi
  clear h F
  obtain ⟨i, hi, rfl, rfl, h⟩ := hi
  simp -dsimp only [gets, argE, List.zip_cons_cons, List.zip_nil_left, List.cons_append, List.nil_append, Env.get, Env.push, Option.bind_some, Option.map_some, Option.some.injEq, reduceIte, Nat.reduceEqDiff, Nat.reduceAdd, ↓reduceIte] at hk; subst hk
  by_cases hlt : (i : Int) < m.wa.length
  case pos =>
    have hil : i < m.wa.length := by omega
    have hfold : (m.wa.take (i + 1)).foldl wW ((encL wP (m.nums) m.p).num m.wa.length 2) = wW ((m.wa.take i).foldl wW ((encL wP (m.nums) m.p).num m.wa.length 2)) m.wa[i] := by rw [List.take_succ_eq_append_getElem hil, List.foldl_append]; rfl
    obtain ⟨b, o, rfl, hcells⟩ := Rwa.at hil (by decide)
    have hx := Rwa.wid _ (List.getElem_mem hil)
    have ho := O.wa _ (List.getElem_mem hil)
    generalize m.wa[i] = x at *
    obtain ⟨a0, a1, a2, a3, a4, rfl⟩ := len_5 hx
    simp only [Ok64, List.forall_mem_cons, List.not_mem_nil, false_implies, implies_true, and_true] at ho
    have ei : IntKind.i64.wrap ((i : Int) + 1) = ((i + 1 : Nat) : Int) := by rw [i64w _ (by omega) (by omega)]; omega
    have h0i : (0 : Int) ≤ i := by omega
    have k0 : w.cell? ⟨b, o + i * 5, none⟩ = some (.int .i64 a0) := Tab.cell hcells 0 (by simp)
    have k1 : w.cell? ⟨b, o + i * 5 + 1, none⟩ = some (.int .i64 a1) := Tab.cell hcells 1 (by simp)
    have k2 : w.cell? ⟨b, o + i * 5 + 2, none⟩ = some (.int .i64 a2) := Tab.cell hcells 2 (by simp)
    have k3 : w.cell? ⟨b, o + i * 5 + 3, none⟩ = some (.int .i64 a3) := Tab.cell hcells 3 (by simp)
    have kk3 : w.cell? ⟨b, o + i * 5 + 2 + 1, none⟩ = some (.int .i64 a3) := k3
    have k4 : w.cell? ⟨b, o + i * 5 + 4, none⟩ = some (.int .i64 a4) := Tab.cell hcells 4 (by simp)
    (try simp only [nfD] at h); have F := h.facts; (try simp only [nfF, emp_fact, rds_fact, frm_fact, tab_fact] at F); try simp -dsimp only [↓vcA, vcB, vcD, ↓pureT_lenS, ↓iteT, ↓iteF, cond_true, cond_false, eq_self, argE, Env.get, Env.push, ev, evs, evo, retV, Value.cells, Value.oneCell', setR, overR, fillL, zl, places, allSizes, heldC, ne_eq, Int.reduceLE, Int.reduceLT, Int.reduceEq, Int.reduceNe, Int.reduceToNat, Int.cast_ofNat_Int, Nat.reduceMul, Nat.reduceLeDiff, reduceIte, Nat.reduceEqDiff, Nat.reduceAdd, ↓reduceIte, Try.vcT, F, h.cell0, gets, vsD, if_true, if_false, Bool.false_eq_true,  hlt, h0i, decide_true, cellsAt, k0, k1, k2, k3, k4, kk3, ei]
    repeat ((first | refine Sep.new h ?_ | refine Sep.put 0 h rfl ?_ | refine Sep.put 1 h rfl ?_ | refine Sep.put 2 h rfl ?_ | refine Sep.put 3 h rfl ?_ | refine Sep.put 4 h rfl ?_ | refine Sep.put 5 h rfl ?_ | refine Sep.rnum 1 h rfl (by omega) (by omega) (by omega) ?_ | refine Sep.rpoint 1 h rfl (by omega) (by omega) (by omega) (by omega) (by omega) ?_ | refine Sep.rtri 1 h rfl (by omega) (by simp only [Ok64, List.forall_mem_cons, List.not_mem_nil, false_implies, implies_true, and_true]; omega) ?_); (clear F; (try clear h); intros; rename_i h; (try simp only [nfD] at h); have F := h.facts; (try simp only [nfF, emp_fact, rds_fact, frm_fact, tab_fact] at F); try simp -dsimp only [↓vcA, vcB, vcD, ↓pureT_lenS, ↓iteT, ↓iteF, cond_true, cond_false, eq_self, argE, Env.get, Env.push, ev, evs, evo, retV, Value.cells, Value.oneCell', setR, overR, fillL, zl, places, allSizes, heldC, ne_eq, Int.reduceLE, Int.reduceLT, Int.reduceEq, Int.reduceNe, Int.reduceToNat, Int.cast_ofNat_Int, Nat.reduceMul, Nat.reduceLeDiff, reduceIte, Nat.reduceEqDiff, Nat.reduceAdd, ↓reduceIte, Try.vcT, F, h.cell0, gets, vsD, if_true, if_false, Bool.false_eq_true, hlt, h0i, decide_true, cellsAt, k0, k1, k2, k3, k4, kk3, ei]))
    refine ⟨_, ?_, i + 1, by omega, rfl, rfl, ?_⟩
    · omega
    rw [hfold]
    exact h.wrMono' 1 _ rfl (by omega)
  have hil : i = m.wa.length := by omega
  subst hil
  rw [List.take_of_length_le (Nat.le_refl _), show m.wa.foldl wW ((encL wP (m.nums) m.p).num m.wa.length 2) = encL wW (encL wP (m.nums) m.p) m.wa from rfl] at h
  (try simp only [nfD] at h); have F := h.facts; (try simp only [nfF, emp_fact, rds_fact, frm_fact, tab_fact] at F); try simp -dsimp only [↓vcA, vcB, vcD, ↓pureT_lenS, ↓iteT, ↓iteF, cond_true, cond_false, eq_self, argE, Env.get, Env.push, ev, evs, evo, retV, Value.cells, Value.oneCell', setR, overR, fillL, zl, places, allSizes, heldC, ne_eq, Int.reduceLE, Int.reduceLT, Int.reduceEq, Int.reduceNe, Int.reduceToNat, Int.cast_ofNat_Int, Nat.reduceMul, Nat.reduceLeDiff, reduceIte, Nat.reduceEqDiff, Nat.reduceAdd, ↓reduceIte, Try.vcT, F, h.cell0, gets, vsD, if_true, if_false, Bool.false_eq_true,  decide_eq_false hlt]
  repeat ((first | refine Sep.new h ?_ | refine Sep.put 0 h rfl ?_ | refine Sep.put 1 h rfl ?_ | refine Sep.put 2 h rfl ?_ | refine Sep.put 3 h rfl ?_ | refine Sep.put 4 h rfl ?_ | refine Sep.put 5 h rfl ?_ | refine Sep.rnum 1 h rfl (by omega) (by omega) (by omega) ?_); (clear F; (try clear h); intros; rename_i h; (try simp only [nfD] at h); have F := h.facts; (try simp only [nfF, emp_fact, rds_fact, frm_fact, tab_fact] at F); try simp -dsimp only [↓vcA, vcB, vcD, ↓pureT_lenS, ↓iteT, ↓iteF, cond_true, cond_false, eq_self, argE, Env.get, Env.push, ev, evs, evo, retV, Value.cells, Value.oneCell', setR, overR, fillL, zl, places, allSizes, heldC, ne_eq, Int.reduceLE, Int.reduceLT, Int.reduceEq, Int.reduceNe, Int.reduceToNat, Int.cast_ofNat_Int, Nat.reduceMul, Nat.reduceLeDiff, reduceIte, Nat.reduceEqDiff, Nat.reduceAdd, ↓reduceIte, Try.vcT, F, h.cell0, gets, vsD, if_true, if_false, Bool.false_eq_true]))
  refine walkLoop [1, 4] [7] (fun mm vs w' => ∃ i, i ≤ m.pa.length ∧ mm = m.pa.length - i ∧ vs = [.int .i64 i] ∧ Sep w (fun _ => False) [blk b1 96 [.int .i64 m.w, .int .i64 m.h, .int .i64 m.te, .int .i64 m.wi, .int .i64 m.mr, .int .i64 m.mb, .int .i64 m.ti, .slice ap m.p.length cp, .slice awa m.wa.length cwa, .slice apa m.pa.length cpa, .slice are m.re.length cre, .slice aca m.ca.length cca, .slice ais m.is.length cis, .slice aco m.co.length cco, .slice ach m.ch.length cch], wr 35 p ((m.pa.take i).foldl wPa ((encL wW (encL wP (m.nums) m.p) m.wa).num m.pa.length 2)) (0 + 8 + 8 + 8 + 8 + 8 + 8 + 8 + 8 + m.p.length * 16 + 8 + m.wa.length * 40 + 8 + i * 16)] w') (by kernel_rfl) ?_ ?_
  · simp -dsimp only [↓vcA, vcB, vcD, ↓pureT_lenS, ↓iteT, ↓iteF, cond_true, cond_false, eq_self, argE, Env.get, Env.push, ev, evs, evo, retV, Value.cells, Value.oneCell', setR, overR, fillL, zl, places, allSizes, heldC, ne_eq, Int.reduceLE, Int.reduceLT, Int.reduceEq, Int.reduceNe, Int.reduceToNat, Int.cast_ofNat_Int, Nat.reduceMul, Nat.reduceLeDiff, reduceIte, Nat.reduceEqDiff, Nat.reduceAdd, ↓reduceIte, Try.vcT, gets]
    exact ⟨_, 0, Nat.zero_le _, rfl, rfl, by simpa [MapV.nums] using h⟩
  intro ks hk mm vs wz hi
  clear h F
  obtain ⟨i, hi, rfl, rfl, h⟩ := hi
  simp -dsimp only [gets, argE, List.zip_cons_cons, List.zip_nil_left, List.cons_append, List.nil_append, Env.get, Env.push, Option.bind_some, Option.map_some, Option.some.injEq, reduceIte, Nat.reduceEqDiff, Nat.reduceAdd, ↓reduceIte] at hk; subst hk
  by_cases hlt : (i : Int) < m.pa.length
  case pos =>
    have hil : i < m.pa.length := by omega
    have hfold : (m.pa.take (i + 1)).foldl wPa ((encL wW (encL wP (m.nums) m.p) m.wa).num m.pa.length 2) = wPa ((m.pa.take i).foldl wPa ((encL wW (encL wP (m.nums) m.p) m.wa).num m.pa.length 2)) m.pa[i] := by rw [List.take_succ_eq_append_getElem hil, List.foldl_append]; rfl
    obtain ⟨b, o, rfl, hcells⟩ := Rpa.at hil (by decide)
    have hx := Rpa.wid _ (List.getElem_mem hil)
    have ho := O.pa _ (List.getElem_mem hil)
    generalize m.pa[i] = x at *
    obtain ⟨a0, a1, rfl⟩ := len_2 hx
    simp only [Ok64, List.forall_mem_cons, List.not_mem_nil, false_implies, implies_true, and_true] at ho
    have ei : IntKind.i64.wrap ((i : Int) + 1) = ((i + 1 : Nat) : Int) := by rw [i64w _ (by omega) (by omega)]; omega
    have h0i : (0 : Int) ≤ i := by omega
    have k0 : w.cell? ⟨b, o + i * 2, none⟩ = some (.int .i64 a0) := Tab.cell hcells 0 (by simp)
    have k1 : w.cell? ⟨b, o + i * 2 + 1, none⟩ = some (.int .i64 a1) := Tab.cell hcells 1 (by simp)
    (try simp only [nfD] at h); have F := h.facts; (try simp only [nfF, emp_fact, rds_fact, frm_fact, tab_fact] at F); try simp -dsimp only [↓vcA, vcB, vcD, ↓pureT_lenS, ↓iteT, ↓iteF, cond_true, cond_false, eq_self, argE, Env.get, Env.push, ev, evs, evo, retV, Value.cells, Value.oneCell', setR, overR, fillL, zl, places, allSizes, heldC, ne_eq, Int.reduceLE, Int.reduceLT, Int.reduceEq, Int.reduceNe, Int.reduceToNat, Int.cast_ofNat_Int, Nat.reduceMul, Nat.reduceLeDiff, reduceIte, Nat.reduceEqDiff, Nat.reduceAdd, ↓reduceIte, Try.vcT, F, h.cell0, gets, vsD, if_true, if_false, Bool.false_eq_true,  hlt, h0i, decide_true, cellsAt, k0, k1, ei]
    repeat ((first | refine Sep.new h ?_ | refine Sep.put 0 h rfl ?_ | refine Sep.put 1 h rfl ?_ | refine Sep.put 2 h rfl ?_ | refine Sep.put 3 h rfl ?_ | refine Sep.put 4 h rfl ?_ | refine Sep.put 5 h rfl ?_ | refine Sep.rnum 1 h rfl (by omega) (by omega) (by omega) ?_ | refine Sep.rpoint 1 h rfl (by omega) (by omega) (by omega) (by omega) (by omega) ?_ | refine Sep.rtri 1 h rfl (by omega) (by simp only [Ok64, List.forall_mem_cons, List.not_mem_nil, false_implies, implies_true, and_true]; omega) ?_); (clear F; (try clear h); intros; rename_i h; (try simp only [nfD] at h); have F := h.facts; (try simp only [nfF, emp_fact, rds_fact, frm_fact, tab_fact] at F); try simp -dsimp only [↓vcA, vcB, vcD, ↓pureT_lenS, ↓iteT, ↓iteF, cond_true, cond_false, eq_self, argE, Env.get, Env.push, ev, evs, evo, retV, Value.cells, Value.oneCell', setR, overR, fillL, zl, places, allSizes, heldC, ne_eq, Int.reduceLE, Int.reduceLT, Int.reduceEq, Int.reduceNe, Int.reduceToNat, Int.cast_ofNat_Int, Nat.reduceMul, Nat.reduceLeDiff, reduceIte, Nat.reduceEqDiff, Nat.reduceAdd, ↓reduceIte, Try.vcT, F, h.cell0, gets, vsD, if_true, if_false, Bool.false_eq_true, hlt, h0i, decide_true, cellsAt, k0, k1, ei]))
    refine ⟨_, ?_, i + 1, by omega, rfl, rfl, ?_⟩
    · omega
    rw [hfold]
    exact h.wrMono' 1 _ rfl (by omega)
  have hil : i = m.pa.length := by omega
  subst hil
  rw [List.take_of_length_le (Nat.le_refl _), show m.pa.foldl wPa ((encL wW (encL wP (m.nums) m.p) m.wa).num m.pa.length 2) = encL wPa (encL wW (encL wP (m.nums) m.p) m.wa) m.pa from rfl] at h
  (try simp only [nfD] at h); have F := h.facts; (try simp only [nfF, emp_fact, rds_fact, frm_fact, tab_fact] at F); try simp -dsimp only [↓vcA, vcB, vcD, ↓pureT_lenS, ↓iteT, ↓iteF, cond_true, cond_false, eq_self, argE, Env.get, Env.push, ev, evs, evo, retV, Value.cells, Value.oneCell', setR, overR, fillL, zl, places, allSizes, heldC, ne_eq, Int.reduceLE, Int.reduceLT, Int.reduceEq, Int.reduceNe, Int.reduceToNat, Int.cast_ofNat_Int, Nat.reduceMul, Nat.reduceLeDiff, reduceIte, Nat.reduceEqDiff, Nat.reduceAdd, ↓reduceIte, Try.vcT, F, h.cell0, gets, vsD, if_true, if_false, Bool.false_eq_true,  decide_eq_false hlt]
  repeat ((first | refine Sep.new h ?_ | refine Sep.put 0 h rfl ?_ | refine Sep.put 1 h rfl ?_ | refine Sep.put 2 h rfl ?_ | refine Sep.put 3 h rfl ?_ | refine Sep.put 4 h rfl ?_ | refine Sep.put 5 h rfl ?_ | refine Sep.rnum 1 h rfl (by omega) (by omega) (by omega) ?_); (clear F; (try clear h); intros; rename_i h; (try simp only [nfD] at h); have F := h.facts; (try simp only [nfF, emp_fact, rds_fact, frm_fact, tab_fact] at F); try simp -dsimp only [↓vcA, vcB, vcD, ↓pureT_lenS, ↓iteT, ↓iteF, cond_true, cond_false, eq_self, argE, Env.get, Env.push, ev, evs, evo, retV, Value.cells, Value.oneCell', setR, overR, fillL, zl, places, allSizes, heldC, ne_eq, Int.reduceLE, Int.reduceLT, Int.reduceEq, Int.reduceNe, Int.reduceToNat, Int.cast_ofNat_Int, Nat.reduceMul, Nat.reduceLeDiff, reduceIte, Nat.reduceEqDiff, Nat.reduceAdd, ↓reduceIte, Try.vcT, F, h.cell0, gets, vsD, if_true, if_false, Bool.false_eq_true]))
  refine walkLoop [1, 4] [8] (fun mm vs w' => ∃ i, i ≤ m.re.length ∧ mm = m.re.length - i ∧ vs = [.int .i64 i] ∧ Sep w (fun _ => False) [blk b1 96 [.int .i64 m.w, .int .i64 m.h, .int .i64 m.te, .int .i64 m.wi, .int .i64 m.mr, .int .i64 m.mb, .int .i64 m.ti, .slice ap m.p.length cp, .slice awa m.wa.length cwa, .slice apa m.pa.length cpa, .slice are m.re.length cre, .slice aca m.ca.length cca, .slice ais m.is.length cis, .slice aco m.co.length cco, .slice ach m.ch.length cch], wr 35 p ((m.re.take i).foldl wReR ((encL wPa (encL wW (encL wP (m.nums) m.p) m.wa) m.pa).num m.re.length 2)) (0 + 8 + 8 + 8 + 8 + 8 + 8 + 8 + 8 + m.p.length * 16 + 8 + m.wa.length * 40 + 8 + m.pa.length * 16 + 8 + i * 80)] w') (by kernel_rfl) ?_ ?_
  · simp -dsimp only [↓vcA, vcB, vcD, ↓pureT_lenS, ↓iteT, ↓iteF, cond_true, cond_false, eq_self, argE, Env.get, Env.push, ev, evs, evo, retV, Value.cells, Value.oneCell', setR, overR, fillL, zl, places, allSizes, heldC, ne_eq, Int.reduceLE, Int.reduceLT, Int.reduceEq, Int.reduceNe, Int.reduceToNat, Int.cast_ofNat_Int, Nat.reduceMul, Nat.reduceLeDiff, reduceIte, Nat.reduceEqDiff, Nat.reduceAdd, ↓reduceIte, Try.vcT, gets]
    exact ⟨_, 0, Nat.zero_le _, rfl, rfl, by simpa [MapV.nums] using h⟩
  intro ks hk mm vs wz hi
  clear h F
  obtain ⟨i, hi, rfl, rfl, h⟩ := hi
  simp -dsimp only [gets, argE, List.zip_cons_cons, List.zip_nil_left, List.cons_append, List.nil_append, Env.get, Env.push, Option.bind_some, Option.map_some, Option.some.injEq, reduceIte, Nat.reduceEqDiff, Nat.reduceAdd, ↓reduceIte] at hk; subst hk
  by_cases hlt : (i : Int) < m.re.length
  case pos =>
    have hil : i < m.re.length := by omega
    have hfold : (m.re.take (i + 1)).foldl wReR ((encL wPa (encL wW (encL wP (m.nums) m.p) m.wa) m.pa).num m.re.length 2) = wReR ((m.re.take i).foldl wReR ((encL wPa (encL wW (encL wP (m.nums) m.p) m.wa) m.pa).num m.re.length 2)) m.re[i] := by rw [List.take_succ_eq_append_getElem hil, List.foldl_append]; rfl
    obtain ⟨b, o, rfl, hcells⟩ := Rre.at hil (by decide)
    have hx := Rre.wid _ (List.getElem_mem hil)
    have ho := O.re _ (List.getElem_mem hil)
    generalize m.re[i] = x at *
    obtain ⟨a0, a1, a2, a3, a4, a5, a6, a7, a8, a9, rfl⟩ := len_10 hx
    simp only [Ok64, List.forall_mem_cons, List.not_mem_nil, false_implies, implies_true, and_true] at ho
    have ei : IntKind.i64.wrap ((i : Int) + 1) = ((i + 1 : Nat) : Int) := by rw [i64w _ (by omega) (by omega)]; omega
    have h0i : (0 : Int) ≤ i := by omega
    have k0 : w.cell? ⟨b, o + i * 10, none⟩ = some (.int .i64 a0) := Tab.cell hcells 0 (by simp)
    have k1 : w.cell? ⟨b, o + i * 10 + 1, none⟩ = some (.int .i64 a1) := Tab.cell hcells 1 (by simp)
    have k2 : w.cell? ⟨b, o + i * 10 + 2, none⟩ = some (.int .i64 a2) := Tab.cell hcells 2 (by simp)
    have k3 : w.cell? ⟨b, o + i * 10 + 3, none⟩ = some (.int .i64 a3) := Tab.cell hcells 3 (by simp)
    have k4 : w.cell? ⟨b, o + i * 10 + 4, none⟩ = some (.int .i64 a4) := Tab.cell hcells 4 (by simp)
    have k5 : w.cell? ⟨b, o + i * 10 + 5, none⟩ = some (.int .i64 a5) := Tab.cell hcells 5 (by simp)
    have k6 : w.cell? ⟨b, o + i * 10 + 6, none⟩ = some (.int .i64 a6) := Tab.cell hcells 6 (by simp)
    have k7 : w.cell? ⟨b, o + i * 10 + 7, none⟩ = some (.int .i64 a7) := Tab.cell hcells 7 (by simp)
    have k8 : w.cell? ⟨b, o + i * 10 + 8, none⟩ = some (.int .i64 a8) := Tab.cell hcells 8 (by simp)
    have k9 : w.cell? ⟨b, o + i * 10 + 9, none⟩ = some (.int .i64 a9) := Tab.cell hcells 9 (by simp)
    have hcw : cellsAt wz b (o + i * 10) 10 = some (cellsI [a0, a1, a2, a3, a4, a5, a6, a7, a8, a9]) := by
      obtain ⟨hl, hat⟩ := cellsAt_elim hcells
      have := cellsAt_of (w := wz) (b := b) (o := o + i * 10) (cellsI [a0, a1, a2, a3, a4, a5, a6, a7, a8, a9]) (fun j u hj => by
        have := hat j u hj
        rw [h.cell0 (by rw [this]; rfl) id, this])
      simpa [cellsI] using this
    (try simp only [nfD] at h); have F := h.facts; (try simp only [nfF, emp_fact, rds_fact, frm_fact, tab_fact] at F); try simp -dsimp only [↓vcA, vcB, vcD, ↓pureT_lenS, ↓iteT, ↓iteF, cond_true, cond_false, eq_self, argE, Env.get, Env.push, ev, evs, evo, retV, Value.cells, Value.oneCell', setR, overR, fillL, zl, places, allSizes, heldC, ne_eq, Int.reduceLE, Int.reduceLT, Int.reduceEq, Int.reduceNe, Int.reduceToNat, Int.cast_ofNat_Int, Nat.reduceMul, Nat.reduceLeDiff, reduceIte, Nat.reduceEqDiff, Nat.reduceAdd, ↓reduceIte, Try.vcT, F, h.cell0, gets, vsD, if_true, if_false, Bool.false_eq_true,  hlt, h0i, decide_true, hcw, cellsI]
    repeat ((first | refine Sep.new h ?_ | refine Sep.put 0 h rfl ?_ | refine Sep.put 1 h rfl ?_ | refine Sep.put 2 h rfl ?_ | refine Sep.put 3 h rfl ?_ | refine Sep.put 4 h rfl ?_ | refine Sep.put 5 h rfl ?_ | refine Sep.rnum 1 h rfl (by omega) (by omega) (by omega) ?_ | refine Sep.rpoint 1 h rfl (by omega) (by omega) (by omega) (by omega) (by omega) ?_ | refine Sep.rtri 1 h rfl (by omega) (by simp only [Ok64, List.forall_mem_cons, List.not_mem_nil, false_implies, implies_true, and_true]; omega) ?_); (clear F; (try clear h); intros; rename_i h; (try simp only [nfD] at h); have F := h.facts; (try simp only [nfF, emp_fact, rds_fact, frm_fact, tab_fact] at F); try simp -dsimp only [↓vcA, vcB, vcD, ↓pureT_lenS, ↓iteT, ↓iteF, cond_true, cond_false, eq_self, argE, Env.get, Env.push, ev, evs, evo, retV, Value.cells, Value.oneCell', setR, overR, fillL, zl, places, allSizes, heldC, ne_eq, Int.reduceLE, Int.reduceLT, Int.reduceEq, Int.reduceNe, Int.reduceToNat, Int.cast_ofNat_Int, Nat.reduceMul, Nat.reduceLeDiff, reduceIte, Nat.reduceEqDiff, Nat.reduceAdd, ↓reduceIte, Try.vcT, F, h.cell0, gets, vsD, if_true, if_false, Bool.false_eq_true, cellsAt]))
    obtain ⟨a9', c9, h, hlen⟩ := h.wrOpen 1 rfl
    have eE : wReR ((m.re.take i).foldl wReR ((encL wPa (encL wW (encL wP (m.nums) m.p) m.wa) m.pa).num m.re.length 2)) [a0, a1, a2, a3, a4, a5, a6, a7, a8, a9] = ⟨(wRe ((m.re.take i).foldl wReR ((encL wPa (encL wW (encL wP (m.nums) m.p) m.wa) m.pa).num m.re.length 2)) [a0, a1, a2, a3, a4, a5, a6, a7, a8, a9]).l, (wRe ((m.re.take i).foldl wReR ((encL wPa (encL wW (encL wP (m.nums) m.p) m.wa) m.pa).num m.re.length 2)) [a0, a1, a2, a3, a4, a5, a6, a7, a8, a9]).bad || badRe [a0, a1, a2, a3, a4, a5, a6, a7, a8, a9]⟩ := rfl
    rw [eE] at hfold
    have eW : wRe ((m.re.take i).foldl wReR ((encL wPa (encL wW (encL wP (m.nums) m.p) m.wa) m.pa).num m.re.length 2)) [a0, a1, a2, a3, a4, a5, a6, a7, a8, a9] = ((((((m.re.take i).foldl wReR ((encL wPa (encL wW (encL wP (m.nums) m.p) m.wa) m.pa).num m.re.length 2)).num a0 1).num a1 2).num a2 1).num a3 1).tri a4 a5 a6 a7 a8 a9 := rfl
    rw [eW] at hfold
    generalize ((((((m.re.take i).foldl wReR ((encL wPa (encL wW (encL wP (m.nums) m.p) m.wa) m.pa).num m.re.length 2)).num a0 1).num a1 2).num a2 1).num a3 1).tri a4 a5 a6 a7 a8 a9 = E at *
    obtain ⟨El, Eb⟩ := E
    cases Eb with
    | true =>
      (try simp only [nfD] at h); have F := h.facts; (try simp only [nfF, emp_fact, rds_fact, frm_fact, tab_fact] at F); try simp -dsimp only [↓vcA, vcB, vcD, ↓pureT_lenS, ↓iteT, ↓iteF, cond_true, cond_false, eq_self, argE, Env.get, Env.push, ev, evs, evo, retV, Value.cells, Value.oneCell', setR, overR, fillL, zl, places, allSizes, heldC, ne_eq, Int.reduceLE, Int.reduceLT, Int.reduceEq, Int.reduceNe, Int.reduceToNat, Int.cast_ofNat_Int, Nat.reduceMul, Nat.reduceLeDiff, reduceIte, Nat.reduceEqDiff, Nat.reduceAdd, ↓reduceIte, Try.vcT, F, h.cell0, gets, vsD, if_true, if_false, Bool.false_eq_true,  cellsAt, ei]
      repeat ((first | refine Sep.new h ?_ | refine Sep.put 0 h rfl ?_ | refine Sep.put 1 h rfl ?_ | refine Sep.put 2 h rfl ?_ | refine Sep.put 3 h rfl ?_ | refine Sep.put 4 h rfl ?_ | refine Sep.put 5 h rfl ?_); (clear F; (try clear h); intros; rename_i h; (try simp only [nfD] at h); have F := h.facts; (try simp only [nfF, emp_fact, rds_fact, frm_fact, tab_fact] at F); try simp -dsimp only [↓vcA, vcB, vcD, ↓pureT_lenS, ↓iteT, ↓iteF, cond_true, cond_false, eq_self, argE, Env.get, Env.push, ev, evs, evo, retV, Value.cells, Value.oneCell', setR, overR, fillL, zl, places, allSizes, heldC, ne_eq, Int.reduceLE, Int.reduceLT, Int.reduceEq, Int.reduceNe, Int.reduceToNat, Int.cast_ofNat_Int, Nat.reduceMul, Nat.reduceLeDiff, reduceIte, Nat.reduceEqDiff, Nat.reduceAdd, ↓reduceIte, Try.vcT, F, h.cell0, gets, vsD, if_true, if_false, Bool.false_eq_true, cellsAt, ei]))
      have h := ((h.wrClose 1 3 (0 + 8 + 8 + 8 + 8 + 8 + 8 + 8 + 8 + m.p.length * 16 + 8 + m.wa.length * 40 + 8 + m.pa.length * 16 + 8 + (i + 1) * 80) rfl rfl (by decide) (by simp only at hlen; omega)).erase 3).erase 2
      refine ⟨_, ?_, i + 1, by omega, rfl, rfl, ?_⟩
      · omega
      rw [hfold]
      exact h
    | false =>
      (try simp only [nfD] at h); have F := h.facts; (try simp only [nfF, emp_fact, rds_fact, frm_fact, tab_fact] at F); try simp -dsimp only [↓vcA, vcB, vcD, ↓pureT_lenS, ↓iteT, ↓iteF, cond_true, cond_false, eq_self, argE, Env.get, Env.push, ev, evs, evo, retV, Value.cells, Value.oneCell', setR, overR, fillL, zl, places, allSizes, heldC, ne_eq, Int.reduceLE, Int.reduceLT, Int.reduceEq, Int.reduceNe, Int.reduceToNat, Int.cast_ofNat_Int, Nat.reduceMul, Nat.reduceLeDiff, reduceIte, Nat.reduceEqDiff, Nat.reduceAdd, ↓reduceIte, Try.vcT, F, h.cell0, gets, vsD, if_true, if_false, Bool.false_eq_true,  cellsAt, ei]
      repeat ((first | refine Sep.new h ?_ | refine Sep.put 0 h rfl ?_ | refine Sep.put 1 h rfl ?_ | refine Sep.put 2 h rfl ?_ | refine Sep.put 3 h rfl ?_ | refine Sep.put 4 h rfl ?_ | refine Sep.put 5 h rfl ?_ | refine Sep.callp h (validTri ⟨a4, a5, a6, a7, a8, a9⟩ _) ?_); (clear F; (try clear h); intros; rename_i h; (try simp only [nfD] at h); have F := h.facts; (try simp only [nfF, emp_fact, rds_fact, frm_fact, tab_fact] at F); try simp -dsimp only [↓vcA, vcB, vcD, ↓pureT_lenS, ↓iteT, ↓iteF, cond_true, cond_false, eq_self, argE, Env.get, Env.push, ev, evs, evo, retV, Value.cells, Value.oneCell', setR, overR, fillL, zl, places, allSizes, heldC, ne_eq, Int.reduceLE, Int.reduceLT, Int.reduceEq, Int.reduceNe, Int.reduceToNat, Int.cast_ofNat_Int, Nat.reduceMul, Nat.reduceLeDiff, reduceIte, Nat.reduceEqDiff, Nat.reduceAdd, ↓reduceIte, Try.vcT, F, h.cell0, gets, vsD, if_true, if_false, Bool.false_eq_true, cellsAt, ei]))
      have h := ((h.wrClose 1 3 (0 + 8 + 8 + 8 + 8 + 8 + 8 + 8 + 8 + m.p.length * 16 + 8 + m.wa.length * 40 + 8 + m.pa.length * 16 + 8 + (i + 1) * 80) rfl rfl (by decide) (by simp only at hlen; omega)).erase 3).erase 2
      refine ⟨_, ?_, i + 1, by omega, rfl, rfl, ?_⟩
      · omega
      rw [hfold]
      exact h
  have hil : i = m.re.length := by omega
  subst hil
  rw [List.take_of_length_le (Nat.le_refl _), show m.re.foldl wReR ((encL wPa (encL wW (encL wP (m.nums) m.p) m.wa) m.pa).num m.re.length 2) = encL wReR (encL wPa (encL wW (encL wP (m.nums) m.p) m.wa) m.pa) m.re from rfl] at h
  (try simp only [nfD] at h); have F := h.facts; (try simp only [nfF, emp_fact, rds_fact, frm_fact, tab_fact] at F); try simp -dsimp only [↓vcA, vcB, vcD, ↓pureT_lenS, ↓iteT, ↓iteF, cond_true, cond_false, eq_self, argE, Env.get, Env.push, ev, evs, evo, retV, Value.cells, Value.oneCell', setR, overR, fillL, zl, places, allSizes, heldC, ne_eq, Int.reduceLE, Int.reduceLT, Int.reduceEq, Int.reduceNe, Int.reduceToNat, Int.cast_ofNat_Int, Nat.reduceMul, Nat.reduceLeDiff, reduceIte, Nat.reduceEqDiff, Nat.reduceAdd, ↓reduceIte, Try.vcT, F, h.cell0, gets, vsD, if_true, if_false, Bool.false_eq_true,  decide_eq_false hlt]
  repeat ((first | refine Sep.new h ?_ | refine Sep.put 0 h rfl ?_ | refine Sep.put 1 h rfl ?_ | refine Sep.put 2 h rfl ?_ | refine Sep.put 3 h rfl ?_ | refine Sep.put 4 h rfl ?_ | refine Sep.put 5 h rfl ?_ | refine Sep.rnum 1 h rfl (by omega) (by omega) (by omega) ?_); (clear F; (try clear h); intros; rename_i h; (try simp only [nfD] at h); have F := h.facts; (try simp only [nfF, emp_fact, rds_fact, frm_fact, tab_fact] at F); try simp -dsimp only [↓vcA, vcB, vcD, ↓pureT_lenS, ↓iteT, ↓iteF, cond_true, cond_false, eq_self, argE, Env.get, Env.push, ev, evs, evo, retV, Value.cells, Value.oneCell', setR, overR, fillL, zl, places, allSizes, heldC, ne_eq, Int.reduceLE, Int.reduceLT, Int.reduceEq, Int.reduceNe, Int.reduceToNat, Int.cast_ofNat_Int, Nat.reduceMul, Nat.reduceLeDiff, reduceIte, Nat.reduceEqDiff, Nat.reduceAdd, ↓reduceIte, Try.vcT, F, h.cell0, gets, vsD, if_true, if_false, Bool.false_eq_true]))
  refine walkLoop [1, 4] [10] (fun mm vs w' => ∃ i, i ≤ m.ca.length ∧ mm = m.ca.length - i ∧ vs = [.int .i64 i] ∧ Sep w (fun _ => False) [blk b1 96 [.int .i64 m.w, .int .i64 m.h, .int .i64 m.te, .int .i64 m.wi, .int .i64 m.mr, .int .i64 m.mb, .int .i64 m.ti, .slice ap m.p.length cp, .slice awa m.wa.length cwa, .slice apa m.pa.length cpa, .slice are m.re.length cre, .slice aca m.ca.length cca, .slice ais m.is.length cis, .slice aco m.co.length cco, .slice ach m.ch.length cch], wr 35 p ((m.ca.take i).foldl wCa ((encL wReR (encL wPa (encL wW (encL wP (m.nums) m.p) m.wa) m.pa) m.re).num m.ca.length 2)) (0 + 8 + 8 + 8 + 8 + 8 + 8 + 8 + 8 + m.p.length * 16 + 8 + m.wa.length * 40 + 8 + m.pa.length * 16 + 8 + m.re.length * 80 + 8 + i * 72)] w') (by kernel_rfl) ?_ ?_
  · simp -dsimp only [↓vcA, vcB, vcD, ↓pureT_lenS, ↓iteT, ↓iteF, cond_true, cond_false, eq_self, argE, Env.get, Env.push, ev, evs, evo, retV, Value.cells, Value.oneCell', setR, overR, fillL, zl, places, allSizes, heldC, ne_eq, Int.reduceLE, Int.reduceLT, Int.reduceEq, Int.reduceNe, Int.reduceToNat, Int.cast_ofNat_Int, Nat.reduceMul, Nat.reduceLeDiff, reduceIte, Nat.reduceEqDiff, Nat.reduceAdd, ↓reduceIte, Try.vcT, gets]
    exact ⟨_, 0, Nat.zero_le _, rfl, rfl, by simpa [MapV.nums] using h⟩
  intro ks hk mm vs wz hi
  clear h F
  obtain ⟨i, hi, rfl, rfl, h⟩ := hi
  simp -dsimp only [gets, argE, List.zip_cons_cons, List.zip_nil_left, List.cons_append, List.nil_append, Env.get, Env.push, Option.bind_some, Option.map_some, Option.some.injEq, reduceIte, Nat.reduceEqDiff, Nat.reduceAdd, ↓reduceIte] at hk; subst hk
  by_cases hlt : (i : Int) < m.ca.length
  case pos =>
    have hil : i < m.ca.length := by omega
    have hfold : (m.ca.take (i + 1)).foldl wCa ((encL wReR (encL wPa (encL wW (encL wP (m.nums) m.p) m.wa) m.pa) m.re).num m.ca.length 2) = wCa ((m.ca.take i).foldl wCa ((encL wReR (encL wPa (encL wW (encL wP (m.nums) m.p) m.wa) m.pa) m.re).num m.ca.length 2)) m.ca[i] := by rw [List.take_succ_eq_append_getElem hil, List.foldl_append]; rfl
    obtain ⟨b, o, rfl, hcells⟩ := Rca.at hil (by decide)
    have hx := Rca.wid _ (List.getElem_mem hil)
    have ho := O.ca _ (List.getElem_mem hil)
    generalize m.ca[i] = x at *
    obtain ⟨a0, a1, a2, a3, a4, a5, a6, a7, a8, rfl⟩ := len_9 hx
    simp only [Ok64, List.forall_mem_cons, List.not_mem_nil, false_implies, implies_true, and_true] at ho
    have ei : IntKind.i64.wrap ((i : Int) + 1) = ((i + 1 : Nat) : Int) := by rw [i64w _ (by omega) (by omega)]; omega
    have h0i : (0 : Int) ≤ i := by omega
    have k0 : w.cell? ⟨b, o + i * 9, none⟩ = some (.int .i64 a0) := Tab.cell hcells 0 (by simp)
    have k1 : w.cell? ⟨b, o + i * 9 + 1, none⟩ = some (.int .i64 a1) := Tab.cell hcells 1 (by simp)
    have k2 : w.cell? ⟨b, o + i * 9 + 2, none⟩ = some (.int .i64 a2) := Tab.cell hcells 2 (by simp)
    have k3 : w.cell? ⟨b, o + i * 9 + 3, none⟩ = some (.int .i64 a3) := Tab.cell hcells 3 (by simp)
    have k4 : w.cell? ⟨b, o + i * 9 + 4, none⟩ = some (.int .i64 a4) := Tab.cell hcells 4 (by simp)
    have k5 : w.cell? ⟨b, o + i * 9 + 5, none⟩ = some (.int .i64 a5) := Tab.cell hcells 5 (by simp)
    have k6 : w.cell? ⟨b, o + i * 9 + 6, none⟩ = some (.int .i64 a6) := Tab.cell hcells 6 (by simp)
    have k7 : w.cell? ⟨b, o + i * 9 + 7, none⟩ = some (.int .i64 a7) := Tab.cell hcells 7 (by simp)
    have k8 : w.cell? ⟨b, o + i * 9 + 8, none⟩ = some (.int .i64 a8) := Tab.cell hcells 8 (by simp)
    have hcw : cellsAt wz b (o + i * 9) 9 = some (cellsI [a0, a1, a2, a3, a4, a5, a6, a7, a8]) := by
      obtain ⟨hl, hat⟩ := cellsAt_elim hcells
      have := cellsAt_of (w := wz) (b := b) (o := o + i * 9) (cellsI [a0, a1, a2, a3, a4, a5, a6, a7, a8]) (fun j u hj => by
        have := hat j u hj
        rw [h.cell0 (by rw [this]; rfl) id, this])
      simpa [cellsI] using this
    (try simp only [nfD] at h); have F := h.facts; (try simp only [nfF, emp_fact, rds_fact, frm_fact, tab_fact] at F); try simp -dsimp only [↓vcA, vcB, vcD, ↓pureT_lenS, ↓iteT, ↓iteF, cond_true, cond_false, eq_self, argE, Env.get, Env.push, ev, evs, evo, retV, Value.cells, Value.oneCell', setR, overR, fillL, zl, places, allSizes, heldC, ne_eq, Int.reduceLE, Int.reduceLT, Int.reduceEq, Int.reduceNe, Int.reduceToNat, Int.cast_ofNat_Int, Nat.reduceMul, Nat.reduceLeDiff, reduceIte, Nat.reduceEqDiff, Nat.reduceAdd, ↓reduceIte, Try.vcT, F, h.cell0, gets, vsD, if_true, if_false, Bool.false_eq_true,  hlt, h0i, decide_true, hcw, cellsI]
    repeat ((first | refine Sep.new h ?_ | refine Sep.put 0 h rfl ?_ | refine Sep.put 1 h rfl ?_ | refine Sep.put 2 h rfl ?_ | refine Sep.put 3 h rfl ?_ | refine Sep.put 4 h rfl ?_ | refine Sep.put 5 h rfl ?_ | refine Sep.rnum 1 h rfl (by omega) (by omega) (by omega) ?_ | refine Sep.rpoint 1 h rfl (by omega) (by omega) (by omega) (by omega) (by omega) ?_ | refine Sep.rtri 1 h rfl (by omega) (by simp only [Ok64, List.forall_mem_cons, List.not_mem_nil, false_implies, implies_true, and_true]; omega) ?_); (clear F; (try clear h); intros; rename_i h; (try simp only [nfD] at h); have F := h.facts; (try simp only [nfF, emp_fact, rds_fact, frm_fact, tab_fact] at F); try simp -dsimp only [↓vcA, vcB, vcD, ↓pureT_lenS, ↓iteT, ↓iteF, cond_true, cond_false, eq_self, argE, Env.get, Env.push, ev, evs, evo, retV, Value.cells, Value.oneCell', setR, overR, fillL, zl, places, allSizes, heldC, ne_eq, Int.reduceLE, Int.reduceLT, Int.reduceEq, Int.reduceNe, Int.reduceToNat, Int.cast_ofNat_Int, Nat.reduceMul, Nat.reduceLeDiff, reduceIte, Nat.reduceEqDiff, Nat.reduceAdd, ↓reduceIte, Try.vcT, F, h.cell0, gets, vsD, if_true, if_false, Bool.false_eq_true, cellsAt]))
    have eE : wCa ((m.ca.take i).foldl wCa ((encL wReR (encL wPa (encL wW (encL wP (m.nums) m.p) m.wa) m.pa) m.re).num m.ca.length 2)) [a0, a1, a2, a3, a4, a5, a6, a7, a8] = ((((((((((m.ca.take i).foldl wCa ((encL wReR (encL wPa (encL wW (encL wP (m.nums) m.p) m.wa) m.pa) m.re).num m.ca.length 2)).num a0 1).num a1 1).num a2 1).num a3 1).num a4 2).num a5 1).num a6 4).num (IntKind.i64.wrap (a7 + 1)) 2).num a8 1 := rfl
    rw [eE] at hfold
    generalize (((((((((m.ca.take i).foldl wCa ((encL wReR (encL wPa (encL wW (encL wP (m.nums) m.p) m.wa) m.pa) m.re).num m.ca.length 2)).num a0 1).num a1 1).num a2 1).num a3 1).num a4 2).num a5 1).num a6 4) = E at *
    have mark : a7 < -1 ∨ 65534 < a7 → ∃ (h1 : Bool), True := fun _ => ⟨true, trivial⟩
    by_cases g1 : a7 < (-1 : Int)
    case pos =>
      obtain ⟨a9', c9, h, hlen⟩ := h.wrOpen 1 rfl
      (try simp only [nfD] at h); have F := h.facts; (try simp only [nfF, emp_fact, rds_fact, frm_fact, tab_fact] at F); try simp -dsimp only [↓vcA, vcB, vcD, ↓pureT_lenS, ↓iteT, ↓iteF, cond_true, cond_false, eq_self, argE, Env.get, Env.push, ev, evs, evo, retV, Value.cells, Value.oneCell', setR, overR, fillL, zl, places, allSizes, heldC, ne_eq, Int.reduceLE, Int.reduceLT, Int.reduceEq, Int.reduceNe, Int.reduceToNat, Int.cast_ofNat_Int, Nat.reduceMul, Nat.reduceLeDiff, reduceIte, Nat.reduceEqDiff, Nat.reduceAdd, ↓reduceIte, Try.vcT, F, h.cell0, gets, vsD, if_true, if_false, Bool.false_eq_true,  cellsAt, decide_eq_true g1]
      refine Sep.put 1 h rfl ?_
      clear h F
      intro wq h
      have h := ((h.wrClose 1 3 (0 + 8 + 8 + 8 + 8 + 8 + 8 + 8 + 8 + m.p.length * 16 + 8 + m.wa.length * 40 + 8 + m.pa.length * 16 + 8 + m.re.length * 80 + 8 + i * 72 + 64) rfl rfl (by decide) (by omega)).erase 3)
      (try simp only [nfD] at h); have F := h.facts; (try simp only [nfF, emp_fact, rds_fact, frm_fact, tab_fact] at F); try simp -dsimp only [↓vcA, vcB, vcD, ↓pureT_lenS, ↓iteT, ↓iteF, cond_true, cond_false, eq_self, argE, Env.get, Env.push, ev, evs, evo, retV, Value.cells, Value.oneCell', setR, overR, fillL, zl, places, allSizes, heldC, ne_eq, Int.reduceLE, Int.reduceLT, Int.reduceEq, Int.reduceNe, Int.reduceToNat, Int.cast_ofNat_Int, Nat.reduceMul, Nat.reduceLeDiff, reduceIte, Nat.reduceEqDiff, Nat.reduceAdd, ↓reduceIte, Try.vcT, F, h.cell0, gets, vsD, if_true, if_false, Bool.false_eq_true,  cellsAt]
      repeat ((first | refine Sep.new h ?_ | refine Sep.put 0 h rfl ?_ | refine Sep.put 1 h rfl ?_ | refine Sep.put 2 h rfl ?_ | refine Sep.put 3 h rfl ?_ | refine Sep.put 4 h rfl ?_ | refine Sep.put 5 h rfl ?_ | refine Sep.rnum 1 h rfl (by omega) (by omega) (by omega) ?_); (clear F; (try clear h); intros; rename_i h; (try simp only [nfD] at h); have F := h.facts; (try simp only [nfF, emp_fact, rds_fact, frm_fact, tab_fact] at F); try simp -dsimp only [↓vcA, vcB, vcD, ↓pureT_lenS, ↓iteT, ↓iteF, cond_true, cond_false, eq_self, argE, Env.get, Env.push, ev, evs, evo, retV, Value.cells, Value.oneCell', setR, overR, fillL, zl, places, allSizes, heldC, ne_eq, Int.reduceLE, Int.reduceLT, Int.reduceEq, Int.reduceNe, Int.reduceToNat, Int.cast_ofNat_Int, Nat.reduceMul, Nat.reduceLeDiff, reduceIte, Nat.reduceEqDiff, Nat.reduceAdd, ↓reduceIte, Try.vcT, F, h.cell0, gets, vsD, if_true, if_false, Bool.false_eq_true, cellsAt, ei]))
      refine ⟨_, ?_, i + 1, by omega, rfl, rfl, ?_⟩
      · omega
      rw [hfold, caMark E a7 (by omega) (.inl g1)]
      exact (h.erase 2).wrMono' 1 _ rfl (by omega)
    by_cases g2 : (65534 : Int) < a7
    case pos =>
      obtain ⟨a9', c9, h, hlen⟩ := h.wrOpen 1 rfl
      (try simp only [nfD] at h); have F := h.facts; (try simp only [nfF, emp_fact, rds_fact, frm_fact, tab_fact] at F); try simp -dsimp only [↓vcA, vcB, vcD, ↓pureT_lenS, ↓iteT, ↓iteF, cond_true, cond_false, eq_self, argE, Env.get, Env.push, ev, evs, evo, retV, Value.cells, Value.oneCell', setR, overR, fillL, zl, places, allSizes, heldC, ne_eq, Int.reduceLE, Int.reduceLT, Int.reduceEq, Int.reduceNe, Int.reduceToNat, Int.cast_ofNat_Int, Nat.reduceMul, Nat.reduceLeDiff, reduceIte, Nat.reduceEqDiff, Nat.reduceAdd, ↓reduceIte, Try.vcT, F, h.cell0, gets, vsD, if_true, if_false, Bool.false_eq_true,  cellsAt, decide_eq_false g1, decide_eq_true g2]
      refine Sep.put 1 h rfl ?_
      clear h F
      intro wq h
      have h := ((h.wrClose 1 3 (0 + 8 + 8 + 8 + 8 + 8 + 8 + 8 + 8 + m.p.length * 16 + 8 + m.wa.length * 40 + 8 + m.pa.length * 16 + 8 + m.re.length * 80 + 8 + i * 72 + 64) rfl rfl (by decide) (by omega)).erase 3)
      (try simp only [nfD] at h); have F := h.facts; (try simp only [nfF, emp_fact, rds_fact, frm_fact, tab_fact] at F); try simp -dsimp only [↓vcA, vcB, vcD, ↓pureT_lenS, ↓iteT, ↓iteF, cond_true, cond_false, eq_self, argE, Env.get, Env.push, ev, evs, evo, retV, Value.cells, Value.oneCell', setR, overR, fillL, zl, places, allSizes, heldC, ne_eq, Int.reduceLE, Int.reduceLT, Int.reduceEq, Int.reduceNe, Int.reduceToNat, Int.cast_ofNat_Int, Nat.reduceMul, Nat.reduceLeDiff, reduceIte, Nat.reduceEqDiff, Nat.reduceAdd, ↓reduceIte, Try.vcT, F, h.cell0, gets, vsD, if_true, if_false, Bool.false_eq_true,  cellsAt]
      repeat ((first | refine Sep.new h ?_ | refine Sep.put 0 h rfl ?_ | refine Sep.put 1 h rfl ?_ | refine Sep.put 2 h rfl ?_ | refine Sep.put 3 h rfl ?_ | refine Sep.put 4 h rfl ?_ | refine Sep.put 5 h rfl ?_ | refine Sep.rnum 1 h rfl (by omega) (by omega) (by omega) ?_); (clear F; (try clear h); intros; rename_i h; (try simp only [nfD] at h); have F := h.facts; (try simp only [nfF, emp_fact, rds_fact, frm_fact, tab_fact] at F); try simp -dsimp only [↓vcA, vcB, vcD, ↓pureT_lenS, ↓iteT, ↓iteF, cond_true, cond_false, eq_self, argE, Env.get, Env.push, ev, evs, evo, retV, Value.cells, Value.oneCell', setR, overR, fillL, zl, places, allSizes, heldC, ne_eq, Int.reduceLE, Int.reduceLT, Int.reduceEq, Int.reduceNe, Int.reduceToNat, Int.cast_ofNat_Int, Nat.reduceMul, Nat.reduceLeDiff, reduceIte, Nat.reduceEqDiff, Nat.reduceAdd, ↓reduceIte, Try.vcT, F, h.cell0, gets, vsD, if_true, if_false, Bool.false_eq_true, cellsAt, ei]))
      refine ⟨_, ?_, i + 1, by omega, rfl, rfl, ?_⟩
      · omega
      rw [hfold, caMark E a7 (by omega) (.inr g2)]
      exact (h.erase 2).wrMono' 1 _ rfl (by omega)
    case neg =>
      (try simp only [nfD] at h); have F := h.facts; (try simp only [nfF, emp_fact, rds_fact, frm_fact, tab_fact] at F); try simp -dsimp only [↓vcA, vcB, vcD, ↓pureT_lenS, ↓iteT, ↓iteF, cond_true, cond_false, eq_self, argE, Env.get, Env.push, ev, evs, evo, retV, Value.cells, Value.oneCell', setR, overR, fillL, zl, places, allSizes, heldC, ne_eq, Int.reduceLE, Int.reduceLT, Int.reduceEq, Int.reduceNe, Int.reduceToNat, Int.cast_ofNat_Int, Nat.reduceMul, Nat.reduceLeDiff, reduceIte, Nat.reduceEqDiff, Nat.reduceAdd, ↓reduceIte, Try.vcT, F, h.cell0, gets, vsD, if_true, if_false, Bool.false_eq_true,  cellsAt, decide_eq_false g1, decide_eq_false g2]
      repeat ((first | refine Sep.new h ?_ | refine Sep.put 0 h rfl ?_ | refine Sep.put 1 h rfl ?_ | refine Sep.put 2 h rfl ?_ | refine Sep.put 3 h rfl ?_ | refine Sep.put 4 h rfl ?_ | refine Sep.put 5 h rfl ?_ | refine Sep.rnum 1 h rfl (by omega) (by omega) (by omega) ?_ | refine Sep.rnum 1 h rfl (by omega) (wrap_ok _).1 (wrap_ok _).2 ?_); (clear F; (try clear h); intros; rename_i h; (try simp only [nfD] at h); have F := h.facts; (try simp only [nfF, emp_fact, rds_fact, frm_fact, tab_fact] at F); try simp -dsimp only [↓vcA, vcB, vcD, ↓pureT_lenS, ↓iteT, ↓iteF, cond_true, cond_false, eq_self, argE, Env.get, Env.push, ev, evs, evo, retV, Value.cells, Value.oneCell', setR, overR, fillL, zl, places, allSizes, heldC, ne_eq, Int.reduceLE, Int.reduceLT, Int.reduceEq, Int.reduceNe, Int.reduceToNat, Int.cast_ofNat_Int, Nat.reduceMul, Nat.reduceLeDiff, reduceIte, Nat.reduceEqDiff, Nat.reduceAdd, ↓reduceIte, Try.vcT, F, h.cell0, gets, vsD, if_true, if_false, Bool.false_eq_true, cellsAt, ei]))
      refine ⟨_, ?_, i + 1, by omega, rfl, rfl, ?_⟩
      · omega
      rw [hfold]
      exact (h.erase 2).wrMono' 1 _ rfl (by omega)
  have hil : i = m.ca.length := by omega
  subst hil
  rw [List.take_of_length_le (Nat.le_refl _), show m.ca.foldl wCa ((encL wReR (encL wPa (encL wW (encL wP (m.nums) m.p) m.wa) m.pa) m.re).num m.ca.length 2) = encL wCa (encL wReR (encL wPa (encL wW (encL wP (m.nums) m.p) m.wa) m.pa) m.re) m.ca from rfl] at h
  (try simp only [nfD] at h); have F := h.facts; (try simp only [nfF, emp_fact, rds_fact, frm_fact, tab_fact] at F); try simp -dsimp only [↓vcA, vcB, vcD, ↓pureT_lenS, ↓iteT, ↓iteF, cond_true, cond_false, eq_self, argE, Env.get, Env.push, ev, evs, evo, retV, Value.cells, Value.oneCell', setR, overR, fillL, zl, places, allSizes, heldC, ne_eq, Int.reduceLE, Int.reduceLT, Int.reduceEq, Int.reduceNe, Int.reduceToNat, Int.cast_ofNat_Int, Nat.reduceMul, Nat.reduceLeDiff, reduceIte, Nat.reduceEqDiff, Nat.reduceAdd, ↓reduceIte, Try.vcT, F, h.cell0, gets, vsD, if_true, if_false, Bool.false_eq_true,  decide_eq_false hlt]
  repeat ((first | refine Sep.new h ?_ | refine Sep.put 0 h rfl ?_ | refine Sep.put 1 h rfl ?_ | refine Sep.put 2 h rfl ?_ | refine Sep.put 3 h rfl ?_ | refine Sep.put 4 h rfl ?_ | refine Sep.put 5 h rfl ?_ | refine Sep.rnum 1 h rfl (by omega) (by omega) (by omega) ?_); (clear F; (try clear h); intros; rename_i h; (try simp only [nfD] at h); have F := h.facts; (try simp only [nfF, emp_fact, rds_fact, frm_fact, tab_fact] at F); try simp -dsimp only [↓vcA, vcB, vcD, ↓pureT_lenS, ↓iteT, ↓iteF, cond_true, cond_false, eq_self, argE, Env.get, Env.push, ev, evs, evo, retV, Value.cells, Value.oneCell', setR, overR, fillL, zl, places, allSizes, heldC, ne_eq, Int.reduceLE, Int.reduceLT, Int.reduceEq, Int.reduceNe, Int.reduceToNat, Int.cast_ofNat_Int, Nat.reduceMul, Nat.reduceLeDiff, reduceIte, Nat.reduceEqDiff, Nat.reduceAdd, ↓reduceIte, Try.vcT, F, h.cell0, gets, vsD, if_true, if_false, Bool.false_eq_true]))
  refine walkLoop [1, 4] [12] (fun mm vs w' => ∃ i, i ≤ m.is.length ∧ mm = m.is.length - i ∧ vs = [.int .i64 i] ∧ Sep w (fun _ => False) [blk b1 96 [.int .i64 m.w, .int .i64 m.h, .int .i64 m.te, .int .i64 m.wi, .int .i64 m.mr, .int .i64 m.mb, .int .i64 m.ti, .slice ap m.p.length cp, .slice awa m.wa.length cwa, .slice apa m.pa.length cpa, .slice are m.re.length cre, .slice aca m.ca.length cca, .slice ais m.is.length cis, .slice aco m.co.length cco, .slice ach m.ch.length cch], wr 35 p ((m.is.take i).foldl wIs ((encL wCa (encL wReR (encL wPa (encL wW (encL wP (m.nums) m.p) m.wa) m.pa) m.re) m.ca).num m.is.length 2)) (0 + 8 + 8 + 8 + 8 + 8 + 8 + 8 + 8 + m.p.length * 16 + 8 + m.wa.length * 40 + 8 + m.pa.length * 16 + 8 + m.re.length * 80 + 8 + m.ca.length * 72 + 8 + i * 24)] w') (by kernel_rfl) ?_ ?_
  · simp -dsimp only [↓vcA, vcB, vcD, ↓pureT_lenS, ↓iteT, ↓iteF, cond_true, cond_false, eq_self, argE, Env.get, Env.push, ev, evs, evo, retV, Value.cells, Value.oneCell', setR, overR, fillL, zl, places, allSizes, heldC, ne_eq, Int.reduceLE, Int.reduceLT, Int.reduceEq, Int.reduceNe, Int.reduceToNat, Int.cast_ofNat_Int, Nat.reduceMul, Nat.reduceLeDiff, reduceIte, Nat.reduceEqDiff, Nat.reduceAdd, ↓reduceIte, Try.vcT, gets]
    exact ⟨_, 0, Nat.zero_le _, rfl, rfl, by simpa [MapV.nums] using h⟩
  intro ks hk mm vs wz hi
  clear h F
  obtain ⟨i, hi, rfl, rfl, h⟩ := hi
  simp -dsimp only [gets, argE, List.zip_cons_cons, List.zip_nil_left, List.cons_append, List.nil_append, Env.get, Env.push, Option.bind_some, Option.map_some, Option.some.injEq, reduceIte, Nat.reduceEqDiff, Nat.reduceAdd, ↓reduceIte] at hk; subst hk
  by_cases hlt : (i : Int) < m.is.length
  case pos =>
    have hil : i < m.is.length := by omega
    have hfold : (m.is.take (i + 1)).foldl wIs ((encL wCa (encL wReR (encL wPa (encL wW (encL wP (m.nums) m.p) m.wa) m.pa) m.re) m.ca).num m.is.length 2) = wIs ((m.is.take i).foldl wIs ((encL wCa (encL wReR (encL wPa (encL wW (encL wP (m.nums) m.p) m.wa) m.pa) m.re) m.ca).num m.is.length 2)) m.is[i] := by rw [List.take_succ_eq_append_getElem hil, List.foldl_append]; rfl
    obtain ⟨b, o, rfl, hcells⟩ := Ris.at hil (by decide)
    have hx := Ris.wid _ (List.getElem_mem hil)
    have ho := O.is _ (List.getElem_mem hil)
    generalize m.is[i] = x at *
    obtain ⟨a0, a1, a2, rfl⟩ := len_3 hx
    simp only [Ok64, List.forall_mem_cons, List.not_mem_nil, false_implies, implies_true, and_true] at ho
    have ei : IntKind.i64.wrap ((i : Int) + 1) = ((i + 1 : Nat) : Int) := by rw [i64w _ (by omega) (by omega)]; omega
    have h0i : (0 : Int) ≤ i := by omega
    have k0 : w.cell? ⟨b, o + i * 3, none⟩ = some (.int .i64 a0) := Tab.cell hcells 0 (by simp)
    have k1 : w.cell? ⟨b, o + i * 3 + 1, none⟩ = some (.int .i64 a1) := Tab.cell hcells 1 (by simp)
    have k2 : w.cell? ⟨b, o + i * 3 + 2, none⟩ = some (.int .i64 a2) := Tab.cell hcells 2 (by simp)
    (try simp only [nfD] at h); have F := h.facts; (try simp only [nfF, emp_fact, rds_fact, frm_fact, tab_fact] at F); try simp -dsimp only [↓vcA, vcB, vcD, ↓pureT_lenS, ↓iteT, ↓iteF, cond_true, cond_false, eq_self, argE, Env.get, Env.push, ev, evs, evo, retV, Value.cells, Value.oneCell', setR, overR, fillL, zl, places, allSizes, heldC, ne_eq, Int.reduceLE, Int.reduceLT, Int.reduceEq, Int.reduceNe, Int.reduceToNat, Int.cast_ofNat_Int, Nat.reduceMul, Nat.reduceLeDiff, reduceIte, Nat.reduceEqDiff, Nat.reduceAdd, ↓reduceIte, Try.vcT, F, h.cell0, gets, vsD, if_true, if_false, Bool.false_eq_true,  hlt, h0i, decide_true, cellsAt, k0, k1, k2, ei]
    repeat ((first | refine Sep.new h ?_ | refine Sep.put 0 h rfl ?_ | refine Sep.put 1 h rfl ?_ | refine Sep.put 2 h rfl ?_ | refine Sep.put 3 h rfl ?_ | refine Sep.put 4 h rfl ?_ | refine Sep.put 5 h rfl ?_ | refine Sep.rnum 1 h rfl (by omega) (by omega) (by omega) ?_ | refine Sep.rpoint 1 h rfl (by omega) (by omega) (by omega) (by omega) (by omega) ?_ | refine Sep.rtri 1 h rfl (by omega) (by simp only [Ok64, List.forall_mem_cons, List.not_mem_nil, false_implies, implies_true, and_true]; omega) ?_); (clear F; (try clear h); intros; rename_i h; (try simp only [nfD] at h); have F := h.facts; (try simp only [nfF, emp_fact, rds_fact, frm_fact, tab_fact] at F); try simp -dsimp only [↓vcA, vcB, vcD, ↓pureT_lenS, ↓iteT, ↓iteF, cond_true, cond_false, eq_self, argE, Env.get, Env.push, ev, evs, evo, retV, Value.cells, Value.oneCell', setR, overR, fillL, zl, places, allSizes, heldC, ne_eq, Int.reduceLE, Int.reduceLT, Int.reduceEq, Int.reduceNe, Int.reduceToNat, Int.cast_ofNat_Int, Nat.reduceMul, Nat.reduceLeDiff, reduceIte, Nat.reduceEqDiff, Nat.reduceAdd, ↓reduceIte, Try.vcT, F, h.cell0, gets, vsD, if_true, if_false, Bool.false_eq_true, hlt, h0i, decide_true, cellsAt, k0, k1, k2, ei]))
    refine ⟨_, ?_, i + 1, by omega, rfl, rfl, ?_⟩
    · omega
    rw [hfold]
    exact h.wrMono' 1 _ rfl (by omega)
  have hil : i = m.is.length := by omega
  subst hil
  rw [List.take_of_length_le (Nat.le_refl _), show m.is.foldl wIs ((encL wCa (encL wReR (encL wPa (encL wW (encL wP (m.nums) m.p) m.wa) m.pa) m.re) m.ca).num m.is.length 2) = encL wIs (encL wCa (encL wReR (encL wPa (encL wW (encL wP (m.nums) m.p) m.wa) m.pa) m.re) m.ca) m.is from rfl] at h
  (try simp only [nfD] at h); have F := h.facts; (try simp only [nfF, emp_fact, rds_fact, frm_fact, tab_fact] at F); try simp -dsimp only [↓vcA, vcB, vcD, ↓pureT_lenS, ↓iteT, ↓iteF, cond_true, cond_false, eq_self, argE, Env.get, Env.push, ev, evs, evo, retV, Value.cells, Value.oneCell', setR, overR, fillL, zl, places, allSizes, heldC, ne_eq, Int.reduceLE, Int.reduceLT, Int.reduceEq, Int.reduceNe, Int.reduceToNat, Int.cast_ofNat_Int, Nat.reduceMul, Nat.reduceLeDiff, reduceIte, Nat.reduceEqDiff, Nat.reduceAdd, ↓reduceIte, Try.vcT, F, h.cell0, gets, vsD, if_true, if_false, Bool.false_eq_true,  decide_eq_false hlt]
  repeat ((first | refine Sep.new h ?_ | refine Sep.put 0 h rfl ?_ | refine Sep.put 1 h rfl ?_ | refine Sep.put 2 h rfl ?_ | refine Sep.put 3 h rfl ?_ | refine Sep.put 4 h rfl ?_ | refine Sep.put 5 h rfl ?_ | refine Sep.rnum 1 h rfl (by omega) (by omega) (by omega) ?_); (clear F; (try clear h); intros; rename_i h; (try simp only [nfD] at h); have F := h.facts; (try simp only [nfF, emp_fact, rds_fact, frm_fact, tab_fact] at F); try simp -dsimp only [↓vcA, vcB, vcD, ↓pureT_lenS, ↓iteT, ↓iteF, cond_true, cond_false, eq_self, argE, Env.get, Env.push, ev, evs, evo, retV, Value.cells, Value.oneCell', setR, overR, fillL, zl, places, allSizes, heldC, ne_eq, Int.reduceLE, Int.reduceLT, Int.reduceEq, Int.reduceNe, Int.reduceToNat, Int.cast_ofNat_Int, Nat.reduceMul, Nat.reduceLeDiff, reduceIte, Nat.reduceEqDiff, Nat.reduceAdd, ↓reduceIte, Try.vcT, F, h.cell0, gets, vsD, if_true, if_false, Bool.false_eq_true]))
  refine walkLoop [1, 4] [13] (fun mm vs w' => ∃ i, i ≤ m.co.length ∧ mm = m.co.length - i ∧ vs = [.int .i64 i] ∧ Sep w (fun _ => False) [blk b1 96 [.int .i64 m.w, .int .i64 m.h, .int .i64 m.te, .int .i64 m.wi, .int .i64 m.mr, .int .i64 m.mb, .int .i64 m.ti, .slice ap m.p.length cp, .slice awa m.wa.length cwa, .slice apa m.pa.length cpa, .slice are m.re.length cre, .slice aca m.ca.length cca, .slice ais m.is.length cis, .slice aco m.co.length cco, .slice ach m.ch.length cch], wr 35 p ((m.co.take i).foldl wCo ((encL wIs (encL wCa (encL wReR (encL wPa (encL wW (encL wP (m.nums) m.p) m.wa) m.pa) m.re) m.ca) m.is).num m.co.length 2)) (0 + 8 + 8 + 8 + 8 + 8 + 8 + 8 + 8 + m.p.length * 16 + 8 + m.wa.length * 40 + 8 + m.pa.length * 16 + 8 + m.re.length * 80 + 8 + m.ca.length * 72 + 8 + m.is.length * 24 + 8 + i * 24)] w') (by kernel_rfl) ?_ ?_
  · simp -dsimp only [↓vcA, vcB, vcD, ↓pureT_lenS, ↓iteT, ↓iteF, cond_true, cond_false, eq_self, argE, Env.get, Env.push, ev, evs, evo, retV, Value.cells, Value.oneCell', setR, overR, fillL, zl, places, allSizes, heldC, ne_eq, Int.reduceLE, Int.reduceLT, Int.reduceEq, Int.reduceNe, Int.reduceToNat, Int.cast_ofNat_Int, Nat.reduceMul, Nat.reduceLeDiff, reduceIte, Nat.reduceEqDiff, Nat.reduceAdd, ↓reduceIte, Try.vcT, gets]
    exact ⟨_, 0, Nat.zero_le _, rfl, rfl, by simpa [MapV.nums] using h⟩
  intro ks hk mm vs wz hi
  clear h F
  obtain ⟨i, hi, rfl, rfl, h⟩ := hi
  simp -dsimp only [gets, argE, List.zip_cons_cons, List.zip_nil_left, List.cons_append, List.nil_append, Env.get, Env.push, Option.bind_some, Option.map_some, Option.some.injEq, reduceIte, Nat.reduceEqDiff, Nat.reduceAdd, ↓reduceIte] at hk; subst hk
  by_cases hlt : (i : Int) < m.co.length
  case pos =>
    have hil : i < m.co.length := by omega
    have hfold : (m.co.take (i + 1)).foldl wCo ((encL wIs (encL wCa (encL wReR (encL wPa (encL wW (encL wP (m.nums) m.p) m.wa) m.pa) m.re) m.ca) m.is).num m.co.length 2) = wCo ((m.co.take i).foldl wCo ((encL wIs (encL wCa (encL wReR (encL wPa (encL wW (encL wP (m.nums) m.p) m.wa) m.pa) m.re) m.ca) m.is).num m.co.length 2)) m.co[i] := by rw [List.take_succ_eq_append_getElem hil, List.foldl_append]; rfl
    obtain ⟨b, o, rfl, hcells⟩ := Rco.at hil (by decide)
    have hx := Rco.wid _ (List.getElem_mem hil)
    have ho := O.co _ (List.getElem_mem hil)
    generalize m.co[i] = x at *
    obtain ⟨a0, a1, a2, rfl⟩ := len_3 hx
    simp only [Ok64, List.forall_mem_cons, List.not_mem_nil, false_implies, implies_true, and_true] at ho
    have ei : IntKind.i64.wrap ((i : Int) + 1) = ((i + 1 : Nat) : Int) := by rw [i64w _ (by omega) (by omega)]; omega
    have h0i : (0 : Int) ≤ i := by omega
    have k0 : w.cell? ⟨b, o + i * 3, none⟩ = some (.int .i64 a0) := Tab.cell hcells 0 (by simp)
    have k1 : w.cell? ⟨b, o + i * 3 + 1, none⟩ = some (.int .i64 a1) := Tab.cell hcells 1 (by simp)
    have k2 : w.cell? ⟨b, o + i * 3 + 2, none⟩ = some (.int .i64 a2) := Tab.cell hcells 2 (by simp)
    (try simp only [nfD] at h); have F := h.facts; (try simp only [nfF, emp_fact, rds_fact, frm_fact, tab_fact] at F); try simp -dsimp only [↓vcA, vcB, vcD, ↓pureT_lenS, ↓iteT, ↓iteF, cond_true, cond_false, eq_self, argE, Env.get, Env.push, ev, evs, evo, retV, Value.cells, Value.oneCell', setR, overR, fillL, zl, places, allSizes, heldC, ne_eq, Int.reduceLE, Int.reduceLT, Int.reduceEq, Int.reduceNe, Int.reduceToNat, Int.cast_ofNat_Int, Nat.reduceMul, Nat.reduceLeDiff, reduceIte, Nat.reduceEqDiff, Nat.reduceAdd, ↓reduceIte, Try.vcT, F, h.cell0, gets, vsD, if_true, if_false, Bool.false_eq_true,  hlt, h0i, decide_true, cellsAt, k0, k1, k2, ei]
    repeat ((first | refine Sep.new h ?_ | refine Sep.put 0 h rfl ?_ | refine Sep.put 1 h rfl ?_ | refine Sep.put 2 h rfl ?_ | refine Sep.put 3 h rfl ?_ | refine Sep.put 4 h rfl ?_ | refine Sep.put 5 h rfl ?_ | refine Sep.rnum 1 h rfl (by omega) (by omega) (by omega) ?_ | refine Sep.rpoint 1 h rfl (by omega) (by omega) (by omega) (by omega) (by omega) ?_ | refine Sep.rtri 1 h rfl (by omega) (by simp only [Ok64, List.forall_mem_cons, List.not_mem_nil, false_implies, implies_true, and_true]; omega) ?_); (clear F; (try clear h); intros; rename_i h; (try simp only [nfD] at h); have F := h.facts; (try simp only [nfF, emp_fact, rds_fact, frm_fact, tab_fact] at F); try simp -dsimp only [↓vcA, vcB, vcD, ↓pureT_lenS, ↓iteT, ↓iteF, cond_true, cond_false, eq_self, argE, Env.get, Env.push, ev, evs, evo, retV, Value.cells, Value.oneCell', setR, overR, fillL, zl, places, allSizes, heldC, ne_eq, Int.reduceLE, Int.reduceLT, Int.reduceEq, Int.reduceNe, Int.reduceToNat, Int.cast_ofNat_Int, Nat.reduceMul, Nat.reduceLeDiff, reduceIte, Nat.reduceEqDiff, Nat.reduceAdd, ↓reduceIte, Try.vcT, F, h.cell0, gets, vsD, if_true, if_false, Bool.false_eq_true, hlt, h0i, decide_true, cellsAt, k0, k1, k2, ei]))
    refine ⟨_, ?_, i + 1, by omega, rfl, rfl, ?_⟩
    · omega
    rw [hfold]
    exact h.wrMono' 1 _ rfl (by omega)
  have hil : i = m.co.length := by omega
  subst hil
  rw [List.take_of_length_le (Nat.le_refl _), show m.co.foldl wCo ((encL wIs (encL wCa (encL wReR (encL wPa (encL wW (encL wP (m.nums) m.p) m.wa) m.pa) m.re) m.ca) m.is).num m.co.length 2) = encL wCo (encL wIs (encL wCa (encL wReR (encL wPa (encL wW (encL wP (m.nums) m.p) m.wa) m.pa) m.re) m.ca) m.is) m.co from rfl] at h
  (try simp only [nfD] at h); have F := h.facts; (try simp only [nfF, emp_fact, rds_fact, frm_fact, tab_fact] at F); try simp -dsimp only [↓vcA, vcB, vcD, ↓pureT_lenS, ↓iteT, ↓iteF, cond_true, cond_false, eq_self, argE, Env.get, Env.push, ev, evs, evo, retV, Value.cells, Value.oneCell', setR, overR, fillL, zl, places, allSizes, heldC, ne_eq, Int.reduceLE, Int.reduceLT, Int.reduceEq, Int.reduceNe, Int.reduceToNat, Int.cast_ofNat_Int, Nat.reduceMul, Nat.reduceLeDiff, reduceIte, Nat.reduceEqDiff, Nat.reduceAdd, ↓reduceIte, Try.vcT, F, h.cell0, gets, vsD, if_true, if_false, Bool.false_eq_true,  decide_eq_false hlt]
  repeat ((first | refine Sep.new h ?_ | refine Sep.put 0 h rfl ?_ | refine Sep.put 1 h rfl ?_ | refine Sep.put 2 h rfl ?_ | refine Sep.put 3 h rfl ?_ | refine Sep.put 4 h rfl ?_ | refine Sep.put 5 h rfl ?_ | refine Sep.rnum 1 h rfl (by omega) (by omega) (by omega) ?_); (clear F; (try clear h); intros; rename_i h; (try simp only [nfD] at h); have F := h.facts; (try simp only [nfF, emp_fact, rds_fact, frm_fact, tab_fact] at F); try simp -dsimp only [↓vcA, vcB, vcD, ↓pureT_lenS, ↓iteT, ↓iteF, cond_true, cond_false, eq_self, argE, Env.get, Env.push, ev, evs, evo, retV, Value.cells, Value.oneCell', setR, overR, fillL, zl, places, allSizes, heldC, ne_eq, Int.reduceLE, Int.reduceLT, Int.reduceEq, Int.reduceNe, Int.reduceToNat, Int.cast_ofNat_Int, Nat.reduceMul, Nat.reduceLeDiff, reduceIte, Nat.reduceEqDiff, Nat.reduceAdd, ↓reduceIte, Try.vcT, F, h.cell0, gets, vsD, if_true, if_false, Bool.false_eq_true]))
  refine walkLoop [1, 4] [14] (fun mm vs w' => ∃ i, i ≤ m.ch.length ∧ mm = m.ch.length - i ∧ vs = [.int .i64 i] ∧ Sep w (fun _ => False) [blk b1 96 [.int .i64 m.w, .int .i64 m.h, .int .i64 m.te, .int .i64 m.wi, .int .i64 m.mr, .int .i64 m.mb, .int .i64 m.ti, .slice ap m.p.length cp, .slice awa m.wa.length cwa, .slice apa m.pa.length cpa, .slice are m.re.length cre, .slice aca m.ca.length cca, .slice ais m.is.length cis, .slice aco m.co.length cco, .slice ach m.ch.length cch], wr 35 p ((m.ch.take i).foldl wCh ((encL wCo (encL wIs (encL wCa (encL wReR (encL wPa (encL wW (encL wP (m.nums) m.p) m.wa) m.pa) m.re) m.ca) m.is) m.co).num m.ch.length 2)) (0 + 8 + 8 + 8 + 8 + 8 + 8 + 8 + 8 + m.p.length * 16 + 8 + m.wa.length * 40 + 8 + m.pa.length * 16 + 8 + m.re.length * 80 + 8 + m.ca.length * 72 + 8 + m.is.length * 24 + 8 + m.co.length * 24 + 8 + roomC (m.ch.take i))] w') (by kernel_rfl) ?_ ?_
  · simp -dsimp only [↓vcA, vcB, vcD, ↓pureT_lenS, ↓iteT, ↓iteF, cond_true, cond_false, eq_self, argE, Env.get, Env.push, ev, evs, evo, retV, Value.cells, Value.oneCell', setR, overR, fillL, zl, places, allSizes, heldC, ne_eq, Int.reduceLE, Int.reduceLT, Int.reduceEq, Int.reduceNe, Int.reduceToNat, Int.cast_ofNat_Int, Nat.reduceMul, Nat.reduceLeDiff, reduceIte, Nat.reduceEqDiff, Nat.reduceAdd, ↓reduceIte, Try.vcT, gets]
    exact ⟨_, 0, Nat.zero_le _, rfl, rfl, by simpa [roomC] using h⟩
  intro ks hk mm vs wz hi
  clear h F
  obtain ⟨i, hi, rfl, rfl, h⟩ := hi
  simp -dsimp only [gets, argE, List.zip_cons_cons, List.zip_nil_left, List.cons_append, List.nil_append, Env.get, Env.push, Option.bind_some, Option.map_some, Option.some.injEq, reduceIte, Nat.reduceEqDiff, Nat.reduceAdd, ↓reduceIte] at hk; subst hk
  by_cases hlt : (i : Int) < m.ch.length
  case pos =>
    have hil : i < m.ch.length := by omega
    have hfold : (m.ch.take (i + 1)).foldl wCh ((encL wCo (encL wIs (encL wCa (encL wReR (encL wPa (encL wW (encL wP (m.nums) m.p) m.wa) m.pa) m.re) m.ca) m.is) m.co).num m.ch.length 2) = wCh ((m.ch.take i).foldl wCh ((encL wCo (encL wIs (encL wCa (encL wReR (encL wPa (encL wW (encL wP (m.nums) m.p) m.wa) m.pa) m.re) m.ca) m.is) m.co).num m.ch.length 2)) m.ch[i] := by rw [List.take_succ_eq_append_getElem hil, List.foldl_append]; rfl
    have hroom1 := roomC_take hil
    have hroom2 := roomC_le m.ch (i + 1)
    obtain ⟨b, o, u, rfl, hcells, hru⟩ := Rch.at hil
    have ho := O.ch _ (List.getElem_mem hil)
    generalize m.ch[i] = x at *
    have hru' := hru
    obtain ⟨au, cu, rfl, _⟩ := hru'
    have ei : IntKind.i64.wrap ((i : Int) + 1) = ((i + 1 : Nat) : Int) := by rw [i64w _ (by omega) (by omega)]; omega
    have h0i : (0 : Int) ≤ i := by omega
    have hcw : cellsAt wz b (o + i * 3) 3 = some [.int .i64 x.t, .bool x.d, .slice au x.b.length cu] := by
      obtain ⟨hl, hat⟩ := cellsAt_elim hcells
      exact cellsAt_of (w := wz) (b := b) (o := o + i * 3) [.int .i64 x.t, .bool x.d, .slice au x.b.length cu] (fun j u hj => by
        have := hat j u hj
        rw [h.cell0 (by rw [this]; rfl) id, this])
    clear hcells
    obtain ⟨xt, xd, xb⟩ := x
    dsimp only at *
    (try simp only [nfD] at h); have F := h.facts; (try simp only [nfF, emp_fact, rds_fact, frm_fact, tab_fact] at F); try simp -dsimp only [↓vcA, vcB, vcD, ↓pureT_lenS, ↓iteT, ↓iteF, cond_true, cond_false, eq_self, argE, Env.get, Env.push, ev, evs, evo, retV, Value.cells, Value.oneCell', setR, overR, fillL, zl, places, allSizes, heldC, ne_eq, Int.reduceLE, Int.reduceLT, Int.reduceEq, Int.reduceNe, Int.reduceToNat, Int.cast_ofNat_Int, Nat.reduceMul, Nat.reduceLeDiff, reduceIte, Nat.reduceEqDiff, Nat.reduceAdd, ↓reduceIte, Try.vcT, F, h.cell0, gets, vsD, if_true, if_false, Bool.false_eq_true,  hlt, h0i, decide_true, hcw]
    clear hcw
    refine h.new ?_
    clear h F
    intro wn bq h
    (try simp only [nfD] at h); have F := h.facts; (try simp only [nfF, emp_fact, rds_fact, frm_fact, tab_fact] at F); try simp -dsimp only [↓vcA, vcB, vcD, ↓pureT_lenS, ↓iteT, ↓iteF, cond_true, cond_false, eq_self, argE, Env.get, Env.push, ev, evs, evo, retV, Value.cells, Value.oneCell', setR, overR, fillL, zl, places, allSizes, heldC, ne_eq, Int.reduceLE, Int.reduceLT, Int.reduceEq, Int.reduceNe, Int.reduceToNat, Int.cast_ofNat_Int, Nat.reduceMul, Nat.reduceLeDiff, reduceIte, Nat.reduceEqDiff, Nat.reduceAdd, ↓reduceIte, Try.vcT, F, h.cell0, gets, vsD, if_true, if_false, Bool.false_eq_true]
    repeat ((first | refine Sep.new h ?_ | refine Sep.put 0 h rfl ?_ | refine Sep.put 1 h rfl ?_ | refine Sep.put 2 h rfl ?_ | refine Sep.put 3 h rfl ?_ | refine Sep.put 4 h rfl ?_ | refine Sep.put 5 h rfl ?_ | refine Sep.rnum 1 h rfl (by omega) (by omega) (by omega) ?_); (clear F; (try clear h); intros; rename_i h; (try simp only [nfD] at h); have F := h.facts; (try simp only [nfF, emp_fact, rds_fact, frm_fact, tab_fact] at F); try simp -dsimp only [↓vcA, vcB, vcD, ↓pureT_lenS, ↓iteT, ↓iteF, cond_true, cond_false, eq_self, argE, Env.get, Env.push, ev, evs, evo, retV, Value.cells, Value.oneCell', setR, overR, fillL, zl, places, allSizes, heldC, ne_eq, Int.reduceLE, Int.reduceLT, Int.reduceEq, Int.reduceNe, Int.reduceToNat, Int.cast_ofNat_Int, Nat.reduceMul, Nat.reduceLeDiff, reduceIte, Nat.reduceEqDiff, Nat.reduceAdd, ↓reduceIte, Try.vcT, F, h.cell0, gets, vsD, if_true, if_false, Bool.false_eq_true]))
    cases xd
    · (try simp only [nfD] at h); have F := h.facts; (try simp only [nfF, emp_fact, rds_fact, frm_fact, tab_fact] at F); try simp -dsimp only [↓vcA, vcB, vcD, ↓pureT_lenS, ↓iteT, ↓iteF, cond_true, cond_false, eq_self, argE, Env.get, Env.push, ev, evs, evo, retV, Value.cells, Value.oneCell', setR, overR, fillL, zl, places, allSizes, heldC, ne_eq, Int.reduceLE, Int.reduceLT, Int.reduceEq, Int.reduceNe, Int.reduceToNat, Int.cast_ofNat_Int, Nat.reduceMul, Nat.reduceLeDiff, reduceIte, Nat.reduceEqDiff, Nat.reduceAdd, ↓reduceIte, Try.vcT, F, h.cell0, gets, vsD, if_true, if_false, Bool.false_eq_true]
      repeat ((first | refine Sep.new h ?_ | refine Sep.put 0 h rfl ?_ | refine Sep.put 1 h rfl ?_ | refine Sep.put 2 h rfl ?_ | refine Sep.put 3 h rfl ?_ | refine Sep.put 4 h rfl ?_ | refine Sep.put 5 h rfl ?_ | refine Sep.rnum 1 h rfl (by omega) (by omega) (by omega) ?_); (clear F; (try clear h); intros; rename_i h; (try simp only [nfD] at h); have F := h.facts; (try simp only [nfF, emp_fact, rds_fact, frm_fact, tab_fact] at F); try simp -dsimp only [↓vcA, vcB, vcD, ↓pureT_lenS, ↓iteT, ↓iteF, cond_true, cond_false, eq_self, argE, Env.get, Env.push, ev, evs, evo, retV, Value.cells, Value.oneCell', setR, overR, fillL, zl, places, allSizes, heldC, ne_eq, Int.reduceLE, Int.reduceLT, Int.reduceEq, Int.reduceNe, Int.reduceToNat, Int.cast_ofNat_Int, Nat.reduceMul, Nat.reduceLeDiff, reduceIte, Nat.reduceEqDiff, Nat.reduceAdd, ↓reduceIte, Try.vcT, F, h.cell0, gets, vsD, if_true, if_false, Bool.false_eq_true]))
      have eC : wCh ((m.ch.take i).foldl wCh ((encL wCo (encL wIs (encL wCa (encL wReR (encL wPa (encL wW (encL wP (m.nums) m.p) m.wa) m.pa) m.re) m.ca) m.is) m.co).num m.ch.length 2)) ⟨xt, false, xb⟩ = (((((m.ch.take i).foldl wCh ((encL wCo (encL wIs (encL wCa (encL wReR (encL wPa (encL wW (encL wP (m.nums) m.p) m.wa) m.pa) m.re) m.ca) m.is) m.co).num m.ch.length 2)).num xt 1).num 0 1).num xb.length 2).raw xb := rfl
      rw [eC] at hfold
      generalize (((((m.ch.take i).foldl wCh ((encL wCo (encL wIs (encL wCa (encL wReR (encL wPa (encL wW (encL wP (m.nums) m.p) m.wa) m.pa) m.re) m.ca) m.is) m.co).num m.ch.length 2)).num xt 1).num 0 1).num xb.length 2) = E at *
      obtain ⟨a9', c9, h, hlen⟩ := h.wrOpen 1 rfl
      (try simp only [nfD] at h); have F := h.facts; (try simp only [nfF, emp_fact, rds_fact, frm_fact, tab_fact] at F)
      refine walkDraw (.q 0 (.q 1 (.q 2 (.q 3 (.q 5 (.h 6 0 (.l 4 (.l 7 (.q 8 (.q 9 (.l 10 .fin))))))))))) [(bq, 2, .slice au xb.length cu)] (by kernel_rfl) (by simp [Holds_nil, Holds_cons, F]) ?_
      refine h.draw ?_
      clear h F
      intro wd h
      (try simp only [nfD] at h); have F := h.facts; (try simp only [nfF, emp_fact, rds_fact, frm_fact, tab_fact] at F); try simp -dsimp only [↓vcA, vcB, vcD, ↓pureT_lenS, ↓iteT, ↓iteF, cond_true, cond_false, eq_self, argE, Env.get, Env.push, ev, evs, evo, retV, Value.cells, Value.oneCell', setR, overR, fillL, zl, places, allSizes, heldC, ne_eq, Int.reduceLE, Int.reduceLT, Int.reduceEq, Int.reduceNe, Int.reduceToNat, Int.cast_ofNat_Int, Nat.reduceMul, Nat.reduceLeDiff, reduceIte, Nat.reduceEqDiff, Nat.reduceAdd, ↓reduceIte, Try.vcT, F, h.cell0, gets, vsD, if_true, if_false, Bool.false_eq_true]
      refine Sep.appByt 3 xb h rfl (hru.sep h fun _ _ => id) (by omega) ?_
      clear h F
      intro a10 c10 we h
      (try simp only [nfD] at h); have F := h.facts; (try simp only [nfF, emp_fact, rds_fact, frm_fact, tab_fact] at F); try simp -dsimp only [↓vcA, vcB, vcD, ↓pureT_lenS, ↓iteT, ↓iteF, cond_true, cond_false, eq_self, argE, Env.get, Env.push, ev, evs, evo, retV, Value.cells, Value.oneCell', setR, overR, fillL, zl, places, allSizes, heldC, ne_eq, Int.reduceLE, Int.reduceLT, Int.reduceEq, Int.reduceNe, Int.reduceToNat, Int.cast_ofNat_Int, Nat.reduceMul, Nat.reduceLeDiff, reduceIte, Nat.reduceEqDiff, Nat.reduceAdd, ↓reduceIte, Try.vcT, F, h.cell0, gets, vsD, if_true, if_false, Bool.false_eq_true,  ei]
      refine Sep.put 1 h rfl ?_
      clear h F
      intro wf h
      (try simp only [nfD] at h); have F := h.facts; (try simp only [nfF, emp_fact, rds_fact, frm_fact, tab_fact] at F); try simp -dsimp only [↓vcA, vcB, vcD, ↓pureT_lenS, ↓iteT, ↓iteF, cond_true, cond_false, eq_self, argE, Env.get, Env.push, ev, evs, evo, retV, Value.cells, Value.oneCell', setR, overR, fillL, zl, places, allSizes, heldC, ne_eq, Int.reduceLE, Int.reduceLT, Int.reduceEq, Int.reduceNe, Int.reduceToNat, Int.cast_ofNat_Int, Nat.reduceMul, Nat.reduceLeDiff, reduceIte, Nat.reduceEqDiff, Nat.reduceAdd, ↓reduceIte, Try.vcT, F, h.cell0, gets, vsD, if_true, if_false, Bool.false_eq_true,  ei]
      have h := ((h.wrClose 1 3 (0 + 8 + 8 + 8 + 8 + 8 + 8 + 8 + 8 + m.p.length * 16 + 8 + m.wa.length * 40 + 8 + m.pa.length * 16 + 8 + m.re.length * 80 + 8 + m.ca.length * 72 + 8 + m.is.length * 24 + 8 + m.co.length * 24 + 8 + roomC (m.ch.take (i + 1))) rfl rfl (by decide) (by rw [hroom1]; simp; omega)).erase 3).erase 2
      refine ⟨_, ?_, i + 1, by omega, rfl, rfl, ?_⟩
      · omega
      rw [hfold]
      exact h
    · (try simp only [nfD] at h); have F := h.facts; (try simp only [nfF, emp_fact, rds_fact, frm_fact, tab_fact] at F); try simp -dsimp only [↓vcA, vcB, vcD, ↓pureT_lenS, ↓iteT, ↓iteF, cond_true, cond_false, eq_self, argE, Env.get, Env.push, ev, evs, evo, retV, Value.cells, Value.oneCell', setR, overR, fillL, zl, places, allSizes, heldC, ne_eq, Int.reduceLE, Int.reduceLT, Int.reduceEq, Int.reduceNe, Int.reduceToNat, Int.cast_ofNat_Int, Nat.reduceMul, Nat.reduceLeDiff, reduceIte, Nat.reduceEqDiff, Nat.reduceAdd, ↓reduceIte, Try.vcT, F, h.cell0, gets, vsD, if_true, if_false, Bool.false_eq_true]
      repeat ((first | refine Sep.new h ?_ | refine Sep.put 0 h rfl ?_ | refine Sep.put 1 h rfl ?_ | refine Sep.put 2 h rfl ?_ | refine Sep.put 3 h rfl ?_ | refine Sep.put 4 h rfl ?_ | refine Sep.put 5 h rfl ?_ | refine Sep.rnum 1 h rfl (by omega) (by omega) (by omega) ?_); (clear F; (try clear h); intros; rename_i h; (try simp only [nfD] at h); have F := h.facts; (try simp only [nfF, emp_fact, rds_fact, frm_fact, tab_fact] at F); try simp -dsimp only [↓vcA, vcB, vcD, ↓pureT_lenS, ↓iteT, ↓iteF, cond_true, cond_false, eq_self, argE, Env.get, Env.push, ev, evs, evo, retV, Value.cells, Value.oneCell', setR, overR, fillL, zl, places, allSizes, heldC, ne_eq, Int.reduceLE, Int.reduceLT, Int.reduceEq, Int.reduceNe, Int.reduceToNat, Int.cast_ofNat_Int, Nat.reduceMul, Nat.reduceLeDiff, reduceIte, Nat.reduceEqDiff, Nat.reduceAdd, ↓reduceIte, Try.vcT, F, h.cell0, gets, vsD, if_true, if_false, Bool.false_eq_true]))
      have eC : wCh ((m.ch.take i).foldl wCh ((encL wCo (encL wIs (encL wCa (encL wReR (encL wPa (encL wW (encL wP (m.nums) m.p) m.wa) m.pa) m.re) m.ca) m.is) m.co).num m.ch.length 2)) ⟨xt, true, xb⟩ = (((((m.ch.take i).foldl wCh ((encL wCo (encL wIs (encL wCa (encL wReR (encL wPa (encL wW (encL wP (m.nums) m.p) m.wa) m.pa) m.re) m.ca) m.is) m.co).num m.ch.length 2)).num xt 1).num 1 1).num xb.length 2).raw xb := rfl
      rw [eC] at hfold
      generalize (((((m.ch.take i).foldl wCh ((encL wCo (encL wIs (encL wCa (encL wReR (encL wPa (encL wW (encL wP (m.nums) m.p) m.wa) m.pa) m.re) m.ca) m.is) m.co).num m.ch.length 2)).num xt 1).num 1 1).num xb.length 2) = E at *
      obtain ⟨a9', c9, h, hlen⟩ := h.wrOpen 1 rfl
      (try simp only [nfD] at h); have F := h.facts; (try simp only [nfF, emp_fact, rds_fact, frm_fact, tab_fact] at F)
      refine walkDraw (.q 0 (.q 1 (.q 2 (.q 3 (.q 5 (.h 6 0 (.l 4 (.l 7 (.q 8 (.q 9 (.l 10 .fin))))))))))) [(bq, 2, .slice au xb.length cu)] (by kernel_rfl) (by simp [Holds_nil, Holds_cons, F]) ?_
      refine h.draw ?_
      clear h F
      intro wd h
      (try simp only [nfD] at h); have F := h.facts; (try simp only [nfF, emp_fact, rds_fact, frm_fact, tab_fact] at F); try simp -dsimp only [↓vcA, vcB, vcD, ↓pureT_lenS, ↓iteT, ↓iteF, cond_true, cond_false, eq_self, argE, Env.get, Env.push, ev, evs, evo, retV, Value.cells, Value.oneCell', setR, overR, fillL, zl, places, allSizes, heldC, ne_eq, Int.reduceLE, Int.reduceLT, Int.reduceEq, Int.reduceNe, Int.reduceToNat, Int.cast_ofNat_Int, Nat.reduceMul, Nat.reduceLeDiff, reduceIte, Nat.reduceEqDiff, Nat.reduceAdd, ↓reduceIte, Try.vcT, F, h.cell0, gets, vsD, if_true, if_false, Bool.false_eq_true]
      refine Sep.appByt 3 xb h rfl (hru.sep h fun _ _ => id) (by omega) ?_
      clear h F
      intro a10 c10 we h
      (try simp only [nfD] at h); have F := h.facts; (try simp only [nfF, emp_fact, rds_fact, frm_fact, tab_fact] at F); try simp -dsimp only [↓vcA, vcB, vcD, ↓pureT_lenS, ↓iteT, ↓iteF, cond_true, cond_false, eq_self, argE, Env.get, Env.push, ev, evs, evo, retV, Value.cells, Value.oneCell', setR, overR, fillL, zl, places, allSizes, heldC, ne_eq, Int.reduceLE, Int.reduceLT, Int.reduceEq, Int.reduceNe, Int.reduceToNat, Int.cast_ofNat_Int, Nat.reduceMul, Nat.reduceLeDiff, reduceIte, Nat.reduceEqDiff, Nat.reduceAdd, ↓reduceIte, Try.vcT, F, h.cell0, gets, vsD, if_true, if_false, Bool.false_eq_true,  ei]
      refine Sep.put 1 h rfl ?_
      clear h F
      intro wf h
      (try simp only [nfD] at h); have F := h.facts; (try simp only [nfF, emp_fact, rds_fact, frm_fact, tab_fact] at F); try simp -dsimp only [↓vcA, vcB, vcD, ↓pureT_lenS, ↓iteT, ↓iteF, cond_true, cond_false, eq_self, argE, Env.get, Env.push, ev, evs, evo, retV, Value.cells, Value.oneCell', setR, overR, fillL, zl, places, allSizes, heldC, ne_eq, Int.reduceLE, Int.reduceLT, Int.reduceEq, Int.reduceNe, Int.reduceToNat, Int.cast_ofNat_Int, Nat.reduceMul, Nat.reduceLeDiff, reduceIte, Nat.reduceEqDiff, Nat.reduceAdd, ↓reduceIte, Try.vcT, F, h.cell0, gets, vsD, if_true, if_false, Bool.false_eq_true,  ei]
      have h := ((h.wrClose 1 3 (0 + 8 + 8 + 8 + 8 + 8 + 8 + 8 + 8 + m.p.length * 16 + 8 + m.wa.length * 40 + 8 + m.pa.length * 16 + 8 + m.re.length * 80 + 8 + m.ca.length * 72 + 8 + m.is.length * 24 + 8 + m.co.length * 24 + 8 + roomC (m.ch.take (i + 1))) rfl rfl (by decide) (by rw [hroom1]; simp; omega)).erase 3).erase 2
      refine ⟨_, ?_, i + 1, by omega, rfl, rfl, ?_⟩
      · omega
      rw [hfold]
      exact h
  have hil : i = m.ch.length := by omega
  subst hil
  rw [List.take_of_length_le (Nat.le_refl _), show m.ch.foldl wCh ((encL wCo (encL wIs (encL wCa (encL wReR (encL wPa (encL wW (encL wP (m.nums) m.p) m.wa) m.pa) m.re) m.ca) m.is) m.co).num m.ch.length 2) = m.encR from rfl, m.encR_eq] at h
  (try simp only [nfD] at h); have F := h.facts; (try simp only [nfF, emp_fact, rds_fact, frm_fact, tab_fact] at F); try simp -dsimp only [↓vcA, vcB, vcD, ↓pureT_lenS, ↓iteT, ↓iteF, cond_true, cond_false, eq_self, argE, Env.get, Env.push, ev, evs, evo, retV, Value.cells, Value.oneCell', setR, overR, fillL, zl, places, allSizes, heldC, ne_eq, Int.reduceLE, Int.reduceLT, Int.reduceEq, Int.reduceNe, Int.reduceToNat, Int.cast_ofNat_Int, Nat.reduceMul, Nat.reduceLeDiff, reduceIte, Nat.reduceEqDiff, Nat.reduceAdd, ↓reduceIte, Try.vcT, F, h.cell0, gets, vsD, if_true, if_false, Bool.false_eq_true,  decide_eq_false hlt]
  obtain ⟨a9', c9, h, hlen⟩ := h.wrOpen 1 rfl
  have e1 : (m.enc.spoil (m.re.any badRe)).l = m.enc.l := rfl
  rw [e1] at h
  cases hb : (m.enc.spoil (m.re.any badRe)).bad with
  | true =>
    have hf : m.fails = true := by
      simp only [W8.spoil] at hb
      simp only [MapV.fails]
      cases h1 : m.re.any badRe <;> cases h2 : m.enc.bad <;> simp_all
    have e2 : m.bytes = [] := by simp [MapV.bytes, hf]
    rw [hb] at h
    (try simp only [nfD] at h); have F := h.facts; (try simp only [nfF, emp_fact, rds_fact, frm_fact, tab_fact] at F); try simp -dsimp only [↓vcA, vcB, vcD, ↓pureT_lenS, ↓iteT, ↓iteF, cond_true, cond_false, eq_self, argE, Env.get, Env.push, ev, evs, evo, retV, Value.cells, Value.oneCell', setR, overR, fillL, zl, places, allSizes, heldC, ne_eq, Int.reduceLE, Int.reduceLT, Int.reduceEq, Int.reduceNe, Int.reduceToNat, Int.cast_ofNat_Int, Nat.reduceMul, Nat.reduceLeDiff, reduceIte, Nat.reduceEqDiff, Nat.reduceAdd, ↓reduceIte, Try.vcT, F, h.cell0, gets, vsD, if_true, if_false, Bool.false_eq_true]
    rw [e2, hf]
    exact ⟨_, h.none.bytNone, (fun q hq x hx => by simp at hq; subst hq; exact hx), none, 0, rfl, rfl⟩
  | false =>
    have hb2 : m.re.any badRe = false ∧ m.enc.bad = false := by
      simp only [W8.spoil, Bool.or_eq_false_iff] at hb
      exact ⟨hb.2, hb.1⟩
    rw [hb] at h
    by_cases hlen2 : (1048576 : Int) < m.enc.l.length
    · have hf : m.fails = true := by simp [MapV.fails, hlen2]
      have e2 : m.bytes = [] := by simp [MapV.bytes, hf]
      (try simp only [nfD] at h); have F := h.facts; (try simp only [nfF, emp_fact, rds_fact, frm_fact, tab_fact] at F); try simp -dsimp only [↓vcA, vcB, vcD, ↓pureT_lenS, ↓iteT, ↓iteF, cond_true, cond_false, eq_self, argE, Env.get, Env.push, ev, evs, evo, retV, Value.cells, Value.oneCell', setR, overR, fillL, zl, places, allSizes, heldC, ne_eq, Int.reduceLE, Int.reduceLT, Int.reduceEq, Int.reduceNe, Int.reduceToNat, Int.cast_ofNat_Int, Nat.reduceMul, Nat.reduceLeDiff, reduceIte, Nat.reduceEqDiff, Nat.reduceAdd, ↓reduceIte, Try.vcT, F, h.cell0, gets, vsD, if_true, if_false, Bool.false_eq_true,  decide_eq_true hlen2]
      rw [e2, hf]
      exact ⟨_, h.none.bytNone, (fun q hq x hx => by simp at hq; subst hq; exact hx), none, 0, rfl, rfl⟩
    · have hf : m.fails = false := by simp only [MapV.fails, hb2.1, hb2.2, decide_eq_false hlen2, Bool.or_self]
      have e2 : m.bytes = m.enc.l := by simp [MapV.bytes, hf]
      (try simp only [nfD] at h); have F := h.facts; (try simp only [nfF, emp_fact, rds_fact, frm_fact, tab_fact] at F); try simp -dsimp only [↓vcA, vcB, vcD, ↓pureT_lenS, ↓iteT, ↓iteF, cond_true, cond_false, eq_self, argE, Env.get, Env.push, ev, evs, evo, retV, Value.cells, Value.oneCell', setR, overR, fillL, zl, places, allSizes, heldC, ne_eq, Int.reduceLE, Int.reduceLT, Int.reduceEq, Int.reduceNe, Int.reduceToNat, Int.cast_ofNat_Int, Nat.reduceMul, Nat.reduceLeDiff, reduceIte, Nat.reduceEqDiff, Nat.reduceAdd, ↓reduceIte, Try.vcT, F, h.cell0, gets, vsD, if_true, if_false, Bool.false_eq_true,  decide_eq_false hlen2]
      rw [e2, hf]
      exact ⟨_, (h.erase 0).erase 0, (fun q hq x hx => by simp at hq; subst hq; exact hx), _, _, rfl, rfl⟩
end Go.Proofs.Ytnhgjgoglmadnaa
