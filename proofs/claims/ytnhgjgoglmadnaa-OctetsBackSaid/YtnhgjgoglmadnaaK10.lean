/- The walk of OctetsBack. -/
import Derived.Test.YtnhgjgoglmadnaaL5
import Derived.Test.YtnhgjgoglmadnaaVU
namespace Go.Proofs.Ytnhgjgoglmadnaa
open Go.RowKit
-- FACTS emp_fact, rds_fact, frm_fact
set_option maxRecDepth 100000
set_option linter.unusedSimpArgs false
set_option linter.unusedVariables false
set_option pp.maxSteps 1500
set_option pp.deepTerms.threshold 8

theorem Sep.awake18 {w0 w : World} {S : Nat → Prop} {M : List Res} {K : Value → World → Prop} (h : Sep w0 S M w) (hk : ∀ w1, Sep w0 S M w1 → K (.bool true) w1) : callsK Try.prog 19 [].toArray w K := h.callp (Go.Proofs.Ytnhgjgoglmadnaa.awake18 w) hk
theorem Sep.rdRawE (i : Nat) {w0 w : World} {S : Nat → Prop} {M : List Res} {K : Value → World → Prop} {p : Nat} {s s' : R8} {Z : Nat → Prop} {n : Int} {xs : List Int} (e1 : s.rawV n = xs) (e2 : s.rawS n = s') (h : Sep w0 S M w) (hi : M[i]? = some (rdr 134 p s Z))
    (hk : ∀ a c w1, Sep w0 S (M.set i (rdr 134 p s' Z) ++ [byt (.slice a xs.length c) xs]) w1 → K (.slice a xs.length c) w1) : callsK Try.prog 51 [.pointer (some ⟨p, 0, none⟩), .int .i64 n].toArray w K := by
  subst e1 e2
  exact Sep.rdRaw i h hi hk
/-- The cells of some parts. -/
def cellsP (qs : List (Prt × Value)) : List Value := qs.flatMap fun q => q.1.cells q.2
theorem cellsP_len : ∀ (qs : List (Prt × Value)), (cellsP qs).length = qs.length * 12
  | [] => rfl
  | q :: qs => by simp only [cellsP, List.flatMap_cons, List.length_append, List.length_cons]; have := cellsP_len qs; simp only [cellsP] at this; rw [this]; simp [Prt.cells]; omega
theorem cellsP_at : ∀ {qs : List (Prt × Value)} {i : Nat} (h : i < qs.length), ((cellsP qs).drop (i * 12)).take 12 = qs[i].1.cells qs[i].2
  | q :: qs, 0, h => by simp [cellsP, Prt.cells]
  | q :: qs, i + 1, h => by
    have e : (i + 1) * 12 = (q.1.cells q.2).length + i * 12 := by simp [Prt.cells]; omega
    simp only [cellsP, List.flatMap_cons]
    rw [e, ← List.drop_drop, List.drop_append_of_le_length (Nat.le_refl _), List.drop_length, List.nil_append]
    have := cellsP_at (qs := qs) (i := i) (by simpa using h)
    simpa [cellsP] using this
/-- Elements of one's own row, as cells. -/
theorem owns_cellsAt {w : World} {e s : Nat} {a : Option Addr} {n c : Nat} {xs : List Value} (h : w.ownsRow 0 e s (.slice a n c) n xs) {i : Nat} (hi : i < n) (hs : 0 < s) :
    ∃ g, a = some ⟨g, 0, none⟩ ∧ cellsAt w g (i * s) s = some ((xs.drop (i * s)).take s) := by
  have hlen := h.1
  rcases h.2 with ⟨e1, hz⟩ | ⟨g, cap, cur, e1, hb, hg, _⟩
  · omega
  · injection e1 with e1 e2 e3
    subst e1
    refine ⟨g, rfl, ?_⟩
    have hle : i * s + s ≤ xs.length := by
      rw [hlen, ← Nat.succ_mul]; exact Nat.mul_le_mul_right s hi
    have hl : ((xs.drop (i * s)).take s).length = s := by simp; omega
    have := cellsAt_of (w := w) (b := g) (o := i * s) ((xs.drop (i * s)).take s) (fun j u hj => by
      have hjl := (List.getElem?_eq_some_iff.1 hj).1
      rw [hl] at hjl
      rw [List.getElem?_take_of_lt hjl, List.getElem?_drop] at hj
      have := World.ownsRow.cells h (g := g) rfl _ _ hj
      simpa [Addr.add_lit] using this)
    rw [hl] at this
    exact this

theorem Sep.wrMono (i : Nat) {w0 w : World} {S : Nat → Prop} {M : List Res} {t p k : Nat} {s : W8} (k' : Nat) (h : Sep w0 S M w) (hi : M[i]? = some (wr t p s k)) (hk : k ≤ k') : Sep w0 S (M.set i (wr t p s k')) w :=
  h.conv i hi (fun A ⟨h1, h2, h3⟩ => ⟨Nat.le_trans h1 hk, h2, h3⟩) (fun _ f => f)
theorem row_of_cells {w : World} {b s n : Nat} {cs : List Value} (h : ∀ o, w.cell? ⟨b, o, none⟩ = cs[o]?) (hn : cs.length = n * s) (h1 : ∀ u ∈ cs, u.oneCell' = true) (hm : n ≤ maxLen) : Row s w (.slice (some ⟨b, 0, none⟩) n n) n cs :=
  ⟨hn, h1, _, _, rfl, Nat.le_refl _, hm, (fun e => by cases e), fun _ => ⟨b, 0, rfl, fun j u hj => by rw [h, Nat.zero_add]; exact hj⟩⟩
theorem info_part : (Try.prog.info? 41).map (fun i => (i.zero, i.size, i.bytes)) = some (some (.agg #[.int .i64 0, .int .i64 0, .int .i64 0, .int .i64 0, .int .i64 0, .int .i64 0, .int .i64 0, .int .i64 0, .int .i64 0, .int .i64 0, .int .i64 0, .slice none 0 0]), 12, 112) := by kernel_rfl
theorem cellsP_snoc (qs : List (Prt × Value)) (q : Prt × Value) : cellsP (qs ++ [q]) = cellsP qs ++ q.1.cells q.2 := by simp [cellsP]

set_option maxHeartbeats 1000000 in
theorem walk10 (v : Value) (ps : List (Prt × Value)) (w : World) (hp : Parts w v ps) :
    Calls Try.prog 10 [v].toArray w (RetK fun r w' => r = .bool true ∧ Chg (fun _ => False) w w') := by
  obtain ⟨a, c, rfl, hm, _⟩ := hp.shape
  have h := Sep.nil w
  refine walk Try.func10 rfl (by kernel_rfl) (by rw [Try.nt10]; simp) ?_
  (try simp only [nfD] at h); have F := h.facts; (try simp only [nfF, emp_fact, rds_fact, frm_fact] at F)
  simp -dsimp only [↓vcA, vcB, vcD, ↓pureT_lenS, ↓iteT, ↓iteF, cond_true, cond_false, eq_self, argE, Env.get, Env.push, ev, evs, evo, retV, Value.cells, Value.oneCell', setR, overR, fillL, zl, places, allSizes, heldC, ne_eq, Int.reduceLE, Int.reduceLT, Int.reduceEq, Int.reduceNe, Int.reduceToNat, Int.cast_ofNat_Int, Nat.reduceMul, Nat.reduceLeDiff, reduceIte, Nat.reduceEqDiff, Nat.reduceAdd, ↓reduceIte, Try.vcT]
  refine callsK_use (few _ ps w hp) ?_
  rintro _ w' ⟨f, rfl, e, hfew⟩
  obtain rfl := e.symm
  cases f with
  | false =>
    simp -dsimp only [↓vcA, vcB, vcD, ↓pureT_lenS, ↓iteT, ↓iteF, cond_true, cond_false, eq_self, argE, Env.get, Env.push, ev, evs, evo, retV, Value.cells, Value.oneCell', setR, overR, fillL, zl, places, allSizes, heldC, ne_eq, Int.reduceLE, Int.reduceLT, Int.reduceEq, Int.reduceNe, Int.reduceToNat, Int.cast_ofNat_Int, Nat.reduceMul, Nat.reduceLeDiff, reduceIte, Nat.reduceEqDiff, Nat.reduceAdd, ↓reduceIte, Try.vcT]
    refine Sep.awake18 h ?_
    clear h F
    intro w1 h
    (try simp only [nfD] at h); have F := h.facts; (try simp only [nfF, emp_fact, rds_fact, frm_fact] at F); try simp -dsimp only [↓vcA, vcB, vcD, ↓pureT_lenS, ↓iteT, ↓iteF, cond_true, cond_false, eq_self, argE, Env.get, Env.push, ev, evs, evo, retV, Value.cells, Value.oneCell', setR, overR, fillL, zl, places, allSizes, heldC, ne_eq, Int.reduceLE, Int.reduceLT, Int.reduceEq, Int.reduceNe, Int.reduceToNat, Int.cast_ofNat_Int, Nat.reduceMul, Nat.reduceLeDiff, reduceIte, Nat.reduceEqDiff, Nat.reduceAdd, ↓reduceIte, Try.vcT, F, h.cell0, gets, vsD, if_true, if_false, Bool.false_eq_true]
    exact h.done
  | true =>
  obtain ⟨h30, h60⟩ := hfew rfl
  simp -dsimp only [↓vcA, vcB, vcD, ↓pureT_lenS, ↓iteT, ↓iteF, cond_true, cond_false, eq_self, argE, Env.get, Env.push, ev, evs, evo, retV, Value.cells, Value.oneCell', setR, overR, fillL, zl, places, allSizes, heldC, ne_eq, Int.reduceLE, Int.reduceLT, Int.reduceEq, Int.reduceNe, Int.reduceToNat, Int.cast_ofNat_Int, Nat.reduceMul, Nat.reduceLeDiff, reduceIte, Nat.reduceEqDiff, Nat.reduceAdd, ↓reduceIte, Try.vcT]
  refine h.new ?_
  clear h F
  intro w1 p h
  have h := (h.wrNew 0 rfl (by decide)).fresh (e := 41) (s := 12)
  (try simp only [nfD] at h); have F := h.facts; (try simp only [nfF, emp_fact, rds_fact, frm_fact] at F)
  refine walkLoop [0] [3, 4, 5] (fun m vs w' => ∃ i qs a1 c1, i ≤ ps.length ∧ m = ps.length - i ∧ vs = [.pointer (some ⟨p, 0, none⟩), .slice a1 qs.length c1, .int .i64 i] ∧
    Sep w (fun _ => False) [wr 32 p ⟨qs.flatMap fun q => q.1.out, false⟩ (i * 100), row 41 12 (.slice a1 qs.length c1) qs.length (cellsP qs)] w' ∧
    (∀ q ∈ qs, q.1.Good ∧ Rd w q.2 q.1.b ∧ Byt q.1.b ∧ q.1.b.length ≤ 60) ∧ qs.length ≤ i) (by kernel_rfl) ?_ ?_
  · simp -dsimp only [↓vcA, vcB, vcD, ↓pureT_lenS, ↓iteT, ↓iteF, cond_true, cond_false, eq_self, argE, Env.get, Env.push, ev, evs, evo, retV, Value.cells, Value.oneCell', setR, overR, fillL, zl, places, allSizes, heldC, ne_eq, Int.reduceLE, Int.reduceLT, Int.reduceEq, Int.reduceNe, Int.reduceToNat, Int.cast_ofNat_Int, Nat.reduceMul, Nat.reduceLeDiff, reduceIte, Nat.reduceEqDiff, Nat.reduceAdd, ↓reduceIte, Try.vcT, gets]
    exact ⟨_, 0, [], none, 0, Nat.zero_le _, rfl, rfl, h, (fun q hq => by cases hq), Nat.le_refl _⟩
  intro ks hk m vs w2 hi
  clear h F
  obtain ⟨i, qs, a1, c1, hi, rfl, rfl, h, hgood, hql⟩ := hi
  simp -dsimp only [gets, argE, List.zip_cons_cons, List.zip_nil_left, List.cons_append, List.nil_append, Env.get, Env.push, Option.bind_some, Option.map_some, Option.some.injEq, reduceIte, Nat.reduceEqDiff, Nat.reduceAdd, ↓reduceIte] at hk; subst hk
  by_cases hlt : (i : Int) < ps.length
  case neg =>
    (try simp only [nfD] at h); have F := h.facts; (try simp only [nfF, emp_fact, rds_fact, frm_fact] at F); try simp -dsimp only [↓vcA, vcB, vcD, ↓pureT_lenS, ↓iteT, ↓iteF, cond_true, cond_false, eq_self, argE, Env.get, Env.push, ev, evs, evo, retV, Value.cells, Value.oneCell', setR, overR, fillL, zl, places, allSizes, heldC, ne_eq, Int.reduceLE, Int.reduceLT, Int.reduceEq, Int.reduceNe, Int.reduceToNat, Int.cast_ofNat_Int, Nat.reduceMul, Nat.reduceLeDiff, reduceIte, Nat.reduceEqDiff, Nat.reduceAdd, ↓reduceIte, Try.vcT, F, h.cell0, gets, vsD, if_true, if_false, Bool.false_eq_true,  decide_eq_false hlt]
    refine Sep.bytes 0 h rfl (by omega) ?_
    clear h F
    intro a3 c3 w3 h
    simp only [Bool.false_eq_true, if_false] at h
    have hBl : (qs.flatMap fun q => q.1.out).length ≤ 10000 := by
      have := h.facts.1
      simp only [wr_fact] at this
      omega
    (try simp only [nfD] at h); have F := h.facts; (try simp only [nfF, emp_fact, rds_fact, frm_fact] at F); try simp -dsimp only [↓vcA, vcB, vcD, ↓pureT_lenS, ↓iteT, ↓iteF, cond_true, cond_false, eq_self, argE, Env.get, Env.push, ev, evs, evo, retV, Value.cells, Value.oneCell', setR, overR, fillL, zl, places, allSizes, heldC, ne_eq, Int.reduceLE, Int.reduceLT, Int.reduceEq, Int.reduceNe, Int.reduceToNat, Int.cast_ofNat_Int, Nat.reduceMul, Nat.reduceLeDiff, reduceIte, Nat.reduceEqDiff, Nat.reduceAdd, ↓reduceIte, Try.vcT, F, h.cell0, gets, vsD, if_true, if_false, Bool.false_eq_true]
    refine Sep.read _ h F.2.2.1 (by omega) ?_
    clear h F
    intro r w4 h
    (try simp only [nfD] at h); have F := h.facts; (try simp only [nfF, emp_fact, rds_fact, frm_fact] at F); try simp -dsimp only [↓vcA, vcB, vcD, ↓pureT_lenS, ↓iteT, ↓iteF, cond_true, cond_false, eq_self, argE, Env.get, Env.push, ev, evs, evo, retV, Value.cells, Value.oneCell', setR, overR, fillL, zl, places, allSizes, heldC, ne_eq, Int.reduceLE, Int.reduceLT, Int.reduceEq, Int.reduceNe, Int.reduceToNat, Int.cast_ofNat_Int, Nat.reduceMul, Nat.reduceLeDiff, reduceIte, Nat.reduceEqDiff, Nat.reduceAdd, ↓reduceIte, Try.vcT, F, h.cell0, gets, vsD, if_true, if_false, Bool.false_eq_true]
    refine walkLoop [4, 10] [11] (fun m vs w' => ∃ j, j ≤ qs.length ∧ m = qs.length - j ∧ vs = [.int .i64 j] ∧
      Sep w (fun _ => False) [wr 32 p ⟨qs.flatMap fun q => q.1.out, false⟩ (i * 100), row 41 12 (.slice a1 qs.length c1) qs.length (cellsP qs), byt (.slice a3 (qs.flatMap fun q => q.1.out).length c3) (qs.flatMap fun q => q.1.out), rdr 134 r ⟨(qs.drop j).flatMap fun q => q.1.out, false⟩ (fun _ => False)] w') (by kernel_rfl) ?_ ?_
    · simp -dsimp only [↓vcA, vcB, vcD, ↓pureT_lenS, ↓iteT, ↓iteF, cond_true, cond_false, eq_self, argE, Env.get, Env.push, ev, evs, evo, retV, Value.cells, Value.oneCell', setR, overR, fillL, zl, places, allSizes, heldC, ne_eq, Int.reduceLE, Int.reduceLT, Int.reduceEq, Int.reduceNe, Int.reduceToNat, Int.cast_ofNat_Int, Nat.reduceMul, Nat.reduceLeDiff, reduceIte, Nat.reduceEqDiff, Nat.reduceAdd, ↓reduceIte, Try.vcT, gets]
      exact ⟨_, 0, Nat.zero_le _, rfl, by simp, h⟩
    intro ks hk m vs w5 hj
    clear h F
    obtain ⟨j, hj, rfl, rfl, h⟩ := hj
    simp -dsimp only [gets, argE, List.zip_cons_cons, List.zip_nil_left, List.cons_append, List.nil_append, Env.get, Env.push, Option.bind_some, Option.map_some, Option.some.injEq, reduceIte, Nat.reduceEqDiff, Nat.reduceAdd, ↓reduceIte] at hk; subst hk
    by_cases hlj : (j : Int) < qs.length
    case neg =>
      have hjl : j = qs.length := by omega
      subst hjl
      have ed : (R8.mk [] false).done = true := rfl
      simp only [List.drop_length, List.flatMap_nil] at h
      (try simp only [nfD] at h); have F := h.facts; (try simp only [nfF, emp_fact, rds_fact, frm_fact] at F); try simp -dsimp only [↓vcA, vcB, vcD, ↓pureT_lenS, ↓iteT, ↓iteF, cond_true, cond_false, eq_self, argE, Env.get, Env.push, ev, evs, evo, retV, Value.cells, Value.oneCell', setR, overR, fillL, zl, places, allSizes, heldC, ne_eq, Int.reduceLE, Int.reduceLT, Int.reduceEq, Int.reduceNe, Int.reduceToNat, Int.cast_ofNat_Int, Nat.reduceMul, Nat.reduceLeDiff, reduceIte, Nat.reduceEqDiff, Nat.reduceAdd, ↓reduceIte, Try.vcT, F, h.cell0, gets, vsD, if_true, if_false, Bool.false_eq_true,  decide_eq_false hlj]
      refine Sep.rdDone 3 h rfl ?_
      (try simp only [nfD] at h); have F := h.facts; (try simp only [nfF, emp_fact, rds_fact, frm_fact] at F); try simp -dsimp only [↓vcA, vcB, vcD, ↓pureT_lenS, ↓iteT, ↓iteF, cond_true, cond_false, eq_self, argE, Env.get, Env.push, ev, evs, evo, retV, Value.cells, Value.oneCell', setR, overR, fillL, zl, places, allSizes, heldC, ne_eq, Int.reduceLE, Int.reduceLT, Int.reduceEq, Int.reduceNe, Int.reduceToNat, Int.cast_ofNat_Int, Nat.reduceMul, Nat.reduceLeDiff, reduceIte, Nat.reduceEqDiff, Nat.reduceAdd, ↓reduceIte, Try.vcT, F, h.cell0, gets, vsD, if_true, if_false, Bool.false_eq_true,  ed]
      refine Sep.awake18 h ?_
      clear h F
      intro w6 h
      (try simp only [nfD] at h); have F := h.facts; (try simp only [nfF, emp_fact, rds_fact, frm_fact] at F); try simp -dsimp only [↓vcA, vcB, vcD, ↓pureT_lenS, ↓iteT, ↓iteF, cond_true, cond_false, eq_self, argE, Env.get, Env.push, ev, evs, evo, retV, Value.cells, Value.oneCell', setR, overR, fillL, zl, places, allSizes, heldC, ne_eq, Int.reduceLE, Int.reduceLT, Int.reduceEq, Int.reduceNe, Int.reduceToNat, Int.cast_ofNat_Int, Nat.reduceMul, Nat.reduceLeDiff, reduceIte, Nat.reduceEqDiff, Nat.reduceAdd, ↓reduceIte, Try.vcT, F, h.cell0, gets, vsD, if_true, if_false, Bool.false_eq_true]
      exact h.done
    have hjl : j < qs.length := by omega
    have ej : IntKind.i64.wrap ((j : Int) + 1) = ((j + 1 : Nat) : Int) := by rw [i64w _ (by omega) (by omega)]; omega
    (try simp only [nfD] at h); have F := h.facts; (try simp only [nfF, emp_fact, rds_fact, frm_fact] at F)
    obtain ⟨g, rfl, hcells⟩ := owns_cellsAt F.2.1 hjl (by decide)
    rw [cellsP_at hjl] at hcells
    have hdrop : ((qs.drop j).flatMap fun q => q.1.out) = qs[j].1.out ++ ((qs.drop (j + 1)).flatMap fun q => q.1.out) := by rw [List.drop_eq_getElem_cons hjl, List.flatMap_cons]
    rw [hdrop] at h
    obtain ⟨hg, r1, r2, hb60⟩ := hgood _ (List.getElem_mem hjl)
    have fin : ∀ {w' : World} {b' : Nat} {cs : List Value}, Sep w (fun _ => False) [wr 32 p ⟨qs.flatMap fun q => q.1.out, false⟩ (i * 100), row 41 12 (.slice (some ⟨g, 0, none⟩) qs.length c1) qs.length (cellsP qs), byt (.slice a3 (qs.flatMap fun q => q.1.out).length c3) (qs.flatMap fun q => q.1.out), rdr 134 r ⟨(qs.drop (j + 1)).flatMap fun q => q.1.out, false⟩ (fun _ => False), blk b' 41 cs] w' →
      ∃ m', m' < qs.length - j ∧ ∃ j', j' ≤ qs.length ∧ m' = qs.length - j' ∧ [Value.int .i64 ((j + 1 : Nat) : Int)] = [.int .i64 j'] ∧
        Sep w (fun _ => False) [wr 32 p ⟨qs.flatMap fun q => q.1.out, false⟩ (i * 100), row 41 12 (.slice (some ⟨g, 0, none⟩) qs.length c1) qs.length (cellsP qs), byt (.slice a3 (qs.flatMap fun q => q.1.out).length c3) (qs.flatMap fun q => q.1.out), rdr 134 r ⟨(qs.drop j').flatMap fun q => q.1.out, false⟩ (fun _ => False)] w' := fun h => ⟨_, by omega, j + 1, by omega, rfl, rfl, h.erase 4⟩
    generalize ((qs.drop (j + 1)).flatMap fun q => q.1.out) = R at *
    generalize qs[j] = x at *
    obtain ⟨⟨kind, n, size, px, py, ax, ay, bx, by', cx, cy, bs⟩, vb⟩ := x
    dsimp only at r1 r2 hb60
    have r1' := r1
    obtain ⟨ab, cb, rfl, _⟩ := r1'
    (try simp only [nfD] at h); have F := h.facts; (try simp only [nfF, emp_fact, rds_fact, frm_fact] at F); try simp -dsimp only [↓vcA, vcB, vcD, ↓pureT_lenS, ↓iteT, ↓iteF, cond_true, cond_false, eq_self, argE, Env.get, Env.push, ev, evs, evo, retV, Value.cells, Value.oneCell', setR, overR, fillL, zl, places, allSizes, heldC, ne_eq, Int.reduceLE, Int.reduceLT, Int.reduceEq, Int.reduceNe, Int.reduceToNat, Int.cast_ofNat_Int, Nat.reduceMul, Nat.reduceLeDiff, reduceIte, Nat.reduceEqDiff, Nat.reduceAdd, ↓reduceIte, Try.vcT, F, h.cell0, gets, vsD, if_true, if_false, Bool.false_eq_true,  decide_eq_true hlj]
    refine ⟨⟨by omega, by omega⟩, ?_⟩
    (try simp only [nfD] at h); have F := h.facts; (try simp only [nfF, emp_fact, rds_fact, frm_fact] at F); try simp -dsimp only [↓vcA, vcB, vcD, ↓pureT_lenS, ↓iteT, ↓iteF, cond_true, cond_false, eq_self, argE, Env.get, Env.push, ev, evs, evo, retV, Value.cells, Value.oneCell', setR, overR, fillL, zl, places, allSizes, heldC, ne_eq, Int.reduceLE, Int.reduceLT, Int.reduceEq, Int.reduceNe, Int.reduceToNat, Int.cast_ofNat_Int, Nat.reduceMul, Nat.reduceLeDiff, reduceIte, Nat.reduceEqDiff, Nat.reduceAdd, ↓reduceIte, Try.vcT, F, h.cell0, gets, vsD, if_true, if_false, Bool.false_eq_true,  hcells, Prt.cells]
    clear hcells
    repeat ((first | refine Sep.new h ?_ | refine Sep.put 0 h rfl ?_ | refine Sep.put 1 h rfl ?_ | refine Sep.put 2 h rfl ?_ | refine Sep.put 3 h rfl ?_ | refine Sep.put 4 h rfl ?_ | refine Sep.put 5 h rfl ?_); (clear F; (try clear h); intros; rename_i h; (try simp only [nfD] at h); have F := h.facts; (try simp only [nfF, emp_fact, rds_fact, frm_fact] at F); try simp -dsimp only [↓vcA, vcB, vcD, ↓pureT_lenS, ↓iteT, ↓iteF, cond_true, cond_false, eq_self, argE, Env.get, Env.push, ev, evs, evo, retV, Value.cells, Value.oneCell', setR, overR, fillL, zl, places, allSizes, heldC, ne_eq, Int.reduceLE, Int.reduceLT, Int.reduceEq, Int.reduceNe, Int.reduceToNat, Int.cast_ofNat_Int, Nat.reduceMul, Nat.reduceLeDiff, reduceIte, Nat.reduceEqDiff, Nat.reduceAdd, ↓reduceIte, Try.vcT, F, h.cell0, gets, vsD, if_true, if_false, Bool.false_eq_true]))
    rcases hg.kind with e | e | e | e <;> dsimp only at e <;> subst e
    · obtain ⟨z, hn, hf⟩ := hg.num rfl
      dsimp only at z hn hf
      have eo : Prt.out ⟨0, n, size, px, py, ax, ay, bx, by', cx, cy, bs⟩ = be n size.toNat := by simp [Prt.out]
      have ez : ((size.toNat : Nat) : Int) = size := by omega
      obtain ⟨v1, v2⟩ := num_read n size.toNat R (by omega) (by omega) hn.1 hn.2 hf
      rw [ez] at v1 v2
      rw [eo] at h
      (try simp only [nfD] at h); have F := h.facts; (try simp only [nfF, emp_fact, rds_fact, frm_fact] at F); try simp -dsimp only [↓vcA, vcB, vcD, ↓pureT_lenS, ↓iteT, ↓iteF, cond_true, cond_false, eq_self, argE, Env.get, Env.push, ev, evs, evo, retV, Value.cells, Value.oneCell', setR, overR, fillL, zl, places, allSizes, heldC, ne_eq, Int.reduceLE, Int.reduceLT, Int.reduceEq, Int.reduceNe, Int.reduceToNat, Int.cast_ofNat_Int, Nat.reduceMul, Nat.reduceLeDiff, reduceIte, Nat.reduceEqDiff, Nat.reduceAdd, ↓reduceIte, Try.vcT, F, h.cell0, gets, vsD, if_true, if_false, Bool.false_eq_true]
      rename_i w6 b6 _ _ _
      refine walkDraw (.q 0 (.q 1 (.q 4 (.h 2 0 (.h 5 1 (.l 3 (.q 6 .fin))))))) [(b6, 2, .int .i64 size), (b6, 1, .int .i64 n)] (by kernel_rfl) (by simp [Holds_nil, Holds_cons, F]) ?_
      refine h.draw ?_
      clear h F
      intro w7 h
      (try simp only [nfD] at h); have F := h.facts; (try simp only [nfF, emp_fact, rds_fact, frm_fact] at F); try simp -dsimp only [↓vcA, vcB, vcD, ↓pureT_lenS, ↓iteT, ↓iteF, cond_true, cond_false, eq_self, argE, Env.get, Env.push, ev, evs, evo, retV, Value.cells, Value.oneCell', setR, overR, fillL, zl, places, allSizes, heldC, ne_eq, Int.reduceLE, Int.reduceLT, Int.reduceEq, Int.reduceNe, Int.reduceToNat, Int.cast_ofNat_Int, Nat.reduceMul, Nat.reduceLeDiff, reduceIte, Nat.reduceEqDiff, Nat.reduceAdd, ↓reduceIte, Try.vcT, F, h.cell0, gets, vsD, if_true, if_false, Bool.false_eq_true]
      refine Sep.rdNum 3 h rfl ?_
      clear h F
      intro w8 h
      rw [v2] at h
      rw [v1]
      (try simp only [nfD] at h); have F := h.facts; (try simp only [nfF, emp_fact, rds_fact, frm_fact] at F); try simp -dsimp only [↓vcA, vcB, vcD, ↓pureT_lenS, ↓iteT, ↓iteF, cond_true, cond_false, eq_self, argE, Env.get, Env.push, ev, evs, evo, retV, Value.cells, Value.oneCell', setR, overR, fillL, zl, places, allSizes, heldC, ne_eq, Int.reduceLE, Int.reduceLT, Int.reduceEq, Int.reduceNe, Int.reduceToNat, Int.cast_ofNat_Int, Nat.reduceMul, Nat.reduceLeDiff, reduceIte, Nat.reduceEqDiff, Nat.reduceAdd, ↓reduceIte, Try.vcT, F, h.cell0, gets, vsD, if_true, if_false, Bool.false_eq_true,  ej, decide_true]
      exact fin h
    · have eo : Prt.out ⟨1, n, size, px, py, ax, ay, bx, by', cx, cy, bs⟩ = ptB px py := by simp [Prt.out]
      obtain ⟨v1, v2⟩ := pt_read R (hg.pt rfl)
      dsimp only at v1 v2
      rw [eo] at h
      (try simp only [nfD] at h); have F := h.facts; (try simp only [nfF, emp_fact, rds_fact, frm_fact] at F); try simp -dsimp only [↓vcA, vcB, vcD, ↓pureT_lenS, ↓iteT, ↓iteF, cond_true, cond_false, eq_self, argE, Env.get, Env.push, ev, evs, evo, retV, Value.cells, Value.oneCell', setR, overR, fillL, zl, places, allSizes, heldC, ne_eq, Int.reduceLE, Int.reduceLT, Int.reduceEq, Int.reduceNe, Int.reduceToNat, Int.cast_ofNat_Int, Nat.reduceMul, Nat.reduceLeDiff, reduceIte, Nat.reduceEqDiff, Nat.reduceAdd, ↓reduceIte, Try.vcT, F, h.cell0, gets, vsD, if_true, if_false, Bool.false_eq_true]
      rename_i w6 b6 _ _ _
      refine walkDraw (.q 0 (.q 2 (.h 3 0 (.l 1 (.q 4 .fin))))) [(b6, 3, .int .i64 px), (b6, 4, .int .i64 py)] (by kernel_rfl) (by simp [Holds_nil, Holds_cons, F]) ?_
      refine h.draw ?_
      clear h F
      intro w7 h
      (try simp only [nfD] at h); have F := h.facts; (try simp only [nfF, emp_fact, rds_fact, frm_fact] at F); try simp -dsimp only [↓vcA, vcB, vcD, ↓pureT_lenS, ↓iteT, ↓iteF, cond_true, cond_false, eq_self, argE, Env.get, Env.push, ev, evs, evo, retV, Value.cells, Value.oneCell', setR, overR, fillL, zl, places, allSizes, heldC, ne_eq, Int.reduceLE, Int.reduceLT, Int.reduceEq, Int.reduceNe, Int.reduceToNat, Int.cast_ofNat_Int, Nat.reduceMul, Nat.reduceLeDiff, reduceIte, Nat.reduceEqDiff, Nat.reduceAdd, ↓reduceIte, Try.vcT, F, h.cell0, gets, vsD, if_true, if_false, Bool.false_eq_true]
      refine Sep.rdPoint 3 h rfl ?_
      clear h F
      intro w8 h
      rw [v2] at h
      rw [v1]
      (try simp only [nfD] at h); have F := h.facts; (try simp only [nfF, emp_fact, rds_fact, frm_fact] at F); try simp -dsimp only [↓vcA, vcB, vcD, ↓pureT_lenS, ↓iteT, ↓iteF, cond_true, cond_false, eq_self, argE, Env.get, Env.push, ev, evs, evo, retV, Value.cells, Value.oneCell', setR, overR, fillL, zl, places, allSizes, heldC, ne_eq, Int.reduceLE, Int.reduceLT, Int.reduceEq, Int.reduceNe, Int.reduceToNat, Int.cast_ofNat_Int, Nat.reduceMul, Nat.reduceLeDiff, reduceIte, Nat.reduceEqDiff, Nat.reduceAdd, ↓reduceIte, Try.vcT, F, h.cell0, gets, vsD, if_true, if_false, Bool.false_eq_true,  ej, neq_pt, decide_true]
      exact fin h
    · have eo : Prt.out ⟨2, n, size, px, py, ax, ay, bx, by', cx, cy, bs⟩ = T3.bytes ⟨ax, ay, bx, by', cx, cy⟩ := by simp [Prt.out, Prt.t]
      obtain ⟨v1, v2⟩ := tri_read R (hg.tri rfl)
      simp only [Prt.t] at v1 v2
      rw [eo] at h
      (try simp only [nfD] at h); have F := h.facts; (try simp only [nfF, emp_fact, rds_fact, frm_fact] at F); try simp -dsimp only [↓vcA, vcB, vcD, ↓pureT_lenS, ↓iteT, ↓iteF, cond_true, cond_false, eq_self, argE, Env.get, Env.push, ev, evs, evo, retV, Value.cells, Value.oneCell', setR, overR, fillL, zl, places, allSizes, heldC, ne_eq, Int.reduceLE, Int.reduceLT, Int.reduceEq, Int.reduceNe, Int.reduceToNat, Int.cast_ofNat_Int, Nat.reduceMul, Nat.reduceLeDiff, reduceIte, Nat.reduceEqDiff, Nat.reduceAdd, ↓reduceIte, Try.vcT, F, h.cell0, gets, vsD, if_true, if_false, Bool.false_eq_true]
      rename_i w6 b6 _ _ _
      refine walkDraw (.q 0 (.q 2 (.h 3 0 (.l 1 (.q 4 .fin))))) [(b6, 5, .int .i64 ax), (b6, 6, .int .i64 ay), (b6, 7, .int .i64 bx), (b6, 8, .int .i64 by'), (b6, 9, .int .i64 cx), (b6, 10, .int .i64 cy)] (by kernel_rfl) (by simp [Holds_nil, Holds_cons, F]) ?_
      refine h.draw ?_
      clear h F
      intro w7 h
      (try simp only [nfD] at h); have F := h.facts; (try simp only [nfF, emp_fact, rds_fact, frm_fact] at F); try simp -dsimp only [↓vcA, vcB, vcD, ↓pureT_lenS, ↓iteT, ↓iteF, cond_true, cond_false, eq_self, argE, Env.get, Env.push, ev, evs, evo, retV, Value.cells, Value.oneCell', setR, overR, fillL, zl, places, allSizes, heldC, ne_eq, Int.reduceLE, Int.reduceLT, Int.reduceEq, Int.reduceNe, Int.reduceToNat, Int.cast_ofNat_Int, Nat.reduceMul, Nat.reduceLeDiff, reduceIte, Nat.reduceEqDiff, Nat.reduceAdd, ↓reduceIte, Try.vcT, F, h.cell0, gets, vsD, if_true, if_false, Bool.false_eq_true]
      refine Sep.rdTri 3 h rfl ?_
      clear h F
      intro w8 h
      rw [v2] at h
      rw [v1]
      (try simp only [nfD] at h); have F := h.facts; (try simp only [nfF, emp_fact, rds_fact, frm_fact] at F); try simp -dsimp only [↓vcA, vcB, vcD, ↓pureT_lenS, ↓iteT, ↓iteF, cond_true, cond_false, eq_self, argE, Env.get, Env.push, ev, evs, evo, retV, Value.cells, Value.oneCell', setR, overR, fillL, zl, places, allSizes, heldC, ne_eq, Int.reduceLE, Int.reduceLT, Int.reduceEq, Int.reduceNe, Int.reduceToNat, Int.cast_ofNat_Int, Nat.reduceMul, Nat.reduceLeDiff, reduceIte, Nat.reduceEqDiff, Nat.reduceAdd, ↓reduceIte, Try.vcT, F, h.cell0, gets, vsD, if_true, if_false, Bool.false_eq_true,  ej, T3.cells, neq_tri, decide_true]
      exact fin h
    · have eo : Prt.out ⟨3, n, size, px, py, ax, ay, bx, by', cx, cy, bs⟩ = bs := by simp [Prt.out]
      obtain ⟨v1, v2⟩ := raw_read bs R
      have es : ((strOfNums bs).toList == (strOfNums bs).toList) = true := by simp
      rw [eo] at h
      (try simp only [nfD] at h); have F := h.facts; (try simp only [nfF, emp_fact, rds_fact, frm_fact] at F); try simp -dsimp only [↓vcA, vcB, vcD, ↓pureT_lenS, ↓iteT, ↓iteF, cond_true, cond_false, eq_self, argE, Env.get, Env.push, ev, evs, evo, retV, Value.cells, Value.oneCell', setR, overR, fillL, zl, places, allSizes, heldC, ne_eq, Int.reduceLE, Int.reduceLT, Int.reduceEq, Int.reduceNe, Int.reduceToNat, Int.cast_ofNat_Int, Nat.reduceMul, Nat.reduceLeDiff, reduceIte, Nat.reduceEqDiff, Nat.reduceAdd, ↓reduceIte, Try.vcT, F, h.cell0, gets, vsD, if_true, if_false, Bool.false_eq_true]
      rename_i w6 b6 _ _ _
      refine walkDraw (.q 0 (.q 1 (.q 6 (.h 2 0 (.q 3 (.h 7 1 (.ll 4 (.ll 5 (.l 8 (.q 9 .fin)) 8 (.l 5 (.q 9 .fin))) 8 (.l 4 (.l 5 (.q 9 .fin))))))))))  [(b6, 11, .slice ab bs.length cb), (b6, 11, .slice ab bs.length cb)] (by kernel_rfl) (by simp [Holds_nil, Holds_cons, F]) ?_
      refine h.draw ?_
      clear h F
      intro w7 h
      (try simp only [nfD] at h); have F := h.facts; (try simp only [nfF, emp_fact, rds_fact, frm_fact] at F); try simp -dsimp only [↓vcA, vcB, vcD, ↓pureT_lenS, ↓iteT, ↓iteF, cond_true, cond_false, eq_self, argE, Env.get, Env.push, ev, evs, evo, retV, Value.cells, Value.oneCell', setR, overR, fillL, zl, places, allSizes, heldC, ne_eq, Int.reduceLE, Int.reduceLT, Int.reduceEq, Int.reduceNe, Int.reduceToNat, Int.cast_ofNat_Int, Nat.reduceMul, Nat.reduceLeDiff, reduceIte, Nat.reduceEqDiff, Nat.reduceAdd, ↓reduceIte, Try.vcT, F, h.cell0, gets, vsD, if_true, if_false, Bool.false_eq_true]
      repeat' ((first | refine Sep.new h ?_ | refine Sep.put 0 h rfl ?_ | refine Sep.put 1 h rfl ?_ | refine Sep.put 2 h rfl ?_ | refine Sep.put 3 h rfl ?_ | refine Sep.put 4 h rfl ?_ | refine Sep.put 5 h rfl ?_ | refine Sep.rdRawE 3 v1 v2 h rfl ?_ | (refine str_rule (r1.sep h fun _ _ => id) ?_; revert h) | (refine str_rule F.2.2.2.2.2.1 ?_; revert h) | (apply And.intro <;> revert h)) <;> (clear F; (try clear h); intros; rename_i h; (try simp only [nfD] at h); have F := h.facts; (try simp only [nfF, emp_fact, rds_fact, frm_fact] at F); try simp -dsimp only [↓vcA, vcB, vcD, ↓pureT_lenS, ↓iteT, ↓iteF, cond_true, cond_false, eq_self, argE, Env.get, Env.push, ev, evs, evo, retV, Value.cells, Value.oneCell', setR, overR, fillL, zl, places, allSizes, heldC, ne_eq, Int.reduceLE, Int.reduceLT, Int.reduceEq, Int.reduceNe, Int.reduceToNat, Int.cast_ofNat_Int, Nat.reduceMul, Nat.reduceLeDiff, reduceIte, Nat.reduceEqDiff, Nat.reduceAdd, ↓reduceIte, Try.vcT, F, h.cell0, gets, vsD, if_true, if_false, Bool.false_eq_true, es, ej]))
      all_goals exact fin (h.erase 5)
  have hil : i < ps.length := by omega
  obtain ⟨b, o, rfl, hcells⟩ := hp.at hil
  obtain ⟨r1, r2, r3⟩ := hp.each _ (List.getElem_mem hil)
  have hb60 := h60 _ (List.getElem_mem hil)
  generalize ps[i] = x at *
  obtain ⟨⟨kind, n, size, px, py, ax, ay, bx, by', cx, cy, bs⟩, vb⟩ := x
  dsimp only [Prt.ints] at r1 r2 r3 hb60
  have r1' := r1
  obtain ⟨ab, cb, rfl, _⟩ := r1'
  have r30 := r3
  simp only [Ok64, List.forall_mem_cons, List.not_mem_nil, false_implies, implies_true, and_true] at r3
  obtain ⟨⟨k0, k1⟩, ⟨n0, n1⟩, ⟨z0, z1⟩, ⟨px0, px1⟩, ⟨py0, py1⟩, ho⟩ := r3
  have ei : IntKind.i64.wrap ((i : Int) + 1) = ((i + 1 : Nat) : Int) := by rw [i64w _ (by omega) (by omega)]; omega
  have hcw : cellsAt w2 b (o + i * 12) 12 = some (Prt.cells ⟨kind, n, size, px, py, ax, ay, bx, by', cx, cy, bs⟩ (.slice ab bs.length cb)) := by
    obtain ⟨hl, hat⟩ := cellsAt_elim hcells
    have := cellsAt_of (w := w2) (b := b) (o := o + i * 12) (Prt.cells ⟨kind, n, size, px, py, ax, ay, bx, by', cx, cy, bs⟩ (.slice ab bs.length cb)) (fun j u hj => by
      have := hat j u hj
      rw [h.cell0 (by rw [this]; rfl) id, this])
    simpa [Prt.cells] using this
  (try simp only [nfD] at h); have F := h.facts; (try simp only [nfF, emp_fact, rds_fact, frm_fact] at F); try simp -dsimp only [↓vcA, vcB, vcD, ↓pureT_lenS, ↓iteT, ↓iteF, cond_true, cond_false, eq_self, argE, Env.get, Env.push, ev, evs, evo, retV, Value.cells, Value.oneCell', setR, overR, fillL, zl, places, allSizes, heldC, ne_eq, Int.reduceLE, Int.reduceLT, Int.reduceEq, Int.reduceNe, Int.reduceToNat, Int.cast_ofNat_Int, Nat.reduceMul, Nat.reduceLeDiff, reduceIte, Nat.reduceEqDiff, Nat.reduceAdd, ↓reduceIte, Try.vcT, F, h.cell0, gets, vsD, if_true, if_false, Bool.false_eq_true,  decide_eq_true hlt]
  refine ⟨⟨by omega, by omega⟩, ?_⟩
  (try simp only [nfD] at h); have F := h.facts; (try simp only [nfF, emp_fact, rds_fact, frm_fact] at F); try simp -dsimp only [↓vcA, vcB, vcD, ↓pureT_lenS, ↓iteT, ↓iteF, cond_true, cond_false, eq_self, argE, Env.get, Env.push, ev, evs, evo, retV, Value.cells, Value.oneCell', setR, overR, fillL, zl, places, allSizes, heldC, ne_eq, Int.reduceLE, Int.reduceLT, Int.reduceEq, Int.reduceNe, Int.reduceToNat, Int.cast_ofNat_Int, Nat.reduceMul, Nat.reduceLeDiff, reduceIte, Nat.reduceEqDiff, Nat.reduceAdd, ↓reduceIte, Try.vcT, F, h.cell0, gets, vsD, if_true, if_false, Bool.false_eq_true,  hcw, Prt.cells]
  clear hcw
  repeat ((first | refine Sep.new h ?_ | refine Sep.put 0 h rfl ?_ | refine Sep.put 1 h rfl ?_ | refine Sep.put 2 h rfl ?_ | refine Sep.put 3 h rfl ?_ | refine Sep.put 4 h rfl ?_ | refine Sep.put 5 h rfl ?_ | refine Sep.callp h (x := .int .i64 (kind % 4)) ((round kind 4 _ (by decide) (by decide)).mono fun e w' ⟨r, he, hr, hw⟩ => ⟨r, he, hr, hw ▸ Chg.refl _ _⟩) ?_); (clear F; (try clear h); intros; rename_i h; (try simp only [nfD] at h); have F := h.facts; (try simp only [nfF, emp_fact, rds_fact, frm_fact] at F); try simp -dsimp only [↓vcA, vcB, vcD, ↓pureT_lenS, ↓iteT, ↓iteF, cond_true, cond_false, eq_self, argE, Env.get, Env.push, ev, evs, evo, retV, Value.cells, Value.oneCell', setR, overR, fillL, zl, places, allSizes, heldC, ne_eq, Int.reduceLE, Int.reduceLT, Int.reduceEq, Int.reduceNe, Int.reduceToNat, Int.cast_ofNat_Int, Nat.reduceMul, Nat.reduceLeDiff, reduceIte, Nat.reduceEqDiff, Nat.reduceAdd, ↓reduceIte, Try.vcT, F, h.cell0, gets, vsD, if_true, if_false, Bool.false_eq_true]))
  have skip : ∀ {w' : World} {b' : Nat} {cs : List Value}, Sep w (fun _ => False) [wr 32 p ⟨qs.flatMap fun q => q.1.out, false⟩ (i * 100), row 41 12 (.slice a1 qs.length c1) qs.length (cellsP qs), blk b' 41 cs] w' →
      ∃ m', m' < ps.length - i ∧ ∃ i_1 qs_1 a c, i_1 ≤ ps.length ∧ m' = ps.length - i_1 ∧ [Value.pointer (some ⟨p, 0, none⟩), .slice a1 qs.length c1, .int .i64 ((i + 1 : Nat) : Int)] = [.pointer (some ⟨p, 0, none⟩), .slice a qs_1.length c, .int .i64 i_1] ∧
        Sep w (fun _ => False) [wr 32 p ⟨qs_1.flatMap fun q => q.1.out, false⟩ (i_1 * 100), row 41 12 (.slice a qs_1.length c) qs_1.length (cellsP qs_1)] w' ∧ (∀ q ∈ qs_1, q.1.Good ∧ Rd w q.2 q.1.b ∧ Byt q.1.b ∧ q.1.b.length ≤ 60) ∧ qs_1.length ≤ i_1 := fun h =>
    ⟨_, by omega, i + 1, qs, a1, c1, by omega, rfl, rfl, (h.erase 2).wrMono 0 ((i + 1) * 100) rfl (by omega), hgood, by omega⟩
  have hk4 : kind % 4 = 0 ∨ kind % 4 = 1 ∨ kind % 4 = 2 ∨ kind % 4 = 3 := by omega
  generalize kind % 4 = kd at *
  have take : ∀ {w' : World} {a2 : Option Addr} {c2 b' : Nat} {cs : List Value} {k' : Nat}, Prt.Good ⟨kd, n, size, px, py, ax, ay, bx, by', cx, cy, bs⟩ → Sep w (fun _ => False) [wr 32 p (Prt.put ⟨kd, n, size, px, py, ax, ay, bx, by', cx, cy, bs⟩ ⟨qs.flatMap fun q => q.1.out, false⟩) k', row 41 12 (.slice a2 (qs.length + 1) c2) (qs.length + 1) (cellsP qs ++ Prt.cells ⟨kd, n, size, px, py, ax, ay, bx, by', cx, cy, bs⟩ (.slice ab bs.length cb)), blk b' 41 cs] w' → k' ≤ (i + 1) * 100 →
      ∃ m', m' < ps.length - i ∧ ∃ i_1 qs_1 a c, i_1 ≤ ps.length ∧ m' = ps.length - i_1 ∧ [Value.pointer (some ⟨p, 0, none⟩), .slice a2 (qs.length + 1) c2, .int .i64 ((i + 1 : Nat) : Int)] = [.pointer (some ⟨p, 0, none⟩), .slice a qs_1.length c, .int .i64 i_1] ∧
        Sep w (fun _ => False) [wr 32 p ⟨qs_1.flatMap fun q => q.1.out, false⟩ (i_1 * 100), row 41 12 (.slice a qs_1.length c) qs_1.length (cellsP qs_1)] w' ∧ (∀ q ∈ qs_1, q.1.Good ∧ Rd w q.2 q.1.b ∧ Byt q.1.b ∧ q.1.b.length ≤ 60) ∧ qs_1.length ≤ i_1 := @fun w' a2 c2 b' cs k' hg h hk' => by
    rw [hg.put] at h
    refine ⟨_, ?_, i + 1, qs ++ [(⟨kd, n, size, px, py, ax, ay, bx, by', cx, cy, bs⟩, .slice ab bs.length cb)], a2, c2, by omega, rfl, by simp, ?_, ?_, by simp; omega⟩
    · omega
    · have h := (h.erase 2).wrMono 0 ((i + 1) * 100) rfl hk'
      rw [cellsP_snoc]
      simpa using h
    · intro q hq
      rcases List.mem_append.1 hq with hq | hq
      · exact hgood q hq
      · simp at hq; subst hq; exact ⟨hg, r1, r2, hb60⟩
  have hrow : ∀ {w' : World} {b' : Nat}, (∀ o, w'.cell? ⟨b', o, none⟩ = (Prt.cells ⟨kd, n, size, px, py, ax, ay, bx, by', cx, cy, bs⟩ (.slice ab bs.length cb))[o]?) → Row 12 w' (.slice (some ⟨b', 0, none⟩) 1 1) 1 (Prt.cells ⟨kd, n, size, px, py, ax, ay, bx, by', cx, cy, bs⟩ (.slice ab bs.length cb)) := fun hc =>
    row_of_cells hc (by simp [Prt.cells]) (fun u hu => by simp [Prt.cells] at hu; rcases hu with rfl | rfl | rfl | rfl | rfl | rfl | rfl | rfl | rfl | rfl | rfl | rfl <;> rfl) (by simp [maxLen])
  rcases hk4 with rfl | rfl | rfl | rfl
  · have ew : IntKind.i64.wrap (8 * size) = 8 * size ∨ size < 1 ∨ 7 < size := by
      by_cases hs : 1 ≤ size ∧ size ≤ 7
      · exact .inl (i64w _ (by omega) (by omega))
      · omega
    by_cases g1 : (1 : Int) ≤ size
    case neg =>
      (try simp only [nfD] at h); have F := h.facts; (try simp only [nfF, emp_fact, rds_fact, frm_fact] at F); try simp -dsimp only [↓vcA, vcB, vcD, ↓pureT_lenS, ↓iteT, ↓iteF, cond_true, cond_false, eq_self, argE, Env.get, Env.push, ev, evs, evo, retV, Value.cells, Value.oneCell', setR, overR, fillL, zl, places, allSizes, heldC, ne_eq, Int.reduceLE, Int.reduceLT, Int.reduceEq, Int.reduceNe, Int.reduceToNat, Int.cast_ofNat_Int, Nat.reduceMul, Nat.reduceLeDiff, reduceIte, Nat.reduceEqDiff, Nat.reduceAdd, ↓reduceIte, Try.vcT, F, h.cell0, gets, vsD, if_true, if_false, Bool.false_eq_true,  decide_eq_false g1, ei]
      exact skip h
    by_cases g2 : size ≤ (7 : Int)
    case neg =>
      (try simp only [nfD] at h); have F := h.facts; (try simp only [nfF, emp_fact, rds_fact, frm_fact] at F); try simp -dsimp only [↓vcA, vcB, vcD, ↓pureT_lenS, ↓iteT, ↓iteF, cond_true, cond_false, eq_self, argE, Env.get, Env.push, ev, evs, evo, retV, Value.cells, Value.oneCell', setR, overR, fillL, zl, places, allSizes, heldC, ne_eq, Int.reduceLE, Int.reduceLT, Int.reduceEq, Int.reduceNe, Int.reduceToNat, Int.cast_ofNat_Int, Nat.reduceMul, Nat.reduceLeDiff, reduceIte, Nat.reduceEqDiff, Nat.reduceAdd, ↓reduceIte, Try.vcT, F, h.cell0, gets, vsD, if_true, if_false, Bool.false_eq_true,  decide_eq_true g1, decide_eq_false g2, ei]
      exact skip h
    by_cases g3 : (0 : Int) ≤ n
    case neg =>
      (try simp only [nfD] at h); have F := h.facts; (try simp only [nfF, emp_fact, rds_fact, frm_fact] at F); try simp -dsimp only [↓vcA, vcB, vcD, ↓pureT_lenS, ↓iteT, ↓iteF, cond_true, cond_false, eq_self, argE, Env.get, Env.push, ev, evs, evo, retV, Value.cells, Value.oneCell', setR, overR, fillL, zl, places, allSizes, heldC, ne_eq, Int.reduceLE, Int.reduceLT, Int.reduceEq, Int.reduceNe, Int.reduceToNat, Int.cast_ofNat_Int, Nat.reduceMul, Nat.reduceLeDiff, reduceIte, Nat.reduceEqDiff, Nat.reduceAdd, ↓reduceIte, Try.vcT, F, h.cell0, gets, vsD, if_true, if_false, Bool.false_eq_true,  decide_eq_true g1, decide_eq_true g2, decide_eq_false g3, ei]
      exact skip h
    have ew : IntKind.i64.wrap (8 * size) = 8 * size := i64w _ (by omega) (by omega)
    have em : min (8 * size).toNat IntKind.i64.bits = 8 * size.toNat := by simp [IntKind.bits]; omega
    by_cases g4 : n / 2 ^ (8 * size.toNat) = 0
    case neg =>
      (try simp only [nfD] at h); have F := h.facts; (try simp only [nfF, emp_fact, rds_fact, frm_fact] at F); try simp -dsimp only [↓vcA, vcB, vcD, ↓pureT_lenS, ↓iteT, ↓iteF, cond_true, cond_false, eq_self, argE, Env.get, Env.push, ev, evs, evo, retV, Value.cells, Value.oneCell', setR, overR, fillL, zl, places, allSizes, heldC, ne_eq, Int.reduceLE, Int.reduceLT, Int.reduceEq, Int.reduceNe, Int.reduceToNat, Int.cast_ofNat_Int, Nat.reduceMul, Nat.reduceLeDiff, reduceIte, Nat.reduceEqDiff, Nat.reduceAdd, ↓reduceIte, Try.vcT, F, h.cell0, gets, vsD, if_true, if_false, Bool.false_eq_true,  decide_eq_true g1, decide_eq_true g2, decide_eq_true g3, ew, em, decide_eq_false g4, ei]
      refine ⟨by omega, ?_⟩
      exact skip h
    (try simp only [nfD] at h); have F := h.facts; (try simp only [nfF, emp_fact, rds_fact, frm_fact] at F); try simp -dsimp only [↓vcA, vcB, vcD, ↓pureT_lenS, ↓iteT, ↓iteF, cond_true, cond_false, eq_self, argE, Env.get, Env.push, ev, evs, evo, retV, Value.cells, Value.oneCell', setR, overR, fillL, zl, places, allSizes, heldC, ne_eq, Int.reduceLE, Int.reduceLT, Int.reduceEq, Int.reduceNe, Int.reduceToNat, Int.cast_ofNat_Int, Nat.reduceMul, Nat.reduceLeDiff, reduceIte, Nat.reduceEqDiff, Nat.reduceAdd, ↓reduceIte, Try.vcT, F, h.cell0, gets, vsD, if_true, if_false, Bool.false_eq_true,  decide_eq_true g1, decide_eq_true g2, decide_eq_true g3, ew, em, decide_eq_true g4, cellsAt]
    refine ⟨by omega, ?_⟩
    refine h.new ?_
    clear h F
    intro w5 b5 h
    (try simp only [nfD] at h); have F := h.facts; (try simp only [nfF, emp_fact, rds_fact, frm_fact] at F)
    refine Sep.app 1 info_part Try.underlying28 rfl (by decide) h rfl (hrow F.2.2.2.1.1) (by omega) (by simp only [maxLen]; omega) ?_
    clear h F
    intro a2 c2 w6 h
    have h := h.erase 3
    (try simp only [nfD] at h); have F := h.facts; (try simp only [nfF, emp_fact, rds_fact, frm_fact] at F); try simp -dsimp only [↓vcA, vcB, vcD, ↓pureT_lenS, ↓iteT, ↓iteF, cond_true, cond_false, eq_self, argE, Env.get, Env.push, ev, evs, evo, retV, Value.cells, Value.oneCell', setR, overR, fillL, zl, places, allSizes, heldC, ne_eq, Int.reduceLE, Int.reduceLT, Int.reduceEq, Int.reduceNe, Int.reduceToNat, Int.cast_ofNat_Int, Nat.reduceMul, Nat.reduceLeDiff, reduceIte, Nat.reduceEqDiff, Nat.reduceAdd, ↓reduceIte, Try.vcT, F, h.cell0, gets, vsD, if_true, if_false, Bool.false_eq_true,  cellsAt]
    repeat ((first | refine Sep.new h ?_ | refine Sep.put 0 h rfl ?_ | refine Sep.put 1 h rfl ?_ | refine Sep.put 2 h rfl ?_ | refine Sep.put 3 h rfl ?_ | refine Sep.put 4 h rfl ?_ | refine Sep.put 5 h rfl ?_ | refine Sep.num 0 h rfl (by omega) (by omega) (by omega) ?_); (clear F; (try clear h); intros; rename_i h; (try simp only [nfD] at h); have F := h.facts; (try simp only [nfF, emp_fact, rds_fact, frm_fact] at F); try simp -dsimp only [↓vcA, vcB, vcD, ↓pureT_lenS, ↓iteT, ↓iteF, cond_true, cond_false, eq_self, argE, Env.get, Env.push, ev, evs, evo, retV, Value.cells, Value.oneCell', setR, overR, fillL, zl, places, allSizes, heldC, ne_eq, Int.reduceLE, Int.reduceLT, Int.reduceEq, Int.reduceNe, Int.reduceToNat, Int.cast_ofNat_Int, Nat.reduceMul, Nat.reduceLeDiff, reduceIte, Nat.reduceEqDiff, Nat.reduceAdd, ↓reduceIte, Try.vcT, F, h.cell0, gets, vsD, if_true, if_false, Bool.false_eq_true, ei]))
    exact take ⟨.inl rfl, fun _ => ⟨⟨g1, g2⟩, ⟨g3, n1⟩, g4⟩, (fun e => by cases e), (fun e => by cases e)⟩ h (by omega)
  · (try simp only [nfD] at h); have F := h.facts; (try simp only [nfF, emp_fact, rds_fact, frm_fact] at F); try simp -dsimp only [↓vcA, vcB, vcD, ↓pureT_lenS, ↓iteT, ↓iteF, cond_true, cond_false, eq_self, argE, Env.get, Env.push, ev, evs, evo, retV, Value.cells, Value.oneCell', setR, overR, fillL, zl, places, allSizes, heldC, ne_eq, Int.reduceLE, Int.reduceLT, Int.reduceEq, Int.reduceNe, Int.reduceToNat, Int.cast_ofNat_Int, Nat.reduceMul, Nat.reduceLeDiff, reduceIte, Nat.reduceEqDiff, Nat.reduceAdd, ↓reduceIte, Try.vcT, F, h.cell0, gets, vsD, if_true, if_false, Bool.false_eq_true,  cellsAt]
    repeat ((first | refine Sep.new h ?_ | refine Sep.put 0 h rfl ?_ | refine Sep.put 1 h rfl ?_ | refine Sep.put 2 h rfl ?_ | refine Sep.put 3 h rfl ?_ | refine Sep.put 4 h rfl ?_ | refine Sep.put 5 h rfl ?_ | refine Sep.callp h (valid47 px py _) ?_); (clear F; (try clear h); intros; rename_i h; (try simp only [nfD] at h); have F := h.facts; (try simp only [nfF, emp_fact, rds_fact, frm_fact] at F); try simp -dsimp only [↓vcA, vcB, vcD, ↓pureT_lenS, ↓iteT, ↓iteF, cond_true, cond_false, eq_self, argE, Env.get, Env.push, ev, evs, evo, retV, Value.cells, Value.oneCell', setR, overR, fillL, zl, places, allSizes, heldC, ne_eq, Int.reduceLE, Int.reduceLT, Int.reduceEq, Int.reduceNe, Int.reduceToNat, Int.cast_ofNat_Int, Nat.reduceMul, Nat.reduceLeDiff, reduceIte, Nat.reduceEqDiff, Nat.reduceAdd, ↓reduceIte, Try.vcT, F, h.cell0, gets, vsD, if_true, if_false, Bool.false_eq_true, cellsAt]))
    cases g : vpt px py with
    | false =>
      (try simp only [nfD] at h); have F := h.facts; (try simp only [nfF, emp_fact, rds_fact, frm_fact] at F); try simp -dsimp only [↓vcA, vcB, vcD, ↓pureT_lenS, ↓iteT, ↓iteF, cond_true, cond_false, eq_self, argE, Env.get, Env.push, ev, evs, evo, retV, Value.cells, Value.oneCell', setR, overR, fillL, zl, places, allSizes, heldC, ne_eq, Int.reduceLE, Int.reduceLT, Int.reduceEq, Int.reduceNe, Int.reduceToNat, Int.cast_ofNat_Int, Nat.reduceMul, Nat.reduceLeDiff, reduceIte, Nat.reduceEqDiff, Nat.reduceAdd, ↓reduceIte, Try.vcT, F, h.cell0, gets, vsD, if_true, if_false, Bool.false_eq_true,  g, ei]
      exact skip h
    | true =>
    (try simp only [nfD] at h); have F := h.facts; (try simp only [nfF, emp_fact, rds_fact, frm_fact] at F); try simp -dsimp only [↓vcA, vcB, vcD, ↓pureT_lenS, ↓iteT, ↓iteF, cond_true, cond_false, eq_self, argE, Env.get, Env.push, ev, evs, evo, retV, Value.cells, Value.oneCell', setR, overR, fillL, zl, places, allSizes, heldC, ne_eq, Int.reduceLE, Int.reduceLT, Int.reduceEq, Int.reduceNe, Int.reduceToNat, Int.cast_ofNat_Int, Nat.reduceMul, Nat.reduceLeDiff, reduceIte, Nat.reduceEqDiff, Nat.reduceAdd, ↓reduceIte, Try.vcT, F, h.cell0, gets, vsD, if_true, if_false, Bool.false_eq_true,  g, cellsAt]
    refine h.new ?_
    clear h F
    intro w5 b5 h
    (try simp only [nfD] at h); have F := h.facts; (try simp only [nfF, emp_fact, rds_fact, frm_fact] at F)
    refine Sep.app 1 info_part Try.underlying28 rfl (by decide) h rfl (hrow F.2.2.2.1.1) (by omega) (by simp only [maxLen]; omega) ?_
    clear h F
    intro a2 c2 w6 h
    have h := h.erase 3
    (try simp only [nfD] at h); have F := h.facts; (try simp only [nfF, emp_fact, rds_fact, frm_fact] at F); try simp -dsimp only [↓vcA, vcB, vcD, ↓pureT_lenS, ↓iteT, ↓iteF, cond_true, cond_false, eq_self, argE, Env.get, Env.push, ev, evs, evo, retV, Value.cells, Value.oneCell', setR, overR, fillL, zl, places, allSizes, heldC, ne_eq, Int.reduceLE, Int.reduceLT, Int.reduceEq, Int.reduceNe, Int.reduceToNat, Int.cast_ofNat_Int, Nat.reduceMul, Nat.reduceLeDiff, reduceIte, Nat.reduceEqDiff, Nat.reduceAdd, ↓reduceIte, Try.vcT, F, h.cell0, gets, vsD, if_true, if_false, Bool.false_eq_true,  cellsAt]
    repeat ((first | refine Sep.new h ?_ | refine Sep.put 0 h rfl ?_ | refine Sep.put 1 h rfl ?_ | refine Sep.put 2 h rfl ?_ | refine Sep.put 3 h rfl ?_ | refine Sep.put 4 h rfl ?_ | refine Sep.put 5 h rfl ?_ | refine Sep.point 0 h rfl (by omega) (by omega) (by omega) (by omega) (by omega) ?_); (clear F; (try clear h); intros; rename_i h; (try simp only [nfD] at h); have F := h.facts; (try simp only [nfF, emp_fact, rds_fact, frm_fact] at F); try simp -dsimp only [↓vcA, vcB, vcD, ↓pureT_lenS, ↓iteT, ↓iteF, cond_true, cond_false, eq_self, argE, Env.get, Env.push, ev, evs, evo, retV, Value.cells, Value.oneCell', setR, overR, fillL, zl, places, allSizes, heldC, ne_eq, Int.reduceLE, Int.reduceLT, Int.reduceEq, Int.reduceNe, Int.reduceToNat, Int.cast_ofNat_Int, Nat.reduceMul, Nat.reduceLeDiff, reduceIte, Nat.reduceEqDiff, Nat.reduceAdd, ↓reduceIte, Try.vcT, F, h.cell0, gets, vsD, if_true, if_false, Bool.false_eq_true, ei]))
    exact take ⟨.inr (.inl rfl), (fun e => by cases e), (fun _ => g), (fun e => by cases e)⟩ h (by omega)
  · (try simp only [nfD] at h); have F := h.facts; (try simp only [nfF, emp_fact, rds_fact, frm_fact] at F); try simp -dsimp only [↓vcA, vcB, vcD, ↓pureT_lenS, ↓iteT, ↓iteF, cond_true, cond_false, eq_self, argE, Env.get, Env.push, ev, evs, evo, retV, Value.cells, Value.oneCell', setR, overR, fillL, zl, places, allSizes, heldC, ne_eq, Int.reduceLE, Int.reduceLT, Int.reduceEq, Int.reduceNe, Int.reduceToNat, Int.cast_ofNat_Int, Nat.reduceMul, Nat.reduceLeDiff, reduceIte, Nat.reduceEqDiff, Nat.reduceAdd, ↓reduceIte, Try.vcT, F, h.cell0, gets, vsD, if_true, if_false, Bool.false_eq_true,  cellsAt]
    repeat ((first | refine Sep.new h ?_ | refine Sep.put 0 h rfl ?_ | refine Sep.put 1 h rfl ?_ | refine Sep.put 2 h rfl ?_ | refine Sep.put 3 h rfl ?_ | refine Sep.put 4 h rfl ?_ | refine Sep.put 5 h rfl ?_ | refine Sep.callp h (validTri ⟨ax, ay, bx, by', cx, cy⟩ _) ?_); (clear F; (try clear h); intros; rename_i h; (try simp only [nfD] at h); have F := h.facts; (try simp only [nfF, emp_fact, rds_fact, frm_fact] at F); try simp -dsimp only [↓vcA, vcB, vcD, ↓pureT_lenS, ↓iteT, ↓iteF, cond_true, cond_false, eq_self, argE, Env.get, Env.push, ev, evs, evo, retV, Value.cells, Value.oneCell', setR, overR, fillL, zl, places, allSizes, heldC, ne_eq, Int.reduceLE, Int.reduceLT, Int.reduceEq, Int.reduceNe, Int.reduceToNat, Int.cast_ofNat_Int, Nat.reduceMul, Nat.reduceLeDiff, reduceIte, Nat.reduceEqDiff, Nat.reduceAdd, ↓reduceIte, Try.vcT, F, h.cell0, gets, vsD, if_true, if_false, Bool.false_eq_true, cellsAt]))
    have ho' : Ok64 [ax, ay, bx, by', cx, cy] := by simp only [Ok64, List.forall_mem_cons, List.not_mem_nil, false_implies, implies_true, and_true]; exact ho
    cases g : T3.valid ⟨ax, ay, bx, by', cx, cy⟩ with
    | false =>
      (try simp only [nfD] at h); have F := h.facts; (try simp only [nfF, emp_fact, rds_fact, frm_fact] at F); try simp -dsimp only [↓vcA, vcB, vcD, ↓pureT_lenS, ↓iteT, ↓iteF, cond_true, cond_false, eq_self, argE, Env.get, Env.push, ev, evs, evo, retV, Value.cells, Value.oneCell', setR, overR, fillL, zl, places, allSizes, heldC, ne_eq, Int.reduceLE, Int.reduceLT, Int.reduceEq, Int.reduceNe, Int.reduceToNat, Int.cast_ofNat_Int, Nat.reduceMul, Nat.reduceLeDiff, reduceIte, Nat.reduceEqDiff, Nat.reduceAdd, ↓reduceIte, Try.vcT, F, h.cell0, gets, vsD, if_true, if_false, Bool.false_eq_true,  g, ei]
      exact skip h
    | true =>
    (try simp only [nfD] at h); have F := h.facts; (try simp only [nfF, emp_fact, rds_fact, frm_fact] at F); try simp -dsimp only [↓vcA, vcB, vcD, ↓pureT_lenS, ↓iteT, ↓iteF, cond_true, cond_false, eq_self, argE, Env.get, Env.push, ev, evs, evo, retV, Value.cells, Value.oneCell', setR, overR, fillL, zl, places, allSizes, heldC, ne_eq, Int.reduceLE, Int.reduceLT, Int.reduceEq, Int.reduceNe, Int.reduceToNat, Int.cast_ofNat_Int, Nat.reduceMul, Nat.reduceLeDiff, reduceIte, Nat.reduceEqDiff, Nat.reduceAdd, ↓reduceIte, Try.vcT, F, h.cell0, gets, vsD, if_true, if_false, Bool.false_eq_true,  g, cellsAt]
    refine h.new ?_
    clear h F
    intro w5 b5 h
    (try simp only [nfD] at h); have F := h.facts; (try simp only [nfF, emp_fact, rds_fact, frm_fact] at F)
    refine Sep.app 1 info_part Try.underlying28 rfl (by decide) h rfl (hrow F.2.2.2.1.1) (by omega) (by simp only [maxLen]; omega) ?_
    clear h F
    intro a2 c2 w6 h
    have h := h.erase 3
    (try simp only [nfD] at h); have F := h.facts; (try simp only [nfF, emp_fact, rds_fact, frm_fact] at F); try simp -dsimp only [↓vcA, vcB, vcD, ↓pureT_lenS, ↓iteT, ↓iteF, cond_true, cond_false, eq_self, argE, Env.get, Env.push, ev, evs, evo, retV, Value.cells, Value.oneCell', setR, overR, fillL, zl, places, allSizes, heldC, ne_eq, Int.reduceLE, Int.reduceLT, Int.reduceEq, Int.reduceNe, Int.reduceToNat, Int.cast_ofNat_Int, Nat.reduceMul, Nat.reduceLeDiff, reduceIte, Nat.reduceEqDiff, Nat.reduceAdd, ↓reduceIte, Try.vcT, F, h.cell0, gets, vsD, if_true, if_false, Bool.false_eq_true,  cellsAt]
    repeat ((first | refine Sep.new h ?_ | refine Sep.put 0 h rfl ?_ | refine Sep.put 1 h rfl ?_ | refine Sep.put 2 h rfl ?_ | refine Sep.put 3 h rfl ?_ | refine Sep.put 4 h rfl ?_ | refine Sep.put 5 h rfl ?_ | refine Sep.tri 0 h rfl (by omega) ho' ?_); (clear F; (try clear h); intros; rename_i h; (try simp only [nfD] at h); have F := h.facts; (try simp only [nfF, emp_fact, rds_fact, frm_fact] at F); try simp -dsimp only [↓vcA, vcB, vcD, ↓pureT_lenS, ↓iteT, ↓iteF, cond_true, cond_false, eq_self, argE, Env.get, Env.push, ev, evs, evo, retV, Value.cells, Value.oneCell', setR, overR, fillL, zl, places, allSizes, heldC, ne_eq, Int.reduceLE, Int.reduceLT, Int.reduceEq, Int.reduceNe, Int.reduceToNat, Int.cast_ofNat_Int, Nat.reduceMul, Nat.reduceLeDiff, reduceIte, Nat.reduceEqDiff, Nat.reduceAdd, ↓reduceIte, Try.vcT, F, h.cell0, gets, vsD, if_true, if_false, Bool.false_eq_true, ei]))
    exact take ⟨.inr (.inr (.inl rfl)), (fun e => by cases e), (fun e => by cases e), (fun _ => g)⟩ h (by omega)
  · (try simp only [nfD] at h); have F := h.facts; (try simp only [nfF, emp_fact, rds_fact, frm_fact] at F); try simp -dsimp only [↓vcA, vcB, vcD, ↓pureT_lenS, ↓iteT, ↓iteF, cond_true, cond_false, eq_self, argE, Env.get, Env.push, ev, evs, evo, retV, Value.cells, Value.oneCell', setR, overR, fillL, zl, places, allSizes, heldC, ne_eq, Int.reduceLE, Int.reduceLT, Int.reduceEq, Int.reduceNe, Int.reduceToNat, Int.cast_ofNat_Int, Nat.reduceMul, Nat.reduceLeDiff, reduceIte, Nat.reduceEqDiff, Nat.reduceAdd, ↓reduceIte, Try.vcT, F, h.cell0, gets, vsD, if_true, if_false, Bool.false_eq_true,  cellsAt]
    refine h.new ?_
    clear h F
    intro w5 b5 h
    (try simp only [nfD] at h); have F := h.facts; (try simp only [nfF, emp_fact, rds_fact, frm_fact] at F)
    refine Sep.app 1 info_part Try.underlying28 rfl (by decide) h rfl (hrow F.2.2.2.1.1) (by omega) (by simp only [maxLen]; omega) ?_
    clear h F
    intro a2 c2 w6 h
    have h := h.erase 3
    (try simp only [nfD] at h); have F := h.facts; (try simp only [nfF, emp_fact, rds_fact, frm_fact] at F); try simp -dsimp only [↓vcA, vcB, vcD, ↓pureT_lenS, ↓iteT, ↓iteF, cond_true, cond_false, eq_self, argE, Env.get, Env.push, ev, evs, evo, retV, Value.cells, Value.oneCell', setR, overR, fillL, zl, places, allSizes, heldC, ne_eq, Int.reduceLE, Int.reduceLT, Int.reduceEq, Int.reduceNe, Int.reduceToNat, Int.cast_ofNat_Int, Nat.reduceMul, Nat.reduceLeDiff, reduceIte, Nat.reduceEqDiff, Nat.reduceAdd, ↓reduceIte, Try.vcT, F, h.cell0, gets, vsD, if_true, if_false, Bool.false_eq_true,  cellsAt]
    repeat ((first | refine Sep.new h ?_ | refine Sep.put 0 h rfl ?_ | refine Sep.put 1 h rfl ?_ | refine Sep.put 2 h rfl ?_ | refine Sep.put 3 h rfl ?_ | refine Sep.put 4 h rfl ?_ | refine Sep.put 5 h rfl ?_ | refine Sep.raw 0 bs h rfl (by omega) (r1.sep h fun _ _ => id) (by omega) ?_); (clear F; (try clear h); intros; rename_i h; (try simp only [nfD] at h); have F := h.facts; (try simp only [nfF, emp_fact, rds_fact, frm_fact] at F); try simp -dsimp only [↓vcA, vcB, vcD, ↓pureT_lenS, ↓iteT, ↓iteF, cond_true, cond_false, eq_self, argE, Env.get, Env.push, ev, evs, evo, retV, Value.cells, Value.oneCell', setR, overR, fillL, zl, places, allSizes, heldC, ne_eq, Int.reduceLE, Int.reduceLT, Int.reduceEq, Int.reduceNe, Int.reduceToNat, Int.cast_ofNat_Int, Nat.reduceMul, Nat.reduceLeDiff, reduceIte, Nat.reduceEqDiff, Nat.reduceAdd, ↓reduceIte, Try.vcT, F, h.cell0, gets, vsD, if_true, if_false, Bool.false_eq_true, ei]))
    exact take ⟨.inr (.inr (.inr rfl)), (fun e => by cases e), (fun e => by cases e), (fun e => by cases e)⟩ h (by omega)
end Go.Proofs.Ytnhgjgoglmadnaa
