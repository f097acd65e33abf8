/- Joined texts of this claim (part 20), printed by a program of this work. The last part holds the claimed theorem: the law answers true at every input of its row. -/
import Derived.Test.YtnhgjgoglmadnaaSP14s
namespace Go.Proofs.Ytnhgjgoglmadnaa
open Go.RowKit
set_option maxRecDepth 100000
set_option linter.unusedSimpArgs false
set_option linter.unusedVariables false
set_option pp.maxSteps 1500
set_option pp.deepTerms.threshold 8

theorem seqPc {d : Nat} (a0 a1 a2 a3 a4 a5 a6 a7 a8 c0 c1 c2 c3 c4 c5 c6 c7 c8 : Int) (w : World) : (Op.equalIn (d + 4) 205 (.agg #[.int .i64 a0, .int .i64 a1, .int .i64 a2, .int .i64 a3, .int .i64 a4, .int .i64 a5, .int .i64 a6, .int .i64 a7, .int .i64 a8]) (.agg #[.int .i64 c0, .int .i64 c1, .int .i64 c2, .int .i64 c3, .int .i64 c4, .int .i64 c5, .int .i64 c6, .int .i64 c7, .int .i64 c8])).run Try.prog w = .ok (decide ([a0, a1, a2, a3, a4, a5, a6, a7, a8] = [c0, c1, c2, c3, c4, c5, c6, c7, c8])) w := by
  have e : decide ([a0, a1, a2, a3, a4, a5, a6, a7, a8] = [c0, c1, c2, c3, c4, c5, c6, c7, c8]) = _ := rfl
  have h := equalIn_sig (P := Try.prog) (d := d + 3) (t := 205) (xs := #[.int .i64 a0, .int .i64 a1, .int .i64 a2, .int .i64 a3, .int .i64 a4, .int .i64 a5, .int .i64 a6, .int .i64 a7, .int .i64 a8]) (ys := #[.int .i64 c0, .int .i64 c1, .int .i64 c2, .int .i64 c3, .int .i64 c4, .int .i64 c5, .int .i64 c6, .int .i64 c7, .int .i64 c8]) (w := w) (by kernel_rfl) (by kernel_rfl) (l := [(true, 39, 0), (true, 3, 6), (true, 3, 7), (true, 3, 8)]) (by kernel_rfl) (eqF_agg (n := 6) (by kernel_rfl) (by kernel_rfl) (seqTri (d := d) a0 a1 a2 a3 a4 a5 c0 c1 c2 c3 c4 c5 w) (eqF_int (show Try.prog.underlying 3 = some (.int .i64) by kernel_rfl) rfl rfl (eqF_int (show Try.prog.underlying 3 = some (.int .i64) by kernel_rfl) rfl rfl (eqF_int (show Try.prog.underlying 3 = some (.int .i64) by kernel_rfl) rfl rfl eqF_nil))))
  rw [h]
  simp [Bool.decide_and, Bool.and_assoc]

theorem seqRect {d : Nat} (a0 a1 a2 a3 c0 c1 c2 c3 : Int) (w : World) : (Op.equalIn (d + 2) 109 (.agg #[.int .i64 a0, .int .i64 a1, .int .i64 a2, .int .i64 a3]) (.agg #[.int .i64 c0, .int .i64 c1, .int .i64 c2, .int .i64 c3])).run Try.prog w = .ok (decide ([a0, a1, a2, a3] = [c0, c1, c2, c3])) w := by
  have e : decide ([a0, a1, a2, a3] = [c0, c1, c2, c3]) = _ := rfl
  have h := equalIn_sig (P := Try.prog) (d := d + 1) (t := 109) (xs := #[.int .i64 a0, .int .i64 a1, .int .i64 a2, .int .i64 a3]) (ys := #[.int .i64 c0, .int .i64 c1, .int .i64 c2, .int .i64 c3]) (w := w) (by kernel_rfl) (by kernel_rfl) (l := [(true, 3, 0), (true, 3, 1), (true, 3, 2), (true, 3, 3)]) (by kernel_rfl) (eqF_int (show Try.prog.underlying 3 = some (.int .i64) by kernel_rfl) rfl rfl (eqF_int (show Try.prog.underlying 3 = some (.int .i64) by kernel_rfl) rfl rfl (eqF_int (show Try.prog.underlying 3 = some (.int .i64) by kernel_rfl) rfl rfl (eqF_int (show Try.prog.underlying 3 = some (.int .i64) by kernel_rfl) rfl rfl eqF_nil))))
  rw [h]
  simp [Bool.decide_and, Bool.and_assoc]

theorem seqRq {d : Nat} (a0 a1 a2 a3 a4 a5 a6 a7 a8 a9 a10 a11 a12 a13 a14 a15 a16 a17 a18 a19 a20 a21 a22 a23 a24 a25 c0 c1 c2 c3 c4 c5 c6 c7 c8 c9 c10 c11 c12 c13 c14 c15 c16 c17 c18 c19 c20 c21 c22 c23 c24 c25 : Int) (w : World) : (Op.equalIn (d + 4) 111 (.agg #[.int .i64 a0, .int .i64 a1, .int .i64 a2, .int .i64 a3, .int .i64 a4, .int .i64 a5, .int .i64 a6, .int .i64 a7, .int .i64 a8, .int .i64 a9, .int .i64 a10, .int .i64 a11, .int .i64 a12, .int .i64 a13, .int .i64 a14, .int .i64 a15, .int .i64 a16, .int .i64 a17, .int .i64 a18, .int .i64 a19, .int .i64 a20, .int .i64 a21, .int .i64 a22, .int .i64 a23, .int .i64 a24, .int .i64 a25]) (.agg #[.int .i64 c0, .int .i64 c1, .int .i64 c2, .int .i64 c3, .int .i64 c4, .int .i64 c5, .int .i64 c6, .int .i64 c7, .int .i64 c8, .int .i64 c9, .int .i64 c10, .int .i64 c11, .int .i64 c12, .int .i64 c13, .int .i64 c14, .int .i64 c15, .int .i64 c16, .int .i64 c17, .int .i64 c18, .int .i64 c19, .int .i64 c20, .int .i64 c21, .int .i64 c22, .int .i64 c23, .int .i64 c24, .int .i64 c25])).run Try.prog w = .ok (decide ([a0, a1, a2, a3, a4, a5, a6, a7, a8, a9, a10, a11, a12, a13, a14, a15, a16, a17, a18, a19, a20, a21, a22, a23, a24, a25] = [c0, c1, c2, c3, c4, c5, c6, c7, c8, c9, c10, c11, c12, c13, c14, c15, c16, c17, c18, c19, c20, c21, c22, c23, c24, c25])) w := by
  have e : decide ([a0, a1, a2, a3, a4, a5, a6, a7, a8, a9, a10, a11, a12, a13, a14, a15, a16, a17, a18, a19, a20, a21, a22, a23, a24, a25] = [c0, c1, c2, c3, c4, c5, c6, c7, c8, c9, c10, c11, c12, c13, c14, c15, c16, c17, c18, c19, c20, c21, c22, c23, c24, c25]) = _ := rfl
  have h := equalIn_sig (P := Try.prog) (d := d + 3) (t := 111) (xs := #[.int .i64 a0, .int .i64 a1, .int .i64 a2, .int .i64 a3, .int .i64 a4, .int .i64 a5, .int .i64 a6, .int .i64 a7, .int .i64 a8, .int .i64 a9, .int .i64 a10, .int .i64 a11, .int .i64 a12, .int .i64 a13, .int .i64 a14, .int .i64 a15, .int .i64 a16, .int .i64 a17, .int .i64 a18, .int .i64 a19, .int .i64 a20, .int .i64 a21, .int .i64 a22, .int .i64 a23, .int .i64 a24, .int .i64 a25]) (ys := #[.int .i64 c0, .int .i64 c1, .int .i64 c2, .int .i64 c3, .int .i64 c4, .int .i64 c5, .int .i64 c6, .int .i64 c7, .int .i64 c8, .int .i64 c9, .int .i64 c10, .int .i64 c11, .int .i64 c12, .int .i64 c13, .int .i64 c14, .int .i64 c15, .int .i64 c16, .int .i64 c17, .int .i64 c18, .int .i64 c19, .int .i64 c20, .int .i64 c21, .int .i64 c22, .int .i64 c23, .int .i64 c24, .int .i64 c25]) (w := w) (by kernel_rfl) (by kernel_rfl) (l := [(true, 3, 0), (true, 37, 1), (true, 37, 3), (true, 39, 5), (true, 3, 11), (true, 3, 12), (true, 3, 13), (true, 3, 14), (true, 109, 15), (true, 3, 19), (true, 3, 20), (true, 3, 21), (true, 3, 22), (true, 3, 23), (true, 3, 24), (true, 3, 25)]) (by kernel_rfl) (eqF_int (show Try.prog.underlying 3 = some (.int .i64) by kernel_rfl) rfl rfl (eqF_agg (n := 2) (by kernel_rfl) (by kernel_rfl) (seqPt (d := d + 1) a1 a2 c1 c2 w) (eqF_agg (n := 2) (by kernel_rfl) (by kernel_rfl) (seqPt (d := d + 1) a3 a4 c3 c4 w) (eqF_agg (n := 6) (by kernel_rfl) (by kernel_rfl) (seqTri (d := d) a5 a6 a7 a8 a9 a10 c5 c6 c7 c8 c9 c10 w) (eqF_int (show Try.prog.underlying 3 = some (.int .i64) by kernel_rfl) rfl rfl (eqF_int (show Try.prog.underlying 3 = some (.int .i64) by kernel_rfl) rfl rfl (eqF_int (show Try.prog.underlying 3 = some (.int .i64) by kernel_rfl) rfl rfl (eqF_int (show Try.prog.underlying 3 = some (.int .i64) by kernel_rfl) rfl rfl (eqF_agg (n := 4) (by kernel_rfl) (by kernel_rfl) (seqRect (d := d + 1) a15 a16 a17 a18 c15 c16 c17 c18 w) (eqF_int (show Try.prog.underlying 3 = some (.int .i64) by kernel_rfl) rfl rfl (eqF_int (show Try.prog.underlying 3 = some (.int .i64) by kernel_rfl) rfl rfl (eqF_int (show Try.prog.underlying 3 = some (.int .i64) by kernel_rfl) rfl rfl (eqF_int (show Try.prog.underlying 3 = some (.int .i64) by kernel_rfl) rfl rfl (eqF_int (show Try.prog.underlying 3 = some (.int .i64) by kernel_rfl) rfl rfl (eqF_int (show Try.prog.underlying 3 = some (.int .i64) by kernel_rfl) rfl rfl (eqF_int (show Try.prog.underlying 3 = some (.int .i64) by kernel_rfl) rfl rfl eqF_nil))))))))))))))))
  rw [h]
  simp [Bool.decide_and, Bool.and_assoc]

def AnV.few (a : AnV) : Bool := decide (a.p.length ≤ 20) && (decide (a.ca.length ≤ 20) && decide (a.la.length ≤ 30))
theorem few64 (a : AnV) (t : AnS) (w : World) (R : AnR w a t) : Calls Try.prog 64 [.agg (a.cells t).toArray].toArray w (RetK fun r w' => r = .bool a.few ∧ Chg (fun _ => False) w w') := by
  obtain ⟨ap, cp, ep⟩ := R.p.shape
  obtain ⟨aca, cca, eca⟩ := R.ca.shape
  obtain ⟨ala, cla, ela⟩ := R.la.shape
  have h := Sep.nil w
  refine walk Try.func64 rfl (by kernel_rfl) (by rw [Try.nt64]; simp) ?_
  (try simp only [nfD] at h); have F := h.facts; (try simp only [nfF, emp_fact, rds_fact, frm_fact, tab_fact, two_fact, inr_fact, ansX_fact] at F)
  simp -dsimp only [↓vcA, vcB, vcD, ↓pureT_lenS, ↓iteT, ↓iteF, cond_true, cond_false, eq_self, argE, Env.get, Env.push, ev, evs, evo, retV, Value.cells, Value.oneCell', setR, overR, fillL, zl, places, allSizes, heldC, ne_eq, Int.reduceLE, Int.reduceLT, Int.reduceEq, Int.reduceNe, Int.reduceToNat, Int.cast_ofNat_Int, Nat.reduceMul, Nat.reduceLeDiff, reduceIte, Nat.reduceEqDiff, Nat.reduceAdd, ↓reduceIte, Try.vcT, AnV.cells, ep, eca, ela]
  refine h.new ?_
  clear h F
  intro w1 b1 h
  by_cases h1 : (a.p.length : Int) ≤ 20
  case neg =>
    (try simp only [nfD] at h); have F := h.facts; (try simp only [nfF, emp_fact, rds_fact, frm_fact, tab_fact, two_fact, inr_fact, ansX_fact] at F); try simp -dsimp only [↓vcA, vcB, vcD, ↓pureT_lenS, ↓iteT, ↓iteF, cond_true, cond_false, eq_self, argE, Env.get, Env.push, ev, evs, evo, retV, Value.cells, Value.oneCell', setR, overR, fillL, zl, places, allSizes, heldC, ne_eq, Int.reduceLE, Int.reduceLT, Int.reduceEq, Int.reduceNe, Int.reduceToNat, Int.cast_ofNat_Int, Nat.reduceMul, Nat.reduceLeDiff, reduceIte, Nat.reduceEqDiff, Nat.reduceAdd, ↓reduceIte, Try.vcT, F, h.cell0, gets, vsD, if_true, if_false, Bool.false_eq_true,  decide_eq_false h1]
    exact ⟨by unfold AnV.few; rw [decide_eq_false (show ¬ a.p.length ≤ 20 by omega)]; rfl, h.done⟩
  by_cases h2 : (a.ca.length : Int) ≤ 20
  case neg =>
    (try simp only [nfD] at h); have F := h.facts; (try simp only [nfF, emp_fact, rds_fact, frm_fact, tab_fact, two_fact, inr_fact, ansX_fact] at F); try simp -dsimp only [↓vcA, vcB, vcD, ↓pureT_lenS, ↓iteT, ↓iteF, cond_true, cond_false, eq_self, argE, Env.get, Env.push, ev, evs, evo, retV, Value.cells, Value.oneCell', setR, overR, fillL, zl, places, allSizes, heldC, ne_eq, Int.reduceLE, Int.reduceLT, Int.reduceEq, Int.reduceNe, Int.reduceToNat, Int.cast_ofNat_Int, Nat.reduceMul, Nat.reduceLeDiff, reduceIte, Nat.reduceEqDiff, Nat.reduceAdd, ↓reduceIte, Try.vcT, F, h.cell0, gets, vsD, if_true, if_false, Bool.false_eq_true,  decide_eq_true h1, decide_eq_false h2]
    exact ⟨by unfold AnV.few; rw [decide_eq_false (show ¬ a.ca.length ≤ 20 by omega)]; simp, h.done⟩
  by_cases h3 : (a.la.length : Int) ≤ 30
  case neg =>
    (try simp only [nfD] at h); have F := h.facts; (try simp only [nfF, emp_fact, rds_fact, frm_fact, tab_fact, two_fact, inr_fact, ansX_fact] at F); try simp -dsimp only [↓vcA, vcB, vcD, ↓pureT_lenS, ↓iteT, ↓iteF, cond_true, cond_false, eq_self, argE, Env.get, Env.push, ev, evs, evo, retV, Value.cells, Value.oneCell', setR, overR, fillL, zl, places, allSizes, heldC, ne_eq, Int.reduceLE, Int.reduceLT, Int.reduceEq, Int.reduceNe, Int.reduceToNat, Int.cast_ofNat_Int, Nat.reduceMul, Nat.reduceLeDiff, reduceIte, Nat.reduceEqDiff, Nat.reduceAdd, ↓reduceIte, Try.vcT, F, h.cell0, gets, vsD, if_true, if_false, Bool.false_eq_true,  decide_eq_true h1, decide_eq_true h2, decide_eq_false h3]
    exact ⟨by unfold AnV.few; rw [decide_eq_false (show ¬ a.la.length ≤ 30 by omega)]; simp, h.done⟩
  (try simp only [nfD] at h); have F := h.facts; (try simp only [nfF, emp_fact, rds_fact, frm_fact, tab_fact, two_fact, inr_fact, ansX_fact] at F); try simp -dsimp only [↓vcA, vcB, vcD, ↓pureT_lenS, ↓iteT, ↓iteF, cond_true, cond_false, eq_self, argE, Env.get, Env.push, ev, evs, evo, retV, Value.cells, Value.oneCell', setR, overR, fillL, zl, places, allSizes, heldC, ne_eq, Int.reduceLE, Int.reduceLT, Int.reduceEq, Int.reduceNe, Int.reduceToNat, Int.cast_ofNat_Int, Nat.reduceMul, Nat.reduceLeDiff, reduceIte, Nat.reduceEqDiff, Nat.reduceAdd, ↓reduceIte, Try.vcT, F, h.cell0, gets, vsD, if_true, if_false, Bool.false_eq_true,  decide_eq_true h1, decide_eq_true h2, decide_eq_true h3]
  exact ⟨by unfold AnV.few; rw [decide_eq_true (show a.p.length ≤ 20 by omega), decide_eq_true (show a.ca.length ≤ 20 by omega), decide_eq_true (show a.la.length ≤ 30 by omega)]; rfl, h.done⟩
set_option maxHeartbeats 4000000 in
theorem same74 (m o : AnV) (s t : AnS) (w : World) (R : AnR w m s) (Q : AnR w o t) :
    Calls Try.prog 74 [.agg (m.cells s).toArray, .agg (o.cells t).toArray].toArray w (RetK fun r w' => r = .bool (decide (m = o)) ∧ Chg (fun _ => False) w w') := by
  obtain ⟨sp, sca, sla⟩ := s
  obtain ⟨tp, tca, tla⟩ := t
  obtain ⟨ap, cp, rfl⟩ := R.p.shape
  obtain ⟨a'p, c'p, rfl⟩ := Q.p.shape
  obtain ⟨aca, cca, rfl⟩ := R.ca.shape
  obtain ⟨a'ca, c'ca, rfl⟩ := Q.ca.shape
  obtain ⟨ala, cla, rfl⟩ := R.la.shape
  obtain ⟨a'la, c'la, rfl⟩ := Q.la.shape
  have lp := R.p.len
  have l'p := Q.p.len
  have lca := R.ca.len
  have l'ca := Q.ca.len
  have lla := (Row.shape R.la)
  obtain ⟨_, _, _, la1, la2, _⟩ := lla
  simp only [maxLen] at lp l'p lca l'ca la2
  have no : ¬ m = o → decide (m = o) = false := fun e => decide_eq_false e
  have h := Sep.nil w
  refine walk Try.func74 rfl (by kernel_rfl) (by rw [Try.nt74]; simp) ?_
  (try simp only [nfD] at h); have F := h.facts; (try simp only [nfF, emp_fact, rds_fact, frm_fact, tab_fact, two_fact, inr_fact, ansX_fact] at F)
  simp -dsimp only [↓vcA, vcB, vcD, ↓pureT_lenS, ↓iteT, ↓iteF, cond_true, cond_false, eq_self, argE, Env.get, Env.push, ev, evs, evo, retV, Value.cells, Value.oneCell', setR, overR, fillL, zl, places, allSizes, heldC, ne_eq, Int.reduceLE, Int.reduceLT, Int.reduceEq, Int.reduceNe, Int.reduceToNat, Int.cast_ofNat_Int, Nat.reduceMul, Nat.reduceLeDiff, reduceIte, Nat.reduceEqDiff, Nat.reduceAdd, ↓reduceIte, Try.vcT, AnV.cells]
  refine h.new ?_
  clear h F
  intro w1 b1 h
  refine h.new ?_
  clear h
  intro w2 b2 h
  by_cases ecode : m.code = o.code
  case neg =>
    (try simp only [nfD] at h); have F := h.facts; (try simp only [nfF, emp_fact, rds_fact, frm_fact, tab_fact, two_fact, inr_fact, ansX_fact] at F); try simp -dsimp only [↓vcA, vcB, vcD, ↓pureT_lenS, ↓iteT, ↓iteF, cond_true, cond_false, eq_self, argE, Env.get, Env.push, ev, evs, evo, retV, Value.cells, Value.oneCell', setR, overR, fillL, zl, places, allSizes, heldC, ne_eq, Int.reduceLE, Int.reduceLT, Int.reduceEq, Int.reduceNe, Int.reduceToNat, Int.cast_ofNat_Int, Nat.reduceMul, Nat.reduceLeDiff, reduceIte, Nat.reduceEqDiff, Nat.reduceAdd, ↓reduceIte, Try.vcT, F, h.cell0, gets, vsD, if_true, if_false, Bool.false_eq_true,  decide_eq_false ecode, Bool.not_false, Bool.not_true]
    exact ⟨by rw [no fun e => ecode (by rw [e])], h.done⟩
  by_cases emore : m.more = o.more
  case neg =>
    have emore' : (m.more == o.more) = false := by simpa using emore
    (try simp only [nfD] at h); have F := h.facts; (try simp only [nfF, emp_fact, rds_fact, frm_fact, tab_fact, two_fact, inr_fact, ansX_fact] at F); try simp -dsimp only [↓vcA, vcB, vcD, ↓pureT_lenS, ↓iteT, ↓iteF, cond_true, cond_false, eq_self, argE, Env.get, Env.push, ev, evs, evo, retV, Value.cells, Value.oneCell', setR, overR, fillL, zl, places, allSizes, heldC, ne_eq, Int.reduceLE, Int.reduceLT, Int.reduceEq, Int.reduceNe, Int.reduceToNat, Int.cast_ofNat_Int, Nat.reduceMul, Nat.reduceLeDiff, reduceIte, Nat.reduceEqDiff, Nat.reduceAdd, ↓reduceIte, Try.vcT, F, h.cell0, gets, vsD, if_true, if_false, Bool.false_eq_true,  decide_eq_true ecode, emore', Bool.not_false, Bool.not_true]
    exact ⟨by rw [no fun e => emore (by rw [e])], h.done⟩
  have emore' : (m.more == o.more) = true := by simpa using emore
  by_cases en : m.n = o.n
  case neg =>
    (try simp only [nfD] at h); have F := h.facts; (try simp only [nfF, emp_fact, rds_fact, frm_fact, tab_fact, two_fact, inr_fact, ansX_fact] at F); try simp -dsimp only [↓vcA, vcB, vcD, ↓pureT_lenS, ↓iteT, ↓iteF, cond_true, cond_false, eq_self, argE, Env.get, Env.push, ev, evs, evo, retV, Value.cells, Value.oneCell', setR, overR, fillL, zl, places, allSizes, heldC, ne_eq, Int.reduceLE, Int.reduceLT, Int.reduceEq, Int.reduceNe, Int.reduceToNat, Int.cast_ofNat_Int, Nat.reduceMul, Nat.reduceLeDiff, reduceIte, Nat.reduceEqDiff, Nat.reduceAdd, ↓reduceIte, Try.vcT, F, h.cell0, gets, vsD, if_true, if_false, Bool.false_eq_true,  decide_eq_true ecode, emore', decide_eq_false en, Bool.not_false, Bool.not_true]
    exact ⟨by rw [no fun e => en (by rw [e])], h.done⟩
  by_cases esum : m.sum = o.sum
  case neg =>
    (try simp only [nfD] at h); have F := h.facts; (try simp only [nfF, emp_fact, rds_fact, frm_fact, tab_fact, two_fact, inr_fact, ansX_fact] at F); try simp -dsimp only [↓vcA, vcB, vcD, ↓pureT_lenS, ↓iteT, ↓iteF, cond_true, cond_false, eq_self, argE, Env.get, Env.push, ev, evs, evo, retV, Value.cells, Value.oneCell', setR, overR, fillL, zl, places, allSizes, heldC, ne_eq, Int.reduceLE, Int.reduceLT, Int.reduceEq, Int.reduceNe, Int.reduceToNat, Int.cast_ofNat_Int, Nat.reduceMul, Nat.reduceLeDiff, reduceIte, Nat.reduceEqDiff, Nat.reduceAdd, ↓reduceIte, Try.vcT, F, h.cell0, gets, vsD, if_true, if_false, Bool.false_eq_true,  decide_eq_true ecode, emore', decide_eq_true en, decide_eq_false esum, Bool.not_false, Bool.not_true]
    exact ⟨by rw [no fun e => esum (by rw [e])], h.done⟩
  by_cases np : (m.p.length : Int) = o.p.length
  case neg =>
    (try simp only [nfD] at h); have F := h.facts; (try simp only [nfF, emp_fact, rds_fact, frm_fact, tab_fact, two_fact, inr_fact, ansX_fact] at F); try simp -dsimp only [↓vcA, vcB, vcD, ↓pureT_lenS, ↓iteT, ↓iteF, cond_true, cond_false, eq_self, argE, Env.get, Env.push, ev, evs, evo, retV, Value.cells, Value.oneCell', setR, overR, fillL, zl, places, allSizes, heldC, ne_eq, Int.reduceLE, Int.reduceLT, Int.reduceEq, Int.reduceNe, Int.reduceToNat, Int.cast_ofNat_Int, Nat.reduceMul, Nat.reduceLeDiff, reduceIte, Nat.reduceEqDiff, Nat.reduceAdd, ↓reduceIte, Try.vcT, F, h.cell0, gets, vsD, if_true, if_false, Bool.false_eq_true,  decide_eq_true ecode, emore', decide_eq_true en, decide_eq_true esum, decide_eq_false np, Bool.not_false, Bool.not_true]
    exact ⟨by rw [no fun e => np (by rw [e])], h.done⟩
  by_cases nca : (m.ca.length : Int) = o.ca.length
  case neg =>
    (try simp only [nfD] at h); have F := h.facts; (try simp only [nfF, emp_fact, rds_fact, frm_fact, tab_fact, two_fact, inr_fact, ansX_fact] at F); try simp -dsimp only [↓vcA, vcB, vcD, ↓pureT_lenS, ↓iteT, ↓iteF, cond_true, cond_false, eq_self, argE, Env.get, Env.push, ev, evs, evo, retV, Value.cells, Value.oneCell', setR, overR, fillL, zl, places, allSizes, heldC, ne_eq, Int.reduceLE, Int.reduceLT, Int.reduceEq, Int.reduceNe, Int.reduceToNat, Int.cast_ofNat_Int, Nat.reduceMul, Nat.reduceLeDiff, reduceIte, Nat.reduceEqDiff, Nat.reduceAdd, ↓reduceIte, Try.vcT, F, h.cell0, gets, vsD, if_true, if_false, Bool.false_eq_true,  decide_eq_true ecode, emore', decide_eq_true en, decide_eq_true esum, decide_eq_true np, decide_eq_false nca, Bool.not_false, Bool.not_true]
    exact ⟨by rw [no fun e => nca (by rw [e])], h.done⟩
  by_cases nla : (m.la.length : Int) = o.la.length
  case neg =>
    (try simp only [nfD] at h); have F := h.facts; (try simp only [nfF, emp_fact, rds_fact, frm_fact, tab_fact, two_fact, inr_fact, ansX_fact] at F); try simp -dsimp only [↓vcA, vcB, vcD, ↓pureT_lenS, ↓iteT, ↓iteF, cond_true, cond_false, eq_self, argE, Env.get, Env.push, ev, evs, evo, retV, Value.cells, Value.oneCell', setR, overR, fillL, zl, places, allSizes, heldC, ne_eq, Int.reduceLE, Int.reduceLT, Int.reduceEq, Int.reduceNe, Int.reduceToNat, Int.cast_ofNat_Int, Nat.reduceMul, Nat.reduceLeDiff, reduceIte, Nat.reduceEqDiff, Nat.reduceAdd, ↓reduceIte, Try.vcT, F, h.cell0, gets, vsD, if_true, if_false, Bool.false_eq_true,  decide_eq_true ecode, emore', decide_eq_true en, decide_eq_true esum, decide_eq_true np, decide_eq_true nca, decide_eq_false nla, Bool.not_false, Bool.not_true]
    exact ⟨by rw [no fun e => nla (by rw [e])], h.done⟩
  (try simp only [nfD] at h); have F := h.facts; (try simp only [nfF, emp_fact, rds_fact, frm_fact, tab_fact, two_fact, inr_fact, ansX_fact] at F); try simp -dsimp only [↓vcA, vcB, vcD, ↓pureT_lenS, ↓iteT, ↓iteF, cond_true, cond_false, eq_self, argE, Env.get, Env.push, ev, evs, evo, retV, Value.cells, Value.oneCell', setR, overR, fillL, zl, places, allSizes, heldC, ne_eq, Int.reduceLE, Int.reduceLT, Int.reduceEq, Int.reduceNe, Int.reduceToNat, Int.cast_ofNat_Int, Nat.reduceMul, Nat.reduceLeDiff, reduceIte, Nat.reduceEqDiff, Nat.reduceAdd, ↓reduceIte, Try.vcT, F, h.cell0, gets, vsD, if_true, if_false, Bool.false_eq_true,  decide_eq_true ecode, emore', decide_eq_true en, decide_eq_true esum, decide_eq_true np, decide_eq_true nca, decide_eq_true nla, Bool.not_false, Bool.not_true]
  change Sep w _ [blk b1 114 [.int .i64 m.code, .slice ap m.p.length cp, .bool m.more, .slice aca m.ca.length cca, .slice ala m.la.length cla, .int .i64 m.n, .int .u64 m.sum], blk b2 114 [.int .i64 o.code, .slice a'p o.p.length c'p, .bool o.more, .slice a'ca o.ca.length c'ca, .slice a'la o.la.length c'la, .int .i64 o.n, .int .u64 o.sum]] _ at h
  refine walkLoop [2, 3] [5] (fun k vs w' => ∃ i, i ≤ m.p.length ∧ k = m.p.length - i ∧ vs = [.int .i64 i] ∧ m.p.take i = o.p.take i ∧ Sep w (fun _ => False) [blk b1 114 [.int .i64 m.code, .slice ap m.p.length cp, .bool m.more, .slice aca m.ca.length cca, .slice ala m.la.length cla, .int .i64 m.n, .int .u64 m.sum], blk b2 114 [.int .i64 o.code, .slice a'p o.p.length c'p, .bool o.more, .slice a'ca o.ca.length c'ca, .slice a'la o.la.length c'la, .int .i64 o.n, .int .u64 o.sum]] w') (by kernel_rfl) ?_ ?_
  · simp -dsimp only [↓vcA, vcB, vcD, ↓pureT_lenS, ↓iteT, ↓iteF, cond_true, cond_false, eq_self, argE, Env.get, Env.push, ev, evs, evo, retV, Value.cells, Value.oneCell', setR, overR, fillL, zl, places, allSizes, heldC, ne_eq, Int.reduceLE, Int.reduceLT, Int.reduceEq, Int.reduceNe, Int.reduceToNat, Int.cast_ofNat_Int, Nat.reduceMul, Nat.reduceLeDiff, reduceIte, Nat.reduceEqDiff, Nat.reduceAdd, ↓reduceIte, Try.vcT, gets]
    exact ⟨_, 0, Nat.zero_le _, rfl, rfl, by simp, h⟩
  intro ks hk k vs w3 hi
  clear h
  try clear F
  obtain ⟨i, hi, rfl, rfl, htk, h⟩ := hi
  simp -dsimp only [gets, argE, List.zip_cons_cons, List.zip_nil_left, List.cons_append, List.nil_append, Env.get, Env.push, Option.bind_some, Option.map_some, Option.some.injEq, reduceIte, Nat.reduceEqDiff, Nat.reduceAdd, ↓reduceIte] at hk; subst hk
  by_cases hlt : (i : Int) < m.p.length
  case pos =>
    have Rx := R.p
    have Qx := Q.p
    dsimp only at Rx Qx
    have hil : i < m.p.length := by omega
    have hil' : i < o.p.length := by omega
    obtain ⟨b, oo, eb, hcx⟩ := Rx.at hil (by decide)
    obtain ⟨b', oo', eb', hcy⟩ := Qx.at hil' (by decide)
    have wx := Rx.wid _ (List.getElem_mem hil)
    have wy := Qx.wid _ (List.getElem_mem hil')
    have htk2 : m.p[i] = o.p[i] → m.p.take (i + 1) = o.p.take (i + 1) := fun e => take_succ_eq htk hil hil' e
    have hne : m.p[i] ≠ o.p[i] → decide (m = o) = false := fun e => no fun f => e (by subst f; rfl)
    generalize m.p[i] = x at *
    generalize o.p[i] = y at *
    obtain ⟨a0, a1, a2, a3, a4, a5, a6, a7, a8, rfl⟩ := len_9 wx
    obtain ⟨c0, c1, c2, c3, c4, c5, c6, c7, c8, rfl⟩ := len_9 wy
    have k0 : w.cell? ⟨b, oo + i * 9, none⟩ = some (.int .i64 a0) := Tab.cell hcx 0 (by simp)
    have k0 := (h.cell0 (by rw [k0]; rfl) id).trans k0
    have m0 : w.cell? ⟨b', oo' + i * 9, none⟩ = some (.int .i64 c0) := Tab.cell hcy 0 (by simp)
    have m0 := (h.cell0 (by rw [m0]; rfl) id).trans m0
    have k1 : w.cell? ⟨b, oo + i * 9 + 1, none⟩ = some (.int .i64 a1) := Tab.cell hcx 1 (by simp)
    have k1 := (h.cell0 (by rw [k1]; rfl) id).trans k1
    have m1 : w.cell? ⟨b', oo' + i * 9 + 1, none⟩ = some (.int .i64 c1) := Tab.cell hcy 1 (by simp)
    have m1 := (h.cell0 (by rw [m1]; rfl) id).trans m1
    have k2 : w.cell? ⟨b, oo + i * 9 + 2, none⟩ = some (.int .i64 a2) := Tab.cell hcx 2 (by simp)
    have k2 := (h.cell0 (by rw [k2]; rfl) id).trans k2
    have m2 : w.cell? ⟨b', oo' + i * 9 + 2, none⟩ = some (.int .i64 c2) := Tab.cell hcy 2 (by simp)
    have m2 := (h.cell0 (by rw [m2]; rfl) id).trans m2
    have k3 : w.cell? ⟨b, oo + i * 9 + 3, none⟩ = some (.int .i64 a3) := Tab.cell hcx 3 (by simp)
    have k3 := (h.cell0 (by rw [k3]; rfl) id).trans k3
    have m3 : w.cell? ⟨b', oo' + i * 9 + 3, none⟩ = some (.int .i64 c3) := Tab.cell hcy 3 (by simp)
    have m3 := (h.cell0 (by rw [m3]; rfl) id).trans m3
    have k4 : w.cell? ⟨b, oo + i * 9 + 4, none⟩ = some (.int .i64 a4) := Tab.cell hcx 4 (by simp)
    have k4 := (h.cell0 (by rw [k4]; rfl) id).trans k4
    have m4 : w.cell? ⟨b', oo' + i * 9 + 4, none⟩ = some (.int .i64 c4) := Tab.cell hcy 4 (by simp)
    have m4 := (h.cell0 (by rw [m4]; rfl) id).trans m4
    have k5 : w.cell? ⟨b, oo + i * 9 + 5, none⟩ = some (.int .i64 a5) := Tab.cell hcx 5 (by simp)
    have k5 := (h.cell0 (by rw [k5]; rfl) id).trans k5
    have m5 : w.cell? ⟨b', oo' + i * 9 + 5, none⟩ = some (.int .i64 c5) := Tab.cell hcy 5 (by simp)
    have m5 := (h.cell0 (by rw [m5]; rfl) id).trans m5
    have k6 : w.cell? ⟨b, oo + i * 9 + 6, none⟩ = some (.int .i64 a6) := Tab.cell hcx 6 (by simp)
    have k6 := (h.cell0 (by rw [k6]; rfl) id).trans k6
    have m6 : w.cell? ⟨b', oo' + i * 9 + 6, none⟩ = some (.int .i64 c6) := Tab.cell hcy 6 (by simp)
    have m6 := (h.cell0 (by rw [m6]; rfl) id).trans m6
    have k7 : w.cell? ⟨b, oo + i * 9 + 7, none⟩ = some (.int .i64 a7) := Tab.cell hcx 7 (by simp)
    have k7 := (h.cell0 (by rw [k7]; rfl) id).trans k7
    have m7 : w.cell? ⟨b', oo' + i * 9 + 7, none⟩ = some (.int .i64 c7) := Tab.cell hcy 7 (by simp)
    have m7 := (h.cell0 (by rw [m7]; rfl) id).trans m7
    have k8 : w.cell? ⟨b, oo + i * 9 + 8, none⟩ = some (.int .i64 a8) := Tab.cell hcx 8 (by simp)
    have k8 := (h.cell0 (by rw [k8]; rfl) id).trans k8
    have m8 : w.cell? ⟨b', oo' + i * 9 + 8, none⟩ = some (.int .i64 c8) := Tab.cell hcy 8 (by simp)
    have m8 := (h.cell0 (by rw [m8]; rfl) id).trans m8
    have ei : IntKind.i64.wrap ((i : Int) + 1) = ((i + 1 : Nat) : Int) := by rw [i64w _ (by omega) (by omega)]; omega
    have h0i : (0 : Int) ≤ i := by omega
    have hlt' : (i : Int) < o.p.length := by omega
    (try simp only [nfD] at h); have F := h.facts; (try simp only [nfF, emp_fact, rds_fact, frm_fact, tab_fact, two_fact, inr_fact, ansX_fact] at F); try simp -dsimp only [↓vcA, vcB, vcD, ↓pureT_lenS, ↓iteT, ↓iteF, cond_true, cond_false, eq_self, argE, Env.get, Env.push, ev, evs, evo, retV, Value.cells, Value.oneCell', setR, overR, fillL, zl, places, allSizes, heldC, ne_eq, Int.reduceLE, Int.reduceLT, Int.reduceEq, Int.reduceNe, Int.reduceToNat, Int.cast_ofNat_Int, Nat.reduceMul, Nat.reduceLeDiff, reduceIte, Nat.reduceEqDiff, Nat.reduceAdd, ↓reduceIte, Try.vcT, F, h.cell0, gets, vsD, if_true, if_false, Bool.false_eq_true,  decide_eq_true hlt]
    rw [eb, eb'] at h
    (try simp only [nfD] at h); have F := h.facts; (try simp only [nfF, emp_fact, rds_fact, frm_fact, tab_fact, two_fact, inr_fact, ansX_fact] at F)
    refine walkDraw (.q 0 (.q 2 (.q 5 (.q 7 (.h 1 0 (.q 3 (.h 4 1 (.h 6 10 (.q 8 (.h 9 11 (.q 10 .fin))))))))))) [(b1, 1, .slice (some ⟨b, oo, none⟩) m.p.length cp), (b, oo + i * 9, .int .i64 a0), (b, oo + i * 9 + 1, .int .i64 a1), (b, oo + i * 9 + 2, .int .i64 a2), (b, oo + i * 9 + 3, .int .i64 a3), (b, oo + i * 9 + 4, .int .i64 a4), (b, oo + i * 9 + 5, .int .i64 a5), (b, oo + i * 9 + 6, .int .i64 a6), (b, oo + i * 9 + 7, .int .i64 a7), (b, oo + i * 9 + 8, .int .i64 a8), (b2, 1, .slice (some ⟨b', oo', none⟩) o.p.length c'p), (b', oo' + i * 9, .int .i64 c0), (b', oo' + i * 9 + 1, .int .i64 c1), (b', oo' + i * 9 + 2, .int .i64 c2), (b', oo' + i * 9 + 3, .int .i64 c3), (b', oo' + i * 9 + 4, .int .i64 c4), (b', oo' + i * 9 + 5, .int .i64 c5), (b', oo' + i * 9 + 6, .int .i64 c6), (b', oo' + i * 9 + 7, .int .i64 c7), (b', oo' + i * 9 + 8, .int .i64 c8)] (by kernel_rfl) (by simp [Holds_nil, Holds_cons, F, k0, m0, k1, m1, k2, m2, k3, m3, k4, m4, k5, m5, k6, m6, k7, m7, k8, m8]) ?_
    refine h.draw ?_
    clear h F
    intro w6 h
    (try simp only [nfD] at h); have F := h.facts; (try simp only [nfF, emp_fact, rds_fact, frm_fact, tab_fact, two_fact, inr_fact, ansX_fact] at F); try simp -dsimp only [↓vcA, vcB, vcD, ↓pureT_lenS, ↓iteT, ↓iteF, cond_true, cond_false, eq_self, argE, Env.get, Env.push, ev, evs, evo, retV, Value.cells, Value.oneCell', setR, overR, fillL, zl, places, allSizes, heldC, ne_eq, Int.reduceLE, Int.reduceLT, Int.reduceEq, Int.reduceNe, Int.reduceToNat, Int.cast_ofNat_Int, Nat.reduceMul, Nat.reduceLeDiff, reduceIte, Nat.reduceEqDiff, Nat.reduceAdd, ↓reduceIte, Try.vcT, F, h.cell0, gets, vsD, if_true, if_false, Bool.false_eq_true]
    refine ⟨⟨h0i, hlt⟩, ⟨h0i, hlt'⟩, binK_neq_agg (by kernel_rfl) (fun w => seqPc (d := 9996) a0 a1 a2 a3 a4 a5 a6 a7 a8 c0 c1 c2 c3 c4 c5 c6 c7 c8 w) ?_⟩
    by_cases he : [a0, a1, a2, a3, a4, a5, a6, a7, a8] = [c0, c1, c2, c3, c4, c5, c6, c7, c8]
    case pos =>
      (try simp only [nfD] at h); have F := h.facts; (try simp only [nfF, emp_fact, rds_fact, frm_fact, tab_fact, two_fact, inr_fact, ansX_fact] at F); try simp -dsimp only [↓vcA, vcB, vcD, ↓pureT_lenS, ↓iteT, ↓iteF, cond_true, cond_false, eq_self, argE, Env.get, Env.push, ev, evs, evo, retV, Value.cells, Value.oneCell', setR, overR, fillL, zl, places, allSizes, heldC, ne_eq, Int.reduceLE, Int.reduceLT, Int.reduceEq, Int.reduceNe, Int.reduceToNat, Int.cast_ofNat_Int, Nat.reduceMul, Nat.reduceLeDiff, reduceIte, Nat.reduceEqDiff, Nat.reduceAdd, ↓reduceIte, Try.vcT, F, h.cell0, gets, vsD, if_true, if_false, Bool.false_eq_true,  decide_eq_true he, ei]
      refine ⟨_, ?_, i + 1, by omega, rfl, rfl, htk2 he, ?_⟩
      · omega
      · rw [eb, eb']; exact h
    case neg =>
      (try simp only [nfD] at h); have F := h.facts; (try simp only [nfF, emp_fact, rds_fact, frm_fact, tab_fact, two_fact, inr_fact, ansX_fact] at F); try simp -dsimp only [↓vcA, vcB, vcD, ↓pureT_lenS, ↓iteT, ↓iteF, cond_true, cond_false, eq_self, argE, Env.get, Env.push, ev, evs, evo, retV, Value.cells, Value.oneCell', setR, overR, fillL, zl, places, allSizes, heldC, ne_eq, Int.reduceLE, Int.reduceLT, Int.reduceEq, Int.reduceNe, Int.reduceToNat, Int.cast_ofNat_Int, Nat.reduceMul, Nat.reduceLeDiff, reduceIte, Nat.reduceEqDiff, Nat.reduceAdd, ↓reduceIte, Try.vcT, F, h.cell0, gets, vsD, if_true, if_false, Bool.false_eq_true,  decide_eq_false he]
      exact ⟨by rw [hne he], h.done⟩
  have ep : m.p = o.p := by
    have h1 : m.p.take i = m.p := List.take_of_length_le (by omega)
    have h2 : o.p.take i = o.p := List.take_of_length_le (by omega)
    rw [h1, h2] at htk; exact htk
  (try simp only [nfD] at h); have F := h.facts; (try simp only [nfF, emp_fact, rds_fact, frm_fact, tab_fact, two_fact, inr_fact, ansX_fact] at F); try simp -dsimp only [↓vcA, vcB, vcD, ↓pureT_lenS, ↓iteT, ↓iteF, cond_true, cond_false, eq_self, argE, Env.get, Env.push, ev, evs, evo, retV, Value.cells, Value.oneCell', setR, overR, fillL, zl, places, allSizes, heldC, ne_eq, Int.reduceLE, Int.reduceLT, Int.reduceEq, Int.reduceNe, Int.reduceToNat, Int.cast_ofNat_Int, Nat.reduceMul, Nat.reduceLeDiff, reduceIte, Nat.reduceEqDiff, Nat.reduceAdd, ↓reduceIte, Try.vcT, F, h.cell0, gets, vsD, if_true, if_false, Bool.false_eq_true,  decide_eq_false hlt]
  clear htk hi hlt
  refine walkLoop [2, 3] [6] (fun k vs w' => ∃ i, i ≤ m.ca.length ∧ k = m.ca.length - i ∧ vs = [.int .i64 i] ∧ m.ca.take i = o.ca.take i ∧ Sep w (fun _ => False) [blk b1 114 [.int .i64 m.code, .slice ap m.p.length cp, .bool m.more, .slice aca m.ca.length cca, .slice ala m.la.length cla, .int .i64 m.n, .int .u64 m.sum], blk b2 114 [.int .i64 o.code, .slice a'p o.p.length c'p, .bool o.more, .slice a'ca o.ca.length c'ca, .slice a'la o.la.length c'la, .int .i64 o.n, .int .u64 o.sum]] w') (by kernel_rfl) ?_ ?_
  · simp -dsimp only [↓vcA, vcB, vcD, ↓pureT_lenS, ↓iteT, ↓iteF, cond_true, cond_false, eq_self, argE, Env.get, Env.push, ev, evs, evo, retV, Value.cells, Value.oneCell', setR, overR, fillL, zl, places, allSizes, heldC, ne_eq, Int.reduceLE, Int.reduceLT, Int.reduceEq, Int.reduceNe, Int.reduceToNat, Int.cast_ofNat_Int, Nat.reduceMul, Nat.reduceLeDiff, reduceIte, Nat.reduceEqDiff, Nat.reduceAdd, ↓reduceIte, Try.vcT, gets]
    exact ⟨_, 0, Nat.zero_le _, rfl, rfl, by simp, h⟩
  intro ks hk k vs w3 hi
  clear h
  try clear F
  obtain ⟨i, hi, rfl, rfl, htk, h⟩ := hi
  simp -dsimp only [gets, argE, List.zip_cons_cons, List.zip_nil_left, List.cons_append, List.nil_append, Env.get, Env.push, Option.bind_some, Option.map_some, Option.some.injEq, reduceIte, Nat.reduceEqDiff, Nat.reduceAdd, ↓reduceIte] at hk; subst hk
  by_cases hlt : (i : Int) < m.ca.length
  case pos =>
    have Rx := R.ca
    have Qx := Q.ca
    dsimp only at Rx Qx
    have hil : i < m.ca.length := by omega
    have hil' : i < o.ca.length := by omega
    obtain ⟨b, oo, eb, hcx⟩ := Rx.at hil (by decide)
    obtain ⟨b', oo', eb', hcy⟩ := Qx.at hil' (by decide)
    have wx := Rx.wid _ (List.getElem_mem hil)
    have wy := Qx.wid _ (List.getElem_mem hil')
    have htk2 : m.ca[i] = o.ca[i] → m.ca.take (i + 1) = o.ca.take (i + 1) := fun e => take_succ_eq htk hil hil' e
    have hne : m.ca[i] ≠ o.ca[i] → decide (m = o) = false := fun e => no fun f => e (by subst f; rfl)
    generalize m.ca[i] = x at *
    generalize o.ca[i] = y at *
    obtain ⟨a0, a1, a2, a3, a4, a5, a6, a7, a8, rfl⟩ := len_9 wx
    obtain ⟨c0, c1, c2, c3, c4, c5, c6, c7, c8, rfl⟩ := len_9 wy
    have k0 : w.cell? ⟨b, oo + i * 9, none⟩ = some (.int .i64 a0) := Tab.cell hcx 0 (by simp)
    have k0 := (h.cell0 (by rw [k0]; rfl) id).trans k0
    have m0 : w.cell? ⟨b', oo' + i * 9, none⟩ = some (.int .i64 c0) := Tab.cell hcy 0 (by simp)
    have m0 := (h.cell0 (by rw [m0]; rfl) id).trans m0
    have k1 : w.cell? ⟨b, oo + i * 9 + 1, none⟩ = some (.int .i64 a1) := Tab.cell hcx 1 (by simp)
    have k1 := (h.cell0 (by rw [k1]; rfl) id).trans k1
    have m1 : w.cell? ⟨b', oo' + i * 9 + 1, none⟩ = some (.int .i64 c1) := Tab.cell hcy 1 (by simp)
    have m1 := (h.cell0 (by rw [m1]; rfl) id).trans m1
    have k2 : w.cell? ⟨b, oo + i * 9 + 2, none⟩ = some (.int .i64 a2) := Tab.cell hcx 2 (by simp)
    have k2 := (h.cell0 (by rw [k2]; rfl) id).trans k2
    have m2 : w.cell? ⟨b', oo' + i * 9 + 2, none⟩ = some (.int .i64 c2) := Tab.cell hcy 2 (by simp)
    have m2 := (h.cell0 (by rw [m2]; rfl) id).trans m2
    have k3 : w.cell? ⟨b, oo + i * 9 + 3, none⟩ = some (.int .i64 a3) := Tab.cell hcx 3 (by simp)
    have k3 := (h.cell0 (by rw [k3]; rfl) id).trans k3
    have m3 : w.cell? ⟨b', oo' + i * 9 + 3, none⟩ = some (.int .i64 c3) := Tab.cell hcy 3 (by simp)
    have m3 := (h.cell0 (by rw [m3]; rfl) id).trans m3
    have k4 : w.cell? ⟨b, oo + i * 9 + 4, none⟩ = some (.int .i64 a4) := Tab.cell hcx 4 (by simp)
    have k4 := (h.cell0 (by rw [k4]; rfl) id).trans k4
    have m4 : w.cell? ⟨b', oo' + i * 9 + 4, none⟩ = some (.int .i64 c4) := Tab.cell hcy 4 (by simp)
    have m4 := (h.cell0 (by rw [m4]; rfl) id).trans m4
    have k5 : w.cell? ⟨b, oo + i * 9 + 5, none⟩ = some (.int .i64 a5) := Tab.cell hcx 5 (by simp)
    have k5 := (h.cell0 (by rw [k5]; rfl) id).trans k5
    have m5 : w.cell? ⟨b', oo' + i * 9 + 5, none⟩ = some (.int .i64 c5) := Tab.cell hcy 5 (by simp)
    have m5 := (h.cell0 (by rw [m5]; rfl) id).trans m5
    have k6 : w.cell? ⟨b, oo + i * 9 + 6, none⟩ = some (.int .i64 a6) := Tab.cell hcx 6 (by simp)
    have k6 := (h.cell0 (by rw [k6]; rfl) id).trans k6
    have m6 : w.cell? ⟨b', oo' + i * 9 + 6, none⟩ = some (.int .i64 c6) := Tab.cell hcy 6 (by simp)
    have m6 := (h.cell0 (by rw [m6]; rfl) id).trans m6
    have k7 : w.cell? ⟨b, oo + i * 9 + 7, none⟩ = some (.int .i64 a7) := Tab.cell hcx 7 (by simp)
    have k7 := (h.cell0 (by rw [k7]; rfl) id).trans k7
    have m7 : w.cell? ⟨b', oo' + i * 9 + 7, none⟩ = some (.int .i64 c7) := Tab.cell hcy 7 (by simp)
    have m7 := (h.cell0 (by rw [m7]; rfl) id).trans m7
    have k8 : w.cell? ⟨b, oo + i * 9 + 8, none⟩ = some (.int .i64 a8) := Tab.cell hcx 8 (by simp)
    have k8 := (h.cell0 (by rw [k8]; rfl) id).trans k8
    have m8 : w.cell? ⟨b', oo' + i * 9 + 8, none⟩ = some (.int .i64 c8) := Tab.cell hcy 8 (by simp)
    have m8 := (h.cell0 (by rw [m8]; rfl) id).trans m8
    have ei : IntKind.i64.wrap ((i : Int) + 1) = ((i + 1 : Nat) : Int) := by rw [i64w _ (by omega) (by omega)]; omega
    have h0i : (0 : Int) ≤ i := by omega
    have hlt' : (i : Int) < o.ca.length := by omega
    (try simp only [nfD] at h); have F := h.facts; (try simp only [nfF, emp_fact, rds_fact, frm_fact, tab_fact, two_fact, inr_fact, ansX_fact] at F); try simp -dsimp only [↓vcA, vcB, vcD, ↓pureT_lenS, ↓iteT, ↓iteF, cond_true, cond_false, eq_self, argE, Env.get, Env.push, ev, evs, evo, retV, Value.cells, Value.oneCell', setR, overR, fillL, zl, places, allSizes, heldC, ne_eq, Int.reduceLE, Int.reduceLT, Int.reduceEq, Int.reduceNe, Int.reduceToNat, Int.cast_ofNat_Int, Nat.reduceMul, Nat.reduceLeDiff, reduceIte, Nat.reduceEqDiff, Nat.reduceAdd, ↓reduceIte, Try.vcT, F, h.cell0, gets, vsD, if_true, if_false, Bool.false_eq_true,  decide_eq_true hlt]
    rw [eb, eb'] at h
    (try simp only [nfD] at h); have F := h.facts; (try simp only [nfF, emp_fact, rds_fact, frm_fact, tab_fact, two_fact, inr_fact, ansX_fact] at F)
    refine walkDraw (.q 0 (.q 2 (.q 5 (.q 7 (.h 1 0 (.q 3 (.h 4 1 (.h 6 10 (.q 8 (.h 9 11 (.q 10 .fin))))))))))) [(b1, 3, .slice (some ⟨b, oo, none⟩) m.ca.length cca), (b, oo + i * 9, .int .i64 a0), (b, oo + i * 9 + 1, .int .i64 a1), (b, oo + i * 9 + 2, .int .i64 a2), (b, oo + i * 9 + 3, .int .i64 a3), (b, oo + i * 9 + 4, .int .i64 a4), (b, oo + i * 9 + 5, .int .i64 a5), (b, oo + i * 9 + 6, .int .i64 a6), (b, oo + i * 9 + 7, .int .i64 a7), (b, oo + i * 9 + 8, .int .i64 a8), (b2, 3, .slice (some ⟨b', oo', none⟩) o.ca.length c'ca), (b', oo' + i * 9, .int .i64 c0), (b', oo' + i * 9 + 1, .int .i64 c1), (b', oo' + i * 9 + 2, .int .i64 c2), (b', oo' + i * 9 + 3, .int .i64 c3), (b', oo' + i * 9 + 4, .int .i64 c4), (b', oo' + i * 9 + 5, .int .i64 c5), (b', oo' + i * 9 + 6, .int .i64 c6), (b', oo' + i * 9 + 7, .int .i64 c7), (b', oo' + i * 9 + 8, .int .i64 c8)] (by kernel_rfl) (by simp [Holds_nil, Holds_cons, F, k0, m0, k1, m1, k2, m2, k3, m3, k4, m4, k5, m5, k6, m6, k7, m7, k8, m8]) ?_
    refine h.draw ?_
    clear h F
    intro w6 h
    (try simp only [nfD] at h); have F := h.facts; (try simp only [nfF, emp_fact, rds_fact, frm_fact, tab_fact, two_fact, inr_fact, ansX_fact] at F); try simp -dsimp only [↓vcA, vcB, vcD, ↓pureT_lenS, ↓iteT, ↓iteF, cond_true, cond_false, eq_self, argE, Env.get, Env.push, ev, evs, evo, retV, Value.cells, Value.oneCell', setR, overR, fillL, zl, places, allSizes, heldC, ne_eq, Int.reduceLE, Int.reduceLT, Int.reduceEq, Int.reduceNe, Int.reduceToNat, Int.cast_ofNat_Int, Nat.reduceMul, Nat.reduceLeDiff, reduceIte, Nat.reduceEqDiff, Nat.reduceAdd, ↓reduceIte, Try.vcT, F, h.cell0, gets, vsD, if_true, if_false, Bool.false_eq_true]
    refine ⟨⟨h0i, hlt⟩, ⟨h0i, hlt'⟩, binK_neq_agg (by kernel_rfl) (fun w => seqCa (d := 9998) a0 a1 a2 a3 a4 a5 a6 a7 a8 c0 c1 c2 c3 c4 c5 c6 c7 c8 w) ?_⟩
    by_cases he : [a0, a1, a2, a3, a4, a5, a6, a7, a8] = [c0, c1, c2, c3, c4, c5, c6, c7, c8]
    case pos =>
      (try simp only [nfD] at h); have F := h.facts; (try simp only [nfF, emp_fact, rds_fact, frm_fact, tab_fact, two_fact, inr_fact, ansX_fact] at F); try simp -dsimp only [↓vcA, vcB, vcD, ↓pureT_lenS, ↓iteT, ↓iteF, cond_true, cond_false, eq_self, argE, Env.get, Env.push, ev, evs, evo, retV, Value.cells, Value.oneCell', setR, overR, fillL, zl, places, allSizes, heldC, ne_eq, Int.reduceLE, Int.reduceLT, Int.reduceEq, Int.reduceNe, Int.reduceToNat, Int.cast_ofNat_Int, Nat.reduceMul, Nat.reduceLeDiff, reduceIte, Nat.reduceEqDiff, Nat.reduceAdd, ↓reduceIte, Try.vcT, F, h.cell0, gets, vsD, if_true, if_false, Bool.false_eq_true,  decide_eq_true he, ei]
      refine ⟨_, ?_, i + 1, by omega, rfl, rfl, htk2 he, ?_⟩
      · omega
      · rw [eb, eb']; exact h
    case neg =>
      (try simp only [nfD] at h); have F := h.facts; (try simp only [nfF, emp_fact, rds_fact, frm_fact, tab_fact, two_fact, inr_fact, ansX_fact] at F); try simp -dsimp only [↓vcA, vcB, vcD, ↓pureT_lenS, ↓iteT, ↓iteF, cond_true, cond_false, eq_self, argE, Env.get, Env.push, ev, evs, evo, retV, Value.cells, Value.oneCell', setR, overR, fillL, zl, places, allSizes, heldC, ne_eq, Int.reduceLE, Int.reduceLT, Int.reduceEq, Int.reduceNe, Int.reduceToNat, Int.cast_ofNat_Int, Nat.reduceMul, Nat.reduceLeDiff, reduceIte, Nat.reduceEqDiff, Nat.reduceAdd, ↓reduceIte, Try.vcT, F, h.cell0, gets, vsD, if_true, if_false, Bool.false_eq_true,  decide_eq_false he]
      exact ⟨by rw [hne he], h.done⟩
  have eca : m.ca = o.ca := by
    have h1 : m.ca.take i = m.ca := List.take_of_length_le (by omega)
    have h2 : o.ca.take i = o.ca := List.take_of_length_le (by omega)
    rw [h1, h2] at htk; exact htk
  (try simp only [nfD] at h); have F := h.facts; (try simp only [nfF, emp_fact, rds_fact, frm_fact, tab_fact, two_fact, inr_fact, ansX_fact] at F); try simp -dsimp only [↓vcA, vcB, vcD, ↓pureT_lenS, ↓iteT, ↓iteF, cond_true, cond_false, eq_self, argE, Env.get, Env.push, ev, evs, evo, retV, Value.cells, Value.oneCell', setR, overR, fillL, zl, places, allSizes, heldC, ne_eq, Int.reduceLE, Int.reduceLT, Int.reduceEq, Int.reduceNe, Int.reduceToNat, Int.cast_ofNat_Int, Nat.reduceMul, Nat.reduceLeDiff, reduceIte, Nat.reduceEqDiff, Nat.reduceAdd, ↓reduceIte, Try.vcT, F, h.cell0, gets, vsD, if_true, if_false, Bool.false_eq_true,  decide_eq_false hlt]
  clear htk hi hlt
  refine walkLoop [2, 3] [7] (fun k vs w' => ∃ i, i ≤ m.la.length ∧ k = m.la.length - i ∧ vs = [.int .i64 i] ∧ m.la.take i = o.la.take i ∧ Sep w (fun _ => False) [blk b1 114 [.int .i64 m.code, .slice ap m.p.length cp, .bool m.more, .slice aca m.ca.length cca, .slice ala m.la.length cla, .int .i64 m.n, .int .u64 m.sum], blk b2 114 [.int .i64 o.code, .slice a'p o.p.length c'p, .bool o.more, .slice a'ca o.ca.length c'ca, .slice a'la o.la.length c'la, .int .i64 o.n, .int .u64 o.sum]] w') (by kernel_rfl) ?_ ?_
  · simp -dsimp only [↓vcA, vcB, vcD, ↓pureT_lenS, ↓iteT, ↓iteF, cond_true, cond_false, eq_self, argE, Env.get, Env.push, ev, evs, evo, retV, Value.cells, Value.oneCell', setR, overR, fillL, zl, places, allSizes, heldC, ne_eq, Int.reduceLE, Int.reduceLT, Int.reduceEq, Int.reduceNe, Int.reduceToNat, Int.cast_ofNat_Int, Nat.reduceMul, Nat.reduceLeDiff, reduceIte, Nat.reduceEqDiff, Nat.reduceAdd, ↓reduceIte, Try.vcT, gets]
    exact ⟨_, 0, Nat.zero_le _, rfl, rfl, by simp, h⟩
  intro ks hk k vs w3 hi
  clear h
  try clear F
  obtain ⟨i, hi, rfl, rfl, htk, h⟩ := hi
  simp -dsimp only [gets, argE, List.zip_cons_cons, List.zip_nil_left, List.cons_append, List.nil_append, Env.get, Env.push, Option.bind_some, Option.map_some, Option.some.injEq, reduceIte, Nat.reduceEqDiff, Nat.reduceAdd, ↓reduceIte] at hk; subst hk
  by_cases hlt : (i : Int) < m.la.length
  case pos =>
    have Rx : IntsR w (.slice ala m.la.length cla) m.la := R.la
    have Qx : IntsR w (.slice a'la o.la.length c'la) o.la := Q.la
    have hil : i < m.la.length := by omega
    have hil' : i < o.la.length := by omega
    obtain ⟨b, oo, eb, hcx⟩ := Rx.at hil
    obtain ⟨b', oo', eb', hcy⟩ := Qx.at hil'
    have htk2 : m.la[i] = o.la[i] → m.la.take (i + 1) = o.la.take (i + 1) := fun e => take_succ_eq htk hil hil' e
    have hne : m.la[i] ≠ o.la[i] → decide (m = o) = false := fun e => no fun f => e (by subst f; rfl)
    generalize m.la[i] = x at *
    generalize o.la[i] = y at *
    have k0 := (h.cell0 (by rw [hcx]; rfl) id).trans hcx
    have m0 := (h.cell0 (by rw [hcy]; rfl) id).trans hcy
    have ei : IntKind.i64.wrap ((i : Int) + 1) = ((i + 1 : Nat) : Int) := by rw [i64w _ (by omega) (by omega)]; omega
    have h0i : (0 : Int) ≤ i := by omega
    have hlt' : (i : Int) < o.la.length := by omega
    (try simp only [nfD] at h); have F := h.facts; (try simp only [nfF, emp_fact, rds_fact, frm_fact, tab_fact, two_fact, inr_fact, ansX_fact] at F); try simp -dsimp only [↓vcA, vcB, vcD, ↓pureT_lenS, ↓iteT, ↓iteF, cond_true, cond_false, eq_self, argE, Env.get, Env.push, ev, evs, evo, retV, Value.cells, Value.oneCell', setR, overR, fillL, zl, places, allSizes, heldC, ne_eq, Int.reduceLE, Int.reduceLT, Int.reduceEq, Int.reduceNe, Int.reduceToNat, Int.cast_ofNat_Int, Nat.reduceMul, Nat.reduceLeDiff, reduceIte, Nat.reduceEqDiff, Nat.reduceAdd, ↓reduceIte, Try.vcT, F, h.cell0, gets, vsD, if_true, if_false, Bool.false_eq_true,  decide_eq_true hlt]
    rw [eb, eb'] at h
    (try simp only [nfD] at h); have F := h.facts; (try simp only [nfF, emp_fact, rds_fact, frm_fact, tab_fact, two_fact, inr_fact, ansX_fact] at F)
    refine walkDraw (.q 0 (.q 2 (.q 5 (.q 7 (.h 1 0 (.q 3 (.h 4 1 (.h 6 2 (.q 8 (.h 9 3 (.q 10 .fin))))))))))) [(b1, 4, .slice (some ⟨b, oo, none⟩) m.la.length cla), (b, oo + i, .int .i64 x), (b2, 4, .slice (some ⟨b', oo', none⟩) o.la.length c'la), (b', oo' + i, .int .i64 y)] (by kernel_rfl) (by simp [Holds_nil, Holds_cons, F, k0, m0]) ?_
    refine h.draw ?_
    clear h F
    intro w6 h
    by_cases he : x = y
    case pos =>
      (try simp only [nfD] at h); have F := h.facts; (try simp only [nfF, emp_fact, rds_fact, frm_fact, tab_fact, two_fact, inr_fact, ansX_fact] at F); try simp -dsimp only [↓vcA, vcB, vcD, ↓pureT_lenS, ↓iteT, ↓iteF, cond_true, cond_false, eq_self, argE, Env.get, Env.push, ev, evs, evo, retV, Value.cells, Value.oneCell', setR, overR, fillL, zl, places, allSizes, heldC, ne_eq, Int.reduceLE, Int.reduceLT, Int.reduceEq, Int.reduceNe, Int.reduceToNat, Int.cast_ofNat_Int, Nat.reduceMul, Nat.reduceLeDiff, reduceIte, Nat.reduceEqDiff, Nat.reduceAdd, ↓reduceIte, Try.vcT, F, h.cell0, gets, vsD, if_true, if_false, Bool.false_eq_true,  decide_eq_true he, Bool.not_true, Bool.not_false, ei]
      refine ⟨⟨h0i, hlt⟩, ⟨h0i, hlt'⟩, _, ?_, i + 1, by omega, rfl, rfl, htk2 he, ?_⟩
      · omega
      · rw [eb, eb']; exact h
    case neg =>
      (try simp only [nfD] at h); have F := h.facts; (try simp only [nfF, emp_fact, rds_fact, frm_fact, tab_fact, two_fact, inr_fact, ansX_fact] at F); try simp -dsimp only [↓vcA, vcB, vcD, ↓pureT_lenS, ↓iteT, ↓iteF, cond_true, cond_false, eq_self, argE, Env.get, Env.push, ev, evs, evo, retV, Value.cells, Value.oneCell', setR, overR, fillL, zl, places, allSizes, heldC, ne_eq, Int.reduceLE, Int.reduceLT, Int.reduceEq, Int.reduceNe, Int.reduceToNat, Int.cast_ofNat_Int, Nat.reduceMul, Nat.reduceLeDiff, reduceIte, Nat.reduceEqDiff, Nat.reduceAdd, ↓reduceIte, Try.vcT, F, h.cell0, gets, vsD, if_true, if_false, Bool.false_eq_true,  decide_eq_false he, Bool.not_true, Bool.not_false]
      exact ⟨⟨h0i, hlt⟩, ⟨h0i, hlt'⟩, by rw [hne he], h.done⟩
  have ela : m.la = o.la := by
    have h1 : m.la.take i = m.la := List.take_of_length_le (by omega)
    have h2 : o.la.take i = o.la := List.take_of_length_le (by omega)
    rw [h1, h2] at htk; exact htk
  (try simp only [nfD] at h); have F := h.facts; (try simp only [nfF, emp_fact, rds_fact, frm_fact, tab_fact, two_fact, inr_fact, ansX_fact] at F); try simp -dsimp only [↓vcA, vcB, vcD, ↓pureT_lenS, ↓iteT, ↓iteF, cond_true, cond_false, eq_self, argE, Env.get, Env.push, ev, evs, evo, retV, Value.cells, Value.oneCell', setR, overR, fillL, zl, places, allSizes, heldC, ne_eq, Int.reduceLE, Int.reduceLT, Int.reduceEq, Int.reduceNe, Int.reduceToNat, Int.cast_ofNat_Int, Nat.reduceMul, Nat.reduceLeDiff, reduceIte, Nat.reduceEqDiff, Nat.reduceAdd, ↓reduceIte, Try.vcT, F, h.cell0, gets, vsD, if_true, if_false, Bool.false_eq_true,  decide_eq_false hlt]
  clear htk hi hlt
  have es : decide (m = o) = true := decide_eq_true (by
    cases m; cases o; simp_all)
  exact ⟨by rw [es], h.done⟩
end Go.Proofs.Ytnhgjgoglmadnaa
namespace Go.Proofs.Ytnhgjgoglmadnaa
open Go.RowKit
set_option maxRecDepth 100000
set_option linter.unusedSimpArgs false
set_option linter.unusedVariables false
set_option pp.maxSteps 1500
set_option pp.deepTerms.threshold 8

theorem ite_stp {k : Nat} {s a b : W8} {p : Prop} [Decidable p] (h : Stp k s a) (g : Stp k s b) : Stp k s (if p then a else b) := by
  by_cases e : p
  · rw [if_pos e]; exact h
  · rw [if_neg e]; exact g
theorem put1_stp (r : Rq) (s : W8) (c : Nat) : Stp 48 s (put1 r s c) := by
  unfold put1
  exact (ite_stp ((Stp.pt s _ _).mono (by omega)) (ite_stp ((Stp.pt s _ _).mono (by omega)) (ite_stp (Stp.tri s _ _ _ _ _ _) (ite_stp ((Stp.num s _ _).mono (by omega)) (ite_stp ((Stp.num s _ _).mono (by omega)) (ite_stp ((Stp.num s _ _).mono (by omega)) (ite_stp ((Stp.num s _ _).mono (by omega)) (ite_stp (((((Stp.num s r.x0 3).trans (Stp.num _ r.y0 3)).trans (Stp.num _ r.x1 3)).trans (Stp.num _ r.y1 3)).mono (by omega)) (ite_stp ((Stp.num s _ _).mono (by omega)) (ite_stp ((Stp.num s _ _).mono (by omega)) (ite_stp ((Stp.num s _ _).mono (by omega)) (ite_stp ((Stp.num s _ _).mono (by omega)) (ite_stp ((Stp.num s _ _).mono (by omega)) (ite_stp ((Stp.num s _ _).mono (by omega)) (ite_stp ((Stp.num s _ _).mono (by omega)) ((Stp.refl s).mono (by omega)))))))))))))))))
theorem puts_stp (r : Rq) : ∀ (L : List Nat) (s : W8), Stp (L.length * 48) s (L.foldl (put1 r) s)
  | [], s => (Stp.refl s).mono (by omega)
  | c :: L, s => ((put1_stp r s c).trans (puts_stp r L _)).mono (by simp only [List.length_cons, Nat.succ_mul]; omega)
theorem rqP_byt (r : Rq) : Byt (rqP r).l := ((Stp.num (⟨[], false⟩ : W8) r.k 1).trans (puts_stp r _ _)).1 Byt.nil
def qW : Rq := {Rq.zero with k := 1, px := 1, py := 2}
def aW : AnV := {AnV.zero with la := [7]}
def aW1 : AnV := {AnV.zero with code := 1}
theorem qW_ok : Ok64 qW.vals := by
  simp only [qW, Rq.zero, Rq.vals, Ok64, List.forall_mem_cons, List.not_mem_nil, false_implies, implies_true, and_true]; omega
theorem qW_1 : rqPB qW = [1, 0, 0, 1, 0, 0, 2] := by decide +kernel
theorem qW_2 : rqPOk qW = true := by decide +kernel
theorem qW_3 : askRV [1, 0, 0, 1, 0, 0, 2] = qW := by decide +kernel
theorem qW_4 : askROk [1, 0, 0, 1, 0, 0, 2] = true := by decide +kernel
theorem qZ_1 : rqPB Rq.zero = [] := by decide +kernel
theorem qZ_2 : rqPOk Rq.zero = false := by decide +kernel
theorem qZ_3 : askRV [] = Rq.zero := by decide +kernel
theorem aW_1 : ansB 15 aW = [0, 1, 0, 7] := by decide +kernel
theorem aW_2 : ansOk 15 aW = true := by decide +kernel
theorem aW_3 : toldV 15 [0, 1, 0, 7] = aW := by decide +kernel
theorem aW_4 : toldOk 15 [0, 1, 0, 7] = true := by decide +kernel
theorem aW1_1 : ansB 3 aW1 = [1] := by decide +kernel
theorem aW1_2 : ansOk 3 aW1 = true := by decide +kernel
theorem aW_ok : aW.Ok := ⟨by simp [aW, AnV.zero], by simp [aW, AnV.zero], by simp [aW, AnV.zero], fun x hx => (by cases hx), fun x hx => (by cases hx), fun x hx => by
  simp only [aW, List.mem_cons, List.not_mem_nil, or_false] at hx; subst hx; omega⟩
theorem aW1_ok : aW1.Ok := ⟨by simp [aW1, AnV.zero], by simp [aW1, AnV.zero], by simp [aW1, AnV.zero], fun x hx => (by cases hx), fun x hx => (by cases hx), fun x hx => (by cases hx)⟩
theorem blk_ints {w0 w : World} {S : Nat → Prop} {M : List Res} {b : Nat} {ns : List Int} (h : Sep w0 S M w) (k : Nat) (hk : M[k]? = some (blk b 3 (ns.map (Value.int .i64)))) (hn : 0 < ns.length ∧ ns.length ≤ 1000) : IntsR w (.slice (some ⟨b, 0, none⟩) ns.length ns.length) ns := by
  obtain ⟨C, ⟨c1, _⟩, _, _⟩ := h.at hk
  exact ⟨by simp, fun u hu => (by obtain ⟨x, _, rfl⟩ := List.mem_map.1 hu; rfl), _, _, rfl, Nat.le_refl _, by simp only [maxLen]; omega, fun e => by (cases e), fun _ => ⟨b, 0, rfl, fun j u hj => by rw [cell_of_row w b _ _ _ _ c1, Nat.zero_add]; simpa using hj⟩⟩
set_option maxHeartbeats 4000000 in
theorem awake65 (w : World) : Calls Try.prog 65 [].toArray w (RetK fun r w' => r = .bool true ∧ Chg (fun _ => False) w w') := by
  have h := Sep.nil w
  refine walk Try.func65 rfl (by kernel_rfl) (by rw [Try.nt65]; simp) ?_
  (try simp only [nfD] at h); have F := h.facts; (try simp only [nfF, emp_fact, rds_fact, frm_fact, tab_fact, two_fact, inr_fact, ansX_fact] at F)
  simp -dsimp only [↓vcA, vcB, vcD, ↓pureT_lenS, ↓iteT, ↓iteF, cond_true, cond_false, eq_self, argE, Env.get, Env.push, ev, evs, evo, retV, Value.cells, Value.oneCell', setR, overR, fillL, zl, places, allSizes, heldC, ne_eq, Int.reduceLE, Int.reduceLT, Int.reduceEq, Int.reduceNe, Int.reduceToNat, Int.cast_ofNat_Int, Nat.reduceMul, Nat.reduceLeDiff, reduceIte, Nat.reduceEqDiff, Nat.reduceAdd, ↓reduceIte, Try.vcT]
  refine Sep.callN h (request66 qW w qW_ok (rqP_byt _)) ?_
  clear h F
  intro e N w1 hQ h
  rw [qW_1, qW_2] at hQ
  obtain ⟨a1, c1, rfl, rfl⟩ := hQ
  (try simp only [nfD] at h); have F := h.facts; (try simp only [nfF, emp_fact, rds_fact, frm_fact, tab_fact, two_fact, inr_fact, ansX_fact] at F); try simp -dsimp only [↓vcA, vcB, vcD, ↓pureT_lenS, ↓iteT, ↓iteF, cond_true, cond_false, eq_self, argE, Env.get, Env.push, ev, evs, evo, retV, Value.cells, Value.oneCell', setR, overR, fillL, zl, places, allSizes, heldC, ne_eq, Int.reduceLE, Int.reduceLT, Int.reduceEq, Int.reduceNe, Int.reduceToNat, Int.cast_ofNat_Int, Nat.reduceMul, Nat.reduceLeDiff, reduceIte, Nat.reduceEqDiff, Nat.reduceAdd, ↓reduceIte, Try.vcT, F, h.cell0, gets, vsD, if_true, if_false, Bool.false_eq_true]
  refine Sep.callp h (ask68 _ [1, 0, 0, 1, 0, 0, 2] _ F.1 (by simp [Byt]) (by simp)) ?_
  clear h F
  intro w2 h
  rw [qW_3, qW_4]
  (try simp only [nfD] at h); have F := h.facts; (try simp only [nfF, emp_fact, rds_fact, frm_fact, tab_fact, two_fact, inr_fact, ansX_fact] at F); try simp -dsimp only [↓vcA, vcB, vcD, ↓pureT_lenS, ↓iteT, ↓iteF, cond_true, cond_false, eq_self, argE, Env.get, Env.push, ev, evs, evo, retV, Value.cells, Value.oneCell', setR, overR, fillL, zl, places, allSizes, heldC, ne_eq, Int.reduceLE, Int.reduceLT, Int.reduceEq, Int.reduceNe, Int.reduceToNat, Int.cast_ofNat_Int, Nat.reduceMul, Nat.reduceLeDiff, reduceIte, Nat.reduceEqDiff, Nat.reduceAdd, ↓reduceIte, Try.vcT, F, h.cell0, gets, vsD, if_true, if_false, Bool.false_eq_true,  Rq.cells, qW, Rq.zero]
  refine h.new ?_
  clear h F
  intro w3 b3 h
  (try simp only [nfD] at h); have F := h.facts; (try simp only [nfF, emp_fact, rds_fact, frm_fact, tab_fact, two_fact, inr_fact, ansX_fact] at F); try simp -dsimp only [↓vcA, vcB, vcD, ↓pureT_lenS, ↓iteT, ↓iteF, cond_true, cond_false, eq_self, argE, Env.get, Env.push, ev, evs, evo, retV, Value.cells, Value.oneCell', setR, overR, fillL, zl, places, allSizes, heldC, ne_eq, Int.reduceLE, Int.reduceLT, Int.reduceEq, Int.reduceNe, Int.reduceToNat, Int.cast_ofNat_Int, Nat.reduceMul, Nat.reduceLeDiff, reduceIte, Nat.reduceEqDiff, Nat.reduceAdd, ↓reduceIte, Try.vcT, F, h.cell0, gets, vsD, if_true, if_false, Bool.false_eq_true]
  refine Sep.put 1 h rfl ?_
  clear h F
  intro w4 h
  (try simp only [nfD] at h); have F := h.facts; (try simp only [nfF, emp_fact, rds_fact, frm_fact, tab_fact, two_fact, inr_fact, ansX_fact] at F); try simp -dsimp only [↓vcA, vcB, vcD, ↓pureT_lenS, ↓iteT, ↓iteF, cond_true, cond_false, eq_self, argE, Env.get, Env.push, ev, evs, evo, retV, Value.cells, Value.oneCell', setR, overR, fillL, zl, places, allSizes, heldC, ne_eq, Int.reduceLE, Int.reduceLT, Int.reduceEq, Int.reduceNe, Int.reduceToNat, Int.cast_ofNat_Int, Nat.reduceMul, Nat.reduceLeDiff, reduceIte, Nat.reduceEqDiff, Nat.reduceAdd, ↓reduceIte, Try.vcT, F, h.cell0, gets, vsD, if_true, if_false, Bool.false_eq_true]
  refine Sep.callp h (ask68 _ [] _ (Rd.nil _) Byt.nil (by simp)) ?_
  clear h F
  intro w5 h
  rw [qZ_3, askROk_nil]
  (try simp only [nfD] at h); have F := h.facts; (try simp only [nfF, emp_fact, rds_fact, frm_fact, tab_fact, two_fact, inr_fact, ansX_fact] at F); try simp -dsimp only [↓vcA, vcB, vcD, ↓pureT_lenS, ↓iteT, ↓iteF, cond_true, cond_false, eq_self, argE, Env.get, Env.push, ev, evs, evo, retV, Value.cells, Value.oneCell', setR, overR, fillL, zl, places, allSizes, heldC, ne_eq, Int.reduceLE, Int.reduceLT, Int.reduceEq, Int.reduceNe, Int.reduceToNat, Int.cast_ofNat_Int, Nat.reduceMul, Nat.reduceLeDiff, reduceIte, Nat.reduceEqDiff, Nat.reduceAdd, ↓reduceIte, Try.vcT, F, h.cell0, gets, vsD, if_true, if_false, Bool.false_eq_true,  Rq.cells, Rq.zero]
  refine h.new ?_
  clear h F
  intro w6 b6 h
  (try simp only [nfD] at h); have F := h.facts; (try simp only [nfF, emp_fact, rds_fact, frm_fact, tab_fact, two_fact, inr_fact, ansX_fact] at F); try simp -dsimp only [↓vcA, vcB, vcD, ↓pureT_lenS, ↓iteT, ↓iteF, cond_true, cond_false, eq_self, argE, Env.get, Env.push, ev, evs, evo, retV, Value.cells, Value.oneCell', setR, overR, fillL, zl, places, allSizes, heldC, ne_eq, Int.reduceLE, Int.reduceLT, Int.reduceEq, Int.reduceNe, Int.reduceToNat, Int.cast_ofNat_Int, Nat.reduceMul, Nat.reduceLeDiff, reduceIte, Nat.reduceEqDiff, Nat.reduceAdd, ↓reduceIte, Try.vcT, F, h.cell0, gets, vsD, if_true, if_false, Bool.false_eq_true]
  refine Sep.put 2 h rfl ?_
  clear h F
  intro w7 h
  (try simp only [nfD] at h); have F := h.facts; (try simp only [nfF, emp_fact, rds_fact, frm_fact, tab_fact, two_fact, inr_fact, ansX_fact] at F); try simp -dsimp only [↓vcA, vcB, vcD, ↓pureT_lenS, ↓iteT, ↓iteF, cond_true, cond_false, eq_self, argE, Env.get, Env.push, ev, evs, evo, retV, Value.cells, Value.oneCell', setR, overR, fillL, zl, places, allSizes, heldC, ne_eq, Int.reduceLE, Int.reduceLT, Int.reduceEq, Int.reduceNe, Int.reduceToNat, Int.cast_ofNat_Int, Nat.reduceMul, Nat.reduceLeDiff, reduceIte, Nat.reduceEqDiff, Nat.reduceAdd, ↓reduceIte, Try.vcT, F, h.cell0, gets, vsD, if_true, if_false, Bool.false_eq_true]
  refine h.new ?_
  clear h F
  intro w8 b8 h
  (try simp only [nfD] at h); have F := h.facts; (try simp only [nfF, emp_fact, rds_fact, frm_fact, tab_fact, two_fact, inr_fact, ansX_fact] at F); try simp -dsimp only [↓vcA, vcB, vcD, ↓pureT_lenS, ↓iteT, ↓iteF, cond_true, cond_false, eq_self, argE, Env.get, Env.push, ev, evs, evo, retV, Value.cells, Value.oneCell', setR, overR, fillL, zl, places, allSizes, heldC, ne_eq, Int.reduceLE, Int.reduceLT, Int.reduceEq, Int.reduceNe, Int.reduceToNat, Int.cast_ofNat_Int, Nat.reduceMul, Nat.reduceLeDiff, reduceIte, Nat.reduceEqDiff, Nat.reduceAdd, ↓reduceIte, Try.vcT, F, h.cell0, gets, vsD, if_true, if_false, Bool.false_eq_true]
  refine Sep.callN h (answer70 15 aW ⟨.slice none 0 0, .slice none 0 0, .slice (some ⟨b8, 0, none⟩) 1 1⟩ _ ⟨Tab.nil 9 _, Tab.nil 9 _, blk_ints (ns := [7]) h 3 rfl (by decide)⟩ aW_ok (by decide)) ?_
  clear h F
  intro e N w9 hQ h
  rw [aW_1, aW_2] at hQ
  obtain ⟨a9, c9, rfl, rfl⟩ := hQ
  (try simp only [nfD] at h); have F := h.facts; (try simp only [nfF, emp_fact, rds_fact, frm_fact, tab_fact, two_fact, inr_fact, ansX_fact] at F); try simp -dsimp only [↓vcA, vcB, vcD, ↓pureT_lenS, ↓iteT, ↓iteF, cond_true, cond_false, eq_self, argE, Env.get, Env.push, ev, evs, evo, retV, Value.cells, Value.oneCell', setR, overR, fillL, zl, places, allSizes, heldC, ne_eq, Int.reduceLE, Int.reduceLT, Int.reduceEq, Int.reduceNe, Int.reduceToNat, Int.cast_ofNat_Int, Nat.reduceMul, Nat.reduceLeDiff, reduceIte, Nat.reduceEqDiff, Nat.reduceAdd, ↓reduceIte, Try.vcT, F, h.cell0, gets, vsD, if_true, if_false, Bool.false_eq_true]
  refine Sep.callN h (told72 15 _ [0, 1, 0, 7] _ F.2.2.2.2.1 (by simp [Byt]) (by simp)) ?_
  clear h F
  intro e N w10 hQ h
  rw [aW_3, aW_4] at hQ
  obtain ⟨t, rfl, rfl⟩ := hQ
  (try simp only [nfD] at h); have F := h.facts; (try simp only [nfF, emp_fact, rds_fact, frm_fact, tab_fact, two_fact, inr_fact, ansX_fact] at F)
  have R := F.2.2.2.2.2.1
  obtain ⟨tp, tca, tla⟩ := t
  obtain ⟨Ap, Cp, ep⟩ := R.p.shape
  obtain ⟨Aca, Cca, eca⟩ := R.ca.shape
  obtain ⟨Ala, Cla, ela⟩ := R.la.shape
  dsimp only [aW, AnV.zero, List.length_nil, List.length_cons] at ep eca ela
  subst ep eca ela
  (try simp only [nfD] at h); have F := h.facts; (try simp only [nfF, emp_fact, rds_fact, frm_fact, tab_fact, two_fact, inr_fact, ansX_fact] at F); try simp -dsimp only [↓vcA, vcB, vcD, ↓pureT_lenS, ↓iteT, ↓iteF, cond_true, cond_false, eq_self, argE, Env.get, Env.push, ev, evs, evo, retV, Value.cells, Value.oneCell', setR, overR, fillL, zl, places, allSizes, heldC, ne_eq, Int.reduceLE, Int.reduceLT, Int.reduceEq, Int.reduceNe, Int.reduceToNat, Int.cast_ofNat_Int, Nat.reduceMul, Nat.reduceLeDiff, reduceIte, Nat.reduceEqDiff, Nat.reduceAdd, ↓reduceIte, Try.vcT, F, h.cell0, gets, vsD, if_true, if_false, Bool.false_eq_true,  AnV.cells, aW, AnV.zero]
  refine h.new ?_
  clear h F
  intro w11 b11 h
  (try simp only [nfD] at h); have F := h.facts; (try simp only [nfF, emp_fact, rds_fact, frm_fact, tab_fact, two_fact, inr_fact, ansX_fact] at F); try simp -dsimp only [↓vcA, vcB, vcD, ↓pureT_lenS, ↓iteT, ↓iteF, cond_true, cond_false, eq_self, argE, Env.get, Env.push, ev, evs, evo, retV, Value.cells, Value.oneCell', setR, overR, fillL, zl, places, allSizes, heldC, ne_eq, Int.reduceLE, Int.reduceLT, Int.reduceEq, Int.reduceNe, Int.reduceToNat, Int.cast_ofNat_Int, Nat.reduceMul, Nat.reduceLeDiff, reduceIte, Nat.reduceEqDiff, Nat.reduceAdd, ↓reduceIte, Try.vcT, F, h.cell0, gets, vsD, if_true, if_false, Bool.false_eq_true]
  refine Sep.put 6 h rfl ?_
  clear h F
  intro w12 h
  (try simp only [nfD] at h); have F := h.facts; (try simp only [nfF, emp_fact, rds_fact, frm_fact, tab_fact, two_fact, inr_fact, ansX_fact] at F); try simp -dsimp only [↓vcA, vcB, vcD, ↓pureT_lenS, ↓iteT, ↓iteF, cond_true, cond_false, eq_self, argE, Env.get, Env.push, ev, evs, evo, retV, Value.cells, Value.oneCell', setR, overR, fillL, zl, places, allSizes, heldC, ne_eq, Int.reduceLE, Int.reduceLT, Int.reduceEq, Int.reduceNe, Int.reduceToNat, Int.cast_ofNat_Int, Nat.reduceMul, Nat.reduceLeDiff, reduceIte, Nat.reduceEqDiff, Nat.reduceAdd, ↓reduceIte, Try.vcT, F, h.cell0, gets, vsD, if_true, if_false, Bool.false_eq_true]
  refine Sep.callN h (answer70 3 aW1 AnS.zero _ ⟨Tab.nil 9 _, Tab.nil 9 _, (show IntsR _ (.slice none 0 0) [] from Row.nil 1 _)⟩ aW1_ok (by decide)) ?_
  clear h F
  intro e N w13 hQ h
  rw [aW1_1, aW1_2] at hQ
  obtain ⟨a13, c13, rfl, rfl⟩ := hQ
  (try simp only [nfD] at h); have F := h.facts; (try simp only [nfF, emp_fact, rds_fact, frm_fact, tab_fact, two_fact, inr_fact, ansX_fact] at F); try simp -dsimp only [↓vcA, vcB, vcD, ↓pureT_lenS, ↓iteT, ↓iteF, cond_true, cond_false, eq_self, argE, Env.get, Env.push, ev, evs, evo, retV, Value.cells, Value.oneCell', setR, overR, fillL, zl, places, allSizes, heldC, ne_eq, Int.reduceLE, Int.reduceLT, Int.reduceEq, Int.reduceNe, Int.reduceToNat, Int.cast_ofNat_Int, Nat.reduceMul, Nat.reduceLeDiff, reduceIte, Nat.reduceEqDiff, Nat.reduceAdd, ↓reduceIte, Try.vcT, F, h.cell0, gets, vsD, if_true, if_false, Bool.false_eq_true]
  refine Sep.callN h (request66 Rq.zero _ zero_ok (rqP_byt _)) ?_
  clear h F
  intro e N w14 hQ h
  rw [qZ_1, qZ_2] at hQ
  obtain ⟨a14, c14, rfl, rfl⟩ := hQ
  have s1 : ((strOfNums [1, 0, 0, 1, 0, 0, 2]).toList == (⟨#[1, 0, 0, 1, 0, 0, 2]⟩ : ByteArray).toList) = true := by rw [strLit]; decide
  have s2 : ((strOfNums [0, 1, 0, 7]).toList == (⟨#[0, 1, 0, 7]⟩ : ByteArray).toList) = true := by rw [strLit]; decide
  have s3 : ((strOfNums [1]).toList == (⟨#[1]⟩ : ByteArray).toList) = true := by rw [strLit]; decide
  (try simp only [nfD] at h); have F := h.facts; (try simp only [nfF, emp_fact, rds_fact, frm_fact, tab_fact, two_fact, inr_fact, ansX_fact] at F); try simp -dsimp only [↓vcA, vcB, vcD, ↓pureT_lenS, ↓iteT, ↓iteF, cond_true, cond_false, eq_self, argE, Env.get, Env.push, ev, evs, evo, retV, Value.cells, Value.oneCell', setR, overR, fillL, zl, places, allSizes, heldC, ne_eq, Int.reduceLE, Int.reduceLT, Int.reduceEq, Int.reduceNe, Int.reduceToNat, Int.cast_ofNat_Int, Nat.reduceMul, Nat.reduceLeDiff, reduceIte, Nat.reduceEqDiff, Nat.reduceAdd, ↓reduceIte, Try.vcT, F, h.cell0, gets, vsD, if_true, if_false, Bool.false_eq_true]
  refine str_rule F.1 ?_
  (try simp only [nfD] at h); have F := h.facts; (try simp only [nfF, emp_fact, rds_fact, frm_fact, tab_fact, two_fact, inr_fact, ansX_fact] at F); try simp -dsimp only [↓vcA, vcB, vcD, ↓pureT_lenS, ↓iteT, ↓iteF, cond_true, cond_false, eq_self, argE, Env.get, Env.push, ev, evs, evo, retV, Value.cells, Value.oneCell', setR, overR, fillL, zl, places, allSizes, heldC, ne_eq, Int.reduceLE, Int.reduceLT, Int.reduceEq, Int.reduceNe, Int.reduceToNat, Int.cast_ofNat_Int, Nat.reduceMul, Nat.reduceLeDiff, reduceIte, Nat.reduceEqDiff, Nat.reduceAdd, ↓reduceIte, Try.vcT, F, h.cell0, gets, vsD, if_true, if_false, Bool.false_eq_true,  s1, cellsAt]
  refine binK_eql_agg (by kernel_rfl) (fun w => seqRq (d := 9996) 1 1 2 0 0 0 0 0 0 0 0 0 0 0 0 0 0 0 0 0 0 0 0 0 0 0 1 1 2 0 0 0 0 0 0 0 0 0 0 0 0 0 0 0 0 0 0 0 0 0 0 0 w) ?_
  (try simp only [nfD] at h); have F := h.facts; (try simp only [nfF, emp_fact, rds_fact, frm_fact, tab_fact, two_fact, inr_fact, ansX_fact] at F); try simp -dsimp only [↓vcA, vcB, vcD, ↓pureT_lenS, ↓iteT, ↓iteF, cond_true, cond_false, eq_self, argE, Env.get, Env.push, ev, evs, evo, retV, Value.cells, Value.oneCell', setR, overR, fillL, zl, places, allSizes, heldC, ne_eq, Int.reduceLE, Int.reduceLT, Int.reduceEq, Int.reduceNe, Int.reduceToNat, Int.cast_ofNat_Int, Nat.reduceMul, Nat.reduceLeDiff, reduceIte, Nat.reduceEqDiff, Nat.reduceAdd, ↓reduceIte, Try.vcT, F, h.cell0, gets, vsD, if_true, if_false, Bool.false_eq_true,  decide_true, s2]
  refine str_rule F.2.2.2.2.1 ?_
  have R := F.2.2.2.2.2.1
  obtain ⟨b, o, rfl, hc⟩ := R.la.at (i := 0) (by decide)
  have hc : w14.cell? ⟨b, o, none⟩ = some (.int .i64 7) := hc
  (try simp only [nfD] at h); have F := h.facts; (try simp only [nfF, emp_fact, rds_fact, frm_fact, tab_fact, two_fact, inr_fact, ansX_fact] at F); try simp -dsimp only [↓vcA, vcB, vcD, ↓pureT_lenS, ↓iteT, ↓iteF, cond_true, cond_false, eq_self, argE, Env.get, Env.push, ev, evs, evo, retV, Value.cells, Value.oneCell', setR, overR, fillL, zl, places, allSizes, heldC, ne_eq, Int.reduceLE, Int.reduceLT, Int.reduceEq, Int.reduceNe, Int.reduceToNat, Int.cast_ofNat_Int, Nat.reduceMul, Nat.reduceLeDiff, reduceIte, Nat.reduceEqDiff, Nat.reduceAdd, ↓reduceIte, Try.vcT, F, h.cell0, gets, vsD, if_true, if_false, Bool.false_eq_true,  s2, hc, cellsAt]
  refine str_rule F.2.2.2.2.2.2.2.1 ?_
  (try simp only [nfD] at h); have F := h.facts; (try simp only [nfF, emp_fact, rds_fact, frm_fact, tab_fact, two_fact, inr_fact, ansX_fact] at F); try simp -dsimp only [↓vcA, vcB, vcD, ↓pureT_lenS, ↓iteT, ↓iteF, cond_true, cond_false, eq_self, argE, Env.get, Env.push, ev, evs, evo, retV, Value.cells, Value.oneCell', setR, overR, fillL, zl, places, allSizes, heldC, ne_eq, Int.reduceLE, Int.reduceLT, Int.reduceEq, Int.reduceNe, Int.reduceToNat, Int.cast_ofNat_Int, Nat.reduceMul, Nat.reduceLeDiff, reduceIte, Nat.reduceEqDiff, Nat.reduceAdd, ↓reduceIte, Try.vcT, F, h.cell0, gets, vsD, if_true, if_false, Bool.false_eq_true,  s3]
  exact h.done
end Go.Proofs.Ytnhgjgoglmadnaa
namespace Go.Proofs.Ytnhgjgoglmadnaa
open Go.RowKit
set_option maxRecDepth 100000
set_option linter.unusedSimpArgs false
set_option linter.unusedVariables false
set_option pp.maxSteps 1500
set_option pp.deepTerms.threshold 8

theorem num_one {c : Int} (hc : 0 ≤ c ∧ c ≤ 255) (s : W8) : s.num c 1 = ⟨s.l ++ [c], s.bad⟩ := by
  have hf : fits c 1 = true := by
    simp only [fits, decide_eq_true_eq]
    refine ⟨by omega, by omega, by omega, fun _ => ?_⟩
    have e : ((2 : Int) ^ (8 * (1 : Int)).toNat) = 256 := by decide
    rw [e]; omega
  have hb : be c 1 = [c] := by
    have : be c 1 = [c / 2 ^ 0 % 256] := rfl
    rw [this]
    have e : (2 : Int) ^ 0 = 1 := by decide
    rw [e]
    congr 1
    omega
  simp only [W8.num, hf, if_true]
  rw [show (1 : Int).toNat = 1 from rfl, hb]
def codeA (c : Int) : AnV := {AnV.zero with code := c}
theorem code_W (z : Int) (a : AnV) {c : Int} (hc : 1 ≤ c ∧ c ≤ 255) : writtenW z {a with code := c} = ⟨[c], false⟩ := by
  unfold writtenW
  rw [if_neg (show ¬ c = 0 by omega)]
  show (⟨[], false⟩ : W8).num c 1 = _
  rw [num_one (by omega)]; rfl
theorem code_told (z : Int) {c : Int} (hc : 1 ≤ c ∧ c ≤ 255) (l : List Int) : toldA z (c :: l) = (codeA c, ⟨l, false⟩) := by
  obtain ⟨e1, e2⟩ := one_read (x := c) (by omega) l
  unfold toldA
  rw [e1, e2, if_neg (show ¬ c = 0 by omega)]; rfl
theorem code_ok (z : Int) {c : Int} (hc : 1 ≤ c ∧ c ≤ 255) : toldOk z [c] = true ∧ toldV z [c] = codeA c := by
  have h1 : toldOk z [c] = true := by
    unfold toldOk writtenB
    rw [code_told z hc, show (codeA c) = {AnV.zero with code := c} from rfl, code_W z AnV.zero hc]
    simp [R8.done]
  refine ⟨h1, ?_⟩
  unfold toldV
  rw [if_pos h1, code_told z hc]
theorem code_more (z : Int) {c : Int} (hc : 1 ≤ c ∧ c ≤ 255) (x : Int) (l : List Int) : toldOk z (c :: x :: l) = false ∧ toldV z (c :: x :: l) = AnV.zero := by
  have h1 : toldOk z (c :: x :: l) = false := by
    unfold toldOk
    rw [code_told z hc]
    simp [R8.done]
  exact ⟨h1, by unfold toldV; rw [h1]; rfl⟩
theorem toldQ_bad {s : R8} (h : s.bad = true) (z : Int) : (toldQ s z).2.bad = true := by
  have hv : (s.numV 1).toNat = 0 := by rw [(num_bad h 1).1]; rfl
  have h1 := numS_bad s 1 h
  have hp : (sPc s).bad = true := by
    cases e : (sPc s).bad with
    | true => rfl
    | false =>
      have a := (num1_ok (s := (s.triS.numS 1).numS 2) e).1
      have b := (num2_ok a).1
      have c := (num1_ok b).1
      have d := (tri_ok c).1.1
      rw [h] at d; cases d
  unfold toldQ
  split
  · exact hp
  split
  · rw [hv]; exact numS_bad _ 1 h1
  split
  · rw [hv]; exact numS_bad _ 1 h1
  split
  · rw [hv]; exact h1
  split
  · exact h1
  split
  · exact (raw_bad (numS_bad s 4 h) 8).2
  · exact h
theorem nil_told (z : Int) : toldOk z [] = false ∧ toldV z [] = AnV.zero := by
  have h1 : toldOk z [] = false := by
    obtain ⟨e1, e2⟩ := (⟨[], false⟩ : R8).num_no 1 (.inr (.inr (.inr (by decide))))
    have : (toldA z []).2.bad = true := by
      unfold toldA
      rw [e1, e2, if_pos rfl]
      exact toldQ_bad rfl z
    unfold toldOk
    simp [R8.done, this]
  exact ⟨h1, by unfold toldV; rw [h1]; rfl⟩
theorem few_room {a : AnV} (h : a.few = true) : a.room ≤ 5000 := by
  simp only [AnV.few, Bool.and_eq_true, decide_eq_true_eq] at h
  unfold AnV.room; omega
end Go.Proofs.Ytnhgjgoglmadnaa
namespace Go.Proofs.Ytnhgjgoglmadnaa
open Go.RowKit
set_option linter.unusedVariables false
set_option maxRecDepth 100000

theorem shl8_eq {a x : Int} (ha : 0 ≤ a) (hx : 0 ≤ x ∧ x ≤ 255) (h : a * 256 + x < 18446744073709551616) : shl8 a x = a * 256 + x := by
  obtain ⟨m, rfl⟩ := Int.eq_ofNat_of_zero_le ha
  obtain ⟨y, rfl⟩ := Int.eq_ofNat_of_zero_le hx.1
  unfold shl8
  have e : IntKind.u64.bits = 64 := rfl
  have h64 : (2 : Nat) ^ 64 = 18446744073709551616 := by decide
  have e1 : min 8 IntKind.u64.bits = 8 := rfl
  rw [e1, e]
  have p8 : (2 : Int) ^ 8 = 256 := by decide
  rw [p8, u64wrap ((m : Int) * 256), u64wrap (y : Int), Int.emod_eq_of_lt (by omega) (by omega), Int.emod_eq_of_lt (by omega) (by omega)]
  have e2 : ((m : Int) * 256) = ((m * 256 : Nat) : Int) := by omega
  rw [e2, BitVec.ofInt_natCast, BitVec.ofInt_natCast, BitVec.toNat_or, BitVec.toNat_ofNat, BitVec.toNat_ofNat, h64, Nat.mod_eq_of_lt (show m * 256 < 18446744073709551616 by omega), Nat.mod_eq_of_lt (show y < 18446744073709551616 by omega)]
  have e3 : m * 256 ||| y = m * 256 + y := by
    have := Nat.two_pow_add_eq_or_of_lt (i := 8) (b := y) (by omega) m
    rw [Nat.mul_comm] at this
    exact this.symm
  rw [e3, u64wrap, Int.emod_eq_of_lt (by omega) (by omega)]
  omega
theorem sumR_eq {h l : Int} (hh : 0 ≤ h ∧ h < 4294967296) (hl : 0 ≤ l ∧ l < 4294967296) : sumR h l = h * 4294967296 + l := by
  obtain ⟨m, rfl⟩ := Int.eq_ofNat_of_zero_le hh.1
  obtain ⟨y, rfl⟩ := Int.eq_ofNat_of_zero_le hl.1
  unfold sumR
  have e : IntKind.u64.bits = 64 := rfl
  have h64 : (2 : Nat) ^ 64 = 18446744073709551616 := by decide
  have e1 : min 32 IntKind.u64.bits = 32 := rfl
  rw [e1, e]
  have p8 : (2 : Int) ^ 32 = 4294967296 := by decide
  rw [p8, u64wrap (m : Int), Int.emod_eq_of_lt (by omega) (by omega), u64wrap ((m : Int) * 4294967296), u64wrap (y : Int), Int.emod_eq_of_lt (by omega) (by omega), Int.emod_eq_of_lt (by omega) (by omega)]
  have e2 : ((m : Int) * 4294967296) = ((m * 4294967296 : Nat) : Int) := by omega
  rw [e2, BitVec.ofInt_natCast, BitVec.ofInt_natCast, BitVec.toNat_or, BitVec.toNat_ofNat, BitVec.toNat_ofNat, h64, Nat.mod_eq_of_lt (show m * 4294967296 < 18446744073709551616 by omega), Nat.mod_eq_of_lt (show y < 18446744073709551616 by omega)]
  have e3 : m * 4294967296 ||| y = m * 4294967296 + y := by
    have := Nat.two_pow_add_eq_or_of_lt (i := 32) (b := y) (by omega) m
    rw [Nat.mul_comm] at this
    exact this.symm
  rw [e3, u64wrap, Int.emod_eq_of_lt (by omega) (by omega)]
  omega
theorem four {α : Type} {A : List α} (h : A.length = 4) : ∃ a b c d, A = [a, b, c, d] := by
  match A, h with
  | [a, b, c, d], _ => exact ⟨_, _, _, _, rfl⟩
theorem rval4 {a b c d : Int} (h : Byt [a, b, c, d]) : rval [a, b, c, d] = ((a * 256 + b) * 256 + c) * 256 + d := by
  have ha := h a (by simp)
  have hb := h b (by simp)
  have hc := h c (by simp)
  have hd := h d (by simp)
  unfold rval
  simp only [List.foldl_cons, List.foldl_nil]
  rw [rstep_eq (a := 0) (by omega) ha (by omega), rstep_eq (by omega) hb (by omega), rstep_eq (by omega) hc (by omega), rstep_eq (by omega) hd (by omega)]
  omega
theorem sum_fold {A B : List Int} (ha : A.length = 4) (hb : B.length = 4) (bA : Byt A) (bB : Byt B) : (A ++ B).foldl shl8 0 = sumR (rval A) (rval B) := by
  obtain ⟨a, b, c, d, rfl⟩ := four ha
  obtain ⟨e, f, g, i, rfl⟩ := four hb
  rw [rval4 bA, rval4 bB]
  have ha := bA a (by simp)
  have hb := bA b (by simp)
  have hc := bA c (by simp)
  have hd := bA d (by simp)
  have he := bB e (by simp)
  have hf := bB f (by simp)
  have hg := bB g (by simp)
  have hi := bB i (by simp)
  rw [sumR_eq (by omega) (by omega)]
  simp only [List.cons_append, List.nil_append, List.foldl_cons, List.foldl_nil]
  rw [shl8_eq (a := 0) (by omega) ha (by omega), shl8_eq (by omega) hb (by omega), shl8_eq (by omega) hc (by omega), shl8_eq (by omega) hd (by omega), shl8_eq (by omega) he (by omega), shl8_eq (by omega) hf (by omega), shl8_eq (by omega) hg (by omega), shl8_eq (by omega) hi (by omega)]
  omega
theorem be8 (n : Int) : be n 8 = be (n / 4294967296) 4 ++ be (n % 4294967296) 4 := by
  have h8 : be n 8 = [n / 2 ^ 56 % 256, n / 2 ^ 48 % 256, n / 2 ^ 40 % 256, n / 2 ^ 32 % 256, n / 2 ^ 24 % 256, n / 2 ^ 16 % 256, n / 2 ^ 8 % 256, n / 2 ^ 0 % 256] := rfl
  have h4 : ∀ m : Int, be m 4 = [m / 2 ^ 24 % 256, m / 2 ^ 16 % 256, m / 2 ^ 8 % 256, m / 2 ^ 0 % 256] := fun _ => rfl
  have p0 : (2 : Int) ^ 0 = 1 := by decide
  have p8 : (2 : Int) ^ 8 = 256 := by decide
  have p16 : (2 : Int) ^ 16 = 65536 := by decide
  have p24 : (2 : Int) ^ 24 = 16777216 := by decide
  have p32 : (2 : Int) ^ 32 = 4294967296 := by decide
  have p40 : (2 : Int) ^ 40 = 1099511627776 := by decide
  have p48 : (2 : Int) ^ 48 = 281474976710656 := by decide
  have p56 : (2 : Int) ^ 56 = 72057594037927936 := by decide
  rw [h8, h4, h4, p0, p8, p16, p24, p32, p40, p48, p56]
  simp only [List.cons_append, List.nil_append, List.cons.injEq, and_true]
  refine ⟨?_, ?_, ?_, ?_, ?_, ?_, ?_, ?_⟩ <;> omega
theorem num4_in {h : Int} (hh : 0 ≤ h ∧ h < 4294967296) (s : W8) : s.num h 4 = ⟨s.l ++ be h 4, s.bad⟩ := by
  have hf : fits h 4 = true := by
    simp only [fits, decide_eq_true_eq]
    refine ⟨by omega, by omega, by omega, fun _ => ?_⟩
    have e : ((2 : Int) ^ (8 * (4 : Int)).toNat) = 4294967296 := by decide
    rw [e]; exact Int.ediv_eq_zero_of_lt hh.1 hh.2
  simp only [W8.num, hf, if_true]
  rfl
theorem raw8 (s : W8) {n : Int} (h : 0 ≤ n ∧ n < 18446744073709551616) : s.raw (be n 8) = (s.num (n / 4294967296) 4).num (n % 4294967296) 4 := by
  rw [num4_in (h := n / 4294967296) (by omega), num4_in (h := n % 4294967296) (by omega), be8]
  simp [W8.raw]

def okPc : List Int → Bool
  | [ax, ay, bx, by', cx, cy, _, _, _] => T3.valid ⟨ax, ay, bx, by', cx, cy⟩
  | _ => true
theorem wPcR_ok {x : List Int} (hl : x.length = 9) (h : okPc x = true) (s : W8) : wPcR s x = wPc s x := by
  obtain ⟨a0, a1, a2, a3, a4, a5, a6, a7, a8, rfl⟩ := len_9 hl
  have h' : T3.valid ⟨a0, a1, a2, a3, a4, a5⟩ = true := h
  show ((((s.tri a0 a1 a2 a3 a4 a5).spoil (!(T3.valid ⟨a0, a1, a2, a3, a4, a5⟩))).num a6 1).num a7 2).num a8 1 = (((s.tri a0 a1 a2 a3 a4 a5).num a6 1).num a7 2).num a8 1
  rw [h']
  simp [W8.spoil]
theorem wPcR_bad {x : List Int} (hl : x.length = 9) (h : okPc x = false) (s : W8) : (wPcR s x).bad = true := by
  obtain ⟨a0, a1, a2, a3, a4, a5, a6, a7, a8, rfl⟩ := len_9 hl
  have h' : T3.valid ⟨a0, a1, a2, a3, a4, a5⟩ = false := h
  show (((((s.tri a0 a1 a2 a3 a4 a5).spoil (!(T3.valid ⟨a0, a1, a2, a3, a4, a5⟩))).num a6 1).num a7 2).num a8 1).bad = true
  rw [h']
  exact num_badW (num_badW (num_badW (by simp [W8.spoil]) _ _) _ _) _ _
theorem Bk.PcR (s : W8) {x : List Int} (hl : x.length = 9) : Bk s (wPcR s x) rPc sPc x := by
  cases hv : okPc x with
  | true =>
    rw [wPcR_ok hl hv]
    obtain ⟨a0, a1, a2, a3, a4, a5, a6, a7, a8, rfl⟩ := len_9 hl
    have h' : T3.valid ⟨a0, a1, a2, a3, a4, a5⟩ = true := hv
    exact ((((Bk.tri s h').and (Bk.n1 _)).and (Bk.n2 _)).and (Bk.n1 _)).map fun p => [p.1.1.1.ax, p.1.1.1.ay, p.1.1.1.bx, p.1.1.1.by', p.1.1.1.cx, p.1.1.1.cy, p.1.1.2, p.1.2, p.2]
  | false => exact fun hb => by rw [wPcR_bad hl hv] at hb; cases hb
def cz : List Int → List Int
  | [a0, a1, a2, _, a4, a5, a6, _, _] => [a0, a1, a2, 0, a4, a5, a6, 0, 0]
  | x => x
theorem Bk.Cp (s : W8) {x : List Int} (hl : x.length = 9) : Bk s (wCp s x) rCp sCp (cz x) := by
  obtain ⟨a0, a1, a2, a3, a4, a5, a6, a7, a8, rfl⟩ := len_9 hl
  exact ((((((Bk.n1 s).and (Bk.n1 _)).and (Bk.n1 _)).and (Bk.n2 _)).and (Bk.n1 _)).and (Bk.n4 _)).map fun p => [p.1.1.1.1.1, p.1.1.1.1.2, p.1.1.1.2, 0, p.1.1.2, p.1.2, p.2, 0, 0]
theorem Bk.La (s : W8) {x : Int} : Bk s (wLa s x) rLa sLa x := Bk.n2 s

theorem Bk.itemsV {α β : Type} {wf : W8 → α → W8} {f : R8 → β} {g : R8 → R8} {v : α → β} : ∀ (xs : List α) (s : W8), (∀ x ∈ xs, ∀ s, Bk s (wf s x) f g (v x)) →
    (xs.foldl wf s).bad = false → s.bad = false ∧ ∃ u, (xs.foldl wf s).l = s.l ++ u ∧ ∀ rest, itemsB f g xs.length ⟨u ++ rest, false⟩ = (xs.map v, ⟨rest, false⟩)
  | [], s, _, hb => ⟨hb, [], by simp, fun rest => rfl⟩
  | x :: xs, s, h, hb => by
    obtain ⟨b1, u1, e1, r1⟩ := Bk.itemsV xs (wf s x) (fun y hy => h y (.tail _ hy)) hb
    obtain ⟨b0, u0, e0, p0, r0⟩ := h x (.head _) s b1
    refine ⟨b0, u0 ++ u1, by rw [List.foldl_cons, e1, e0, List.append_assoc], fun rest => ?_⟩
    obtain ⟨q1, q2⟩ := r0 (u1 ++ rest)
    have q3 := r1 rest
    rw [List.append_assoc, List.length_cons, itemsB, if_neg (by simp), q1, q2, q3]
    rfl
theorem lst_rd {α β : Type} {wf : W8 → α → W8} {f : R8 → β} {g : R8 → R8} {v : α → β} (xs : List α) (s : W8) (h : ∀ x ∈ xs, ∀ s, Bk s (wf s x) f g (v x)) (hb : (xs.foldl wf (s.num xs.length 1)).bad = false) :
    s.bad = false ∧ ∃ u, (xs.foldl wf (s.num xs.length 1)).l = s.l ++ u ∧ ∀ rest, itemsB f g ((⟨u ++ rest, false⟩ : R8).numV 1).toNat ((⟨u ++ rest, false⟩ : R8).numS 1) = (xs.map v, ⟨rest, false⟩) := by
  obtain ⟨b1, u1, e1, r1⟩ := Bk.itemsV xs _ h hb
  obtain ⟨b0, u0, e0, p0, r0⟩ := Bk.n1 s (n := xs.length) b1
  refine ⟨b0, u0 ++ u1, by rw [e1, e0, List.append_assoc], fun rest => ?_⟩
  obtain ⟨q1, q2⟩ := r0 (u1 ++ rest)
  dsimp only at q1 q2
  rw [List.append_assoc, q1, q2, Int.toNat_natCast, r1 rest]
theorem flag_rd (s : W8) (d : Bool) (hb : (s.num (bit d) 1).bad = false) : s.bad = false ∧ ∃ u, (s.num (bit d) 1).l = s.l ++ u ∧ ∀ rest, moreS ⟨u ++ rest, false⟩ = ⟨rest, false⟩ := by
  obtain ⟨b0, u, e, _, r⟩ := Bk.n1 s (n := bit d) hb
  refine ⟨b0, u, e, fun rest => ?_⟩
  obtain ⟨q1, q2⟩ := r rest
  dsimp only at q1 q2
  unfold moreS
  rw [q1, q2, if_neg (by have := bit_le d; omega)]
theorem lstf_rd {α β : Type} {wf : W8 → α → W8} {f : R8 → β} {g : R8 → R8} {v : α → β} (xs : List α) (d : Bool) (s : W8) (h : ∀ x ∈ xs, ∀ s, Bk s (wf s x) f g (v x)) (hb : ((xs.foldl wf (s.num xs.length 1)).num (bit d) 1).bad = false) :
    s.bad = false ∧ ∃ u, ((xs.foldl wf (s.num xs.length 1)).num (bit d) 1).l = s.l ++ u ∧ ∀ rest, moreS (itemsB f g ((⟨u ++ rest, false⟩ : R8).numV 1).toNat ((⟨u ++ rest, false⟩ : R8).numS 1)).2 = ⟨rest, false⟩ := by
  obtain ⟨b1, u1, e1, r1⟩ := flag_rd _ d hb
  obtain ⟨b0, u0, e0, r0⟩ := lst_rd xs s h b1
  refine ⟨b0, u0 ++ u1, by rw [e1, e0, List.append_assoc], fun rest => ?_⟩
  rw [List.append_assoc, r0 (u1 ++ rest)]
  exact r1 rest
theorem tells_rd (z : Int) (a : AnV) (hp : ∀ x ∈ a.p, x.length = 9) (hc : ∀ x ∈ a.ca, x.length = 9) (s : W8) (hb : (tellsR s z a).bad = false) :
    s.bad = false ∧ ∃ u, (tellsR s z a).l = s.l ++ u ∧ ∀ rest, (toldRQ ⟨u ++ rest, false⟩ z).2 = ⟨rest, false⟩ := by
  unfold tellsR at hb ⊢
  unfold toldRQ
  by_cases h12 : z = 1 ∨ z = 2
  · simp only [if_pos h12] at hb ⊢
    by_cases h1 : a.p.length = 1
    · obtain ⟨x, hx⟩ : ∃ x, a.p = [x] := by
        match a.p, h1 with
        | [x], _ => exact ⟨x, rfl⟩
      rw [if_pos h1, hx] at hb
      rw [if_pos h1, hx]
      obtain ⟨b0, u, e, _, r⟩ := Bk.PcR s (hp x (by rw [hx]; exact .head _)) hb
      exact ⟨b0, u, e, fun rest => (r rest).2⟩
    · rw [if_neg h1] at hb
      simp [W8.num, fits] at hb
  by_cases h34 : z = 3 ∨ z = 4
  · simp only [if_neg h12, if_pos h34] at hb ⊢
    exact lstf_rd (v := id) a.p a.more s (fun x hx s => Bk.PcR s (hp x hx)) hb
  by_cases h14 : z = 14
  · simp only [if_neg h12, if_neg h34, if_pos h14] at hb ⊢
    exact lstf_rd (v := cz) a.ca a.more s (fun x hx s => Bk.Cp s (hc x hx)) hb
  by_cases h15 : z = 15
  · simp only [if_neg h12, if_neg h34, if_neg h14, if_pos h15] at hb ⊢
    obtain ⟨b0, u, e, r⟩ := lst_rd (v := id) a.la s (fun x hx s => Bk.La s) hb
    exact ⟨b0, u, e, fun rest => by rw [r rest]⟩
  by_cases e12 : z = 12
  · simp only [if_neg h12, if_neg h34, if_neg h14, if_neg h15, if_pos e12] at hb ⊢
    obtain ⟨b0, u, e, _, r⟩ := Bk.n1 s (n := a.n) hb
    exact ⟨b0, u, e, fun rest => (r rest).2⟩
  by_cases e16 : z = 16
  · simp only [if_neg h12, if_neg h34, if_neg h14, if_neg h15, if_neg e12, if_pos e16] at hb ⊢
    obtain ⟨b0, u, e, _, r⟩ := (((Bk.n4 s (n := a.n)).and (Bk.n4 _ (n := a.sum / 4294967296))).and (Bk.n4 _ (n := a.sum % 4294967296))) hb
    exact ⟨b0, u, e, fun rest => (r rest).2⟩
  · simp only [if_neg h12, if_neg h34, if_neg h14, if_neg h15, if_neg e12, if_neg e16] at hb ⊢
    exact ⟨hb, [], by simp, fun rest => rfl⟩

theorem Fw.Pc : Fw sPc (fun r s => wPc s (rPc r)) := ((Fw.tri.and Fw.n1).and Fw.n2).and Fw.n1
theorem rPc_len (r : R8) : (rPc r).length = 9 := rfl
theorem rPc_okPc {r : R8} (h : (sPc r).bad = false) : okPc (rPc r) = true := by
  have a := (num1_ok (s := (r.triS.numS 1).numS 2) h).1
  have b := (num2_ok a).1
  have c := (num1_ok b).1
  obtain ⟨_, e, hv⟩ := tri_ok c
  have h3 : r.tS3.bad = false := by rw [← e]; exact c
  have ev : r.triV = r.tT := by unfold R8.triV; rw [h3, hv]; rfl
  unfold rPc okPc
  rw [ev]
  exact hv
theorem Fw.PcR : Fw sPc (fun r s => wPcR s (rPc r)) := Fw.conv Fw.Pc fun r s h => wPcR_ok (rPc_len r) (rPc_okPc h) s
theorem Fw.Cp : Fw sCp (fun r s => wCp s (rCp r)) := ((((Fw.n1.and Fw.n1).and Fw.n1).and Fw.n2).and Fw.n1).and Fw.n4
theorem Fw.La : Fw sLa (fun r s => wLa s (rLa r)) := Fw.n2
theorem Fw.more : Fw moreS (fun r s => s.num (bit (decide (r.numV 1 = 1))) 1) := fun r hb => by
  have h1 := Fw.n1 r hb
  have hn := num1_rng r hb
  unfold moreS
  by_cases hg : 1 < r.numV 1
  · rw [if_pos hg]
    exact ⟨h1.1, fun h => by cases h⟩
  · rw [if_neg hg]
    refine ⟨h1.1, fun h => ?_⟩
    obtain ⟨c, u, e, w⟩ := h1.2 h
    refine ⟨c, u, e, fun s => ?_⟩
    have : bit (decide (r.numV 1 = 1)) = r.numV 1 := by
      by_cases e1 : r.numV 1 = 1
      · rw [decide_eq_true e1, e1]; rfl
      · rw [decide_eq_false e1]; show (0 : Int) = _; omega
    dsimp only
    rw [this]; exact w s
theorem Fw.lst {α : Type} {f : R8 → α} {g : R8 → R8} {wf : W8 → α → W8} (h : Fw g (fun r s => wf s (f r))) : Fw (fun r => (itemsB f g (r.numV 1).toNat (r.numS 1)).2) (fun r s => (itemsB f g (r.numV 1).toNat (r.numS 1)).1.foldl wf (s.num (itemsB f g (r.numV 1).toNat (r.numS 1)).1.length 1)) := fun r hb => by
  have h2 := Fw.n1 r hb
  obtain ⟨b2, k2⟩ := Fw.items (P := fun _ => True) h (fun _ _ => trivial) (r.numV 1).toNat (r.numS 1) h2.1
  refine ⟨b2, fun hg => ?_⟩
  obtain ⟨c1, l1, _, u1, e1, w1⟩ := k2 hg
  obtain ⟨c, u, e, w⟩ := h2.2 c1
  refine ⟨c, u ++ u1, by dsimp only at *; rw [List.append_assoc, ← e1, ← e], fun s => ?_⟩
  have hn := (num1_rng r hb).1
  have el : (((itemsB f g (r.numV 1).toNat (r.numS 1)).1.length : Nat) : Int) = r.numV 1 := by rw [l1]; omega
  dsimp only at w ⊢
  rw [el, w s, w1, List.append_assoc]
theorem told_fw (z : Int) : Fw (fun r => (toldRQ r z).2) (fun r s => tellsR s z (toldRQ r z).1) := fun r hb => by
  unfold toldRQ tellsR
  by_cases h12 : z = 1 ∨ z = 2
  · simp only [if_pos h12]
    obtain ⟨k1, k2⟩ := Fw.PcR r hb
    refine ⟨k1, fun hg => ?_⟩
    obtain ⟨c, u, e, w⟩ := k2 hg
    exact ⟨c, u, e, fun s => by rw [if_pos (show [rPc r].length = 1 from rfl)]; exact w s⟩
  by_cases h34 : z = 3 ∨ z = 4
  · simp only [if_neg h12, if_pos h34]
    exact ((Fw.lst Fw.PcR).and Fw.more) r hb
  by_cases h14 : z = 14
  · simp only [if_neg h12, if_neg h34, if_pos h14]
    exact ((Fw.lst Fw.Cp).and Fw.more) r hb
  by_cases h15 : z = 15
  · simp only [if_neg h12, if_neg h34, if_neg h14, if_pos h15]
    exact (Fw.lst Fw.La) r hb
  by_cases e12 : z = 12
  · simp only [if_neg h12, if_neg h34, if_neg h14, if_neg h15, if_pos e12]
    exact Fw.n1 r hb
  by_cases e16 : z = 16
  · simp only [if_neg h12, if_neg h34, if_neg h14, if_neg h15, if_neg e12, if_pos e16]
    obtain ⟨k1, k2⟩ := ((Fw.n4.and Fw.n4).and Fw.n4) r hb
    refine ⟨k1, fun hg => ?_⟩
    obtain ⟨c, u, e, w⟩ := k2 hg
    have r1 := num4_rng _ (numS_byt r 4 hb)
    have r2 := num4_rng _ (numS_byt _ 4 (numS_byt r 4 hb))
    have es := sumR_eq r1 r2
    refine ⟨c, u, e, fun s => ?_⟩
    rw [← w s, es]
    dsimp only
    congr 1
    · congr 1; omega
    · omega
  · simp only [if_neg h12, if_neg h34, if_neg h14, if_neg h15, if_neg e12, if_neg e16]
    exact ⟨hb, fun hg => ⟨hg, [], rfl, fun s => by simp⟩⟩
end Go.Proofs.Ytnhgjgoglmadnaa
