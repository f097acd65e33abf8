/- The contracts of the geometry that the bytes' package reaches, 3: on which side. -/
import Derived.Test.YtnhgjgoglmadnaaG2
namespace Go.Proofs.Ytnhgjgoglmadnaa
open Go.RowKit
set_option maxRecDepth 100000
set_option linter.unusedSimpArgs false
set_option linter.unusedVariables false
set_option pp.maxSteps 1500
set_option pp.deepTerms.threshold 8

def orientI (ax ay bx by' cx cy : Int) : Int := if vpt ax ay && vpt bx by' && vpt cx cy then cmpI ((bx - ax) * (cy - ay)) ((by' - ay) * (cx - ax)) else 0
theorem vpt_iff (x y : Int) : vpt x y = true ↔ 0 ≤ x ∧ x < 16777216 ∧ 0 ≤ y ∧ y < 16777216 := by simp [vpt]
theorem mul_bound {a b : Int} (ha : -16777216 < a ∧ a < 16777216) (hb : -16777216 < b ∧ b < 16777216) : -281474976710656 ≤ a * b ∧ a * b ≤ 281474976710656 := by
  have h : (a * b).natAbs ≤ 16777216 * 16777216 := by
    rw [Int.natAbs_mul]; exact Nat.mul_le_mul (by omega) (by omega)
  omega

theorem orient142 (ax ay bx by' cx cy : Int) (w : World) : Calls Try.prog 142 [.agg #[.int .i64 ax, .int .i64 ay], .agg #[.int .i64 bx, .int .i64 by'], .agg #[.int .i64 cx, .int .i64 cy]].toArray w (RetP (.int .i64 (orientI ax ay bx by' cx cy)) w) := by
  refine walk Try.func142 rfl (by kernel_rfl) (by rw [Try.nt142]; simp) ?_
  simp -dsimp only [↓vcA, vcB, vcD, ↓pureT_lenS, ↓iteT, ↓iteF, cond_true, cond_false, eq_self, argE, Env.get, Env.push, ev, evs, evo, retV, Value.cells, Value.oneCell', setR, overR, fillL, zl, places, allSizes, heldC, ne_eq, Int.reduceLE, Int.reduceLT, Int.reduceEq, Int.reduceNe, Int.reduceToNat, Int.cast_ofNat_Int, Nat.reduceMul, Nat.reduceLeDiff, reduceIte, Nat.reduceEqDiff, Nat.reduceAdd, ↓reduceIte, Try.vcT]
  intro w1 b1 n1 w2 b2 n2 w3 b3 n3
  have h1 := chg_blk n3.chg (chg_blk n2.chg n1.blkOf)
  have h2 := chg_blk n3.chg n2.blkOf
  have c13 := (n1.chg.seq n2.chg).seq n3.chg
  simp -dsimp only [↓vcA, vcB, vcD, ↓pureT_lenS, ↓iteT, ↓iteF, cond_true, cond_false, eq_self, argE, Env.get, Env.push, ev, evs, evo, retV, Value.cells, Value.oneCell', setR, overR, fillL, zl, places, allSizes, heldC, ne_eq, Int.reduceLE, Int.reduceLT, Int.reduceEq, Int.reduceNe, Int.reduceToNat, Int.cast_ofNat_Int, Nat.reduceMul, Nat.reduceLeDiff, reduceIte, Nat.reduceEqDiff, Nat.reduceAdd, ↓reduceIte, Try.vcT, cell_of_blkOf h1, cell_of_blkOf h2, n3.cell, cellsAt]
  intro w4 b4 n4
  refine callsK_new (all147 ax ay bx by' cx cy b4 w4 n4.blkOf) ?_
  intro w5 c5
  have g1 := chg_blk c5 (chg_blk n4.chg h1)
  have g2 := chg_blk c5 (chg_blk n4.chg h2)
  have g3 := chg_blk c5 (chg_blk n4.chg n3.blkOf)
  have c15 := (c13.seq n4.chg).seq c5
  cases hv : (vpt ax ay && vpt bx by' && vpt cx cy) with
  | false =>
    have e : orientI ax ay bx by' cx cy = 0 := by simp [orientI, hv]
    simp -dsimp only [↓vcA, vcB, vcD, ↓pureT_lenS, ↓iteT, ↓iteF, cond_true, cond_false, eq_self, argE, Env.get, Env.push, ev, evs, evo, retV, Value.cells, Value.oneCell', setR, overR, fillL, zl, places, allSizes, heldC, ne_eq, Int.reduceLE, Int.reduceLT, Int.reduceEq, Int.reduceNe, Int.reduceToNat, Int.cast_ofNat_Int, Nat.reduceMul, Nat.reduceLeDiff, reduceIte, Nat.reduceEqDiff, Nat.reduceAdd, ↓reduceIte, Try.vcT, e]
    exact c15
  | true =>
    have e : orientI ax ay bx by' cx cy = cmpI ((bx - ax) * (cy - ay)) ((by' - ay) * (cx - ax)) := by simp only [orientI, hv, if_true]
    simp only [Bool.and_eq_true, vpt_iff] at hv
    obtain ⟨⟨⟨a1, a2, a3, a4⟩, b1', b2', b3', b4'⟩, d1, d2, d3, d4⟩ := hv
    have m1 := mul_bound (a := bx - ax) (b := cy - ay) (by omega) (by omega)
    have m2 := mul_bound (a := by' - ay) (b := cx - ax) (by omega) (by omega)
    have e1 : IntKind.i64.wrap (bx - ax) = bx - ax := i64w _ (by omega) (by omega)
    have e2 : IntKind.i64.wrap (cy - ay) = cy - ay := i64w _ (by omega) (by omega)
    have e3 : IntKind.i64.wrap (by' - ay) = by' - ay := i64w _ (by omega) (by omega)
    have e4 : IntKind.i64.wrap (cx - ax) = cx - ax := i64w _ (by omega) (by omega)
    have e5 : IntKind.i64.wrap ((bx - ax) * (cy - ay)) = (bx - ax) * (cy - ay) := i64w _ (by omega) (by omega)
    have e6 : IntKind.i64.wrap ((by' - ay) * (cx - ax)) = (by' - ay) * (cx - ax) := i64w _ (by omega) (by omega)
    simp -dsimp only [↓vcA, vcB, vcD, ↓pureT_lenS, ↓iteT, ↓iteF, cond_true, cond_false, eq_self, argE, Env.get, Env.push, ev, evs, evo, retV, Value.cells, Value.oneCell', setR, overR, fillL, zl, places, allSizes, heldC, ne_eq, Int.reduceLE, Int.reduceLT, Int.reduceEq, Int.reduceNe, Int.reduceToNat, Int.cast_ofNat_Int, Nat.reduceMul, Nat.reduceLeDiff, reduceIte, Nat.reduceEqDiff, Nat.reduceAdd, ↓reduceIte, Try.vcT, cell_of_blkOf g1, cell_of_blkOf g2, cell_of_blkOf g3, cellsAt, e1, e2, e3, e4, e5, e6]
    refine callsK_pure (compare _ _ w5) ?_
    simp -dsimp only [↓vcA, vcB, vcD, ↓pureT_lenS, ↓iteT, ↓iteF, cond_true, cond_false, eq_self, argE, Env.get, Env.push, ev, evs, evo, retV, Value.cells, Value.oneCell', setR, overR, fillL, zl, places, allSizes, heldC, ne_eq, Int.reduceLE, Int.reduceLT, Int.reduceEq, Int.reduceNe, Int.reduceToNat, Int.cast_ofNat_Int, Nat.reduceMul, Nat.reduceLeDiff, reduceIte, Nat.reduceEqDiff, Nat.reduceAdd, ↓reduceIte, Try.vcT, e]
    exact c15

theorem sign140 (n : Int) (w : World) : Calls Try.prog 140 [.int .i64 n].toArray w (RetK fun r w' => r = .int .i64 (cmpI n 0) ∧ w' = w) := by
  refine walk Try.func140 rfl (by kernel_rfl) (by rw [Try.nt140]; simp) ?_
  by_cases h1 : n < 0
  · have e : cmpI n 0 = -1 := by simp [cmpI, h1]
    simp -dsimp only [↓vcA, vcB, vcD, ↓pureT_lenS, ↓iteT, ↓iteF, cond_true, cond_false, eq_self, argE, Env.get, Env.push, ev, evs, evo, retV, Value.cells, Value.oneCell', setR, overR, fillL, zl, places, allSizes, heldC, ne_eq, Int.reduceLE, Int.reduceLT, Int.reduceEq, Int.reduceNe, Int.reduceToNat, Int.cast_ofNat_Int, Nat.reduceMul, Nat.reduceLeDiff, reduceIte, Nat.reduceEqDiff, Nat.reduceAdd, ↓reduceIte, Try.vcT, decide_eq_true h1, e]
  · by_cases h2 : 0 < n
    · have e : cmpI n 0 = 1 := by simp [cmpI, h1, h2]
      simp -dsimp only [↓vcA, vcB, vcD, ↓pureT_lenS, ↓iteT, ↓iteF, cond_true, cond_false, eq_self, argE, Env.get, Env.push, ev, evs, evo, retV, Value.cells, Value.oneCell', setR, overR, fillL, zl, places, allSizes, heldC, ne_eq, Int.reduceLE, Int.reduceLT, Int.reduceEq, Int.reduceNe, Int.reduceToNat, Int.cast_ofNat_Int, Nat.reduceMul, Nat.reduceLeDiff, reduceIte, Nat.reduceEqDiff, Nat.reduceAdd, ↓reduceIte, Try.vcT, decide_eq_false h1, decide_eq_true h2, e]
    · have e : cmpI n 0 = 0 := by simp [cmpI, h1, h2]
      simp -dsimp only [↓vcA, vcB, vcD, ↓pureT_lenS, ↓iteT, ↓iteF, cond_true, cond_false, eq_self, argE, Env.get, Env.push, ev, evs, evo, retV, Value.cells, Value.oneCell', setR, overR, fillL, zl, places, allSizes, heldC, ne_eq, Int.reduceLE, Int.reduceLT, Int.reduceEq, Int.reduceNe, Int.reduceToNat, Int.cast_ofNat_Int, Nat.reduceMul, Nat.reduceLeDiff, reduceIte, Nat.reduceEqDiff, Nat.reduceAdd, ↓reduceIte, Try.vcT, decide_eq_false h1, decide_eq_false h2, e]
theorem twice141 (ax ay bx by' cx cy : Int) (w : World) (hv : (vpt ax ay && vpt bx by' && vpt cx cy) = true) : Calls Try.prog 141 [.agg #[.int .i64 ax, .int .i64 ay], .agg #[.int .i64 bx, .int .i64 by'], .agg #[.int .i64 cx, .int .i64 cy]].toArray w
    (RetP (.int .i64 ((bx - ax) * (cy - ay) - (by' - ay) * (cx - ax))) w) := by
  simp only [Bool.and_eq_true, vpt_iff] at hv
  obtain ⟨⟨⟨a1, a2, a3, a4⟩, b1', b2', b3', b4'⟩, d1, d2, d3, d4⟩ := hv
  have m1 := mul_bound (a := bx - ax) (b := cy - ay) (by omega) (by omega)
  have m2 := mul_bound (a := by' - ay) (b := cx - ax) (by omega) (by omega)
  have e1 : IntKind.i64.wrap (bx - ax) = bx - ax := i64w _ (by omega) (by omega)
  have e2 : IntKind.i64.wrap (cy - ay) = cy - ay := i64w _ (by omega) (by omega)
  have e3 : IntKind.i64.wrap (by' - ay) = by' - ay := i64w _ (by omega) (by omega)
  have e4 : IntKind.i64.wrap (cx - ax) = cx - ax := i64w _ (by omega) (by omega)
  have e5 : IntKind.i64.wrap ((bx - ax) * (cy - ay)) = (bx - ax) * (cy - ay) := i64w _ (by omega) (by omega)
  have e6 : IntKind.i64.wrap ((by' - ay) * (cx - ax)) = (by' - ay) * (cx - ax) := i64w _ (by omega) (by omega)
  have e7 : IntKind.i64.wrap ((bx - ax) * (cy - ay) - (by' - ay) * (cx - ax)) = (bx - ax) * (cy - ay) - (by' - ay) * (cx - ax) := i64w _ (by omega) (by omega)
  refine walk Try.func141 rfl (by kernel_rfl) (by rw [Try.nt141]; simp) ?_
  simp -dsimp only [↓vcA, vcB, vcD, ↓pureT_lenS, ↓iteT, ↓iteF, cond_true, cond_false, eq_self, argE, Env.get, Env.push, ev, evs, evo, retV, Value.cells, Value.oneCell', setR, overR, fillL, zl, places, allSizes, heldC, ne_eq, Int.reduceLE, Int.reduceLT, Int.reduceEq, Int.reduceNe, Int.reduceToNat, Int.cast_ofNat_Int, Nat.reduceMul, Nat.reduceLeDiff, reduceIte, Nat.reduceEqDiff, Nat.reduceAdd, ↓reduceIte, Try.vcT]
  intro w1 b1 n1 w2 b2 n2 w3 b3 n3
  have h1 := chg_blk n3.chg (chg_blk n2.chg n1.blkOf)
  have h2 := chg_blk n3.chg n2.blkOf
  have c13 := (n1.chg.seq n2.chg).seq n3.chg
  simp -dsimp only [↓vcA, vcB, vcD, ↓pureT_lenS, ↓iteT, ↓iteF, cond_true, cond_false, eq_self, argE, Env.get, Env.push, ev, evs, evo, retV, Value.cells, Value.oneCell', setR, overR, fillL, zl, places, allSizes, heldC, ne_eq, Int.reduceLE, Int.reduceLT, Int.reduceEq, Int.reduceNe, Int.reduceToNat, Int.cast_ofNat_Int, Nat.reduceMul, Nat.reduceLeDiff, reduceIte, Nat.reduceEqDiff, Nat.reduceAdd, ↓reduceIte, Try.vcT, cell_of_blkOf h1, cell_of_blkOf h2, n3.cell, e1, e2, e3, e4, e5, e6, e7]
  exact c13
theorem cmpI_sub (p q : Int) : cmpI (p - q) 0 = cmpI p q := by
  unfold cmpI
  split <;> split <;> (try split) <;> (try split) <;> omega
theorem orient134 (ax ay bx by' cx cy : Int) (w : World) : Calls Try.prog 134 [.agg #[.int .i64 ax, .int .i64 ay], .agg #[.int .i64 bx, .int .i64 by'], .agg #[.int .i64 cx, .int .i64 cy]].toArray w (RetP (.int .i64 (orientI ax ay bx by' cx cy)) w) := by
  refine walk Try.func134 rfl (by kernel_rfl) (by rw [Try.nt134]; simp) ?_
  simp -dsimp only [↓vcA, vcB, vcD, ↓pureT_lenS, ↓iteT, ↓iteF, cond_true, cond_false, eq_self, argE, Env.get, Env.push, ev, evs, evo, retV, Value.cells, Value.oneCell', setR, overR, fillL, zl, places, allSizes, heldC, ne_eq, Int.reduceLE, Int.reduceLT, Int.reduceEq, Int.reduceNe, Int.reduceToNat, Int.cast_ofNat_Int, Nat.reduceMul, Nat.reduceLeDiff, reduceIte, Nat.reduceEqDiff, Nat.reduceAdd, ↓reduceIte, Try.vcT]
  intro w1 b1 n1 w2 b2 n2 w3 b3 n3
  have h1 := chg_blk n3.chg (chg_blk n2.chg n1.blkOf)
  have h2 := chg_blk n3.chg n2.blkOf
  have c13 := (n1.chg.seq n2.chg).seq n3.chg
  simp -dsimp only [↓vcA, vcB, vcD, ↓pureT_lenS, ↓iteT, ↓iteF, cond_true, cond_false, eq_self, argE, Env.get, Env.push, ev, evs, evo, retV, Value.cells, Value.oneCell', setR, overR, fillL, zl, places, allSizes, heldC, ne_eq, Int.reduceLE, Int.reduceLT, Int.reduceEq, Int.reduceNe, Int.reduceToNat, Int.cast_ofNat_Int, Nat.reduceMul, Nat.reduceLeDiff, reduceIte, Nat.reduceEqDiff, Nat.reduceAdd, ↓reduceIte, Try.vcT, cell_of_blkOf h1, cell_of_blkOf h2, n3.cell, cellsAt]
  refine callsK_new (valid47 ax ay w3) ?_
  intro w4 c4
  cases ha : vpt ax ay with
  | false =>
    have e : orientI ax ay bx by' cx cy = 0 := by simp [orientI, ha]
    simp -dsimp only [↓vcA, vcB, vcD, ↓pureT_lenS, ↓iteT, ↓iteF, cond_true, cond_false, eq_self, argE, Env.get, Env.push, ev, evs, evo, retV, Value.cells, Value.oneCell', setR, overR, fillL, zl, places, allSizes, heldC, ne_eq, Int.reduceLE, Int.reduceLT, Int.reduceEq, Int.reduceNe, Int.reduceToNat, Int.cast_ofNat_Int, Nat.reduceMul, Nat.reduceLeDiff, reduceIte, Nat.reduceEqDiff, Nat.reduceAdd, ↓reduceIte, Try.vcT, e]
    exact c13.seq c4
  | true =>
  have h14 := chg_blk c4 h1
  have h24 := chg_blk c4 h2
  have h34 := chg_blk c4 n3.blkOf
  simp -dsimp only [↓vcA, vcB, vcD, ↓pureT_lenS, ↓iteT, ↓iteF, cond_true, cond_false, eq_self, argE, Env.get, Env.push, ev, evs, evo, retV, Value.cells, Value.oneCell', setR, overR, fillL, zl, places, allSizes, heldC, ne_eq, Int.reduceLE, Int.reduceLT, Int.reduceEq, Int.reduceNe, Int.reduceToNat, Int.cast_ofNat_Int, Nat.reduceMul, Nat.reduceLeDiff, reduceIte, Nat.reduceEqDiff, Nat.reduceAdd, ↓reduceIte, Try.vcT, cell_of_blkOf h24, cellsAt]
  refine callsK_new (valid47 bx by' w4) ?_
  intro w5 c5
  cases hb : vpt bx by' with
  | false =>
    have e : orientI ax ay bx by' cx cy = 0 := by simp [orientI, hb]
    simp -dsimp only [↓vcA, vcB, vcD, ↓pureT_lenS, ↓iteT, ↓iteF, cond_true, cond_false, eq_self, argE, Env.get, Env.push, ev, evs, evo, retV, Value.cells, Value.oneCell', setR, overR, fillL, zl, places, allSizes, heldC, ne_eq, Int.reduceLE, Int.reduceLT, Int.reduceEq, Int.reduceNe, Int.reduceToNat, Int.cast_ofNat_Int, Nat.reduceMul, Nat.reduceLeDiff, reduceIte, Nat.reduceEqDiff, Nat.reduceAdd, ↓reduceIte, Try.vcT, e]
    exact (c13.seq c4).seq c5
  | true =>
  have h15 := chg_blk c5 h14
  have h25 := chg_blk c5 h24
  have h35 := chg_blk c5 h34
  simp -dsimp only [↓vcA, vcB, vcD, ↓pureT_lenS, ↓iteT, ↓iteF, cond_true, cond_false, eq_self, argE, Env.get, Env.push, ev, evs, evo, retV, Value.cells, Value.oneCell', setR, overR, fillL, zl, places, allSizes, heldC, ne_eq, Int.reduceLE, Int.reduceLT, Int.reduceEq, Int.reduceNe, Int.reduceToNat, Int.cast_ofNat_Int, Nat.reduceMul, Nat.reduceLeDiff, reduceIte, Nat.reduceEqDiff, Nat.reduceAdd, ↓reduceIte, Try.vcT, cell_of_blkOf h35, cellsAt]
  refine callsK_new (valid47 cx cy w5) ?_
  intro w6 c6
  cases hc : vpt cx cy with
  | false =>
    have e : orientI ax ay bx by' cx cy = 0 := by simp [orientI, hc]
    simp -dsimp only [↓vcA, vcB, vcD, ↓pureT_lenS, ↓iteT, ↓iteF, cond_true, cond_false, eq_self, argE, Env.get, Env.push, ev, evs, evo, retV, Value.cells, Value.oneCell', setR, overR, fillL, zl, places, allSizes, heldC, ne_eq, Int.reduceLE, Int.reduceLT, Int.reduceEq, Int.reduceNe, Int.reduceToNat, Int.cast_ofNat_Int, Nat.reduceMul, Nat.reduceLeDiff, reduceIte, Nat.reduceEqDiff, Nat.reduceAdd, ↓reduceIte, Try.vcT, e]
    exact ((c13.seq c4).seq c5).seq c6
  | true =>
  have h16 := chg_blk c6 h15
  have h26 := chg_blk c6 h25
  have h36 := chg_blk c6 h35
  have hv : (vpt ax ay && vpt bx by' && vpt cx cy) = true := by simp [ha, hb, hc]
  have e : orientI ax ay bx by' cx cy = cmpI ((bx - ax) * (cy - ay)) ((by' - ay) * (cx - ax)) := by simp only [orientI, hv, if_true]
  simp -dsimp only [↓vcA, vcB, vcD, ↓pureT_lenS, ↓iteT, ↓iteF, cond_true, cond_false, eq_self, argE, Env.get, Env.push, ev, evs, evo, retV, Value.cells, Value.oneCell', setR, overR, fillL, zl, places, allSizes, heldC, ne_eq, Int.reduceLE, Int.reduceLT, Int.reduceEq, Int.reduceNe, Int.reduceToNat, Int.cast_ofNat_Int, Nat.reduceMul, Nat.reduceLeDiff, reduceIte, Nat.reduceEqDiff, Nat.reduceAdd, ↓reduceIte, Try.vcT, cell_of_blkOf h16, cell_of_blkOf h26, cell_of_blkOf h36, cellsAt]
  refine callsK_new (twice141 ax ay bx by' cx cy w6 hv) ?_
  intro w7 c7
  simp -dsimp only [↓vcA, vcB, vcD, ↓pureT_lenS, ↓iteT, ↓iteF, cond_true, cond_false, eq_self, argE, Env.get, Env.push, ev, evs, evo, retV, Value.cells, Value.oneCell', setR, overR, fillL, zl, places, allSizes, heldC, ne_eq, Int.reduceLE, Int.reduceLT, Int.reduceEq, Int.reduceNe, Int.reduceToNat, Int.cast_ofNat_Int, Nat.reduceMul, Nat.reduceLeDiff, reduceIte, Nat.reduceEqDiff, Nat.reduceAdd, ↓reduceIte, Try.vcT]
  refine callsK_pure (sign140 _ w7) ?_
  simp -dsimp only [↓vcA, vcB, vcD, ↓pureT_lenS, ↓iteT, ↓iteF, cond_true, cond_false, eq_self, argE, Env.get, Env.push, ev, evs, evo, retV, Value.cells, Value.oneCell', setR, overR, fillL, zl, places, allSizes, heldC, ne_eq, Int.reduceLE, Int.reduceLT, Int.reduceEq, Int.reduceNe, Int.reduceToNat, Int.cast_ofNat_Int, Nat.reduceMul, Nat.reduceLeDiff, reduceIte, Nat.reduceEqDiff, Nat.reduceAdd, ↓reduceIte, Try.vcT, cmpI_sub, e]
  exact (((c13.seq c4).seq c5).seq c6).seq c7
end Go.Proofs.Ytnhgjgoglmadnaa
