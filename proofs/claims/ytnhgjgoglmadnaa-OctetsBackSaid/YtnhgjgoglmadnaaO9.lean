/- The contract of the program's reader of triangles, and how the two readers agree. -/
import Derived.Test.YtnhgjgoglmadnaaO8
namespace Go.Proofs.Ytnhgjgoglmadnaa
open Go.RowKit
set_option maxRecDepth 100000
set_option linter.unusedSimpArgs false
set_option linter.unusedVariables false
set_option pp.maxSteps 1500
set_option pp.deepTerms.threshold 8

def R8.tS3 (s : R8) : R8 := s.ptS.ptS.ptS
def R8.tT (s : R8) : T3 := ⟨s.ptV.1, s.ptV.2, s.ptS.ptV.1, s.ptS.ptV.2, s.ptS.ptS.ptV.1, s.ptS.ptS.ptV.2⟩
def R8.triS (s : R8) : R8 := if s.tS3.bad then s.tS3 else if s.tT.valid then s.tS3 else ⟨s.tS3.l, true⟩
def R8.triV (s : R8) : T3 := if s.tS3.bad then T3.zero else if s.tT.valid then s.tT else T3.zero
theorem R8.tS3_len (s : R8) : s.tS3.l.length ≤ s.l.length := Nat.le_trans (R8.ptS_len _) (Nat.le_trans (R8.ptS_len _) (R8.ptS_len _))
theorem rtri (p : Nat) (v : Value) (s : R8) (w : World) (hw : Rdr 134 w p v s) (hl : s.l.length ≤ 10000000) :
    Calls Try.prog 50 [.pointer (some ⟨p, 0, none⟩)].toArray w (RetK fun r w' => r = .agg s.triV.cells.toArray ∧ RdQ 134 p w v s.triS w') := by
  refine walk Try.func50 rfl (by kernel_rfl) (by rw [Try.nt50]; simp) ?_
  simp -dsimp only [↓vcA, vcB, vcD, ↓pureT_lenS, ↓iteT, ↓iteF, cond_true, cond_false, eq_self, argE, Env.get, Env.push, ev, evs, evo, retV, Value.cells, Value.oneCell', setR, overR, fillL, zl, places, allSizes, heldC, ne_eq, Int.reduceLE, Int.reduceLT, Int.reduceEq, Int.reduceNe, Int.reduceToNat, Int.cast_ofNat_Int, Nat.reduceMul, Nat.reduceLeDiff, reduceIte, Nat.reduceEqDiff, Nat.reduceAdd, ↓reduceIte, Try.vcT]
  intro w1 b n1
  have R1 := (RSt.start hw).nil n1.chg
  have ub := (RSt.start hw).up n1
  have nb := R1.ne ub
  have B1 := n1.blkOf
  refine callsK_use (rpoint p v s w1 R1.rd hl) ?_
  rintro _ w2 ⟨rfl, q2⟩
  obtain ⟨v2, R2⟩ := R1.step q2 (R8.ptS_len _)
  have B2 := q2.blk B1 nb
  simp -dsimp only [↓vcA, vcB, vcD, ↓pureT_lenS, ↓iteT, ↓iteF, cond_true, cond_false, eq_self, argE, Env.get, Env.push, ev, evs, evo, retV, Value.cells, Value.oneCell', setR, overR, fillL, zl, places, allSizes, heldC, ne_eq, Int.reduceLE, Int.reduceLT, Int.reduceEq, Int.reduceNe, Int.reduceToNat, Int.cast_ofNat_Int, Nat.reduceMul, Nat.reduceLeDiff, reduceIte, Nat.reduceEqDiff, Nat.reduceAdd, ↓reduceIte, Try.vcT]
  refine callsK_use (rpoint p v2 _ w2 R2.rd (Nat.le_trans (R8.ptS_len _) hl)) ?_
  rintro _ w3 ⟨rfl, q3⟩
  obtain ⟨v3, R3⟩ := R2.step q3 (R8.ptS_len _)
  have B3 := q3.blk B2 nb
  simp -dsimp only [↓vcA, vcB, vcD, ↓pureT_lenS, ↓iteT, ↓iteF, cond_true, cond_false, eq_self, argE, Env.get, Env.push, ev, evs, evo, retV, Value.cells, Value.oneCell', setR, overR, fillL, zl, places, allSizes, heldC, ne_eq, Int.reduceLE, Int.reduceLT, Int.reduceEq, Int.reduceNe, Int.reduceToNat, Int.cast_ofNat_Int, Nat.reduceMul, Nat.reduceLeDiff, reduceIte, Nat.reduceEqDiff, Nat.reduceAdd, ↓reduceIte, Try.vcT]
  refine callsK_use (rpoint p v3 _ w3 R3.rd (Nat.le_trans (R8.ptS_len _) (Nat.le_trans (R8.ptS_len _) hl))) ?_
  rintro _ w4 ⟨rfl, q4⟩
  obtain ⟨v4, R4⟩ := R3.step q4 (R8.ptS_len _)
  have B4 := q4.blk B3 nb
  have lb4 := lt_of_blkOf B4
  simp -dsimp only [↓vcA, vcB, vcD, ↓pureT_lenS, ↓iteT, ↓iteF, cond_true, cond_false, eq_self, argE, Env.get, Env.push, ev, evs, evo, retV, Value.cells, Value.oneCell', setR, overR, fillL, zl, places, allSizes, heldC, ne_eq, Int.reduceLE, Int.reduceLT, Int.reduceEq, Int.reduceNe, Int.reduceToNat, Int.cast_ofNat_Int, Nat.reduceMul, Nat.reduceLeDiff, reduceIte, Nat.reduceEqDiff, Nat.reduceAdd, ↓reduceIte, Try.vcT]
  intro w5 b5 n5
  have u5 := R4.up n5
  have R5 := R4.nil n5.chg
  have m5 : b < b5 := by have := n5.eq; omega
  simp -dsimp only [↓vcA, vcB, vcD, ↓pureT_lenS, ↓iteT, ↓iteF, cond_true, cond_false, eq_self, argE, Env.get, Env.push, ev, evs, evo, retV, Value.cells, Value.oneCell', setR, overR, fillL, zl, places, allSizes, heldC, ne_eq, Int.reduceLE, Int.reduceLT, Int.reduceEq, Int.reduceNe, Int.reduceToNat, Int.cast_ofNat_Int, Nat.reduceMul, Nat.reduceLeDiff, reduceIte, Nat.reduceEqDiff, Nat.reduceAdd, ↓reduceIte, Try.vcT, n5.blkOf]
  intro w6 p6
  have R6 := R5.put p6 u5
  have B6 := p6.chg.blkOf (chg_blk n5.chg B4) (by omega)
  have C6 := p6.blkOf
  have hcb := R6.rd.c1
  have hS : s.tS3 = s.ptS.ptS.ptS := rfl
  rw [← hS] at hcb
  cases hbad : s.tS3.bad with
  | true =>
    rw [hbad] at hcb
    have e1 : s.triV = T3.zero := by simp [R8.triV, hbad]
    have e2 : s.triS = s.tS3 := by simp [R8.triS, hbad]
    rw [e1, e2]
    simp -dsimp only [↓vcA, vcB, vcD, ↓pureT_lenS, ↓iteT, ↓iteF, cond_true, cond_false, eq_self, argE, Env.get, Env.push, ev, evs, evo, retV, Value.cells, Value.oneCell', setR, overR, fillL, zl, places, allSizes, heldC, ne_eq, Int.reduceLE, Int.reduceLT, Int.reduceEq, Int.reduceNe, Int.reduceToNat, Int.cast_ofNat_Int, Nat.reduceMul, Nat.reduceLeDiff, reduceIte, Nat.reduceEqDiff, Nat.reduceAdd, ↓reduceIte, Try.vcT, hcb, B6]
    intro w7 p7
    simp -dsimp only [↓vcA, vcB, vcD, ↓pureT_lenS, ↓iteT, ↓iteF, cond_true, cond_false, eq_self, argE, Env.get, Env.push, ev, evs, evo, retV, Value.cells, Value.oneCell', setR, overR, fillL, zl, places, allSizes, heldC, ne_eq, Int.reduceLE, Int.reduceLT, Int.reduceEq, Int.reduceNe, Int.reduceToNat, Int.cast_ofNat_Int, Nat.reduceMul, Nat.reduceLeDiff, reduceIte, Nat.reduceEqDiff, Nat.reduceAdd, ↓reduceIte, Try.vcT, p7.cell, cellsAt]
    exact ⟨rfl, (R6.put p7 ub).q⟩
  | false =>
    rw [hbad] at hcb
    simp -dsimp only [↓vcA, vcB, vcD, ↓pureT_lenS, ↓iteT, ↓iteF, cond_true, cond_false, eq_self, argE, Env.get, Env.push, ev, evs, evo, retV, Value.cells, Value.oneCell', setR, overR, fillL, zl, places, allSizes, heldC, ne_eq, Int.reduceLE, Int.reduceLT, Int.reduceEq, Int.reduceNe, Int.reduceToNat, Int.cast_ofNat_Int, Nat.reduceMul, Nat.reduceLeDiff, reduceIte, Nat.reduceEqDiff, Nat.reduceAdd, ↓reduceIte, Try.vcT, hcb, cell_of_blkOf C6, cellsAt]
    refine callsK_new (valid79 s.tT w6) ?_
    intro w7 c7
    have R7 := R6.nil c7
    have B7 := chg_blk c7 B6
    have C7 := chg_blk c7 C6
    cases hv : s.tT.valid with
    | false =>
      have e1 : s.triV = T3.zero := by simp [R8.triV, hbad, hv]
      have e2 : s.triS = ⟨s.tS3.l, true⟩ := by simp [R8.triS, hbad, hv]
      rw [e1, e2]
      simp -dsimp only [↓vcA, vcB, vcD, ↓pureT_lenS, ↓iteT, ↓iteF, cond_true, cond_false, eq_self, argE, Env.get, Env.push, ev, evs, evo, retV, Value.cells, Value.oneCell', setR, overR, fillL, zl, places, allSizes, heldC, ne_eq, Int.reduceLE, Int.reduceLT, Int.reduceEq, Int.reduceNe, Int.reduceToNat, Int.cast_ofNat_Int, Nat.reduceMul, Nat.reduceLeDiff, reduceIte, Nat.reduceEqDiff, Nat.reduceAdd, ↓reduceIte, Try.vcT, R7.rd.bk]
      intro w8 p8
      have B8 := p8.chg.blkOf B7 nb
      simp -dsimp only [↓vcA, vcB, vcD, ↓pureT_lenS, ↓iteT, ↓iteF, cond_true, cond_false, eq_self, argE, Env.get, Env.push, ev, evs, evo, retV, Value.cells, Value.oneCell', setR, overR, fillL, zl, places, allSizes, heldC, ne_eq, Int.reduceLE, Int.reduceLT, Int.reduceEq, Int.reduceNe, Int.reduceToNat, Int.cast_ofNat_Int, Nat.reduceMul, Nat.reduceLeDiff, reduceIte, Nat.reduceEqDiff, Nat.reduceAdd, ↓reduceIte, Try.vcT, B8]
      intro w9 p9
      simp -dsimp only [↓vcA, vcB, vcD, ↓pureT_lenS, ↓iteT, ↓iteF, cond_true, cond_false, eq_self, argE, Env.get, Env.push, ev, evs, evo, retV, Value.cells, Value.oneCell', setR, overR, fillL, zl, places, allSizes, heldC, ne_eq, Int.reduceLE, Int.reduceLT, Int.reduceEq, Int.reduceNe, Int.reduceToNat, Int.cast_ofNat_Int, Nat.reduceMul, Nat.reduceLeDiff, reduceIte, Nat.reduceEqDiff, Nat.reduceAdd, ↓reduceIte, Try.vcT, p9.cell, cellsAt]
      exact ⟨rfl, ((R7.mark p8).put p9 ub).q⟩
    | true =>
      have e1 : s.triV = s.tT := by simp [R8.triV, hbad, hv]
      have e2 : s.triS = s.tS3 := by simp [R8.triS, hbad, hv]
      rw [e1, e2]
      simp -dsimp only [↓vcA, vcB, vcD, ↓pureT_lenS, ↓iteT, ↓iteF, cond_true, cond_false, eq_self, argE, Env.get, Env.push, ev, evs, evo, retV, Value.cells, Value.oneCell', setR, overR, fillL, zl, places, allSizes, heldC, ne_eq, Int.reduceLE, Int.reduceLT, Int.reduceEq, Int.reduceNe, Int.reduceToNat, Int.cast_ofNat_Int, Nat.reduceMul, Nat.reduceLeDiff, reduceIte, Nat.reduceEqDiff, Nat.reduceAdd, ↓reduceIte, Try.vcT, cell_of_blkOf C7, cellsAt, B7]
      intro w8 p8
      simp -dsimp only [↓vcA, vcB, vcD, ↓pureT_lenS, ↓iteT, ↓iteF, cond_true, cond_false, eq_self, argE, Env.get, Env.push, ev, evs, evo, retV, Value.cells, Value.oneCell', setR, overR, fillL, zl, places, allSizes, heldC, ne_eq, Int.reduceLE, Int.reduceLT, Int.reduceEq, Int.reduceNe, Int.reduceToNat, Int.cast_ofNat_Int, Nat.reduceMul, Nat.reduceLeDiff, reduceIte, Nat.reduceEqDiff, Nat.reduceAdd, ↓reduceIte, Try.vcT, p8.cell, cellsAt]
      exact ⟨rfl, (R7.put p8 ub).q⟩
end Go.Proofs.Ytnhgjgoglmadnaa
