/- The contracts of the readers: points and triangles. -/
import Derived.Test.YtnhgjgoglmadnaaO7
namespace Go.Proofs.Ytnhgjgoglmadnaa
open Go.RowKit
set_option maxRecDepth 100000
set_option linter.unusedSimpArgs false
set_option linter.unusedVariables false
set_option pp.maxSteps 1500
set_option pp.deepTerms.threshold 8

/-- A reader within a call: since w nothing but itself and new blocks has changed. -/
structure RSt (t p : Nat) (w : World) (v : Value) (s : R8) (w' : World) (v' : Value) (s' : R8) : Prop where
  r0 : Rdr t w p v s
  rd : Rdr t w' p v' s'
  chg : Chg (fun k => k = p ∨ w.heap.size ≤ k) w w'
  sub : ∀ k, v'.ownBlock = some k → v.ownBlock = some k
  len : s'.l.length ≤ s.l.length
section
variable {t p : Nat} {w w' w'' : World} {v v' : Value} {s s' s'' : R8}
theorem RSt.start (h : Rdr t w p v s) : RSt t p w v s w v s := ⟨h, h, Chg.refl _ _, fun _ => id, Nat.le_refl _⟩
theorem RSt.nil (r : RSt t p w v s w' v' s') (c : Chg (fun _ => False) w' w'') : RSt t p w v s w'' v' s' :=
  ⟨r.r0, r.rd.chg c id (fun _ _ _ => id), r.chg.trans c fun _ f => f.elim, r.sub, r.len⟩
theorem RSt.put {b : Nat} {cs : List Value} {ty : TypeId} (r : RSt t p w v s w' v' s') (c : Put w' w'' b cs ty) (hb : w.heap.size ≤ b) : RSt t p w v s w'' v' s' := by
  have hp := lt_of_block r.r0.blk
  refine ⟨r.r0, r.rd.chg c.chg (by omega) fun hpos k hk e => ?_, r.chg.trans c.chg fun x hx => .inl (.inr (by omega)), r.sub, r.len⟩
  have := r.r0.lt (Nat.lt_of_lt_of_le hpos r.len) k (r.sub k hk)
  omega
theorem RSt.step (r : RSt t p w v s w' v' s') (h : RdQ t p w' v' s'' w'') (hl : s''.l.length ≤ s'.l.length) : ∃ v'', RSt t p w v s w'' v'' s'' := by
  obtain ⟨v2, h2, c2, b2⟩ := h
  exact ⟨v2, r.r0, h2, r.chg.trans c2 fun x hx => .inl (.inl hx), fun k hk => r.sub k (b2 k hk), Nat.le_trans hl r.len⟩
theorem RSt.mark (r : RSt t p w v s w' v' s') (c : Put w' w'' p [v', .bool true] t) : RSt t p w v s w'' v' ⟨s'.l, true⟩ := by
  obtain ⟨q1, q2⟩ := r.rd.put (s' := ⟨s'.l, true⟩) (Chg.refl _ _) c r.rd.rd (fun _ => id) (Nat.le_refl _)
  exact ⟨r.r0, q1, r.chg.trans q2 fun x hx => .inl (.inl hx), r.sub, r.len⟩
theorem RSt.q (r : RSt t p w v s w' v' s') : RdQ t p w v s' w' := ⟨v', r.rd, r.chg.mono' fun x hx hlt => hx.elim id fun h => by omega, r.sub⟩
theorem RSt.up {b : Nat} {cs : List Value} {ty : TypeId} (r : RSt t p w v s w' v' s') (n : New w' w'' b cs ty) : w.heap.size ≤ b := by have := r.chg.size; have := n.eq; omega
theorem RSt.ne {b : Nat} (r : RSt t p w v s w' v' s') (hb : w.heap.size ≤ b) : ¬ b = p := by have := lt_of_block r.r0.blk; omega
theorem RdQ.blk {b : Nat} {x : List Value × TypeId} (h : RdQ t p w v s' w') (hb : blkOf w b = some x) (hne : ¬ b = p) : blkOf w' b = some x := by
  obtain ⟨_, _, c, _⟩ := h
  exact c.blkOf hb hne
end

def R8.pre (s : R8) (k : Int) : R8 := if (s.l.length : Int) < k then ⟨s.l, true⟩ else s
theorem R8.pre_len (s : R8) (k : Int) : (s.pre k).l.length ≤ s.l.length := by unfold R8.pre; split <;> simp
def R8.rptS (s : R8) : R8 := ((s.pre 6).numS 3).numS 3
def R8.rptX (s : R8) : Int := (s.pre 6).numV 3
def R8.rptY (s : R8) : Int := ((s.pre 6).numS 3).numV 3
theorem R8.rptS_len (s : R8) : s.rptS.l.length ≤ s.l.length := Nat.le_trans (R8.numS_len _ _) (Nat.le_trans (R8.numS_len _ _) (s.pre_len 6))

theorem refRpoint (p : Nat) (v : Value) (s : R8) (w : World) (hw : Rdr 85 w p v s) (hl : s.l.length ≤ 10000000) :
    Calls Try.prog 53 [.pointer (some ⟨p, 0, none⟩)].toArray w (RetK fun r w' => r = .agg #[.int .i64 s.rptX, .int .i64 s.rptY] ∧ RdQ 85 p w v s.rptS w') := by
  obtain ⟨a, c, rfl, _⟩ := hw.rd
  refine walk Try.func53 rfl (by kernel_rfl) (by rw [Try.nt53]; simp) ?_
  simp -dsimp only [↓vcA, vcB, vcD, ↓pureT_lenS, ↓iteT, ↓iteF, cond_true, cond_false, eq_self, argE, Env.get, Env.push, ev, evs, evo, retV, Value.cells, Value.oneCell', setR, overR, fillL, zl, places, allSizes, heldC, ne_eq, Int.reduceLE, Int.reduceLT, Int.reduceEq, Int.reduceNe, Int.reduceToNat, Int.cast_ofNat_Int, Nat.reduceMul, Nat.reduceLeDiff, reduceIte, Nat.reduceEqDiff, Nat.reduceAdd, ↓reduceIte, Try.vcT]
  intro w1 b n1
  have R1 := (RSt.start hw).nil n1.chg
  have ub := (RSt.start hw).up n1
  have nb := R1.ne ub
  have B1 := n1.blkOf
  have hpl := s.pre_len 6
  by_cases h6 : (s.l.length : Int) < 6
  case' pos =>
    have e6 : s.pre 6 = ⟨s.l, true⟩ := by simp [R8.pre, h6]
    simp -dsimp only [↓vcA, vcB, vcD, ↓pureT_lenS, ↓iteT, ↓iteF, cond_true, cond_false, eq_self, argE, Env.get, Env.push, ev, evs, evo, retV, Value.cells, Value.oneCell', setR, overR, fillL, zl, places, allSizes, heldC, ne_eq, Int.reduceLE, Int.reduceLT, Int.reduceEq, Int.reduceNe, Int.reduceToNat, Int.cast_ofNat_Int, Nat.reduceMul, Nat.reduceLeDiff, reduceIte, Nat.reduceEqDiff, Nat.reduceAdd, ↓reduceIte, Try.vcT, R1.rd.c0, decide_eq_true h6, R1.rd.bk]
    intro w2 p2
    have R2 : RSt 85 p w (.slice a s.l.length c) s w2 (.slice a s.l.length c) (s.pre 6) := by rw [e6]; exact R1.mark p2
    have B2 := p2.chg.blkOf B1 nb
  case' neg =>
    have e6 : s.pre 6 = s := by simp [R8.pre, h6]
    simp -dsimp only [↓vcA, vcB, vcD, ↓pureT_lenS, ↓iteT, ↓iteF, cond_true, cond_false, eq_self, argE, Env.get, Env.push, ev, evs, evo, retV, Value.cells, Value.oneCell', setR, overR, fillL, zl, places, allSizes, heldC, ne_eq, Int.reduceLE, Int.reduceLT, Int.reduceEq, Int.reduceNe, Int.reduceToNat, Int.cast_ofNat_Int, Nat.reduceMul, Nat.reduceLeDiff, reduceIte, Nat.reduceEqDiff, Nat.reduceAdd, ↓reduceIte, Try.vcT, R1.rd.c0, decide_eq_false h6]
    have R2 : RSt 85 p w (.slice a s.l.length c) s w1 (.slice a s.l.length c) (s.pre 6) := by rw [e6]; exact R1
    have B2 := B1
  all_goals
    refine callsK_use (refRnum p _ (s.pre 6) 3 _ R2.rd (by omega)) ?_
    rintro _ w3 ⟨rfl, q3⟩
    obtain ⟨v3, R3⟩ := R2.step q3 (R8.numS_len _ _)
    have B3 := q3.blk B2 nb
    simp -dsimp only [↓vcA, vcB, vcD, ↓pureT_lenS, ↓iteT, ↓iteF, cond_true, cond_false, eq_self, argE, Env.get, Env.push, ev, evs, evo, retV, Value.cells, Value.oneCell', setR, overR, fillL, zl, places, allSizes, heldC, ne_eq, Int.reduceLE, Int.reduceLT, Int.reduceEq, Int.reduceNe, Int.reduceToNat, Int.cast_ofNat_Int, Nat.reduceMul, Nat.reduceLeDiff, reduceIte, Nat.reduceEqDiff, Nat.reduceAdd, ↓reduceIte, Try.vcT]
    refine callsK_use (refRnum p v3 _ 3 w3 R3.rd (Nat.le_trans (R8.numS_len _ _) (by omega))) ?_
    rintro _ w4 ⟨rfl, q4⟩
    obtain ⟨v4, R4⟩ := R3.step q4 (R8.numS_len _ _)
    have B4 := q4.blk B3 nb
    simp -dsimp only [↓vcA, vcB, vcD, ↓pureT_lenS, ↓iteT, ↓iteF, cond_true, cond_false, eq_self, argE, Env.get, Env.push, ev, evs, evo, retV, Value.cells, Value.oneCell', setR, overR, fillL, zl, places, allSizes, heldC, ne_eq, Int.reduceLE, Int.reduceLT, Int.reduceEq, Int.reduceNe, Int.reduceToNat, Int.cast_ofNat_Int, Nat.reduceMul, Nat.reduceLeDiff, reduceIte, Nat.reduceEqDiff, Nat.reduceAdd, ↓reduceIte, Try.vcT, B4]
    intro w5 p5
    simp -dsimp only [↓vcA, vcB, vcD, ↓pureT_lenS, ↓iteT, ↓iteF, cond_true, cond_false, eq_self, argE, Env.get, Env.push, ev, evs, evo, retV, Value.cells, Value.oneCell', setR, overR, fillL, zl, places, allSizes, heldC, ne_eq, Int.reduceLE, Int.reduceLT, Int.reduceEq, Int.reduceNe, Int.reduceToNat, Int.cast_ofNat_Int, Nat.reduceMul, Nat.reduceLeDiff, reduceIte, Nat.reduceEqDiff, Nat.reduceAdd, ↓reduceIte, Try.vcT, p5.cell, cellsAt]
    exact ⟨rfl, (R4.put p5 ub).q⟩

def R8.rtS3 (s : R8) : R8 := (s.pre 18).rptS.rptS.rptS
def R8.rtT (s : R8) : T3 := ⟨(s.pre 18).rptX, (s.pre 18).rptY, (s.pre 18).rptS.rptX, (s.pre 18).rptS.rptY, (s.pre 18).rptS.rptS.rptX, (s.pre 18).rptS.rptS.rptY⟩
def T3.zero : T3 := ⟨0, 0, 0, 0, 0, 0⟩
def R8.rtFail (s : R8) : Bool := s.rtS3.bad || !s.rtT.valid
def R8.rtriS (s : R8) : R8 := if s.rtFail then ⟨s.rtS3.l, true⟩ else s.rtS3
def R8.rtriV (s : R8) : T3 := if s.rtFail then T3.zero else s.rtT
theorem R8.rtS3_len (s : R8) : s.rtS3.l.length ≤ s.l.length := Nat.le_trans (R8.rptS_len _) (Nat.le_trans (R8.rptS_len _) (Nat.le_trans (R8.rptS_len _) (s.pre_len 18)))

set_option maxHeartbeats 1000000 in
theorem refRtri (p : Nat) (v : Value) (s : R8) (w : World) (hw : Rdr 85 w p v s) (hl : s.l.length ≤ 10000000) :
    Calls Try.prog 54 [.pointer (some ⟨p, 0, none⟩)].toArray w (RetK fun r w' => r = .agg s.rtriV.cells.toArray ∧ RdQ 85 p w v s.rtriS w') := by
  obtain ⟨a, c, rfl, _⟩ := hw.rd
  refine walk Try.func54 rfl (by kernel_rfl) (by rw [Try.nt54]; simp) ?_
  simp -dsimp only [↓vcA, vcB, vcD, ↓pureT_lenS, ↓iteT, ↓iteF, cond_true, cond_false, eq_self, argE, Env.get, Env.push, ev, evs, evo, retV, Value.cells, Value.oneCell', setR, overR, fillL, zl, places, allSizes, heldC, ne_eq, Int.reduceLE, Int.reduceLT, Int.reduceEq, Int.reduceNe, Int.reduceToNat, Int.cast_ofNat_Int, Nat.reduceMul, Nat.reduceLeDiff, reduceIte, Nat.reduceEqDiff, Nat.reduceAdd, ↓reduceIte, Try.vcT]
  intro w1 b n1
  have R1 := (RSt.start hw).nil n1.chg
  have ub := (RSt.start hw).up n1
  have nb := R1.ne ub
  have B1 := n1.blkOf
  have hpl := s.pre_len 18
  by_cases h6 : (s.l.length : Int) < 18
  case' pos =>
    have e6 : s.pre 18 = ⟨s.l, true⟩ := by simp [R8.pre, h6]
    simp -dsimp only [↓vcA, vcB, vcD, ↓pureT_lenS, ↓iteT, ↓iteF, cond_true, cond_false, eq_self, argE, Env.get, Env.push, ev, evs, evo, retV, Value.cells, Value.oneCell', setR, overR, fillL, zl, places, allSizes, heldC, ne_eq, Int.reduceLE, Int.reduceLT, Int.reduceEq, Int.reduceNe, Int.reduceToNat, Int.cast_ofNat_Int, Nat.reduceMul, Nat.reduceLeDiff, reduceIte, Nat.reduceEqDiff, Nat.reduceAdd, ↓reduceIte, Try.vcT, R1.rd.c0, decide_eq_true h6, R1.rd.bk]
    intro w2 p2
    have R2 : RSt 85 p w (.slice a s.l.length c) s w2 (.slice a s.l.length c) (s.pre 18) := by rw [e6]; exact R1.mark p2
    have B2 := p2.chg.blkOf B1 nb
  case' neg =>
    have e6 : s.pre 18 = s := by simp [R8.pre, h6]
    simp -dsimp only [↓vcA, vcB, vcD, ↓pureT_lenS, ↓iteT, ↓iteF, cond_true, cond_false, eq_self, argE, Env.get, Env.push, ev, evs, evo, retV, Value.cells, Value.oneCell', setR, overR, fillL, zl, places, allSizes, heldC, ne_eq, Int.reduceLE, Int.reduceLT, Int.reduceEq, Int.reduceNe, Int.reduceToNat, Int.cast_ofNat_Int, Nat.reduceMul, Nat.reduceLeDiff, reduceIte, Nat.reduceEqDiff, Nat.reduceAdd, ↓reduceIte, Try.vcT, R1.rd.c0, decide_eq_false h6]
    have R2 : RSt 85 p w (.slice a s.l.length c) s w1 (.slice a s.l.length c) (s.pre 18) := by rw [e6]; exact R1
    have B2 := B1
  all_goals
    have lb2 := lt_of_blkOf B2
    refine callsK_use (refRpoint p _ (s.pre 18) _ R2.rd (by omega)) ?_
    rintro _ w3 ⟨rfl, q3⟩
    obtain ⟨v3, R3⟩ := R2.step q3 (R8.rptS_len _)
    have B3 := q3.blk B2 nb
    have lb3 := lt_of_blkOf B3
    simp -dsimp only [↓vcA, vcB, vcD, ↓pureT_lenS, ↓iteT, ↓iteF, cond_true, cond_false, eq_self, argE, Env.get, Env.push, ev, evs, evo, retV, Value.cells, Value.oneCell', setR, overR, fillL, zl, places, allSizes, heldC, ne_eq, Int.reduceLE, Int.reduceLT, Int.reduceEq, Int.reduceNe, Int.reduceToNat, Int.cast_ofNat_Int, Nat.reduceMul, Nat.reduceLeDiff, reduceIte, Nat.reduceEqDiff, Nat.reduceAdd, ↓reduceIte, Try.vcT]
    intro w4 b4 n4
    have u4 := R3.up n4
    have R4 := R3.nil n4.chg
    have B4 := chg_blk n4.chg B3
    have m4 : b < b4 := by have := n4.eq; omega
    simp -dsimp only [↓vcA, vcB, vcD, ↓pureT_lenS, ↓iteT, ↓iteF, cond_true, cond_false, eq_self, argE, Env.get, Env.push, ev, evs, evo, retV, Value.cells, Value.oneCell', setR, overR, fillL, zl, places, allSizes, heldC, ne_eq, Int.reduceLE, Int.reduceLT, Int.reduceEq, Int.reduceNe, Int.reduceToNat, Int.cast_ofNat_Int, Nat.reduceMul, Nat.reduceLeDiff, reduceIte, Nat.reduceEqDiff, Nat.reduceAdd, ↓reduceIte, Try.vcT, n4.blkOf]
    intro w5 p5
    have R5 := R4.put p5 u4
    have B5 := p5.chg.blkOf B4 (by omega)
    have C5 := p5.blkOf
    have lb5 := lt_of_blkOf C5
    try simp -dsimp only [↓vcA, vcB, vcD, ↓pureT_lenS, ↓iteT, ↓iteF, cond_true, cond_false, eq_self, argE, Env.get, Env.push, ev, evs, evo, retV, Value.cells, Value.oneCell', setR, overR, fillL, zl, places, allSizes, heldC, ne_eq, Int.reduceLE, Int.reduceLT, Int.reduceEq, Int.reduceNe, Int.reduceToNat, Int.cast_ofNat_Int, Nat.reduceMul, Nat.reduceLeDiff, reduceIte, Nat.reduceEqDiff, Nat.reduceAdd, ↓reduceIte, Try.vcT]
    refine callsK_use (refRpoint p v3 _ w5 R5.rd (Nat.le_trans (R8.rptS_len _) (by omega))) ?_
    rintro _ w6 ⟨rfl, q6⟩
    obtain ⟨v6, R6⟩ := R5.step q6 (R8.rptS_len _)
    have B6 := q6.blk B5 nb
    have C6 := q6.blk C5 (R5.ne u4)
    have lb6 := lt_of_blkOf C6
    simp -dsimp only [↓vcA, vcB, vcD, ↓pureT_lenS, ↓iteT, ↓iteF, cond_true, cond_false, eq_self, argE, Env.get, Env.push, ev, evs, evo, retV, Value.cells, Value.oneCell', setR, overR, fillL, zl, places, allSizes, heldC, ne_eq, Int.reduceLE, Int.reduceLT, Int.reduceEq, Int.reduceNe, Int.reduceToNat, Int.cast_ofNat_Int, Nat.reduceMul, Nat.reduceLeDiff, reduceIte, Nat.reduceEqDiff, Nat.reduceAdd, ↓reduceIte, Try.vcT]
    intro w7 b7 n7
    have u7 := R6.up n7
    have R7 := R6.nil n7.chg
    have m7 : b4 < b7 := by have := n7.eq; omega
    simp -dsimp only [↓vcA, vcB, vcD, ↓pureT_lenS, ↓iteT, ↓iteF, cond_true, cond_false, eq_self, argE, Env.get, Env.push, ev, evs, evo, retV, Value.cells, Value.oneCell', setR, overR, fillL, zl, places, allSizes, heldC, ne_eq, Int.reduceLE, Int.reduceLT, Int.reduceEq, Int.reduceNe, Int.reduceToNat, Int.cast_ofNat_Int, Nat.reduceMul, Nat.reduceLeDiff, reduceIte, Nat.reduceEqDiff, Nat.reduceAdd, ↓reduceIte, Try.vcT, n7.blkOf]
    intro w8 p8
    have R8' := R7.put p8 u7
    have B8 := p8.chg.blkOf (chg_blk n7.chg B6) (by omega)
    have C8 := p8.chg.blkOf (chg_blk n7.chg C6) (by omega)
    have D8 := p8.blkOf
    have lb8 := lt_of_blkOf D8
    try simp -dsimp only [↓vcA, vcB, vcD, ↓pureT_lenS, ↓iteT, ↓iteF, cond_true, cond_false, eq_self, argE, Env.get, Env.push, ev, evs, evo, retV, Value.cells, Value.oneCell', setR, overR, fillL, zl, places, allSizes, heldC, ne_eq, Int.reduceLE, Int.reduceLT, Int.reduceEq, Int.reduceNe, Int.reduceToNat, Int.cast_ofNat_Int, Nat.reduceMul, Nat.reduceLeDiff, reduceIte, Nat.reduceEqDiff, Nat.reduceAdd, ↓reduceIte, Try.vcT]
    refine callsK_use (refRpoint p v6 _ w8 R8'.rd (Nat.le_trans (R8.rptS_len _) (Nat.le_trans (R8.rptS_len _) (by omega)))) ?_
    rintro _ w9 ⟨rfl, q9⟩
    obtain ⟨v9, R9⟩ := R8'.step q9 (R8.rptS_len _)
    have B9 := q9.blk B8 nb
    have C9 := q9.blk C8 (R8'.ne u4)
    have D9 := q9.blk D8 (R8'.ne u7)
    have lb9 := lt_of_blkOf D9
    simp -dsimp only [↓vcA, vcB, vcD, ↓pureT_lenS, ↓iteT, ↓iteF, cond_true, cond_false, eq_self, argE, Env.get, Env.push, ev, evs, evo, retV, Value.cells, Value.oneCell', setR, overR, fillL, zl, places, allSizes, heldC, ne_eq, Int.reduceLE, Int.reduceLT, Int.reduceEq, Int.reduceNe, Int.reduceToNat, Int.cast_ofNat_Int, Nat.reduceMul, Nat.reduceLeDiff, reduceIte, Nat.reduceEqDiff, Nat.reduceAdd, ↓reduceIte, Try.vcT]
    intro w10 b10 n10
    have u10 := R9.up n10
    have R10 := R9.nil n10.chg
    have m10 : b7 < b10 := by have := n10.eq; omega
    simp -dsimp only [↓vcA, vcB, vcD, ↓pureT_lenS, ↓iteT, ↓iteF, cond_true, cond_false, eq_self, argE, Env.get, Env.push, ev, evs, evo, retV, Value.cells, Value.oneCell', setR, overR, fillL, zl, places, allSizes, heldC, ne_eq, Int.reduceLE, Int.reduceLT, Int.reduceEq, Int.reduceNe, Int.reduceToNat, Int.cast_ofNat_Int, Nat.reduceMul, Nat.reduceLeDiff, reduceIte, Nat.reduceEqDiff, Nat.reduceAdd, ↓reduceIte, Try.vcT, n10.blkOf]
    intro w11 p11
    have R11 := R10.put p11 u10
    have B11 := p11.chg.blkOf (chg_blk n10.chg B9) (by omega)
    have C11 := p11.chg.blkOf (chg_blk n10.chg C9) (by omega)
    have D11 := p11.chg.blkOf (chg_blk n10.chg D9) (by omega)
    have E11 := p11.blkOf
    try simp -dsimp only [↓vcA, vcB, vcD, ↓pureT_lenS, ↓iteT, ↓iteF, cond_true, cond_false, eq_self, argE, Env.get, Env.push, ev, evs, evo, retV, Value.cells, Value.oneCell', setR, overR, fillL, zl, places, allSizes, heldC, ne_eq, Int.reduceLE, Int.reduceLT, Int.reduceEq, Int.reduceNe, Int.reduceToNat, Int.cast_ofNat_Int, Nat.reduceMul, Nat.reduceLeDiff, reduceIte, Nat.reduceEqDiff, Nat.reduceAdd, ↓reduceIte, Try.vcT, cell_of_blkOf C11, cell_of_blkOf D11, cell_of_blkOf E11, cellsAt]
    intro w12 b12 n12
    have u12 := R11.up n12
    have R12 := R11.nil n12.chg
    have lb11 := lt_of_blkOf E11
    have m12 : b10 < b12 := by have := n12.eq; omega
    have B12 := chg_blk n12.chg B11
    simp -dsimp only [↓vcA, vcB, vcD, ↓pureT_lenS, ↓iteT, ↓iteF, cond_true, cond_false, eq_self, argE, Env.get, Env.push, ev, evs, evo, retV, Value.cells, Value.oneCell', setR, overR, fillL, zl, places, allSizes, heldC, ne_eq, Int.reduceLE, Int.reduceLT, Int.reduceEq, Int.reduceNe, Int.reduceToNat, Int.cast_ofNat_Int, Nat.reduceMul, Nat.reduceLeDiff, reduceIte, Nat.reduceEqDiff, Nat.reduceAdd, ↓reduceIte, Try.vcT, n12.blkOf]
    intro w13 p13
    have R13 := R12.put p13 u12
    have B13 := p13.chg.blkOf B12 (by omega)
    have G13 := p13.blkOf
    have hcb := R13.rd.c1
    have hS : s.rtS3 = (s.pre 18).rptS.rptS.rptS := rfl
    rw [← hS] at hcb
    cases hbad : s.rtS3.bad with
    | true =>
      rw [hbad] at hcb
      have ef : s.rtFail = true := by simp [R8.rtFail, hbad]
      have e1 : s.rtriV = T3.zero := by simp [R8.rtriV, ef]
      have e2 : s.rtriS = ⟨s.rtS3.l, true⟩ := by simp [R8.rtriS, ef]
      rw [e1, e2]
      simp -dsimp only [↓vcA, vcB, vcD, ↓pureT_lenS, ↓iteT, ↓iteF, cond_true, cond_false, eq_self, argE, Env.get, Env.push, ev, evs, evo, retV, Value.cells, Value.oneCell', setR, overR, fillL, zl, places, allSizes, heldC, ne_eq, Int.reduceLE, Int.reduceLT, Int.reduceEq, Int.reduceNe, Int.reduceToNat, Int.cast_ofNat_Int, Nat.reduceMul, Nat.reduceLeDiff, reduceIte, Nat.reduceEqDiff, Nat.reduceAdd, ↓reduceIte, Try.vcT, hcb, R13.rd.bk]
      intro w14 p14
      have B14 := p14.chg.blkOf B13 nb
      simp -dsimp only [↓vcA, vcB, vcD, ↓pureT_lenS, ↓iteT, ↓iteF, cond_true, cond_false, eq_self, argE, Env.get, Env.push, ev, evs, evo, retV, Value.cells, Value.oneCell', setR, overR, fillL, zl, places, allSizes, heldC, ne_eq, Int.reduceLE, Int.reduceLT, Int.reduceEq, Int.reduceNe, Int.reduceToNat, Int.cast_ofNat_Int, Nat.reduceMul, Nat.reduceLeDiff, reduceIte, Nat.reduceEqDiff, Nat.reduceAdd, ↓reduceIte, Try.vcT, B14]
      intro w15 p15
      simp -dsimp only [↓vcA, vcB, vcD, ↓pureT_lenS, ↓iteT, ↓iteF, cond_true, cond_false, eq_self, argE, Env.get, Env.push, ev, evs, evo, retV, Value.cells, Value.oneCell', setR, overR, fillL, zl, places, allSizes, heldC, ne_eq, Int.reduceLE, Int.reduceLT, Int.reduceEq, Int.reduceNe, Int.reduceToNat, Int.cast_ofNat_Int, Nat.reduceMul, Nat.reduceLeDiff, reduceIte, Nat.reduceEqDiff, Nat.reduceAdd, ↓reduceIte, Try.vcT, p15.cell, cellsAt]
      exact ⟨rfl, ((R13.mark p14).put p15 ub).q⟩
    | false =>
      rw [hbad] at hcb
      simp -dsimp only [↓vcA, vcB, vcD, ↓pureT_lenS, ↓iteT, ↓iteF, cond_true, cond_false, eq_self, argE, Env.get, Env.push, ev, evs, evo, retV, Value.cells, Value.oneCell', setR, overR, fillL, zl, places, allSizes, heldC, ne_eq, Int.reduceLE, Int.reduceLT, Int.reduceEq, Int.reduceNe, Int.reduceToNat, Int.cast_ofNat_Int, Nat.reduceMul, Nat.reduceLeDiff, reduceIte, Nat.reduceEqDiff, Nat.reduceAdd, ↓reduceIte, Try.vcT, hcb, cell_of_blkOf G13, cellsAt]
      refine callsK_new (validTri s.rtT w13) ?_
      intro w14 c14
      have R14 := R13.nil c14
      have B14 := chg_blk c14 B13
      have G14 := chg_blk c14 G13
      cases hv : s.rtT.valid with
      | false =>
        have ef : s.rtFail = true := by simp [R8.rtFail, hv]
        have e1 : s.rtriV = T3.zero := by simp [R8.rtriV, ef]
        have e2 : s.rtriS = ⟨s.rtS3.l, true⟩ := by simp [R8.rtriS, ef]
        rw [e1, e2]
        simp -dsimp only [↓vcA, vcB, vcD, ↓pureT_lenS, ↓iteT, ↓iteF, cond_true, cond_false, eq_self, argE, Env.get, Env.push, ev, evs, evo, retV, Value.cells, Value.oneCell', setR, overR, fillL, zl, places, allSizes, heldC, ne_eq, Int.reduceLE, Int.reduceLT, Int.reduceEq, Int.reduceNe, Int.reduceToNat, Int.cast_ofNat_Int, Nat.reduceMul, Nat.reduceLeDiff, reduceIte, Nat.reduceEqDiff, Nat.reduceAdd, ↓reduceIte, Try.vcT, R14.rd.bk]
        intro w15 p15
        have B15 := p15.chg.blkOf B14 nb
        simp -dsimp only [↓vcA, vcB, vcD, ↓pureT_lenS, ↓iteT, ↓iteF, cond_true, cond_false, eq_self, argE, Env.get, Env.push, ev, evs, evo, retV, Value.cells, Value.oneCell', setR, overR, fillL, zl, places, allSizes, heldC, ne_eq, Int.reduceLE, Int.reduceLT, Int.reduceEq, Int.reduceNe, Int.reduceToNat, Int.cast_ofNat_Int, Nat.reduceMul, Nat.reduceLeDiff, reduceIte, Nat.reduceEqDiff, Nat.reduceAdd, ↓reduceIte, Try.vcT, B15]
        intro w16 p16
        simp -dsimp only [↓vcA, vcB, vcD, ↓pureT_lenS, ↓iteT, ↓iteF, cond_true, cond_false, eq_self, argE, Env.get, Env.push, ev, evs, evo, retV, Value.cells, Value.oneCell', setR, overR, fillL, zl, places, allSizes, heldC, ne_eq, Int.reduceLE, Int.reduceLT, Int.reduceEq, Int.reduceNe, Int.reduceToNat, Int.cast_ofNat_Int, Nat.reduceMul, Nat.reduceLeDiff, reduceIte, Nat.reduceEqDiff, Nat.reduceAdd, ↓reduceIte, Try.vcT, p16.cell, cellsAt]
        exact ⟨rfl, ((R14.mark p15).put p16 ub).q⟩
      | true =>
        have ef : s.rtFail = false := by simp [R8.rtFail, hv, hbad]
        have e1 : s.rtriV = s.rtT := by simp [R8.rtriV, ef]
        have e2 : s.rtriS = s.rtS3 := by simp [R8.rtriS, ef]
        rw [e1, e2]
        simp -dsimp only [↓vcA, vcB, vcD, ↓pureT_lenS, ↓iteT, ↓iteF, cond_true, cond_false, eq_self, argE, Env.get, Env.push, ev, evs, evo, retV, Value.cells, Value.oneCell', setR, overR, fillL, zl, places, allSizes, heldC, ne_eq, Int.reduceLE, Int.reduceLT, Int.reduceEq, Int.reduceNe, Int.reduceToNat, Int.cast_ofNat_Int, Nat.reduceMul, Nat.reduceLeDiff, reduceIte, Nat.reduceEqDiff, Nat.reduceAdd, ↓reduceIte, Try.vcT, cell_of_blkOf G14, cellsAt, B14]
        intro w15 p15
        simp -dsimp only [↓vcA, vcB, vcD, ↓pureT_lenS, ↓iteT, ↓iteF, cond_true, cond_false, eq_self, argE, Env.get, Env.push, ev, evs, evo, retV, Value.cells, Value.oneCell', setR, overR, fillL, zl, places, allSizes, heldC, ne_eq, Int.reduceLE, Int.reduceLT, Int.reduceEq, Int.reduceNe, Int.reduceToNat, Int.cast_ofNat_Int, Nat.reduceMul, Nat.reduceLeDiff, reduceIte, Nat.reduceEqDiff, Nat.reduceAdd, ↓reduceIte, Try.vcT, p15.cell, cellsAt]
        exact ⟨rfl, (R14.put p15 ub).q⟩
end Go.Proofs.Ytnhgjgoglmadnaa
