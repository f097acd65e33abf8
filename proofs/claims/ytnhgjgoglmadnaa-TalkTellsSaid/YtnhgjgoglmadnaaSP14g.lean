/- Joined texts of this claim (part 7), printed by a program of this work. The last part holds the claimed theorem: the law answers true at every input of its row. -/
import Derived.Test.YtnhgjgoglmadnaaSP14f
namespace Go.Proofs.Ytnhgjgoglmadnaa
open Go.RowKit
set_option maxRecDepth 100000
set_option linter.unusedSimpArgs false
set_option linter.unusedVariables false
set_option pp.maxSteps 1500
set_option pp.deepTerms.threshold 8

structure RSt (t p : Nat) (w : World) (v : Value) (s : R8) (w' : World) (v' : Value) (s' : R8) : Prop where
  r0 : Rdr t w p v s
  rd : Rdr t w' p v' s'
  chg : Chg (fun k => k = p ∨ w.heap.size ≤ k) w w'
  sub : ∀ k, v'.ownBlock = some k → v.ownBlock = some k
  len : s'.l.length ≤ s.l.length
section
variable {t p : Nat} {w w' w'' : World} {v v' : Value} {s s' s'' : R8}
theorem RSt.start (h : Rdr t w p v s) : RSt t p w v s w v s := ⟨h, h, Chg.refl _ _, fun _ => id, Nat.le_refl _⟩
theorem RSt.nil (r : RSt t p w v s w' v' s') (c : Chg (fun _ => False) w' w'') : RSt t p w v s w'' v' s' :=
  ⟨r.r0, r.rd.chg c id (fun _ _ _ => id), r.chg.trans c fun _ f => f.elim, r.sub, r.len⟩
theorem RSt.put {b : Nat} {cs : List Value} {ty : TypeId} (r : RSt t p w v s w' v' s') (c : Put w' w'' b cs ty) (hb : w.heap.size ≤ b) : RSt t p w v s w'' v' s' := by
  have hp := lt_of_block r.r0.blk
  refine ⟨r.r0, r.rd.chg c.chg (by omega) fun hpos k hk e => ?_, r.chg.trans c.chg fun x hx => .inl (.inr (by omega)), r.sub, r.len⟩
  have := r.r0.lt (Nat.lt_of_lt_of_le hpos r.len) k (r.sub k hk)
  omega
theorem RSt.step (r : RSt t p w v s w' v' s') (h : RdQ t p w' v' s'' w'') (hl : s''.l.length ≤ s'.l.length) : ∃ v'', RSt t p w v s w'' v'' s'' := by
  obtain ⟨v2, h2, c2, b2⟩ := h
  exact ⟨v2, r.r0, h2, r.chg.trans c2 fun x hx => .inl (.inl hx), fun k hk => r.sub k (b2 k hk), Nat.le_trans hl r.len⟩
theorem RSt.mark (r : RSt t p w v s w' v' s') (c : Put w' w'' p [v', .bool true] t) : RSt t p w v s w'' v' ⟨s'.l, true⟩ := by
  obtain ⟨q1, q2⟩ := r.rd.put (s' := ⟨s'.l, true⟩) (Chg.refl _ _) c r.rd.rd (fun _ => id) (Nat.le_refl _)
  exact ⟨r.r0, q1, r.chg.trans q2 fun x hx => .inl (.inl hx), r.sub, r.len⟩
theorem RSt.q (r : RSt t p w v s w' v' s') : RdQ t p w v s' w' := ⟨v', r.rd, r.chg.mono' fun x hx hlt => hx.elim id fun h => by omega, r.sub⟩
theorem RSt.up {b : Nat} {cs : List Value} {ty : TypeId} (r : RSt t p w v s w' v' s') (n : New w' w'' b cs ty) : w.heap.size ≤ b := by have := r.chg.size; have := n.eq; omega
theorem RSt.ne {b : Nat} (r : RSt t p w v s w' v' s') (hb : w.heap.size ≤ b) : ¬ b = p := by have := lt_of_block r.r0.blk; omega
theorem RdQ.blk {b : Nat} {x : List Value × TypeId} (h : RdQ t p w v s' w') (hb : blkOf w b = some x) (hne : ¬ b = p) : blkOf w' b = some x := by
  obtain ⟨_, _, c, _⟩ := h
  exact c.blkOf hb hne
end

def R8.pre (s : R8) (k : Int) : R8 := if (s.l.length : Int) < k then ⟨s.l, true⟩ else s
theorem R8.pre_len (s : R8) (k : Int) : (s.pre k).l.length ≤ s.l.length := by unfold R8.pre; split <;> simp
def R8.rptS (s : R8) : R8 := ((s.pre 6).numS 3).numS 3
def R8.rptX (s : R8) : Int := (s.pre 6).numV 3
def R8.rptY (s : R8) : Int := ((s.pre 6).numS 3).numV 3
theorem R8.rptS_len (s : R8) : s.rptS.l.length ≤ s.l.length := Nat.le_trans (R8.numS_len _ _) (Nat.le_trans (R8.numS_len _ _) (s.pre_len 6))

theorem refRpoint (p : Nat) (v : Value) (s : R8) (w : World) (hw : Rdr 85 w p v s) (hl : s.l.length ≤ 10000000) :
    Calls Try.prog 53 [.pointer (some ⟨p, 0, none⟩)].toArray w (RetK fun r w' => r = .agg #[.int .i64 s.rptX, .int .i64 s.rptY] ∧ RdQ 85 p w v s.rptS w') := by
  obtain ⟨a, c, rfl, _⟩ := hw.rd
  refine walk Try.func53 rfl (by kernel_rfl) (by rw [Try.nt53]; simp) ?_
  simp -dsimp only [↓vcA, vcB, vcD, ↓pureT_lenS, ↓iteT, ↓iteF, cond_true, cond_false, eq_self, argE, Env.get, Env.push, ev, evs, evo, retV, Value.cells, Value.oneCell', setR, overR, fillL, zl, places, allSizes, heldC, ne_eq, Int.reduceLE, Int.reduceLT, Int.reduceEq, Int.reduceNe, Int.reduceToNat, Int.cast_ofNat_Int, Nat.reduceMul, Nat.reduceLeDiff, reduceIte, Nat.reduceEqDiff, Nat.reduceAdd, ↓reduceIte, Try.vcT]
  intro w1 b n1
  have R1 := (RSt.start hw).nil n1.chg
  have ub := (RSt.start hw).up n1
  have nb := R1.ne ub
  have B1 := n1.blkOf
  have hpl := s.pre_len 6
  by_cases h6 : (s.l.length : Int) < 6
  case' pos =>
    have e6 : s.pre 6 = ⟨s.l, true⟩ := by simp [R8.pre, h6]
    simp -dsimp only [↓vcA, vcB, vcD, ↓pureT_lenS, ↓iteT, ↓iteF, cond_true, cond_false, eq_self, argE, Env.get, Env.push, ev, evs, evo, retV, Value.cells, Value.oneCell', setR, overR, fillL, zl, places, allSizes, heldC, ne_eq, Int.reduceLE, Int.reduceLT, Int.reduceEq, Int.reduceNe, Int.reduceToNat, Int.cast_ofNat_Int, Nat.reduceMul, Nat.reduceLeDiff, reduceIte, Nat.reduceEqDiff, Nat.reduceAdd, ↓reduceIte, Try.vcT, R1.rd.c0, decide_eq_true h6, R1.rd.bk]
    intro w2 p2
    have R2 : RSt 85 p w (.slice a s.l.length c) s w2 (.slice a s.l.length c) (s.pre 6) := by rw [e6]; exact R1.mark p2
    have B2 := p2.chg.blkOf B1 nb
  case' neg =>
    have e6 : s.pre 6 = s := by simp [R8.pre, h6]
    simp -dsimp only [↓vcA, vcB, vcD, ↓pureT_lenS, ↓iteT, ↓iteF, cond_true, cond_false, eq_self, argE, Env.get, Env.push, ev, evs, evo, retV, Value.cells, Value.oneCell', setR, overR, fillL, zl, places, allSizes, heldC, ne_eq, Int.reduceLE, Int.reduceLT, Int.reduceEq, Int.reduceNe, Int.reduceToNat, Int.cast_ofNat_Int, Nat.reduceMul, Nat.reduceLeDiff, reduceIte, Nat.reduceEqDiff, Nat.reduceAdd, ↓reduceIte, Try.vcT, R1.rd.c0, decide_eq_false h6]
    have R2 : RSt 85 p w (.slice a s.l.length c) s w1 (.slice a s.l.length c) (s.pre 6) := by rw [e6]; exact R1
    have B2 := B1
  all_goals
    refine callsK_use (refRnum p _ (s.pre 6) 3 _ R2.rd (by omega)) ?_
    rintro _ w3 ⟨rfl, q3⟩
    obtain ⟨v3, R3⟩ := R2.step q3 (R8.numS_len _ _)
    have B3 := q3.blk B2 nb
    simp -dsimp only [↓vcA, vcB, vcD, ↓pureT_lenS, ↓iteT, ↓iteF, cond_true, cond_false, eq_self, argE, Env.get, Env.push, ev, evs, evo, retV, Value.cells, Value.oneCell', setR, overR, fillL, zl, places, allSizes, heldC, ne_eq, Int.reduceLE, Int.reduceLT, Int.reduceEq, Int.reduceNe, Int.reduceToNat, Int.cast_ofNat_Int, Nat.reduceMul, Nat.reduceLeDiff, reduceIte, Nat.reduceEqDiff, Nat.reduceAdd, ↓reduceIte, Try.vcT]
    refine callsK_use (refRnum p v3 _ 3 w3 R3.rd (Nat.le_trans (R8.numS_len _ _) (by omega))) ?_
    rintro _ w4 ⟨rfl, q4⟩
    obtain ⟨v4, R4⟩ := R3.step q4 (R8.numS_len _ _)
    have B4 := q4.blk B3 nb
    simp -dsimp only [↓vcA, vcB, vcD, ↓pureT_lenS, ↓iteT, ↓iteF, cond_true, cond_false, eq_self, argE, Env.get, Env.push, ev, evs, evo, retV, Value.cells, Value.oneCell', setR, overR, fillL, zl, places, allSizes, heldC, ne_eq, Int.reduceLE, Int.reduceLT, Int.reduceEq, Int.reduceNe, Int.reduceToNat, Int.cast_ofNat_Int, Nat.reduceMul, Nat.reduceLeDiff, reduceIte, Nat.reduceEqDiff, Nat.reduceAdd, ↓reduceIte, Try.vcT, B4]
    intro w5 p5
    simp -dsimp only [↓vcA, vcB, vcD, ↓pureT_lenS, ↓iteT, ↓iteF, cond_true, cond_false, eq_self, argE, Env.get, Env.push, ev, evs, evo, retV, Value.cells, Value.oneCell', setR, overR, fillL, zl, places, allSizes, heldC, ne_eq, Int.reduceLE, Int.reduceLT, Int.reduceEq, Int.reduceNe, Int.reduceToNat, Int.cast_ofNat_Int, Nat.reduceMul, Nat.reduceLeDiff, reduceIte, Nat.reduceEqDiff, Nat.reduceAdd, ↓reduceIte, Try.vcT, p5.cell, cellsAt]
    exact ⟨rfl, (R4.put p5 ub).q⟩

def R8.rtS3 (s : R8) : R8 := (s.pre 18).rptS.rptS.rptS
def R8.rtT (s : R8) : T3 := ⟨(s.pre 18).rptX, (s.pre 18).rptY, (s.pre 18).rptS.rptX, (s.pre 18).rptS.rptY, (s.pre 18).rptS.rptS.rptX, (s.pre 18).rptS.rptS.rptY⟩
def T3.zero : T3 := ⟨0, 0, 0, 0, 0, 0⟩
def R8.rtFail (s : R8) : Bool := s.rtS3.bad || !s.rtT.valid
def R8.rtriS (s : R8) : R8 := if s.rtFail then ⟨s.rtS3.l, true⟩ else s.rtS3
def R8.rtriV (s : R8) : T3 := if s.rtFail then T3.zero else s.rtT
theorem R8.rtS3_len (s : R8) : s.rtS3.l.length ≤ s.l.length := Nat.le_trans (R8.rptS_len _) (Nat.le_trans (R8.rptS_len _) (Nat.le_trans (R8.rptS_len _) (s.pre_len 18)))

set_option maxHeartbeats 1000000 in
theorem refRtri (p : Nat) (v : Value) (s : R8) (w : World) (hw : Rdr 85 w p v s) (hl : s.l.length ≤ 10000000) :
    Calls Try.prog 54 [.pointer (some ⟨p, 0, none⟩)].toArray w (RetK fun r w' => r = .agg s.rtriV.cells.toArray ∧ RdQ 85 p w v s.rtriS w') := by
  obtain ⟨a, c, rfl, _⟩ := hw.rd
  refine walk Try.func54 rfl (by kernel_rfl) (by rw [Try.nt54]; simp) ?_
  simp -dsimp only [↓vcA, vcB, vcD, ↓pureT_lenS, ↓iteT, ↓iteF, cond_true, cond_false, eq_self, argE, Env.get, Env.push, ev, evs, evo, retV, Value.cells, Value.oneCell', setR, overR, fillL, zl, places, allSizes, heldC, ne_eq, Int.reduceLE, Int.reduceLT, Int.reduceEq, Int.reduceNe, Int.reduceToNat, Int.cast_ofNat_Int, Nat.reduceMul, Nat.reduceLeDiff, reduceIte, Nat.reduceEqDiff, Nat.reduceAdd, ↓reduceIte, Try.vcT]
  intro w1 b n1
  have R1 := (RSt.start hw).nil n1.chg
  have ub := (RSt.start hw).up n1
  have nb := R1.ne ub
  have B1 := n1.blkOf
  have hpl := s.pre_len 18
  by_cases h6 : (s.l.length : Int) < 18
  case' pos =>
    have e6 : s.pre 18 = ⟨s.l, true⟩ := by simp [R8.pre, h6]
    simp -dsimp only [↓vcA, vcB, vcD, ↓pureT_lenS, ↓iteT, ↓iteF, cond_true, cond_false, eq_self, argE, Env.get, Env.push, ev, evs, evo, retV, Value.cells, Value.oneCell', setR, overR, fillL, zl, places, allSizes, heldC, ne_eq, Int.reduceLE, Int.reduceLT, Int.reduceEq, Int.reduceNe, Int.reduceToNat, Int.cast_ofNat_Int, Nat.reduceMul, Nat.reduceLeDiff, reduceIte, Nat.reduceEqDiff, Nat.reduceAdd, ↓reduceIte, Try.vcT, R1.rd.c0, decide_eq_true h6, R1.rd.bk]
    intro w2 p2
    have R2 : RSt 85 p w (.slice a s.l.length c) s w2 (.slice a s.l.length c) (s.pre 18) := by rw [e6]; exact R1.mark p2
    have B2 := p2.chg.blkOf B1 nb
  case' neg =>
    have e6 : s.pre 18 = s := by simp [R8.pre, h6]
    simp -dsimp only [↓vcA, vcB, vcD, ↓pureT_lenS, ↓iteT, ↓iteF, cond_true, cond_false, eq_self, argE, Env.get, Env.push, ev, evs, evo, retV, Value.cells, Value.oneCell', setR, overR, fillL, zl, places, allSizes, heldC, ne_eq, Int.reduceLE, Int.reduceLT, Int.reduceEq, Int.reduceNe, Int.reduceToNat, Int.cast_ofNat_Int, Nat.reduceMul, Nat.reduceLeDiff, reduceIte, Nat.reduceEqDiff, Nat.reduceAdd, ↓reduceIte, Try.vcT, R1.rd.c0, decide_eq_false h6]
    have R2 : RSt 85 p w (.slice a s.l.length c) s w1 (.slice a s.l.length c) (s.pre 18) := by rw [e6]; exact R1
    have B2 := B1
  all_goals
    have lb2 := lt_of_blkOf B2
    refine callsK_use (refRpoint p _ (s.pre 18) _ R2.rd (by omega)) ?_
    rintro _ w3 ⟨rfl, q3⟩
    obtain ⟨v3, R3⟩ := R2.step q3 (R8.rptS_len _)
    have B3 := q3.blk B2 nb
    have lb3 := lt_of_blkOf B3
    simp -dsimp only [↓vcA, vcB, vcD, ↓pureT_lenS, ↓iteT, ↓iteF, cond_true, cond_false, eq_self, argE, Env.get, Env.push, ev, evs, evo, retV, Value.cells, Value.oneCell', setR, overR, fillL, zl, places, allSizes, heldC, ne_eq, Int.reduceLE, Int.reduceLT, Int.reduceEq, Int.reduceNe, Int.reduceToNat, Int.cast_ofNat_Int, Nat.reduceMul, Nat.reduceLeDiff, reduceIte, Nat.reduceEqDiff, Nat.reduceAdd, ↓reduceIte, Try.vcT]
    intro w4 b4 n4
    have u4 := R3.up n4
    have R4 := R3.nil n4.chg
    have B4 := chg_blk n4.chg B3
    have m4 : b < b4 := by have := n4.eq; omega
    simp -dsimp only [↓vcA, vcB, vcD, ↓pureT_lenS, ↓iteT, ↓iteF, cond_true, cond_false, eq_self, argE, Env.get, Env.push, ev, evs, evo, retV, Value.cells, Value.oneCell', setR, overR, fillL, zl, places, allSizes, heldC, ne_eq, Int.reduceLE, Int.reduceLT, Int.reduceEq, Int.reduceNe, Int.reduceToNat, Int.cast_ofNat_Int, Nat.reduceMul, Nat.reduceLeDiff, reduceIte, Nat.reduceEqDiff, Nat.reduceAdd, ↓reduceIte, Try.vcT, n4.blkOf]
    intro w5 p5
    have R5 := R4.put p5 u4
    have B5 := p5.chg.blkOf B4 (by omega)
    have C5 := p5.blkOf
    have lb5 := lt_of_blkOf C5
    try simp -dsimp only [↓vcA, vcB, vcD, ↓pureT_lenS, ↓iteT, ↓iteF, cond_true, cond_false, eq_self, argE, Env.get, Env.push, ev, evs, evo, retV, Value.cells, Value.oneCell', setR, overR, fillL, zl, places, allSizes, heldC, ne_eq, Int.reduceLE, Int.reduceLT, Int.reduceEq, Int.reduceNe, Int.reduceToNat, Int.cast_ofNat_Int, Nat.reduceMul, Nat.reduceLeDiff, reduceIte, Nat.reduceEqDiff, Nat.reduceAdd, ↓reduceIte, Try.vcT]
    refine callsK_use (refRpoint p v3 _ w5 R5.rd (Nat.le_trans (R8.rptS_len _) (by omega))) ?_
    rintro _ w6 ⟨rfl, q6⟩
    obtain ⟨v6, R6⟩ := R5.step q6 (R8.rptS_len _)
    have B6 := q6.blk B5 nb
    have C6 := q6.blk C5 (R5.ne u4)
    have lb6 := lt_of_blkOf C6
    simp -dsimp only [↓vcA, vcB, vcD, ↓pureT_lenS, ↓iteT, ↓iteF, cond_true, cond_false, eq_self, argE, Env.get, Env.push, ev, evs, evo, retV, Value.cells, Value.oneCell', setR, overR, fillL, zl, places, allSizes, heldC, ne_eq, Int.reduceLE, Int.reduceLT, Int.reduceEq, Int.reduceNe, Int.reduceToNat, Int.cast_ofNat_Int, Nat.reduceMul, Nat.reduceLeDiff, reduceIte, Nat.reduceEqDiff, Nat.reduceAdd, ↓reduceIte, Try.vcT]
    intro w7 b7 n7
    have u7 := R6.up n7
    have R7 := R6.nil n7.chg
    have m7 : b4 < b7 := by have := n7.eq; omega
    simp -dsimp only [↓vcA, vcB, vcD, ↓pureT_lenS, ↓iteT, ↓iteF, cond_true, cond_false, eq_self, argE, Env.get, Env.push, ev, evs, evo, retV, Value.cells, Value.oneCell', setR, overR, fillL, zl, places, allSizes, heldC, ne_eq, Int.reduceLE, Int.reduceLT, Int.reduceEq, Int.reduceNe, Int.reduceToNat, Int.cast_ofNat_Int, Nat.reduceMul, Nat.reduceLeDiff, reduceIte, Nat.reduceEqDiff, Nat.reduceAdd, ↓reduceIte, Try.vcT, n7.blkOf]
    intro w8 p8
    have R8' := R7.put p8 u7
    have B8 := p8.chg.blkOf (chg_blk n7.chg B6) (by omega)
    have C8 := p8.chg.blkOf (chg_blk n7.chg C6) (by omega)
    have D8 := p8.blkOf
    have lb8 := lt_of_blkOf D8
    try simp -dsimp only [↓vcA, vcB, vcD, ↓pureT_lenS, ↓iteT, ↓iteF, cond_true, cond_false, eq_self, argE, Env.get, Env.push, ev, evs, evo, retV, Value.cells, Value.oneCell', setR, overR, fillL, zl, places, allSizes, heldC, ne_eq, Int.reduceLE, Int.reduceLT, Int.reduceEq, Int.reduceNe, Int.reduceToNat, Int.cast_ofNat_Int, Nat.reduceMul, Nat.reduceLeDiff, reduceIte, Nat.reduceEqDiff, Nat.reduceAdd, ↓reduceIte, Try.vcT]
    refine callsK_use (refRpoint p v6 _ w8 R8'.rd (Nat.le_trans (R8.rptS_len _) (Nat.le_trans (R8.rptS_len _) (by omega)))) ?_
    rintro _ w9 ⟨rfl, q9⟩
    obtain ⟨v9, R9⟩ := R8'.step q9 (R8.rptS_len _)
    have B9 := q9.blk B8 nb
    have C9 := q9.blk C8 (R8'.ne u4)
    have D9 := q9.blk D8 (R8'.ne u7)
    have lb9 := lt_of_blkOf D9
    simp -dsimp only [↓vcA, vcB, vcD, ↓pureT_lenS, ↓iteT, ↓iteF, cond_true, cond_false, eq_self, argE, Env.get, Env.push, ev, evs, evo, retV, Value.cells, Value.oneCell', setR, overR, fillL, zl, places, allSizes, heldC, ne_eq, Int.reduceLE, Int.reduceLT, Int.reduceEq, Int.reduceNe, Int.reduceToNat, Int.cast_ofNat_Int, Nat.reduceMul, Nat.reduceLeDiff, reduceIte, Nat.reduceEqDiff, Nat.reduceAdd, ↓reduceIte, Try.vcT]
    intro w10 b10 n10
    have u10 := R9.up n10
    have R10 := R9.nil n10.chg
    have m10 : b7 < b10 := by have := n10.eq; omega
    simp -dsimp only [↓vcA, vcB, vcD, ↓pureT_lenS, ↓iteT, ↓iteF, cond_true, cond_false, eq_self, argE, Env.get, Env.push, ev, evs, evo, retV, Value.cells, Value.oneCell', setR, overR, fillL, zl, places, allSizes, heldC, ne_eq, Int.reduceLE, Int.reduceLT, Int.reduceEq, Int.reduceNe, Int.reduceToNat, Int.cast_ofNat_Int, Nat.reduceMul, Nat.reduceLeDiff, reduceIte, Nat.reduceEqDiff, Nat.reduceAdd, ↓reduceIte, Try.vcT, n10.blkOf]
    intro w11 p11
    have R11 := R10.put p11 u10
    have B11 := p11.chg.blkOf (chg_blk n10.chg B9) (by omega)
    have C11 := p11.chg.blkOf (chg_blk n10.chg C9) (by omega)
    have D11 := p11.chg.blkOf (chg_blk n10.chg D9) (by omega)
    have E11 := p11.blkOf
    try simp -dsimp only [↓vcA, vcB, vcD, ↓pureT_lenS, ↓iteT, ↓iteF, cond_true, cond_false, eq_self, argE, Env.get, Env.push, ev, evs, evo, retV, Value.cells, Value.oneCell', setR, overR, fillL, zl, places, allSizes, heldC, ne_eq, Int.reduceLE, Int.reduceLT, Int.reduceEq, Int.reduceNe, Int.reduceToNat, Int.cast_ofNat_Int, Nat.reduceMul, Nat.reduceLeDiff, reduceIte, Nat.reduceEqDiff, Nat.reduceAdd, ↓reduceIte, Try.vcT, cell_of_blkOf C11, cell_of_blkOf D11, cell_of_blkOf E11, cellsAt]
    intro w12 b12 n12
    have u12 := R11.up n12
    have R12 := R11.nil n12.chg
    have lb11 := lt_of_blkOf E11
    have m12 : b10 < b12 := by have := n12.eq; omega
    have B12 := chg_blk n12.chg B11
    simp -dsimp only [↓vcA, vcB, vcD, ↓pureT_lenS, ↓iteT, ↓iteF, cond_true, cond_false, eq_self, argE, Env.get, Env.push, ev, evs, evo, retV, Value.cells, Value.oneCell', setR, overR, fillL, zl, places, allSizes, heldC, ne_eq, Int.reduceLE, Int.reduceLT, Int.reduceEq, Int.reduceNe, Int.reduceToNat, Int.cast_ofNat_Int, Nat.reduceMul, Nat.reduceLeDiff, reduceIte, Nat.reduceEqDiff, Nat.reduceAdd, ↓reduceIte, Try.vcT, n12.blkOf]
    intro w13 p13
    have R13 := R12.put p13 u12
    have B13 := p13.chg.blkOf B12 (by omega)
    have G13 := p13.blkOf
    have hcb := R13.rd.c1
    have hS : s.rtS3 = (s.pre 18).rptS.rptS.rptS := rfl
    rw [← hS] at hcb
    cases hbad : s.rtS3.bad with
    | true =>
      rw [hbad] at hcb
      have ef : s.rtFail = true := by simp [R8.rtFail, hbad]
      have e1 : s.rtriV = T3.zero := by simp [R8.rtriV, ef]
      have e2 : s.rtriS = ⟨s.rtS3.l, true⟩ := by simp [R8.rtriS, ef]
      rw [e1, e2]
      simp -dsimp only [↓vcA, vcB, vcD, ↓pureT_lenS, ↓iteT, ↓iteF, cond_true, cond_false, eq_self, argE, Env.get, Env.push, ev, evs, evo, retV, Value.cells, Value.oneCell', setR, overR, fillL, zl, places, allSizes, heldC, ne_eq, Int.reduceLE, Int.reduceLT, Int.reduceEq, Int.reduceNe, Int.reduceToNat, Int.cast_ofNat_Int, Nat.reduceMul, Nat.reduceLeDiff, reduceIte, Nat.reduceEqDiff, Nat.reduceAdd, ↓reduceIte, Try.vcT, hcb, R13.rd.bk]
      intro w14 p14
      have B14 := p14.chg.blkOf B13 nb
      simp -dsimp only [↓vcA, vcB, vcD, ↓pureT_lenS, ↓iteT, ↓iteF, cond_true, cond_false, eq_self, argE, Env.get, Env.push, ev, evs, evo, retV, Value.cells, Value.oneCell', setR, overR, fillL, zl, places, allSizes, heldC, ne_eq, Int.reduceLE, Int.reduceLT, Int.reduceEq, Int.reduceNe, Int.reduceToNat, Int.cast_ofNat_Int, Nat.reduceMul, Nat.reduceLeDiff, reduceIte, Nat.reduceEqDiff, Nat.reduceAdd, ↓reduceIte, Try.vcT, B14]
      intro w15 p15
      simp -dsimp only [↓vcA, vcB, vcD, ↓pureT_lenS, ↓iteT, ↓iteF, cond_true, cond_false, eq_self, argE, Env.get, Env.push, ev, evs, evo, retV, Value.cells, Value.oneCell', setR, overR, fillL, zl, places, allSizes, heldC, ne_eq, Int.reduceLE, Int.reduceLT, Int.reduceEq, Int.reduceNe, Int.reduceToNat, Int.cast_ofNat_Int, Nat.reduceMul, Nat.reduceLeDiff, reduceIte, Nat.reduceEqDiff, Nat.reduceAdd, ↓reduceIte, Try.vcT, p15.cell, cellsAt]
      exact ⟨rfl, ((R13.mark p14).put p15 ub).q⟩
    | false =>
      rw [hbad] at hcb
      simp -dsimp only [↓vcA, vcB, vcD, ↓pureT_lenS, ↓iteT, ↓iteF, cond_true, cond_false, eq_self, argE, Env.get, Env.push, ev, evs, evo, retV, Value.cells, Value.oneCell', setR, overR, fillL, zl, places, allSizes, heldC, ne_eq, Int.reduceLE, Int.reduceLT, Int.reduceEq, Int.reduceNe, Int.reduceToNat, Int.cast_ofNat_Int, Nat.reduceMul, Nat.reduceLeDiff, reduceIte, Nat.reduceEqDiff, Nat.reduceAdd, ↓reduceIte, Try.vcT, hcb, cell_of_blkOf G13, cellsAt]
      refine callsK_new (validTri s.rtT w13) ?_
      intro w14 c14
      have R14 := R13.nil c14
      have B14 := chg_blk c14 B13
      have G14 := chg_blk c14 G13
      cases hv : s.rtT.valid with
      | false =>
        have ef : s.rtFail = true := by simp [R8.rtFail, hv]
        have e1 : s.rtriV = T3.zero := by simp [R8.rtriV, ef]
        have e2 : s.rtriS = ⟨s.rtS3.l, true⟩ := by simp [R8.rtriS, ef]
        rw [e1, e2]
        simp -dsimp only [↓vcA, vcB, vcD, ↓pureT_lenS, ↓iteT, ↓iteF, cond_true, cond_false, eq_self, argE, Env.get, Env.push, ev, evs, evo, retV, Value.cells, Value.oneCell', setR, overR, fillL, zl, places, allSizes, heldC, ne_eq, Int.reduceLE, Int.reduceLT, Int.reduceEq, Int.reduceNe, Int.reduceToNat, Int.cast_ofNat_Int, Nat.reduceMul, Nat.reduceLeDiff, reduceIte, Nat.reduceEqDiff, Nat.reduceAdd, ↓reduceIte, Try.vcT, R14.rd.bk]
        intro w15 p15
        have B15 := p15.chg.blkOf B14 nb
        simp -dsimp only [↓vcA, vcB, vcD, ↓pureT_lenS, ↓iteT, ↓iteF, cond_true, cond_false, eq_self, argE, Env.get, Env.push, ev, evs, evo, retV, Value.cells, Value.oneCell', setR, overR, fillL, zl, places, allSizes, heldC, ne_eq, Int.reduceLE, Int.reduceLT, Int.reduceEq, Int.reduceNe, Int.reduceToNat, Int.cast_ofNat_Int, Nat.reduceMul, Nat.reduceLeDiff, reduceIte, Nat.reduceEqDiff, Nat.reduceAdd, ↓reduceIte, Try.vcT, B15]
        intro w16 p16
        simp -dsimp only [↓vcA, vcB, vcD, ↓pureT_lenS, ↓iteT, ↓iteF, cond_true, cond_false, eq_self, argE, Env.get, Env.push, ev, evs, evo, retV, Value.cells, Value.oneCell', setR, overR, fillL, zl, places, allSizes, heldC, ne_eq, Int.reduceLE, Int.reduceLT, Int.reduceEq, Int.reduceNe, Int.reduceToNat, Int.cast_ofNat_Int, Nat.reduceMul, Nat.reduceLeDiff, reduceIte, Nat.reduceEqDiff, Nat.reduceAdd, ↓reduceIte, Try.vcT, p16.cell, cellsAt]
        exact ⟨rfl, ((R14.mark p15).put p16 ub).q⟩
      | true =>
        have ef : s.rtFail = false := by simp [R8.rtFail, hv, hbad]
        have e1 : s.rtriV = s.rtT := by simp [R8.rtriV, ef]
        have e2 : s.rtriS = s.rtS3 := by simp [R8.rtriS, ef]
        rw [e1, e2]
        simp -dsimp only [↓vcA, vcB, vcD, ↓pureT_lenS, ↓iteT, ↓iteF, cond_true, cond_false, eq_self, argE, Env.get, Env.push, ev, evs, evo, retV, Value.cells, Value.oneCell', setR, overR, fillL, zl, places, allSizes, heldC, ne_eq, Int.reduceLE, Int.reduceLT, Int.reduceEq, Int.reduceNe, Int.reduceToNat, Int.cast_ofNat_Int, Nat.reduceMul, Nat.reduceLeDiff, reduceIte, Nat.reduceEqDiff, Nat.reduceAdd, ↓reduceIte, Try.vcT, cell_of_blkOf G14, cellsAt, B14]
        intro w15 p15
        simp -dsimp only [↓vcA, vcB, vcD, ↓pureT_lenS, ↓iteT, ↓iteF, cond_true, cond_false, eq_self, argE, Env.get, Env.push, ev, evs, evo, retV, Value.cells, Value.oneCell', setR, overR, fillL, zl, places, allSizes, heldC, ne_eq, Int.reduceLE, Int.reduceLT, Int.reduceEq, Int.reduceNe, Int.reduceToNat, Int.cast_ofNat_Int, Nat.reduceMul, Nat.reduceLeDiff, reduceIte, Nat.reduceEqDiff, Nat.reduceAdd, ↓reduceIte, Try.vcT, p15.cell, cellsAt]
        exact ⟨rfl, (R14.put p15 ub).q⟩
end Go.Proofs.Ytnhgjgoglmadnaa
namespace Go.Proofs.Ytnhgjgoglmadnaa
open Go.RowKit
set_option maxRecDepth 100000
set_option linter.unusedSimpArgs false
set_option linter.unusedVariables false
set_option pp.maxSteps 1500
set_option pp.deepTerms.threshold 8

def R8.tS3 (s : R8) : R8 := s.ptS.ptS.ptS
def R8.tT (s : R8) : T3 := ⟨s.ptV.1, s.ptV.2, s.ptS.ptV.1, s.ptS.ptV.2, s.ptS.ptS.ptV.1, s.ptS.ptS.ptV.2⟩
def R8.triS (s : R8) : R8 := if s.tS3.bad then s.tS3 else if s.tT.valid then s.tS3 else ⟨s.tS3.l, true⟩
def R8.triV (s : R8) : T3 := if s.tS3.bad then T3.zero else if s.tT.valid then s.tT else T3.zero
theorem R8.tS3_len (s : R8) : s.tS3.l.length ≤ s.l.length := Nat.le_trans (R8.ptS_len _) (Nat.le_trans (R8.ptS_len _) (R8.ptS_len _))
theorem rtri (p : Nat) (v : Value) (s : R8) (w : World) (hw : Rdr 134 w p v s) (hl : s.l.length ≤ 10000000) :
    Calls Try.prog 50 [.pointer (some ⟨p, 0, none⟩)].toArray w (RetK fun r w' => r = .agg s.triV.cells.toArray ∧ RdQ 134 p w v s.triS w') := by
  refine walk Try.func50 rfl (by kernel_rfl) (by rw [Try.nt50]; simp) ?_
  simp -dsimp only [↓vcA, vcB, vcD, ↓pureT_lenS, ↓iteT, ↓iteF, cond_true, cond_false, eq_self, argE, Env.get, Env.push, ev, evs, evo, retV, Value.cells, Value.oneCell', setR, overR, fillL, zl, places, allSizes, heldC, ne_eq, Int.reduceLE, Int.reduceLT, Int.reduceEq, Int.reduceNe, Int.reduceToNat, Int.cast_ofNat_Int, Nat.reduceMul, Nat.reduceLeDiff, reduceIte, Nat.reduceEqDiff, Nat.reduceAdd, ↓reduceIte, Try.vcT]
  intro w1 b n1
  have R1 := (RSt.start hw).nil n1.chg
  have ub := (RSt.start hw).up n1
  have nb := R1.ne ub
  have B1 := n1.blkOf
  refine callsK_use (rpoint p v s w1 R1.rd hl) ?_
  rintro _ w2 ⟨rfl, q2⟩
  obtain ⟨v2, R2⟩ := R1.step q2 (R8.ptS_len _)
  have B2 := q2.blk B1 nb
  simp -dsimp only [↓vcA, vcB, vcD, ↓pureT_lenS, ↓iteT, ↓iteF, cond_true, cond_false, eq_self, argE, Env.get, Env.push, ev, evs, evo, retV, Value.cells, Value.oneCell', setR, overR, fillL, zl, places, allSizes, heldC, ne_eq, Int.reduceLE, Int.reduceLT, Int.reduceEq, Int.reduceNe, Int.reduceToNat, Int.cast_ofNat_Int, Nat.reduceMul, Nat.reduceLeDiff, reduceIte, Nat.reduceEqDiff, Nat.reduceAdd, ↓reduceIte, Try.vcT]
  refine callsK_use (rpoint p v2 _ w2 R2.rd (Nat.le_trans (R8.ptS_len _) hl)) ?_
  rintro _ w3 ⟨rfl, q3⟩
  obtain ⟨v3, R3⟩ := R2.step q3 (R8.ptS_len _)
  have B3 := q3.blk B2 nb
  simp -dsimp only [↓vcA, vcB, vcD, ↓pureT_lenS, ↓iteT, ↓iteF, cond_true, cond_false, eq_self, argE, Env.get, Env.push, ev, evs, evo, retV, Value.cells, Value.oneCell', setR, overR, fillL, zl, places, allSizes, heldC, ne_eq, Int.reduceLE, Int.reduceLT, Int.reduceEq, Int.reduceNe, Int.reduceToNat, Int.cast_ofNat_Int, Nat.reduceMul, Nat.reduceLeDiff, reduceIte, Nat.reduceEqDiff, Nat.reduceAdd, ↓reduceIte, Try.vcT]
  refine callsK_use (rpoint p v3 _ w3 R3.rd (Nat.le_trans (R8.ptS_len _) (Nat.le_trans (R8.ptS_len _) hl))) ?_
  rintro _ w4 ⟨rfl, q4⟩
  obtain ⟨v4, R4⟩ := R3.step q4 (R8.ptS_len _)
  have B4 := q4.blk B3 nb
  have lb4 := lt_of_blkOf B4
  simp -dsimp only [↓vcA, vcB, vcD, ↓pureT_lenS, ↓iteT, ↓iteF, cond_true, cond_false, eq_self, argE, Env.get, Env.push, ev, evs, evo, retV, Value.cells, Value.oneCell', setR, overR, fillL, zl, places, allSizes, heldC, ne_eq, Int.reduceLE, Int.reduceLT, Int.reduceEq, Int.reduceNe, Int.reduceToNat, Int.cast_ofNat_Int, Nat.reduceMul, Nat.reduceLeDiff, reduceIte, Nat.reduceEqDiff, Nat.reduceAdd, ↓reduceIte, Try.vcT]
  intro w5 b5 n5
  have u5 := R4.up n5
  have R5 := R4.nil n5.chg
  have m5 : b < b5 := by have := n5.eq; omega
  simp -dsimp only [↓vcA, vcB, vcD, ↓pureT_lenS, ↓iteT, ↓iteF, cond_true, cond_false, eq_self, argE, Env.get, Env.push, ev, evs, evo, retV, Value.cells, Value.oneCell', setR, overR, fillL, zl, places, allSizes, heldC, ne_eq, Int.reduceLE, Int.reduceLT, Int.reduceEq, Int.reduceNe, Int.reduceToNat, Int.cast_ofNat_Int, Nat.reduceMul, Nat.reduceLeDiff, reduceIte, Nat.reduceEqDiff, Nat.reduceAdd, ↓reduceIte, Try.vcT, n5.blkOf]
  intro w6 p6
  have R6 := R5.put p6 u5
  have B6 := p6.chg.blkOf (chg_blk n5.chg B4) (by omega)
  have C6 := p6.blkOf
  have hcb := R6.rd.c1
  have hS : s.tS3 = s.ptS.ptS.ptS := rfl
  rw [← hS] at hcb
  cases hbad : s.tS3.bad with
  | true =>
    rw [hbad] at hcb
    have e1 : s.triV = T3.zero := by simp [R8.triV, hbad]
    have e2 : s.triS = s.tS3 := by simp [R8.triS, hbad]
    rw [e1, e2]
    simp -dsimp only [↓vcA, vcB, vcD, ↓pureT_lenS, ↓iteT, ↓iteF, cond_true, cond_false, eq_self, argE, Env.get, Env.push, ev, evs, evo, retV, Value.cells, Value.oneCell', setR, overR, fillL, zl, places, allSizes, heldC, ne_eq, Int.reduceLE, Int.reduceLT, Int.reduceEq, Int.reduceNe, Int.reduceToNat, Int.cast_ofNat_Int, Nat.reduceMul, Nat.reduceLeDiff, reduceIte, Nat.reduceEqDiff, Nat.reduceAdd, ↓reduceIte, Try.vcT, hcb, B6]
    intro w7 p7
    simp -dsimp only [↓vcA, vcB, vcD, ↓pureT_lenS, ↓iteT, ↓iteF, cond_true, cond_false, eq_self, argE, Env.get, Env.push, ev, evs, evo, retV, Value.cells, Value.oneCell', setR, overR, fillL, zl, places, allSizes, heldC, ne_eq, Int.reduceLE, Int.reduceLT, Int.reduceEq, Int.reduceNe, Int.reduceToNat, Int.cast_ofNat_Int, Nat.reduceMul, Nat.reduceLeDiff, reduceIte, Nat.reduceEqDiff, Nat.reduceAdd, ↓reduceIte, Try.vcT, p7.cell, cellsAt]
    exact ⟨rfl, (R6.put p7 ub).q⟩
  | false =>
    rw [hbad] at hcb
    simp -dsimp only [↓vcA, vcB, vcD, ↓pureT_lenS, ↓iteT, ↓iteF, cond_true, cond_false, eq_self, argE, Env.get, Env.push, ev, evs, evo, retV, Value.cells, Value.oneCell', setR, overR, fillL, zl, places, allSizes, heldC, ne_eq, Int.reduceLE, Int.reduceLT, Int.reduceEq, Int.reduceNe, Int.reduceToNat, Int.cast_ofNat_Int, Nat.reduceMul, Nat.reduceLeDiff, reduceIte, Nat.reduceEqDiff, Nat.reduceAdd, ↓reduceIte, Try.vcT, hcb, cell_of_blkOf C6, cellsAt]
    refine callsK_new (valid79 s.tT w6) ?_
    intro w7 c7
    have R7 := R6.nil c7
    have B7 := chg_blk c7 B6
    have C7 := chg_blk c7 C6
    cases hv : s.tT.valid with
    | false =>
      have e1 : s.triV = T3.zero := by simp [R8.triV, hbad, hv]
      have e2 : s.triS = ⟨s.tS3.l, true⟩ := by simp [R8.triS, hbad, hv]
      rw [e1, e2]
      simp -dsimp only [↓vcA, vcB, vcD, ↓pureT_lenS, ↓iteT, ↓iteF, cond_true, cond_false, eq_self, argE, Env.get, Env.push, ev, evs, evo, retV, Value.cells, Value.oneCell', setR, overR, fillL, zl, places, allSizes, heldC, ne_eq, Int.reduceLE, Int.reduceLT, Int.reduceEq, Int.reduceNe, Int.reduceToNat, Int.cast_ofNat_Int, Nat.reduceMul, Nat.reduceLeDiff, reduceIte, Nat.reduceEqDiff, Nat.reduceAdd, ↓reduceIte, Try.vcT, R7.rd.bk]
      intro w8 p8
      have B8 := p8.chg.blkOf B7 nb
      simp -dsimp only [↓vcA, vcB, vcD, ↓pureT_lenS, ↓iteT, ↓iteF, cond_true, cond_false, eq_self, argE, Env.get, Env.push, ev, evs, evo, retV, Value.cells, Value.oneCell', setR, overR, fillL, zl, places, allSizes, heldC, ne_eq, Int.reduceLE, Int.reduceLT, Int.reduceEq, Int.reduceNe, Int.reduceToNat, Int.cast_ofNat_Int, Nat.reduceMul, Nat.reduceLeDiff, reduceIte, Nat.reduceEqDiff, Nat.reduceAdd, ↓reduceIte, Try.vcT, B8]
      intro w9 p9
      simp -dsimp only [↓vcA, vcB, vcD, ↓pureT_lenS, ↓iteT, ↓iteF, cond_true, cond_false, eq_self, argE, Env.get, Env.push, ev, evs, evo, retV, Value.cells, Value.oneCell', setR, overR, fillL, zl, places, allSizes, heldC, ne_eq, Int.reduceLE, Int.reduceLT, Int.reduceEq, Int.reduceNe, Int.reduceToNat, Int.cast_ofNat_Int, Nat.reduceMul, Nat.reduceLeDiff, reduceIte, Nat.reduceEqDiff, Nat.reduceAdd, ↓reduceIte, Try.vcT, p9.cell, cellsAt]
      exact ⟨rfl, ((R7.mark p8).put p9 ub).q⟩
    | true =>
      have e1 : s.triV = s.tT := by simp [R8.triV, hbad, hv]
      have e2 : s.triS = s.tS3 := by simp [R8.triS, hbad, hv]
      rw [e1, e2]
      simp -dsimp only [↓vcA, vcB, vcD, ↓pureT_lenS, ↓iteT, ↓iteF, cond_true, cond_false, eq_self, argE, Env.get, Env.push, ev, evs, evo, retV, Value.cells, Value.oneCell', setR, overR, fillL, zl, places, allSizes, heldC, ne_eq, Int.reduceLE, Int.reduceLT, Int.reduceEq, Int.reduceNe, Int.reduceToNat, Int.cast_ofNat_Int, Nat.reduceMul, Nat.reduceLeDiff, reduceIte, Nat.reduceEqDiff, Nat.reduceAdd, ↓reduceIte, Try.vcT, cell_of_blkOf C7, cellsAt, B7]
      intro w8 p8
      simp -dsimp only [↓vcA, vcB, vcD, ↓pureT_lenS, ↓iteT, ↓iteF, cond_true, cond_false, eq_self, argE, Env.get, Env.push, ev, evs, evo, retV, Value.cells, Value.oneCell', setR, overR, fillL, zl, places, allSizes, heldC, ne_eq, Int.reduceLE, Int.reduceLT, Int.reduceEq, Int.reduceNe, Int.reduceToNat, Int.cast_ofNat_Int, Nat.reduceMul, Nat.reduceLeDiff, reduceIte, Nat.reduceEqDiff, Nat.reduceAdd, ↓reduceIte, Try.vcT, p8.cell, cellsAt]
      exact ⟨rfl, (R7.put p8 ub).q⟩
end Go.Proofs.Ytnhgjgoglmadnaa
namespace Go.Proofs.Ytnhgjgoglmadnaa
open Go.RowKit
set_option linter.unusedVariables false

def Agr (s s' : R8) : Prop := s = s' ∨ (s.bad = true ∧ s'.bad = true)
theorem num_bad {s : R8} (h : s.bad = true) (n : Int) : s.numV n = 0 ∧ (s.numS n).bad = true := by
  obtain ⟨h1, h2⟩ := s.num_no n (.inl h)
  exact ⟨h1, by rw [h2]⟩
theorem raw_bad {s : R8} (h : s.bad = true) (n : Int) : s.rawV n = [] ∧ (s.rawS n).bad = true := by
  have hno : s.no n := .inl h
  unfold R8.rawV R8.rawS
  rw [if_pos hno, if_pos hno]
  exact ⟨rfl, rfl⟩
theorem Agr.num {s s' : R8} (h : Agr s s') (n : Int) : s.numV n = s'.numV n ∧ Agr (s.numS n) (s'.numS n) := by
  rcases h with rfl | ⟨h1, h2⟩
  · exact ⟨rfl, .inl rfl⟩
  · exact ⟨by rw [(num_bad h1 n).1, (num_bad h2 n).1], .inr ⟨(num_bad h1 n).2, (num_bad h2 n).2⟩⟩
theorem Agr.raw {s s' : R8} (h : Agr s s') (n : Int) : s.rawV n = s'.rawV n ∧ Agr (s.rawS n) (s'.rawS n) := by
  rcases h with rfl | ⟨h1, h2⟩
  · exact ⟨rfl, .inl rfl⟩
  · exact ⟨by rw [(raw_bad h1 n).1, (raw_bad h2 n).1], .inr ⟨(raw_bad h1 n).2, (raw_bad h2 n).2⟩⟩
theorem num3_ok {s : R8} (h : (s.numS 3).bad = false) : s.bad = false ∧ (s.numS 3).l.length + 3 = s.l.length := by
  have hb : s.bad = false := by
    cases hb : s.bad with
    | false => rfl
    | true => rw [(num_bad hb 3).2] at h; cases h
  have hl : 3 ≤ s.l.length := by
    rcases Nat.lt_or_ge s.l.length 3 with hl | hl
    · obtain ⟨_, h2⟩ := s.num_no 3 (.inr (.inr (.inr (by omega))))
      rw [h2] at h; cases h
    · exact hl
  obtain ⟨_, h2⟩ := s.num_yes 3 hb (by omega) (by omega) hl
  have e3 : ((3 : Nat) : Int) = 3 := rfl
  rw [e3] at h2
  rw [h2]
  exact ⟨hb, by simp; omega⟩
theorem pt_ok {s : R8} (h : s.ptS.bad = false) : s.bad = false ∧ s.ptS.l.length + 6 = s.l.length := by
  obtain ⟨h1, h2⟩ := num3_ok (s := s.numS 3) h
  obtain ⟨h3, h4⟩ := num3_ok h1
  exact ⟨h3, by unfold R8.ptS; omega⟩
theorem pt_bad {s : R8} (h : s.bad = true) : s.ptS.bad = true := (num_bad (num_bad h 3).2 3).2
theorem pre_bad {s : R8} (h : s.bad = true) (k : Int) : (s.pre k).bad = true := by
  unfold R8.pre; split
  · rfl
  · exact h
theorem rpt_bad {s : R8} (h : s.bad = true) : s.rptX = 0 ∧ s.rptY = 0 ∧ s.rptS.bad = true :=
  ⟨(num_bad (pre_bad h 6) 3).1, (num_bad (num_bad (pre_bad h 6) 3).2 3).1, (num_bad (num_bad (pre_bad h 6) 3).2 3).2⟩
theorem Agr.pt {s s' : R8} (h : Agr s s') : s.ptV = (s'.rptX, s'.rptY) ∧ Agr s.ptS s'.rptS := by
  have bad : s.ptS.bad = true → (s'.rptX = 0 ∧ s'.rptY = 0 ∧ s'.rptS.bad = true) → s.ptV = (s'.rptX, s'.rptY) ∧ Agr s.ptS s'.rptS := fun h1 h2 => by
    refine ⟨?_, .inr ⟨h1, h2.2.2⟩⟩
    unfold R8.ptV; rw [h1, h2.1, h2.2.1]; rfl
  rcases h with rfl | ⟨h1, h2⟩
  · by_cases h6 : (s.l.length : Int) < 6
    · refine bad ?_ ?_
      · cases hb : s.ptS.bad with
        | true => rfl
        | false => have := (pt_ok hb).2; omega
      · have e : s.pre 6 = ⟨s.l, true⟩ := by simp [R8.pre, h6]
        have hp : (s.pre 6).bad = true := by rw [e]
        exact ⟨(num_bad hp 3).1, (num_bad (num_bad hp 3).2 3).1, (num_bad (num_bad hp 3).2 3).2⟩
    · have e : s.pre 6 = s := by simp [R8.pre, h6]
      cases hb : s.ptS.bad with
      | false =>
        refine ⟨?_, .inl ?_⟩
        · unfold R8.ptV R8.rptX R8.rptY; rw [hb, e]; rfl
        · unfold R8.rptS R8.ptS; rw [e]
      | true =>
        cases hs : s.bad with
        | true => exact bad hb (rpt_bad hs)
        | false =>
          exfalso
          obtain ⟨_, h2⟩ := s.num_yes 3 hs (by omega) (by omega) (by omega)
          have e3 : ((3 : Nat) : Int) = 3 := rfl
          rw [e3] at h2
          obtain ⟨_, h4⟩ := (s.numS 3).num_yes 3 (by rw [h2]) (by omega) (by omega) (by rw [h2]; simp; omega)
          rw [e3] at h4
          unfold R8.ptS at hb
          rw [h4] at hb; cases hb
  · exact bad (pt_bad h1) (rpt_bad h2)
theorem Agr.bad {s s' : R8} (h : Agr s s') : s.bad = s'.bad := by
  rcases h with rfl | ⟨h1, h2⟩
  · rfl
  · rw [h1, h2]
theorem Agr.of_ok {s s' : R8} (h : Agr s s') (hb : s.bad = false) : s = s' := by
  rcases h with rfl | ⟨h1, h2⟩
  · rfl
  · rw [h1] at hb; cases hb
theorem Agr.tri {s s' : R8} (h : Agr s s') : s.triV = s'.rtriV ∧ Agr s.triS s'.rtriS := by
  have bad : s.tS3.bad = true → s'.rtS3.bad = true → s.triV = s'.rtriV ∧ Agr s.triS s'.rtriS := fun h1 h2 => by
    have ef : s'.rtFail = true := by simp [R8.rtFail, h2]
    refine ⟨by simp [R8.triV, R8.rtriV, h1, ef], .inr ⟨by simp [R8.triS, h1], by simp [R8.rtriS, ef]⟩⟩
  have rb : ∀ q : R8, q.bad = true → q.rptS.rptS.rptS.bad = true := fun q hq => (rpt_bad (rpt_bad (rpt_bad hq).2.2).2.2).2.2
  rcases h with rfl | ⟨h1, h2⟩
  · by_cases h18 : (s.l.length : Int) < 18
    · refine bad ?_ ?_
      · cases hb : s.tS3.bad with
        | true => rfl
        | false =>
          obtain ⟨a1, a2⟩ := pt_ok (s := s.ptS.ptS) hb
          obtain ⟨b1, b2⟩ := pt_ok a1
          obtain ⟨c1, c2⟩ := pt_ok b1
          omega
      · have e : s.pre 18 = ⟨s.l, true⟩ := by simp [R8.pre, h18]
        exact rb _ (by rw [e])
    · have e : s.pre 18 = s := by simp [R8.pre, h18]
      obtain ⟨v1, g1⟩ := Agr.pt (s := s) (s' := s) (.inl rfl)
      obtain ⟨v2, g2⟩ := g1.pt
      obtain ⟨v3, g3⟩ := g2.pt
      have eS : s.rtS3 = s.rptS.rptS.rptS := by unfold R8.rtS3; rw [e]
      have eT : s.rtT = s.tT := by unfold R8.rtT R8.tT; rw [e, v1, v2, v3]
      have g3' : Agr s.tS3 s.rtS3 := by rw [eS]; exact g3
      cases hb : s.tS3.bad with
      | true => exact bad hb (by rw [← g3'.bad, hb])
      | false =>
        have hb' : s.rtS3.bad = false := by rw [← g3'.bad, hb]
        cases hv : s.tT.valid with
        | true =>
          have ef : s.rtFail = false := by simp [R8.rtFail, hb', eT, hv]
          refine ⟨by simp [R8.triV, R8.rtriV, hb, ef, hv, eT], ?_⟩
          simp only [R8.triS, R8.rtriS, hb, ef, hv, Bool.false_eq_true, if_false, if_true]
          exact g3'
        | false =>
          have ef : s.rtFail = true := by simp [R8.rtFail, hb', eT, hv]
          refine ⟨by simp [R8.triV, R8.rtriV, hb, ef, hv], .inr ⟨by simp [R8.triS, hb, hv], by simp [R8.rtriS, ef]⟩⟩
  · exact bad (pt_bad (pt_bad (pt_bad h1))) (rb _ (pre_bad h2 18))
end Go.Proofs.Ytnhgjgoglmadnaa
namespace Go.Proofs.Ytnhgjgoglmadnaa
open Go.RowKit
set_option linter.unusedVariables false

theorem owns_same {w w' : World} {e s : Nat} {v : Value} {n : Nat} {xs : List Value} (h : w.ownsRow 0 e s v n xs) (hc : ∀ k, v.ownBlock = some k → w'.heap[k]? = w.heap[k]?) : w'.ownsRow 0 e s v n xs := by
  refine ⟨h.1, ?_⟩
  rcases h.2 with hz | ⟨g, cap, cur, rfl, hb, hg, rest⟩
  · exact .inl hz
  · exact .inr ⟨g, cap, cur, rfl, hb, (hc g (by simp [Value.ownBlock])).trans hg, rest⟩
theorem Rd.same {w w' : World} {v : Value} {xs : List Int} (h : Rd w v xs) (hc : 0 < xs.length → ∀ k, v.ownBlock = some k → k < w.heap.size → w'.heap[k]? = w.heap[k]?) : Rd w' v xs := by
  obtain ⟨a, c, rfl, h1, h2, h3, h4⟩ := h
  refine ⟨a, c, rfl, h1, h2, h3, fun hp => ?_⟩
  obtain ⟨b, o, rfl, hcell⟩ := h4 hp
  refine ⟨b, o, rfl, fun j hj => (World.cell?_of_block (w := w) (hc hp b (by simp [Value.ownBlock]) ?_)).trans (hcell j hj)⟩
  exact World.block_lt_of_cell? w _ (hcell j hj)

def byt (v : Value) (xs : List Int) : Res where
  on w A := Own w v xs ∧ A = fun x => v.ownBlock = some x
  rd _ := False
  fact w := Rd w v xs
  lt := fun ⟨h, e⟩ x hx => by subst e; exact h.lt hx
  chg := fun {w w' A} ⟨h, e⟩ hs hc => ⟨owns_same h fun k hk => hc k (h.lt hk) (.inl (by rw [e]; exact hk)), e⟩
  ok := fun h => h.1.rd
theorem byt_fact (v : Value) (xs : List Int) (w : World) : (byt v xs).fact w = Rd w v xs := (rfl)
theorem row_byt (v : Value) (xs : List Int) : ∀ w A, (row 5 1 v xs.length (u8s xs)).on w A → (byt v xs).on w A := fun _ _ h => h
def wr (t p : Nat) (s : W8) (k : Nat) : Res where
  on w A := s.l.length ≤ k ∧ t ≠ 5 ∧ ∃ v, WrS t w p v s ∧ A = fun x => x = p ∨ v.ownBlock = some x
  rd _ := False
  fact _ := s.l.length ≤ k
  lt := fun ⟨_, _, v, h, e⟩ x hx => by
    subst e
    rcases hx with rfl | hx
    · exact h.lt
    · exact h.own.lt hx
  chg := fun {w w' A} ⟨h1, h2, v, h, e⟩ hs hc => ⟨h1, h2, v, ⟨(hc p h.lt (.inl (by rw [e]; exact .inl rfl))).trans h.blk, owns_same h.own fun k hk => hc k (h.own.lt hk) (.inl (by rw [e]; exact .inr hk))⟩, e⟩
  ok := fun h => h.1
theorem wr_fact (t p : Nat) (s : W8) (k : Nat) (w : World) : (wr t p s k).fact w = (s.l.length ≤ k) := (rfl)

def rdr (t p : Nat) (s : R8) (Z : Nat → Prop) : Res where
  on w A := s.l.length ≤ 10000000 ∧ (∀ x, A x → x < w.heap.size) ∧ A p ∧ ∃ v, Rdr t w p v s ∧ (0 < s.l.length → ∀ k, v.ownBlock = some k → A k ∨ Z k)
  rd := Z
  fact _ := s.l.length ≤ 10000000
  lt := fun ⟨_, h, _⟩ => h
  chg := fun {w w' A} ⟨h1, h2, h3, v, h, h4⟩ hs hc => ⟨h1, fun x hx => Nat.lt_of_lt_of_le (h2 x hx) hs, h3, v,
    ⟨(hc p (h2 p h3) (.inl h3)).trans h.blk, h.rd.same fun hp k hk hl => hc k hl (h4 hp k hk), h.ne⟩, h4⟩
  ok := fun h => h.1
theorem rdr_fact (t p : Nat) (s : R8) (Z : Nat → Prop) (w : World) : (rdr t p s Z).fact w = (s.l.length ≤ 10000000) := (rfl)

section
variable {w0 w : World} {S : Nat → Prop} {M : List Res} {K : Value → World → Prop}

theorem Sep.wrNew (i : Nat) {b t : Nat} (h : Sep w0 S M w) (hi : M[i]? = some (blk b t [.slice none 0 0, .bool false])) (ht : t ≠ 5) : Sep w0 S (M.set i (wr t b ⟨[], false⟩ 0)) w :=
  h.conv i hi (fun A ⟨h1, e⟩ => ⟨Nat.le_refl _, ht, _, ⟨h1, Own.nil w⟩, by rw [e]; funext x; simp [Value.ownBlock]⟩) (fun _ f => f)
theorem Sep.wrAt {i t p k : Nat} {s : W8} (h : Sep w0 S M w) (hi : M[i]? = some (wr t p s k)) :
    s.l.length ≤ k ∧ t ≠ 5 ∧ ∃ v, WrS t w p v s ∧ ∀ s' k' v' w', WrS t w' p v' s' → WrStep p w v w' v' → s'.l.length ≤ k' → Sep w0 S (M.set i (wr t p s' k')) w' := by
  obtain ⟨A, ⟨h1, h2, v, h3, rfl⟩, _, h4⟩ := h.at hi
  exact ⟨h1, h2, v, h3, fun s' k' v' w' g1 g2 g3 => h4 _ _ w' ⟨g3, h2, v', g1, rfl⟩ (fun x hx => hx.elim (fun e => .inl (.inl e)) fun hx => (g2.new x hx).elim (fun h => .inl (.inr h)) .inr) g2.chg (fun _ f => f)⟩
theorem Sep.num (i : Nat) {p k : Nat} {s : W8} {n size : Int} (h : Sep w0 S M w) (hi : M[i]? = some (wr 32 p s k)) (hl : k ≤ 1000000) (hn : -9223372036854775808 ≤ n) (hn1 : n ≤ 9223372036854775807)
    (hk : ∀ w1, Sep w0 S (M.set i (wr 32 p (s.num n size) (k + 8))) w1 → K (.pointer (some ⟨p, 0, none⟩)) w1) : callsK Try.prog 23 [.pointer (some ⟨p, 0, none⟩), .int .i64 n, .int .i64 size].toArray w K := by
  obtain ⟨h1, h2, v, h3, h4⟩ := h.wrAt hi
  refine callsK_use (Go.Proofs.Ytnhgjgoglmadnaa.num p v s n size w h3 (by omega) hn hn1) ?_
  rintro _ w1 ⟨rfl, v1, g1, g2⟩
  exact hk w1 (h4 _ _ _ _ g1 g2 (by have := s.num_len n size; omega))
theorem Sep.point (i : Nat) {p k : Nat} {s : W8} {x y : Int} (h : Sep w0 S M w) (hi : M[i]? = some (wr 32 p s k)) (hl : k ≤ 900000) (hx : -9223372036854775808 ≤ x) (hx1 : x ≤ 9223372036854775807) (hy : -9223372036854775808 ≤ y) (hy1 : y ≤ 9223372036854775807)
    (hk : ∀ w1, Sep w0 S (M.set i (wr 32 p (s.pt x y) (k + 16))) w1 → K (.pointer (some ⟨p, 0, none⟩)) w1) : callsK Try.prog 25 [.pointer (some ⟨p, 0, none⟩), .agg #[.int .i64 x, .int .i64 y]].toArray w K := by
  obtain ⟨h1, h2, v, h3, h4⟩ := h.wrAt hi
  refine callsK_use (Go.Proofs.Ytnhgjgoglmadnaa.point p v s x y w h3 (by omega) hx hx1 hy hy1) ?_
  rintro _ w1 ⟨rfl, v1, g1, g2⟩
  exact hk w1 (h4 _ _ _ _ g1 g2 (by have := s.pt_len x y; omega))
theorem Sep.tri (i : Nat) {p k : Nat} {s : W8} {ax ay bx by' cx cy : Int} (h : Sep w0 S M w) (hi : M[i]? = some (wr 32 p s k)) (hl : k ≤ 800000) (ho : Ok64 [ax, ay, bx, by', cx, cy])
    (hk : ∀ w1, Sep w0 S (M.set i (wr 32 p (s.tri ax ay bx by' cx cy) (k + 48))) w1 → K (.pointer (some ⟨p, 0, none⟩)) w1) : callsK Try.prog 27 [.pointer (some ⟨p, 0, none⟩), .agg #[.int .i64 ax, .int .i64 ay, .int .i64 bx, .int .i64 by', .int .i64 cx, .int .i64 cy]].toArray w K := by
  obtain ⟨h1, h2, v, h3, h4⟩ := h.wrAt hi
  refine callsK_use (Go.Proofs.Ytnhgjgoglmadnaa.tri p v s ax ay bx by' cx cy w h3 (by omega) ho) ?_
  rintro _ w1 ⟨rfl, v1, g1, g2⟩
  exact hk w1 (h4 _ _ _ _ g1 g2 (by have := s.tri_len ax ay bx by' cx cy; omega))
theorem Sep.raw (i : Nat) {p k : Nat} {s : W8} {src : Value} (ys : List Int) (h : Sep w0 S M w) (hi : M[i]? = some (wr 32 p s k)) (hl : k ≤ 1000000) (hr : Rd w src ys) (hy : ys.length ≤ 10000000)
    (hk : ∀ w1, Sep w0 S (M.set i (wr 32 p (s.raw ys) (k + ys.length))) w1 → K (.pointer (some ⟨p, 0, none⟩)) w1) : callsK Try.prog 29 [.pointer (some ⟨p, 0, none⟩), src].toArray w K := by
  obtain ⟨h1, h2, v, h3, h4⟩ := h.wrAt hi
  refine callsK_use (Go.Proofs.Ytnhgjgoglmadnaa.raw p v s src ys w h3 hr (by omega) hy) ?_
  rintro _ w1 ⟨rfl, v1, g1, g2⟩
  exact hk w1 (h4 _ _ _ _ g1 g2 (by simp [W8.raw]; omega))
theorem Copy.push {w w' : World} {r : Value} {xs : List Int} (h : Sep w0 S M w) (c : Copy w w' r xs) : Sep w0 S (M ++ [byt r xs]) w' :=
  h.push c.chg (A := fun x => r.ownBlock = some x) ⟨c.own, rfl⟩ (fun x hx => c.new x hx) (fun _ f => f.elim)
theorem Sep.bytes (i : Nat) {p k : Nat} {s : W8} (h : Sep w0 S M w) (hi : M[i]? = some (wr 32 p s k)) (hl : k ≤ 1000000)
    (hk : ∀ a c w1, Sep w0 S (M ++ [byt (.slice a (if s.bad then [] else s.l).length c) (if s.bad then [] else s.l)]) w1 → K (.tuple #[.slice a (if s.bad then [] else s.l).length c, .int .i64 (if s.bad then 2 else 0)]) w1) : callsK Try.prog 30 [.pointer (some ⟨p, 0, none⟩)].toArray w K := by
  obtain ⟨h1, h2, v, h3, h4⟩ := h.wrAt hi
  refine callsK_use (Go.Proofs.Ytnhgjgoglmadnaa.bytes p v s w h3 (by omega)) ?_
  rintro _ w1 ⟨v1, rfl, c1⟩
  obtain ⟨a, c, rfl⟩ := owns_shape c1.own
  exact hk a c w1 (c1.push h)
theorem Sep.rnum (i : Nat) {p k : Nat} {s : W8} {n size : Int} (h : Sep w0 S M w) (hi : M[i]? = some (wr 35 p s k)) (hl : k ≤ 1000000) (hn : -9223372036854775808 ≤ n) (hn1 : n ≤ 9223372036854775807)
    (hk : ∀ w1, Sep w0 S (M.set i (wr 35 p (s.num n size) (k + 8))) w1 → K (.tuple #[]) w1) : callsK Try.prog 24 [.pointer (some ⟨p, 0, none⟩), .int .i64 n, .int .i64 size].toArray w K := by
  obtain ⟨h1, h2, v, h3, h4⟩ := h.wrAt hi
  refine callsK_use (refNum p v s n size w h3 (by omega) hn hn1) ?_
  rintro _ w1 ⟨rfl, v1, g1, g2⟩
  exact hk w1 (h4 _ _ _ _ g1 g2 (by have := s.num_len n size; omega))
theorem Sep.rpoint (i : Nat) {p k : Nat} {s : W8} {x y : Int} (h : Sep w0 S M w) (hi : M[i]? = some (wr 35 p s k)) (hl : k ≤ 900000) (hx : -9223372036854775808 ≤ x) (hx1 : x ≤ 9223372036854775807) (hy : -9223372036854775808 ≤ y) (hy1 : y ≤ 9223372036854775807)
    (hk : ∀ w1, Sep w0 S (M.set i (wr 35 p (s.pt x y) (k + 16))) w1 → K (.tuple #[]) w1) : callsK Try.prog 26 [.pointer (some ⟨p, 0, none⟩), .agg #[.int .i64 x, .int .i64 y]].toArray w K := by
  obtain ⟨h1, h2, v, h3, h4⟩ := h.wrAt hi
  refine callsK_use (refPoint p v s x y w h3 (by omega) hx hx1 hy hy1) ?_
  rintro _ w1 ⟨rfl, v1, g1, g2⟩
  exact hk w1 (h4 _ _ _ _ g1 g2 (by have := s.pt_len x y; omega))
theorem Sep.rtri (i : Nat) {p k : Nat} {s : W8} {ax ay bx by' cx cy : Int} (h : Sep w0 S M w) (hi : M[i]? = some (wr 35 p s k)) (hl : k ≤ 800000) (ho : Ok64 [ax, ay, bx, by', cx, cy])
    (hk : ∀ w1, Sep w0 S (M.set i (wr 35 p (s.tri ax ay bx by' cx cy) (k + 48))) w1 → K (.tuple #[]) w1) : callsK Try.prog 28 [.pointer (some ⟨p, 0, none⟩), .agg #[.int .i64 ax, .int .i64 ay, .int .i64 bx, .int .i64 by', .int .i64 cx, .int .i64 cy]].toArray w K := by
  obtain ⟨h1, h2, v, h3, h4⟩ := h.wrAt hi
  refine callsK_use (refTri p v s ax ay bx by' cx cy w h3 (by omega) ho) ?_
  rintro _ w1 ⟨rfl, v1, g1, g2⟩
  exact hk w1 (h4 _ _ _ _ g1 g2 (by have := s.tri_len ax ay bx by' cx cy; omega))

theorem Sep.rdAt {i t p : Nat} {s : R8} {Z : Nat → Prop} (h : Sep w0 S M w) (hi : M[i]? = some (rdr t p s Z)) :
    s.l.length ≤ 10000000 ∧ ∃ v, Rdr t w p v s ∧ ∀ s' w', RdQ t p w v s' w' → s'.l.length ≤ s.l.length → Sep w0 S (M.set i (rdr t p s' Z)) w' := by
  obtain ⟨A, ⟨h1, h2, h3, v, h4, h5⟩, _, h6⟩ := h.at hi
  refine ⟨h1, v, h4, fun s' w' ⟨v', g1, g2, g3⟩ hl => h6 _ A w' ⟨by omega, fun x hx => Nat.lt_of_lt_of_le (h2 x hx) g2.size, h3, v', g1, fun hp k hk => h5 (by omega) k (g3 k hk)⟩ (fun x hx => .inl hx) (g2.mono fun x e => ?_) (fun _ f => f)⟩
  subst e; exact h3
theorem Sep.rdNum (i : Nat) {p : Nat} {s : R8} {Z : Nat → Prop} {n : Int} (h : Sep w0 S M w) (hi : M[i]? = some (rdr 134 p s Z))
    (hk : ∀ w1, Sep w0 S (M.set i (rdr 134 p (s.numS n) Z)) w1 → K (.int .i64 (s.numV n)) w1) : callsK Try.prog 33 [.pointer (some ⟨p, 0, none⟩), .int .i64 n].toArray w K := by
  obtain ⟨h1, v, h2, h3⟩ := h.rdAt hi
  refine callsK_use (Go.Proofs.Ytnhgjgoglmadnaa.rnum p v s n w h2 h1) ?_
  rintro _ w1 ⟨rfl, q⟩
  exact hk w1 (h3 _ _ q (s.numS_len n))
theorem Sep.rdPoint (i : Nat) {p : Nat} {s : R8} {Z : Nat → Prop} (h : Sep w0 S M w) (hi : M[i]? = some (rdr 134 p s Z))
    (hk : ∀ w1, Sep w0 S (M.set i (rdr 134 p s.ptS Z)) w1 → K (.agg #[.int .i64 s.ptV.1, .int .i64 s.ptV.2]) w1) : callsK Try.prog 49 [.pointer (some ⟨p, 0, none⟩)].toArray w K := by
  obtain ⟨h1, v, h2, h3⟩ := h.rdAt hi
  refine callsK_use (Go.Proofs.Ytnhgjgoglmadnaa.rpoint p v s w h2 h1) ?_
  rintro _ w1 ⟨rfl, q⟩
  exact hk w1 (h3 _ _ q s.ptS_len)
theorem R8.triS_len (s : R8) : s.triS.l.length ≤ s.l.length := by unfold R8.triS; split; exact s.tS3_len; split; exact s.tS3_len; exact s.tS3_len
theorem R8.rtriS_len (s : R8) : s.rtriS.l.length ≤ s.l.length := by unfold R8.rtriS; split; exact s.rtS3_len; exact s.rtS3_len
theorem Sep.rdTri (i : Nat) {p : Nat} {s : R8} {Z : Nat → Prop} (h : Sep w0 S M w) (hi : M[i]? = some (rdr 134 p s Z))
    (hk : ∀ w1, Sep w0 S (M.set i (rdr 134 p s.triS Z)) w1 → K (.agg s.triV.cells.toArray) w1) : callsK Try.prog 50 [.pointer (some ⟨p, 0, none⟩)].toArray w K := by
  obtain ⟨h1, v, h2, h3⟩ := h.rdAt hi
  refine callsK_use (Go.Proofs.Ytnhgjgoglmadnaa.rtri p v s w h2 h1) ?_
  rintro _ w1 ⟨rfl, q⟩
  exact hk w1 (h3 _ _ q s.triS_len)
theorem Sep.rdQ_own {i t p : Nat} {s s' : R8} {Z : Nat → Prop} {r : Value} {xs : List Int} {w' : World} (h : Sep w0 S M w) (hi : M[i]? = some (rdr t p s Z)) (hl : s'.l.length ≤ s.l.length)
    (hq : ∀ v, Rdr t w p v s → RdQ t p w v s' w') (ho : Own w' r xs) (hn : ∀ k, r.ownBlock = some k → w.heap.size ≤ k) : Sep w0 S (M.set i (rdr t p s' Z) ++ [byt r xs]) w' := by
  obtain ⟨A, ⟨h1, h2, h3, v, h4, h5⟩, _, _, h6⟩ := h.embed1 hi
  obtain ⟨v', g1, g2, g3⟩ := hq v h4
  refine h6 _ [byt r xs] w' ⟨g2.mono fun x e => ?_, ⟨A, ⟨by omega, fun x hx => Nat.lt_of_lt_of_le (h2 x hx) g2.size, h3, v', g1, fun hp k hk => h5 (by omega) k (g3 k hk)⟩, fun x hx => .inl hx, ⟨fun x => r.ownBlock = some x, ⟨ho, rfl⟩, fun x hx => ⟨.inr (hn x hx), fun hA => by have := h2 x hA; have := hn x hx; omega⟩, trivial⟩⟩, fun q hq x hx => ?_⟩ (fun _ f => f) (fun q hq x hx => ?_)
  · subst e; exact .inl h3
  · simp only [List.mem_cons, List.not_mem_nil, or_false] at hq
    rcases hq with rfl | rfl
    · exact ‹∀ x, (rdr t p s Z).rd x → ¬ (A x ∨ w.heap.size ≤ x)› x hx
    · exact hx.elim
  · simp only [List.mem_cons, List.not_mem_nil, or_false] at hq
    subst hq; exact hx.elim
theorem Sep.rdRaw (i : Nat) {p : Nat} {s : R8} {Z : Nat → Prop} {n : Int} (h : Sep w0 S M w) (hi : M[i]? = some (rdr 134 p s Z))
    (hk : ∀ a c w1, Sep w0 S (M.set i (rdr 134 p (s.rawS n) Z) ++ [byt (.slice a (s.rawV n).length c) (s.rawV n)]) w1 → K (.slice a (s.rawV n).length c) w1) : callsK Try.prog 51 [.pointer (some ⟨p, 0, none⟩), .int .i64 n].toArray w K := by
  obtain ⟨h1, v, h2, h3⟩ := h.rdAt hi
  refine Calls.mono (Go.Proofs.Ytnhgjgoglmadnaa.rraw p v s n w h2 h1) ?_
  rintro e w1 ⟨r, rfl, q, ho, hn⟩
  obtain ⟨a, c, rfl⟩ := owns_shape ho
  refine ⟨_, rfl, hk a c w1 (h.rdQ_own hi (s.rawS_len n) (fun v' h2' => ?_) ho hn)⟩
  have e : v' = v := by have a := h2.c0; have b := h2'.c0; rw [a] at b; injection b with b; exact b.symm
  rw [e]; exact q
theorem Sep.rdDone (i : Nat) {p : Nat} {s : R8} {Z : Nat → Prop} (h : Sep w0 S M w) (hi : M[i]? = some (rdr 134 p s Z)) (hk : K (.int .i64 (if s.done then 0 else 2)) w) : callsK Try.prog 34 [.pointer (some ⟨p, 0, none⟩)].toArray w K := by
  obtain ⟨h1, v, h2, h3⟩ := h.rdAt hi
  exact callsK_pure (Go.Proofs.Ytnhgjgoglmadnaa.rdone p v s w h2) hk
theorem Sep.read {v : Value} (xs : List Int) (h : Sep w0 S M w) (hr : Rd w v xs) (hl : xs.length ≤ 10000000)
    (hk : ∀ p w1, Sep w0 S (M ++ [rdr 134 p ⟨xs, false⟩ (fun _ => False)]) w1 → K (.pointer (some ⟨p, 0, none⟩)) w1) : callsK Try.prog 32 [v].toArray w K := by
  refine callsK_use (Go.Proofs.Ytnhgjgoglmadnaa.read v xs w hr hl) ?_
  rintro _ w1 ⟨p, v1, rfl, g1, g2, g3, g4⟩
  have hp := lt_of_block g1.blk
  refine hk p w1 (h.push g2 (A := fun x => x = p ∨ (0 < xs.length ∧ v1.ownBlock = some x)) ⟨hl, ?_, .inl rfl, v1, g1, fun hp k hk => .inl (.inr ⟨hp, hk⟩)⟩ ?_ (fun _ f => f.elim))
  · rintro x (rfl | ⟨hx, hk⟩)
    · exact hp
    · exact g1.lt hx x hk
  · rintro x (rfl | ⟨hx, hk⟩)
    · exact g3
    · exact g4 x hk
theorem Sep.rrNum (i : Nat) {p : Nat} {s : R8} {Z : Nat → Prop} {n : Int} (h : Sep w0 S M w) (hi : M[i]? = some (rdr 85 p s Z))
    (hk : ∀ w1, Sep w0 S (M.set i (rdr 85 p (s.numS n) Z)) w1 → K (.int .i64 (s.numV n)) w1) : callsK Try.prog 52 [.pointer (some ⟨p, 0, none⟩), .int .i64 n].toArray w K := by
  obtain ⟨h1, v, h2, h3⟩ := h.rdAt hi
  refine callsK_use (refRnum p v s n w h2 h1) ?_
  rintro _ w1 ⟨rfl, q⟩
  exact hk w1 (h3 _ _ q (s.numS_len n))
theorem Sep.rrPoint (i : Nat) {p : Nat} {s : R8} {Z : Nat → Prop} (h : Sep w0 S M w) (hi : M[i]? = some (rdr 85 p s Z))
    (hk : ∀ w1, Sep w0 S (M.set i (rdr 85 p s.rptS Z)) w1 → K (.agg #[.int .i64 s.rptX, .int .i64 s.rptY]) w1) : callsK Try.prog 53 [.pointer (some ⟨p, 0, none⟩)].toArray w K := by
  obtain ⟨h1, v, h2, h3⟩ := h.rdAt hi
  refine callsK_use (refRpoint p v s w h2 h1) ?_
  rintro _ w1 ⟨rfl, q⟩
  exact hk w1 (h3 _ _ q s.rptS_len)
theorem Sep.rrTri (i : Nat) {p : Nat} {s : R8} {Z : Nat → Prop} (h : Sep w0 S M w) (hi : M[i]? = some (rdr 85 p s Z))
    (hk : ∀ w1, Sep w0 S (M.set i (rdr 85 p s.rtriS Z)) w1 → K (.agg s.rtriV.cells.toArray) w1) : callsK Try.prog 54 [.pointer (some ⟨p, 0, none⟩)].toArray w K := by
  obtain ⟨h1, v, h2, h3⟩ := h.rdAt hi
  refine callsK_use (refRtri p v s w h2 h1) ?_
  rintro _ w1 ⟨rfl, q⟩
  exact hk w1 (h3 _ _ q s.rtriS_len)
theorem Sep.rrNew (i : Nat) {b t : Nat} {v : Value} (xs : List Int) (h : Sep w0 S M w) (hi : M[i]? = some (blk b t [v, .bool false])) (hr : Rd w0 v xs) (hl : xs.length ≤ 10000000) (hS : ∀ k, v.ownBlock = some k → ¬ S k) (hb : w0.heap.size ≤ b) :
    Sep w0 S (M.set i (rdr t b ⟨xs, false⟩ (fun x => 0 < xs.length ∧ v.ownBlock = some x))) w := by
  have hw := hr.sep h hS
  obtain ⟨A, ⟨h1, rfl⟩, _, h3⟩ := h.at hi
  have k := h3 (rdr t b ⟨xs, false⟩ (fun _ => False))
  have hlt : 0 < xs.length → ∀ k, v.ownBlock = some k → k < w0.heap.size := fun hp k hk => hr.lt hp k hk
  have hne : 0 < xs.length → v.ownBlock ≠ some b := fun hp e => by have := hlt hp b e; omega
  obtain ⟨B, g1, g2, g3⟩ := h.has.focus hi h.rd h.up
  obtain ⟨g1, rfl⟩ := g1
  refine ⟨h.chg, by simpa using g3 (rdr t b ⟨xs, false⟩ (fun x => 0 < xs.length ∧ v.ownBlock = some x)) (fun x => x = b) w [] ⟨hl, fun x hx => by subst hx; exact lt_of_block g1, rfl, v, ⟨g1, hw, hne⟩, fun hp k hk => .inr ⟨hp, hk⟩⟩ (fun x hx => .inl hx) (Chg.refl _ _) trivial, fun q hq => ?_⟩
  rcases mem_set hq with hq | hq
  · exact h.rd q hq
  · subst hq
    rintro x ⟨hp, hx⟩ (hx' | hx')
    · exact hS x hx hx'
    · have := hlt hp x hx; omega
end
theorem nfF : type_of% (And.intro (And.intro (@Facts_cons) (And.intro (@Facts_nil) (@blk_fact))) (And.intro (And.intro (@row_fact) (@byt_fact)) (And.intro (@wr_fact) (@rdr_fact)))) := And.intro (And.intro (@Facts_cons) (And.intro (@Facts_nil) (@blk_fact))) (And.intro (And.intro (@row_fact) (@byt_fact)) (And.intro (@wr_fact) (@rdr_fact)))
end Go.Proofs.Ytnhgjgoglmadnaa
namespace Go.Proofs.Ytnhgjgoglmadnaa
open Go.RowKit
set_option linter.unusedVariables false

theorem num_write (l : List Int) (n : Int) (k : Nat) (h1 : 1 ≤ k) (h7 : k ≤ 7) (h0 : 0 ≤ n) (hf : n / 2 ^ (8 * k) = 0) : (W8.mk l false).num n k = ⟨l ++ be n k, false⟩ := by
  have e : (8 * (k : Int)).toNat = 8 * k := by omega
  have : fits n k = true := by
    simp only [fits, decide_eq_true_eq]
    refine ⟨by omega, by omega, h0, fun _ => ?_⟩
    rw [e]; exact hf
  simp [W8.num, this]
theorem num_read (n : Int) (k : Nat) (r : List Int) (h1 : 1 ≤ k) (h7 : k ≤ 7) (h0 : 0 ≤ n) (hn : n ≤ 9223372036854775807) (hf : n / 2 ^ (8 * k) = 0) : (R8.mk (be n k ++ r) false).numV k = n ∧ (R8.mk (be n k ++ r) false).numS k = ⟨r, false⟩ := by
  obtain ⟨e1, e2⟩ := (R8.mk (be n k ++ r) false).num_yes k rfl h1 h7 (by simp [be_length])
  rw [e1, e2]
  refine ⟨?_, ?_⟩
  · rw [List.take_append_of_le_length (by simp [be_length]), List.take_of_length_le (by simp [be_length])]
    exact rval_be n k h0 hn hf
  · simp [List.drop_append_of_le_length, be_length]
theorem grid_fit {x : Int} (h : 0 ≤ x ∧ x < 16777216) : x / 2 ^ (8 * 3) = 0 := by
  have : (2 : Int) ^ (8 * 3) = 16777216 := by decide
  rw [this]; omega
theorem vpt_gr {x y : Int} (h : vpt x y = true) : (0 ≤ x ∧ x < 16777216) ∧ 0 ≤ y ∧ y < 16777216 := by
  simp [vpt] at h; omega
def ptB (x y : Int) : List Int := be x 3 ++ be y 3
theorem ptB_len (x y : Int) : (ptB x y).length = 6 := by simp [ptB, be_length]
theorem pt_write (l : List Int) {x y : Int} (h : vpt x y = true) : (W8.mk l false).pt x y = ⟨l ++ ptB x y, false⟩ := by
  obtain ⟨hx, hy⟩ := vpt_gr h
  unfold W8.pt
  have e3 : ((3 : Nat) : Int) = 3 := rfl
  rw [← e3, num_write l x 3 (by omega) (by omega) hx.1 (grid_fit hx), num_write _ y 3 (by omega) (by omega) hy.1 (grid_fit hy)]
  simp [ptB]
theorem pt_read {x y : Int} (r : List Int) (h : vpt x y = true) : (R8.mk (ptB x y ++ r) false).ptV = (x, y) ∧ (R8.mk (ptB x y ++ r) false).ptS = ⟨r, false⟩ := by
  obtain ⟨hx, hy⟩ := vpt_gr h
  have e3 : ((3 : Nat) : Int) = 3 := rfl
  obtain ⟨a1, a2⟩ := num_read x 3 (be y 3 ++ r) (by omega) (by omega) hx.1 (by omega) (grid_fit hx)
  obtain ⟨b1, b2⟩ := num_read y 3 r (by omega) (by omega) hy.1 (by omega) (grid_fit hy)
  rw [e3] at a1 a2 b1 b2
  have es : (R8.mk (ptB x y ++ r) false).ptS = ⟨r, false⟩ := by
    unfold R8.ptS ptB; rw [List.append_assoc, a2, b2]
  refine ⟨?_, es⟩
  unfold R8.ptV
  rw [es]
  unfold ptB
  rw [List.append_assoc, a1, a2, b1]; rfl
theorem T3.valid_pts {t : T3} (h : t.valid = true) : vpt t.ax t.ay = true ∧ vpt t.bx t.by' = true ∧ vpt t.cx t.cy = true := by
  have ho : t.or ≠ 0 := by
    intro e
    simp [T3.valid, T3.ok, e] at h
  unfold T3.or orientI at ho
  split at ho
  · rename_i hh; simpa [Bool.and_eq_true, and_assoc] using hh
  · exact absurd rfl ho
def T3.bytes (t : T3) : List Int := (ptB t.ax t.ay ++ ptB t.bx t.by') ++ ptB t.cx t.cy
theorem tri_write (l : List Int) {t : T3} (h : t.valid = true) : (W8.mk l false).tri t.ax t.ay t.bx t.by' t.cx t.cy = ⟨l ++ t.bytes, false⟩ := by
  obtain ⟨h1, h2, h3⟩ := T3.valid_pts h
  unfold W8.tri
  rw [pt_write l h1, pt_write _ h2, pt_write _ h3]
  simp [T3.bytes]
theorem tri_read {t : T3} (r : List Int) (h : t.valid = true) : (R8.mk (t.bytes ++ r) false).triV = t ∧ (R8.mk (t.bytes ++ r) false).triS = ⟨r, false⟩ := by
  obtain ⟨h1, h2, h3⟩ := T3.valid_pts h
  have e : t.bytes ++ r = ptB t.ax t.ay ++ (ptB t.bx t.by' ++ (ptB t.cx t.cy ++ r)) := by simp [T3.bytes]
  rw [e]
  obtain ⟨a1, a2⟩ := pt_read (ptB t.bx t.by' ++ (ptB t.cx t.cy ++ r)) h1
  obtain ⟨b1, b2⟩ := pt_read (ptB t.cx t.cy ++ r) h2
  obtain ⟨c1, c2⟩ := pt_read r h3
  have es : (R8.mk (ptB t.ax t.ay ++ (ptB t.bx t.by' ++ (ptB t.cx t.cy ++ r))) false).tS3 = ⟨r, false⟩ := by unfold R8.tS3; rw [a2, b2, c2]
  have et : (R8.mk (ptB t.ax t.ay ++ (ptB t.bx t.by' ++ (ptB t.cx t.cy ++ r))) false).tT = t := by unfold R8.tT; rw [a1, a2, b1, b2, c1]
  unfold R8.triV R8.triS
  rw [es, et, h]
  exact ⟨rfl, rfl⟩
theorem raw_read (l r : List Int) : (R8.mk (l ++ r) false).rawV l.length = l ∧ (R8.mk (l ++ r) false).rawS l.length = ⟨r, false⟩ := by
  have hno : ¬ (R8.mk (l ++ r) false).no l.length := by
    simp only [R8.no, List.length_append]; simp; omega
  unfold R8.rawV R8.rawS
  rw [if_neg hno, if_neg hno]
  simp

def Prt.t (p : Prt) : T3 := ⟨p.ax, p.ay, p.bx, p.by', p.cx, p.cy⟩
def Prt.put (p : Prt) (s : W8) : W8 := if p.kind = 0 then s.num p.n p.size else if p.kind = 1 then s.pt p.px p.py else if p.kind = 2 then s.tri p.ax p.ay p.bx p.by' p.cx p.cy else s.raw p.b
def Prt.out (p : Prt) : List Int := if p.kind = 0 then be p.n p.size.toNat else if p.kind = 1 then ptB p.px p.py else if p.kind = 2 then p.t.bytes else p.b
structure Prt.Good (p : Prt) : Prop where
  kind : p.kind = 0 ∨ p.kind = 1 ∨ p.kind = 2 ∨ p.kind = 3
  num : p.kind = 0 → (1 ≤ p.size ∧ p.size ≤ 7) ∧ (0 ≤ p.n ∧ p.n ≤ 9223372036854775807) ∧ p.n / 2 ^ (8 * p.size.toNat) = 0
  pt : p.kind = 1 → vpt p.px p.py = true
  tri : p.kind = 2 → p.t.valid = true
theorem Prt.Good.put {p : Prt} (h : p.Good) (l : List Int) : p.put ⟨l, false⟩ = ⟨l ++ p.out, false⟩ := by
  unfold Prt.put Prt.out
  rcases h.kind with e | e | e | e
  · obtain ⟨h1, h2, h3⟩ := h.num e
    have := num_write l p.n p.size.toNat (by omega) (by omega) h2.1 h3
    have e2 : ((p.size.toNat : Nat) : Int) = p.size := by omega
    rw [e2] at this
    simp [e, this]
  · simp [e, pt_write l (h.pt e)]
  · simp [e]
    exact tri_write l (h.tri e)
  · simp [e, W8.raw]
end Go.Proofs.Ytnhgjgoglmadnaa
namespace Go.Proofs.Ytnhgjgoglmadnaa
open Go.RowKit
set_option linter.unusedVariables false

def emp : Res where
  on _ A := A = fun _ => False
  rd _ := False
  fact _ := True
  lt := fun h x hx => by subst h; exact hx.elim
  chg := fun h _ _ => h
  ok := fun _ => trivial
theorem emp_fact (w : World) : emp.fact w = True := (rfl)
theorem Has.take : ∀ {M : List Res} {F : Nat → Prop} {w : World} {j : Nat} {r : Res}, Has M F w → M[j]? = some r → ∃ B, r.on w B ∧ (∀ x, B x → F x) ∧ Has (M.set j emp) (fun x => F x ∧ ¬ B x) w
  | [], _, _, _, _, _, hj => by simp at hj
  | q :: M, F, w, 0, r, ⟨A, h1, h2, h3⟩, hj => by
    simp at hj; subst hj
    exact ⟨A, h1, h2, fun _ => False, rfl, fun _ f => f.elim, Has.append.Has.wide h3 fun x hx => ⟨hx, id⟩⟩
  | q :: M, F, w, j + 1, r, ⟨A, h1, h2, h3⟩, hj => by
    simp at hj
    obtain ⟨B, g1, g2, g3⟩ := Has.take h3 hj
    exact ⟨B, g1, fun x hx => (g2 x hx).1, A, h1, fun x hx => ⟨h2 x hx, fun hB => (g2 x hB).2 hx⟩, Has.append.Has.wide g3 fun x hx => ⟨⟨hx.1.1, hx.2⟩, hx.1.2⟩⟩
theorem Has.give : ∀ {M : List Res} {F B : Nat → Prop} {w : World} {i : Nat} {r : Res}, Has M (fun x => F x ∧ ¬ B x) w → M[i]? = some r → (∀ x, B x → F x) →
    ∃ A, r.on w A ∧ (∀ x, A x → F x ∧ ¬ B x) ∧ ∀ r', r'.on w (fun x => A x ∨ B x) → Has (M.set i r') F w
  | [], _, _, _, _, _, _, hi, _ => by simp at hi
  | q :: M, F, B, w, 0, r, ⟨A, h1, h2, h3⟩, hi, hB => by
    simp at hi; subst hi
    exact ⟨A, h1, h2, fun r' hr => ⟨_, hr, fun x hx => hx.elim (fun hx => (h2 x hx).1) (hB x), Has.append.Has.wide h3 fun x hx => ⟨hx.1.1, fun h => h.elim hx.2 hx.1.2⟩⟩⟩
  | q :: M, F, B, w, i + 1, r, ⟨A, h1, h2, h3⟩, hi, hB => by
    simp at hi
    have h3' : Has M (fun x => (F x ∧ ¬ A x) ∧ ¬ B x) w := Has.append.Has.wide h3 fun x hx => ⟨⟨hx.1.1, hx.2⟩, hx.1.2⟩
    obtain ⟨C, g1, g2, g3⟩ := Has.give h3' hi (fun x hx => ⟨hB x hx, fun hA => (h2 x hA).2 hx⟩)
    exact ⟨C, g1, fun x hx => ⟨(g2 x hx).1.1, (g2 x hx).2⟩, fun r' hr => ⟨A, h1, fun x hx => (h2 x hx).1, g3 r' hr⟩⟩

section
variable {w0 w : World} {S : Nat → Prop} {M : List Res}
theorem Sep.join (i j : Nat) {r q r' : Res} (h : Sep w0 S M w) (hi : (M.set j emp)[i]? = some r) (hj : M[j]? = some q) (hc : ∀ A B, r.on w A → q.on w B → (∀ x, A x → ¬ B x) → r'.on w (fun x => A x ∨ B x)) (hr : ∀ x, r'.rd x → r.rd x ∨ q.rd x) :
    Sep w0 S ((M.set j emp).set i r') w := by
  obtain ⟨B, g1, g2, g3⟩ := h.has.take hj
  obtain ⟨A, k1, k2, k3⟩ := Has.give g3 hi g2
  refine ⟨h.chg, k3 r' (hc A B k1 g1 fun x hx => (k2 x hx).2), fun p hp => ?_⟩
  have hq := List.mem_of_getElem? hj
  have hm : ∀ p ∈ M.set j emp, ∀ x, p.rd x → ¬ (S x ∨ w0.heap.size ≤ x) := fun p hp => by
    rcases mem_set hp with hp | hp
    · exact h.rd p hp
    · subst hp; exact fun x hx => hx.elim
  rcases mem_set hp with hp | hp
  · exact hm p hp
  · subst hp
    exact fun x hx => (hr x hx).elim (fun hx => hm r (List.mem_of_getElem? hi) x hx) (fun hx => h.rd q hq x hx)
theorem Sep.split (i : Nat) {r : Res} (h : Sep w0 S M w) (hi : M[i]? = some r) : ∃ A, r.on w A ∧ ∀ r' q B C, r'.on w B → q.on w C → (∀ x, B x → A x) → (∀ x, C x → A x ∧ ¬ B x) → (∀ x, r'.rd x → r.rd x) → (∀ x, q.rd x → r.rd x) → Sep w0 S (M.set i r' ++ [q]) w := by
  obtain ⟨A, h1, h2, _, h3⟩ := h.embed1 hi
  refine ⟨A, h1, fun r' q B C k1 k2 k3 k4 k5 k6 => h3 r' [q] w ⟨Chg.refl _ _, ⟨B, k1, fun x hx => .inl (k3 x hx), C, k2, fun x hx => ⟨.inl (k4 x hx).1, (k4 x hx).2⟩, trivial⟩, fun p hp x hx => ?_⟩ k5 (fun p hp x hx => ?_)⟩
  · simp only [List.mem_cons, List.not_mem_nil, or_false] at hp
    rcases hp with rfl | rfl
    · exact h2 x (k5 x hx)
    · exact h2 x (k6 x hx)
  · simp only [List.mem_cons, List.not_mem_nil, or_false] at hp
    subst hp; exact k6 x hx
end

def rdz (u : Value) (ys : List Int) (Z : Nat → Prop) : Res where
  on w A := (∀ x, A x → x < w.heap.size) ∧ Rd w u ys ∧ (0 < ys.length → ∀ k, u.ownBlock = some k → A k ∨ Z k)
  rd := Z
  fact w := Rd w u ys
  lt := fun h => h.1
  chg := fun {w w' A} ⟨h1, h2, h3⟩ hs hc => ⟨fun x hx => Nat.lt_of_lt_of_le (h1 x hx) hs, h2.same fun hp k hk hl => hc k hl (h3 hp k hk), h3⟩
  ok := fun h => h.2.1
theorem rdz_fact (u : Value) (ys : List Int) (Z : Nat → Prop) (w : World) : (rdz u ys Z).fact w = Rd w u ys := (rfl)
def rds (u : Value) (ys : List Int) : Res where
  on w A := (∀ x, A x → x < w.heap.size) ∧ Rd w u ys ∧ (0 < ys.length → ∀ k, u.ownBlock = some k → A k)
  rd _ := False
  fact w := Rd w u ys
  lt := fun h => h.1
  chg := fun {w w' A} ⟨h1, h2, h3⟩ hs hc => ⟨fun x hx => Nat.lt_of_lt_of_le (h1 x hx) hs, h2.same fun hp k hk hl => hc k hl (.inl (h3 hp k hk)), h3⟩
  ok := fun h => h.2.1
theorem rds_fact (u : Value) (ys : List Int) (w : World) : (rds u ys).fact w = Rd w u ys := (rfl)
def Frs (w : World) (v : Value) (ls : List (List Int)) : Prop := ∃ us, Row 1 w v us.length us ∧ us.length = ls.length ∧ ∀ (i : Nat) (u : Value) (l : List Int), us[i]? = some u → ls[i]? = some l → Rd w u l
theorem Frs.shape {w : World} {v : Value} {ls : List (List Int)} (h : Frs w v ls) : ∃ a c, v = .slice a ls.length c := by
  obtain ⟨us, h1, h2, _⟩ := h
  obtain ⟨a, c, e, _⟩ := h1.shape
  exact ⟨a, c, by rw [e, h2]⟩
theorem Frs.len {w : World} {v : Value} {ls : List (List Int)} (h : Frs w v ls) : ls.length ≤ maxLen := by
  obtain ⟨us, h1, h2, _⟩ := h
  obtain ⟨a, c, e, h3, h4, _⟩ := h1.shape
  omega
theorem Frs.nil (w : World) : Frs w (.slice none 0 0) [] := ⟨[], Row.nil 1 w, rfl, fun i u l h => by simp at h⟩
theorem Frs.at {w : World} {a : Option Addr} {n c : Nat} {ls : List (List Int)} (h : Frs w (.slice a n c) ls) {i : Nat} (hi : i < ls.length) :
    ∃ b o u, a = some ⟨b, o, none⟩ ∧ w.cell? ⟨b, o + i, none⟩ = some u ∧ Rd w u ls[i] := by
  obtain ⟨us, h1, h2, h3⟩ := h
  obtain ⟨a', c', e, h4, h5, h6, h7⟩ := h1.shape
  obtain ⟨b, o, rfl, hc⟩ := h7 (by omega)
  injection e with e1 e2 e3
  have hu : us[i]? = some us[i] := List.getElem?_eq_getElem (by omega)
  exact ⟨b, o, us[i], e1, hc i _ hu, h3 i _ _ hu (List.getElem?_eq_getElem hi)⟩
theorem Frs.sep {w0 w : World} {M : List Res} {v : Value} {ls : List (List Int)} (h : Frs w0 v ls) (hh : Sep w0 (fun _ => False) M w) : Frs w v ls := by
  obtain ⟨us, h1, h2, h3⟩ := h
  exact ⟨us, h1.sep hh fun _ _ => id, h2, fun i u l hu hl => (h3 i u l hu hl).sep hh fun _ _ => id⟩

def frm (v : Value) (ls : List (List Int)) : Res where
  on w A := (∀ x, A x → x < w.heap.size) ∧ ∃ us, w.ownsRow 0 22 1 v us.length us ∧ (∀ k, v.ownBlock = some k → A k) ∧ us.length = ls.length ∧ (∀ u ∈ us, u.oneCell' = true) ∧
    ∀ (i : Nat) (u : Value) (l : List Int), us[i]? = some u → ls[i]? = some l → Rd w u l ∧ (0 < l.length → ∀ k, u.ownBlock = some k → A k ∧ v.ownBlock ≠ some k)
  rd _ := False
  fact w := Frs w v ls
  lt := fun h => h.1
  chg := fun {w w' A} ⟨h1, us, h2, h3, h4, h5, h6⟩ hs hc => ⟨fun x hx => Nat.lt_of_lt_of_le (h1 x hx) hs, us, owns_same h2 fun k hk => hc k (h1 k (h3 k hk)) (.inl (h3 k hk)), h3, h4, h5, fun i u l hu hl =>
    ⟨(h6 i u l hu hl).1.same fun hp k hk hlt => hc k hlt (.inl ((h6 i u l hu hl).2 hp k hk).1), (h6 i u l hu hl).2⟩⟩
  ok := fun ⟨h1, us, h2, h3, h4, h5, h6⟩ => ⟨us, row_of_owns h2 h5, h4, fun i u l hu hl => (h6 i u l hu hl).1⟩
theorem frm_fact (v : Value) (ls : List (List Int)) (w : World) : (frm v ls).fact w = Frs w v ls := (rfl)
end Go.Proofs.Ytnhgjgoglmadnaa
namespace Go.Proofs.Ytnhgjgoglmadnaa
open Go.RowKit
set_option linter.unusedVariables false

theorem rval_rng : ∀ (n : Nat) (xs : List Int), xs.length = n → n ≤ 7 → Byt xs → 0 ≤ xs.foldl rstep 0 ∧ xs.foldl rstep 0 < 256 ^ n
  | 0, xs, h, _, _ => by
    have : xs = [] := List.eq_nil_of_length_eq_zero h
    subst this; simp
  | n + 1, xs, h, h7, hb => by
    have hne : xs ≠ [] := by intro e; subst e; simp at h
    obtain ⟨ys, y, rfl⟩ : ∃ ys y, xs = ys ++ [y] := ⟨xs.dropLast, xs.getLast hne, (List.dropLast_concat_getLast hne).symm⟩
    simp at h
    obtain ⟨k1, k2⟩ := rval_rng n ys h (by omega) fun x hx => hb x (by simp [hx])
    have hy := hb y (by simp)
    rw [List.foldl_append]
    simp only [List.foldl_cons, List.foldl_nil]
    have hp : (256 : Int) ^ (n + 1) = 256 ^ n * 256 := Int.pow_succ _ _
    have hle : (256 : Int) ^ n ≤ 281474976710656 := by
      have hn : n = 0 ∨ n = 1 ∨ n = 2 ∨ n = 3 ∨ n = 4 ∨ n = 5 ∨ n = 6 := by omega
      rcases hn with rfl | rfl | rfl | rfl | rfl | rfl | rfl <;> decide
    rw [rstep_eq k1 hy (by omega), hp]
    omega
theorem numV_rng (s : R8) (k : Nat) (h1 : 1 ≤ k) (h7 : k ≤ 7) (hb : Byt s.l) : 0 ≤ s.numV k ∧ s.numV k < 256 ^ k := by
  by_cases hno : s.bad = true ∨ (k : Int) < 1 ∨ 7 < (k : Int) ∨ (s.l.length : Int) < k
  · obtain ⟨e, _⟩ := s.num_no k hno
    rw [e]
    exact ⟨Int.le_refl _, Int.pow_pos (by decide)⟩
  · have hbd : s.bad = false := by cases h : s.bad <;> simp [h] at hno ⊢
    obtain ⟨e, _⟩ := s.num_yes k hbd h1 h7 (by omega)
    rw [e]
    exact rval_rng k _ (by simp; omega) h7 fun x hx => hb x (List.mem_of_mem_take hx)
theorem num1_rng (s : R8) (hb : Byt s.l) : 0 ≤ s.numV 1 ∧ s.numV 1 ≤ 255 := by
  have := numV_rng s 1 (by omega) (by omega) hb
  have e : (256 : Int) ^ 1 = 256 := by decide
  rw [e] at this; have e2 : ((1 : Nat) : Int) = 1 := rfl
  rw [e2] at this; omega
theorem num2_rng (s : R8) (hb : Byt s.l) : 0 ≤ s.numV 2 ∧ s.numV 2 ≤ 65535 := by
  have := numV_rng s 2 (by omega) (by omega) hb
  have e : (256 : Int) ^ 2 = 65536 := by decide
  rw [e] at this; have e2 : ((2 : Nat) : Int) = 2 := rfl
  rw [e2] at this; omega
theorem num3_rng (s : R8) (hb : Byt s.l) : 0 ≤ s.numV 3 ∧ s.numV 3 < 16777216 := by
  have := numV_rng s 3 (by omega) (by omega) hb
  have e : (256 : Int) ^ 3 = 16777216 := by decide
  rw [e] at this; have e2 : ((3 : Nat) : Int) = 3 := rfl
  rw [e2] at this; omega
theorem num4_rng (s : R8) (hb : Byt s.l) : 0 ≤ s.numV 4 ∧ s.numV 4 < 4294967296 := by
  have := numV_rng s 4 (by omega) (by omega) hb
  have e : (256 : Int) ^ 4 = 4294967296 := by decide
  rw [e] at this; have e2 : ((4 : Nat) : Int) = 4 := rfl
  rw [e2] at this; omega
theorem numS_byt (s : R8) (n : Int) (hb : Byt s.l) : Byt (s.numS n).l := by
  unfold R8.numS R8.rawS
  have e : (s.sz n).l = s.l := by unfold R8.sz; split <;> rfl
  split
  · rw [e]; exact hb
  · rw [e]; exact fun x hx => hb x (List.mem_of_mem_drop hx)
theorem rawS_byt (s : R8) (n : Int) (hb : Byt s.l) : Byt (s.rawS n).l ∧ Byt (s.rawV n) := by
  unfold R8.rawS R8.rawV
  split
  · exact ⟨hb, Byt.nil⟩
  · exact ⟨fun x hx => hb x (List.mem_of_mem_drop hx), fun x hx => hb x (List.mem_of_mem_take hx)⟩
theorem ptS_byt (s : R8) (hb : Byt s.l) : Byt s.ptS.l := numS_byt _ 3 (numS_byt s 3 hb)
theorem ptV_rng (s : R8) (hb : Byt s.l) : (0 ≤ s.ptV.1 ∧ s.ptV.1 < 16777216) ∧ 0 ≤ s.ptV.2 ∧ s.ptV.2 < 16777216 := by
  unfold R8.ptV
  split
  · exact ⟨⟨by decide, by decide⟩, by decide, by decide⟩
  · exact ⟨num3_rng s hb, num3_rng _ (numS_byt s 3 hb)⟩
theorem tS3_byt (s : R8) (hb : Byt s.l) : Byt s.tS3.l := ptS_byt _ (ptS_byt _ (ptS_byt s hb))
theorem triS_byt (s : R8) (hb : Byt s.l) : Byt s.triS.l := by
  unfold R8.triS; split
  · exact tS3_byt s hb
  · split <;> exact tS3_byt s hb
def T3.rng (t : T3) : Prop := ((0 ≤ t.ax ∧ t.ax < 16777216) ∧ 0 ≤ t.ay ∧ t.ay < 16777216) ∧ ((0 ≤ t.bx ∧ t.bx < 16777216) ∧ 0 ≤ t.by' ∧ t.by' < 16777216) ∧ (0 ≤ t.cx ∧ t.cx < 16777216) ∧ 0 ≤ t.cy ∧ t.cy < 16777216
theorem triV_rng (s : R8) (hb : Byt s.l) : s.triV.rng := by
  have z : T3.zero.rng := by simp [T3.rng, T3.zero]
  unfold R8.triV
  split
  · exact z
  · split
    · exact ⟨ptV_rng s hb, ptV_rng _ (ptS_byt s hb), ptV_rng _ (ptS_byt _ (ptS_byt s hb))⟩
    · exact z
theorem numS_bad (s : R8) (n : Int) (h : s.bad = true) : (s.numS n).bad = true := (num_bad h n).2
end Go.Proofs.Ytnhgjgoglmadnaa
namespace Go.Proofs.Ytnhgjgoglmadnaa
open Go.RowKit
set_option linter.unusedVariables false

def cutX (i : Nat) (keep : List Nat) (ks : List Value) (slots : List Nat) (J : List Value → World → Prop) (Q : XQ) : XQ := fun e E w =>
  match e with
  | .exit j => if j = i then okK (gets E keep) fun ks' => okK (gets E slots) fun vs => ks' = ks ∧ J vs w else Q (.exit j) E w
  | e => Q e E w
theorem exitT_cut_exit {E : Env} {w : World} {Q : XQ} (i j : Nat) (keep : List Nat) (ks : List Value) (slots : List Nat) (J : List Value → World → Prop) :
    exitT (cutX i keep ks slots J Q) (.exit j) E w = if j = i then okK (gets E keep) (fun ks' => okK (gets E slots) fun vs => valK ks' fun ks' => valK vs fun vs => ks' = ks ∧ J vs w) else exitT Q (.exit j) E w := (rfl)
theorem loop_rule2 {P : Program} {n : Nat} {b : Code} {E : Env} {w : World} {Q : XQ} (i : Nat) (keep slots : List Nat) (I : Nat → List Value → World → Prop) (J : List Value → World → Prop) (hb : codeOk n b = true)
    (h0 : okK (gets E keep) fun _ => okK (gets E slots) fun vs => ∃ m, I m vs w)
    (hr : ∀ ks, gets E keep = some ks → ∀ m vs w1, I m vs w1 → codev P n b (slots.zip vs ++ keep.zip ks) w1 (roundQ keep ks slots I m (cutX i keep ks slots J Q)))
    (hx : ∀ ks, gets E keep = some ks → ∀ vs w1, J vs w1 → Q (.exit i) (slots.zip vs ++ keep.zip ks) w1) : loopG P n b E w Q := by
  intro a hA
  obtain ⟨ks, hks, _⟩ := okK_elim h0
  have := loop_rule (Q := cutX i keep ks slots J Q) keep slots I hb h0 (fun ks' hk m vs w1 hI => by
    rw [hks] at hk; injection hk with hk; subst hk; exact hr ks hks m vs w1 hI) a hA
  refine wp_mono this fun e a' w' he => ?_
  cases e with
  | exit j =>
    obtain ⟨E', hA', h'⟩ := he
    by_cases hj : j = i
    · subst hj
      simp only [cutX, if_true] at h'
      obtain ⟨ks', hks', h'⟩ := okK_elim h'
      obtain ⟨vs', hvs', rfl, hJ⟩ := okK_elim h'
      exact ⟨_, hA'.two (gets_zip hvs') (gets_zip hks'), hx _ hks _ _ hJ⟩
    · simp only [cutX, if_neg hj] at h'
      exact ⟨E', hA', h'⟩
  | _ => exact he
theorem walkLoop2 {P : Program} {n : Nat} {b : Code} {E : Env} {w : World} {Q : XQ} (i : Nat) (keep slots : List Nat) (I : Nat → List Value → World → Prop) (J : List Value → World → Prop) (hb : codeOk n b = true)
    (h0 : okK (gets E keep) fun _ => okK (gets E slots) fun vs => valK vs fun vs => ∃ m, I m vs w)
    (hr : ∀ ks, gets E keep = some ks → ∀ m vs w1, I m vs w1 → codevT P n b (slots.zip vs ++ keep.zip ks) w1 (roundQ keep ks slots I m (cutX i keep ks slots J Q)))
    (hx : ∀ ks, gets E keep = some ks → ∀ vs w1, J vs w1 → exitT Q (.exit i) (slots.zip vs ++ keep.zip ks) w1) : loopT P n b E w Q := loop_rule2 i keep slots I J hb h0 hr hx
end Go.Proofs.Ytnhgjgoglmadnaa
namespace Go.Proofs.Ytnhgjgoglmadnaa
open Go.RowKit
set_option linter.unusedVariables false

def cellsI (x : List Int) : List Value := x.map (Value.int .i64)
def flatT (xs : List (List Int)) : List Value := xs.flatMap cellsI
theorem cellsI_len (x : List Int) : (cellsI x).length = x.length := by simp [cellsI]
theorem cellsI_one {x : List Int} {u : Value} (h : u ∈ cellsI x) : u.oneCell' = true := by
  obtain ⟨y, _, rfl⟩ := List.mem_map.1 h; rfl
theorem flatT_one {xs : List (List Int)} {u : Value} (h : u ∈ flatT xs) : u.oneCell' = true := by
  obtain ⟨x, _, hx⟩ := List.mem_flatMap.1 h
  exact cellsI_one hx
theorem flatT_len {s : Nat} : ∀ {xs : List (List Int)}, (∀ x ∈ xs, x.length = s) → (flatT xs).length = xs.length * s
  | [], _ => by simp [flatT]
  | x :: xs, h => by
    have h1 := h x (by simp)
    have h2 := flatT_len (xs := xs) fun y hy => h y (by simp [hy])
    have e : flatT (x :: xs) = cellsI x ++ flatT xs := rfl
    rw [e, List.length_append, cellsI_len, h1, h2, List.length_cons, Nat.succ_mul]; omega
theorem flatT_at {s : Nat} : ∀ {xs : List (List Int)} {i : Nat} (h : i < xs.length), (∀ x ∈ xs, x.length = s) → ((flatT xs).drop (i * s)).take s = cellsI xs[i]
  | x :: xs, 0, h, hs => by
    have h1 := hs x (by simp)
    simp only [Nat.zero_mul, List.drop_zero, flatT, List.flatMap_cons, List.getElem_cons_zero]
    rw [List.take_append_of_le_length (by rw [cellsI_len, h1]; exact Nat.le_refl _), List.take_of_length_le (by rw [cellsI_len, h1]; exact Nat.le_refl _)]
  | x :: xs, i + 1, h, hs => by
    have h1 := hs x (by simp)
    have e : (i + 1) * s = (cellsI x).length + i * s := by rw [cellsI_len, h1, Nat.succ_mul]; omega
    simp only [flatT, List.flatMap_cons, List.getElem_cons_succ]
    rw [e, ← List.drop_drop, List.drop_append_of_le_length (Nat.le_refl _), List.drop_length, List.nil_append]
    exact flatT_at (by simpa using h) fun y hy => hs y (by simp [hy])
theorem Row.cellsAt {w : World} {s : Nat} {a : Option Addr} {m n c : Nat} {cs : List Value} (h : Row s w (.slice a m c) n cs) {i : Nat} (hi : i < n) (hs : 0 < s) :
    ∃ b o, a = some ⟨b, o, none⟩ ∧ cellsAt w b (o + i * s) s = some ((cs.drop (i * s)).take s) := by
  have hlen := h.len
  obtain ⟨a', c', e, h4, h5, h6, h7⟩ := h.shape
  injection e with e1 e2 e3
  obtain ⟨b, o, e4, hc⟩ := h7 (by omega)
  refine ⟨b, o, by rw [e1, e4], ?_⟩
  have hle : i * s + s ≤ cs.length := by rw [hlen, ← Nat.succ_mul]; exact Nat.mul_le_mul_right s hi
  have hl : ((cs.drop (i * s)).take s).length = s := by simp; omega
  have := cellsAt_of (w := w) (b := b) (o := o + i * s) ((cs.drop (i * s)).take s) (fun j u hj => by
    have hjl := (List.getElem?_eq_some_iff.1 hj).1
    rw [hl] at hjl
    rw [List.getElem?_take_of_lt hjl, List.getElem?_drop] at hj
    rw [Nat.add_assoc]; exact hc _ _ hj)
  rw [hl] at this
  exact this

structure Tab (s : Nat) (w : World) (v : Value) (xs : List (List Int)) : Prop where
  wid : ∀ x ∈ xs, x.length = s
  row : Row s w v xs.length (flatT xs)
theorem Tab.shape {s : Nat} {w : World} {v : Value} {xs : List (List Int)} (h : Tab s w v xs) : ∃ a c, v = .slice a xs.length c := by
  obtain ⟨a, c, e, _⟩ := h.row.shape
  exact ⟨a, c, e⟩
theorem Tab.len {s : Nat} {w : World} {v : Value} {xs : List (List Int)} (h : Tab s w v xs) : xs.length ≤ maxLen := by
  obtain ⟨a, c, e, h3, h4, _⟩ := h.row.shape
  omega
theorem Tab.nil (s : Nat) (w : World) : Tab s w (.slice none 0 0) [] := ⟨fun _ h => (by cases h), Row.nil s w⟩
theorem Tab.at {s : Nat} {w : World} {a : Option Addr} {m c : Nat} {xs : List (List Int)} (h : Tab s w (.slice a m c) xs) {i : Nat} (hi : i < xs.length) (hs : 0 < s) :
    ∃ b o, a = some ⟨b, o, none⟩ ∧ cellsAt w b (o + i * s) s = some (cellsI xs[i]) := by
  obtain ⟨b, o, e, hc⟩ := h.row.cellsAt hi hs
  rw [flatT_at hi h.wid] at hc
  exact ⟨b, o, e, hc⟩
theorem Tab.chg {S : Nat → Prop} {s : Nat} {w w' : World} {v : Value} {xs : List (List Int)} (h : Tab s w v xs) (hc : Chg S w w') (hn : ∀ k, v.ownBlock = some k → ¬ S k) : Tab s w' v xs := ⟨h.wid, h.row.chg hc hn⟩
theorem Tab.sep {s : Nat} {w0 w : World} {S : Nat → Prop} {M : List Res} {v : Value} {xs : List (List Int)} (h : Tab s w0 v xs) (hh : Sep w0 S M w) (hS : ∀ k, v.ownBlock = some k → ¬ S k) : Tab s w v xs := ⟨h.wid, h.row.sep hh hS⟩
def tab (e s : Nat) (v : Value) (xs : List (List Int)) : Res where
  on w A := (∀ x ∈ xs, x.length = s) ∧ w.ownsRow 0 e s v xs.length (flatT xs) ∧ A = fun x => v.ownBlock = some x
  rd _ := False
  fact w := Tab s w v xs
  lt := fun ⟨_, h, e⟩ x hx => by subst e; exact (World.ownsRow.lt h x hx).2
  chg := fun {w w' A} ⟨h0, h, e⟩ hs hc => ⟨h0, owns_same h fun k hk => hc k (World.ownsRow.lt h k hk).2 (.inl (by rw [e]; exact hk)), e⟩
  ok := fun ⟨h0, h, _⟩ => ⟨h0, row_of_owns h fun u hu => flatT_one hu⟩
theorem tab_fact (e s : Nat) (v : Value) (xs : List (List Int)) (w : World) : (tab e s v xs).fact w = Tab s w v xs := (rfl)
theorem Sep.tabNil (e s : Nat) {w0 w : World} {S : Nat → Prop} {M : List Res} (h : Sep w0 S M w) : Sep w0 S (M ++ [tab e s (.slice none 0 0) []]) w :=
  h.push (Chg.refl _ _) (A := fun _ => False) ⟨fun _ h => (by cases h), World.ownsRow_nil _ _ _ _, by funext x; simp [Value.ownBlock]⟩ (fun _ f => f.elim) (fun _ f => f.elim)
theorem Sep.appTab (i k : Nat) {P : Program} {t e : TypeId} {z : Value} {s by' : Nat} (hinf : (P.info? e).map (fun i => (i.zero, i.size, i.bytes)) = some (some z, s, by')) (ht : P.underlying t = some (.slice e)) (hzs : z.cells.size = s) (hs : 0 < s)
    {w0 w : World} {S : Nat → Prop} {M : List Res} {b : Nat} {v : Value} {xs : List (List Int)} (x : List Int) {ty : TypeId} {K : Value → World → Prop} (h : Sep w0 S M w) (hi : M[i]? = some (tab e s v xs)) (hk : M[k]? = some (blk b e (cellsI x))) (hx : x.length = s)
    (hl : (xs.length + 1) * by' ≤ 140737488355328) (h63 : xs.length + 1 ≤ maxLen)
    (hK : ∀ a c w', Sep w0 S (M.set i (tab e s (.slice a (xs ++ [x]).length c) (xs ++ [x]))) w' → K (.slice a (xs ++ [x]).length c) w') : RunK P (Builtin.append_ #[t, t] ty #[v, .slice (some ⟨b, 0, none⟩) 1 1]) w K := by
  obtain ⟨C, ⟨c1, _⟩, _, _⟩ := h.at hk
  obtain ⟨A, ⟨h0, h1, rfl⟩, _, h3⟩ := h.at hi
  have hrow : Row s w (.slice (some ⟨b, 0, none⟩) 1 1) 1 (cellsI x) := ⟨by rw [cellsI_len, hx, Nat.one_mul], fun u hu => cellsI_one hu, _, _, rfl, Nat.le_refl _, by simp [maxLen], fun e => by (cases e), fun _ => ⟨b, 0, rfl, fun j u hj => by rw [cell_of_row w b _ _ _ _ c1, Nat.zero_add]; simpa using hj⟩⟩
  refine append_rule hinf ht hzs hs h1 hrow hl h63 fun v' w' ho hg hat => ?_
  have hsh : ∃ a c, v' = .slice a (xs.length + 1) c := by
    rcases ho.2 with ⟨rfl, hz⟩ | ⟨g, cap, cur, rfl, _⟩
    · exact ⟨none, 0, by rw [hz]⟩
    · exact ⟨_, _, rfl⟩
  obtain ⟨a, c, rfl⟩ := hsh
  have el : (xs ++ [x]).length = xs.length + 1 := by simp
  have ef : flatT (xs ++ [x]) = flatT xs ++ cellsI x := by simp [flatT]
  have := hK a c w' (h3 _ _ w' ⟨fun y hy => (List.mem_append.1 hy).elim (h0 y) fun hy => by simp at hy; subst hy; exact hx, by rw [el, ef]; exact ho, rfl⟩ (fun y hy => ?_) (Chg.ofGrown hg) (fun _ f => f))
  · rw [el] at this; exact this
  · rw [el] at hy
    rcases hat with e | e
    · exact .inl (by rw [← e]; exact hy)
    · rw [hy] at e; injection e with e; exact .inr (by omega)

theorem Sep.wrMono' (i : Nat) {w0 w : World} {S : Nat → Prop} {M : List Res} {t p k : Nat} {s : W8} (k' : Nat) (h : Sep w0 S M w) (hi : M[i]? = some (wr t p s k)) (hk : k ≤ k') : Sep w0 S (M.set i (wr t p s k')) w :=
  h.conv i hi (fun A ⟨h1, h2, h3⟩ => ⟨Nat.le_trans h1 hk, h2, h3⟩) (fun _ f => f)
structure Ch where
  t : Int
  d : Bool
  b : List Int
def Chn (w : World) (v : Value) (cs : List Ch) : Prop := ∃ us : List Value, us.length = cs.length ∧ Row 3 w v cs.length (((cs.zip us).flatMap fun p => [.int .i64 p.1.t, .bool p.1.d, p.2]) : List Value) ∧ ∀ (i : Nat) (u : Value) (c : Ch), us[i]? = some u → cs[i]? = some c → Rd w u c.b
def cellsC (p : Ch × Value) : List Value := [.int .i64 p.1.t, .bool p.1.d, p.2]
theorem cellsC_at : ∀ {ps : List (Ch × Value)} {i : Nat} (h : i < ps.length), ((ps.flatMap cellsC).drop (i * 3)).take 3 = cellsC ps[i]
  | p :: ps, 0, h => by simp [cellsC]
  | p :: ps, i + 1, h => by
    have e : (i + 1) * 3 = (cellsC p).length + i * 3 := by simp [cellsC]; omega
    simp only [List.flatMap_cons, List.getElem_cons_succ]
    rw [e, ← List.drop_drop, List.drop_append_of_le_length (Nat.le_refl _), List.drop_length, List.nil_append]
    exact cellsC_at (by simpa using h)
theorem Chn.shape {w : World} {v : Value} {cs : List Ch} (h : Chn w v cs) : ∃ a c, v = .slice a cs.length c := by
  obtain ⟨us, _, h1, _⟩ := h
  obtain ⟨a, c, e, _⟩ := h1.shape
  exact ⟨a, c, e⟩
theorem Chn.len {w : World} {v : Value} {cs : List Ch} (h : Chn w v cs) : cs.length ≤ maxLen := by
  obtain ⟨us, _, h1, _⟩ := h
  obtain ⟨a, c, e, h3, h4, _⟩ := h1.shape
  omega
theorem Chn.nil (w : World) : Chn w (.slice none 0 0) [] := ⟨[], rfl, Row.nil 3 w, fun i u c h => by simp at h⟩
theorem Chn.at {w : World} {a : Option Addr} {m c : Nat} {cs : List Ch} (h : Chn w (.slice a m c) cs) {i : Nat} (hi : i < cs.length) :
    ∃ b o u, a = some ⟨b, o, none⟩ ∧ cellsAt w b (o + i * 3) 3 = some [.int .i64 cs[i].t, .bool cs[i].d, u] ∧ Rd w u cs[i].b := by
  obtain ⟨us, hl, h1, h2⟩ := h
  obtain ⟨b, o, e, hc⟩ := h1.cellsAt hi (by decide)
  have hz : i < (cs.zip us).length := by simp; omega
  have := cellsC_at hz
  simp only [cellsC] at this
  rw [show (fun p : Ch × Value => ([.int .i64 p.1.t, .bool p.1.d, p.2] : List Value)) = cellsC from rfl] at hc
  rw [cellsC_at hz] at hc
  refine ⟨b, o, us[i]'(by omega), e, ?_, h2 i _ _ (List.getElem?_eq_getElem (by omega)) (List.getElem?_eq_getElem hi)⟩
  rw [hc]; simp [cellsC]
theorem Chn.sep {w0 w : World} {M : List Res} {v : Value} {cs : List Ch} (h : Chn w0 v cs) (hh : Sep w0 (fun _ => False) M w) : Chn w v cs := by
  obtain ⟨us, h1, h2, h3⟩ := h
  exact ⟨us, h1, h2.sep hh fun _ _ => id, fun i u c hu hc => (h3 i u c hu hc).sep hh fun _ _ => id⟩
end Go.Proofs.Ytnhgjgoglmadnaa
