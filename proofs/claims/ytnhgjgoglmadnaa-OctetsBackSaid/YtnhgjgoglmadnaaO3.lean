/- The contracts of the bytes' package: readers, further. -/
import Derived.Test.YtnhgjgoglmadnaaO2
import Derived.Test.YtnhgjgoglmadnaaE
namespace Go.Proofs.Ytnhgjgoglmadnaa
open Go.RowKit
set_option maxRecDepth 100000
set_option linter.unusedSimpArgs false
set_option linter.unusedVariables false
set_option pp.maxSteps 1500
set_option pp.deepTerms.threshold 8

theorem rdone_nil (w : World) : Calls Try.prog 34 [.pointer none].toArray w (RetK fun r w' => r = .int .i64 2 ∧ w' = w) := by
  refine walk Try.func34 rfl (by kernel_rfl) (by rw [Try.nt34]; simp) ?_
  simp -dsimp only [↓vcA, vcB, vcD, ↓pureT_lenS, ↓iteT, ↓iteF, cond_true, cond_false, eq_self, argE, Env.get, Env.push, ev, evs, evo, retV, Value.cells, Value.oneCell', setR, overR, fillL, zl, places, allSizes, heldC, ne_eq, Int.reduceLE, Int.reduceLT, Int.reduceEq, Int.reduceNe, Int.reduceToNat, Int.cast_ofNat_Int, Nat.reduceMul, Nat.reduceLeDiff, reduceIte, Nat.reduceEqDiff, Nat.reduceAdd, ↓reduceIte, Try.vcT]
def R8.done (s : R8) : Bool := !s.bad && s.l.isEmpty
theorem rdone (p : Nat) (v : Value) (s : R8) (w : World) (hw : Rdr 134 w p v s) :
    Calls Try.prog 34 [.pointer (some ⟨p, 0, none⟩)].toArray w (RetK fun r w' => r = .int .i64 (if s.done then 0 else 2) ∧ w' = w) := by
  obtain ⟨a, c, rfl, h1, h2, h3, h4⟩ := hw.rd
  have hc1 := hw.c1
  refine walk Try.func34 rfl (by kernel_rfl) (by rw [Try.nt34]; simp) ?_
  cases hb : s.bad with
  | true =>
    rw [hb] at hc1
    simp -dsimp only [↓vcA, vcB, vcD, ↓pureT_lenS, ↓iteT, ↓iteF, cond_true, cond_false, eq_self, argE, Env.get, Env.push, ev, evs, evo, retV, Value.cells, Value.oneCell', setR, overR, fillL, zl, places, allSizes, heldC, ne_eq, Int.reduceLE, Int.reduceLT, Int.reduceEq, Int.reduceNe, Int.reduceToNat, Int.cast_ofNat_Int, Nat.reduceMul, Nat.reduceLeDiff, reduceIte, Nat.reduceEqDiff, Nat.reduceAdd, ↓reduceIte, Try.vcT, hc1]
    simp [R8.done, hb]
  | false =>
    rw [hb] at hc1
    by_cases hp : (0 : Int) < s.l.length
    · simp -dsimp only [↓vcA, vcB, vcD, ↓pureT_lenS, ↓iteT, ↓iteF, cond_true, cond_false, eq_self, argE, Env.get, Env.push, ev, evs, evo, retV, Value.cells, Value.oneCell', setR, overR, fillL, zl, places, allSizes, heldC, ne_eq, Int.reduceLE, Int.reduceLT, Int.reduceEq, Int.reduceNe, Int.reduceToNat, Int.cast_ofNat_Int, Nat.reduceMul, Nat.reduceLeDiff, reduceIte, Nat.reduceEqDiff, Nat.reduceAdd, ↓reduceIte, Try.vcT, hc1, hw.c0, decide_eq_true hp]
      have : s.l ≠ [] := fun e => by simp [e] at hp
      simp [R8.done, this]
    · simp -dsimp only [↓vcA, vcB, vcD, ↓pureT_lenS, ↓iteT, ↓iteF, cond_true, cond_false, eq_self, argE, Env.get, Env.push, ev, evs, evo, retV, Value.cells, Value.oneCell', setR, overR, fillL, zl, places, allSizes, heldC, ne_eq, Int.reduceLE, Int.reduceLT, Int.reduceEq, Int.reduceNe, Int.reduceToNat, Int.cast_ofNat_Int, Nat.reduceMul, Nat.reduceLeDiff, reduceIte, Nat.reduceEqDiff, Nat.reduceAdd, ↓reduceIte, Try.vcT, hc1, hw.c0, decide_eq_false hp]
      have : s.l = [] := List.eq_nil_of_length_eq_zero (by omega)
      simp [R8.done, this, hb]
def R8.left (s : R8) : Int := if s.bad then 0 else s.l.length
theorem rleft (p : Nat) (v : Value) (s : R8) (w : World) (hw : Rdr 134 w p v s) :
    Calls Try.prog 35 [.pointer (some ⟨p, 0, none⟩)].toArray w (RetK fun r w' => r = .int .i64 s.left ∧ w' = w) := by
  obtain ⟨a, c, rfl, h1, h2, h3, h4⟩ := hw.rd
  have hc1 := hw.c1
  refine walk Try.func35 rfl (by kernel_rfl) (by rw [Try.nt35]; simp) ?_
  cases hb : s.bad with
  | true =>
    rw [hb] at hc1
    simp -dsimp only [↓vcA, vcB, vcD, ↓pureT_lenS, ↓iteT, ↓iteF, cond_true, cond_false, eq_self, argE, Env.get, Env.push, ev, evs, evo, retV, Value.cells, Value.oneCell', setR, overR, fillL, zl, places, allSizes, heldC, ne_eq, Int.reduceLE, Int.reduceLT, Int.reduceEq, Int.reduceNe, Int.reduceToNat, Int.cast_ofNat_Int, Nat.reduceMul, Nat.reduceLeDiff, reduceIte, Nat.reduceEqDiff, Nat.reduceAdd, ↓reduceIte, Try.vcT, hc1]
    simp [R8.left, hb]
  | false =>
    rw [hb] at hc1
    simp -dsimp only [↓vcA, vcB, vcD, ↓pureT_lenS, ↓iteT, ↓iteF, cond_true, cond_false, eq_self, argE, Env.get, Env.push, ev, evs, evo, retV, Value.cells, Value.oneCell', setR, overR, fillL, zl, places, allSizes, heldC, ne_eq, Int.reduceLE, Int.reduceLT, Int.reduceEq, Int.reduceNe, Int.reduceToNat, Int.cast_ofNat_Int, Nat.reduceMul, Nat.reduceLeDiff, reduceIte, Nat.reduceEqDiff, Nat.reduceAdd, ↓reduceIte, Try.vcT, hc1, hw.c0]
    simp [R8.left, hb]
theorem read (v : Value) (xs : List Int) (w : World) (h : Rd w v xs) (hl : xs.length ≤ 10000000) :
    Calls Try.prog 32 [v].toArray w (RetK fun r w' => ∃ p v', r = .pointer (some ⟨p, 0, none⟩) ∧ Rdr 134 w' p v' ⟨xs, false⟩ ∧ Chg (fun _ => False) w w' ∧ w.heap.size ≤ p ∧ ∀ k, v'.ownBlock = some k → w.heap.size ≤ k) := by
  refine walk Try.func32 rfl (by kernel_rfl) (by rw [Try.nt32]; simp) ?_
  simp -dsimp only [↓vcA, vcB, vcD, ↓pureT_lenS, ↓iteT, ↓iteF, cond_true, cond_false, eq_self, argE, Env.get, Env.push, ev, evs, evo, retV, Value.cells, Value.oneCell', setR, overR, fillL, zl, places, allSizes, heldC, ne_eq, Int.reduceLE, Int.reduceLT, Int.reduceEq, Int.reduceNe, Int.reduceToNat, Int.cast_ofNat_Int, Nat.reduceMul, Nat.reduceLeDiff, reduceIte, Nat.reduceEqDiff, Nat.reduceAdd, ↓reduceIte, Try.vcT]
  refine callsK_use (clone v xs w h hl) ?_
  rintro r w1 ⟨hc, _⟩
  obtain ⟨a, c, rfl⟩ := owns_shape hc.own
  simp -dsimp only [↓vcA, vcB, vcD, ↓pureT_lenS, ↓iteT, ↓iteF, cond_true, cond_false, eq_self, argE, Env.get, Env.push, ev, evs, evo, retV, Value.cells, Value.oneCell', setR, overR, fillL, zl, places, allSizes, heldC, ne_eq, Int.reduceLE, Int.reduceLT, Int.reduceEq, Int.reduceNe, Int.reduceToNat, Int.cast_ofNat_Int, Nat.reduceMul, Nat.reduceLeDiff, reduceIte, Nat.reduceEqDiff, Nat.reduceAdd, ↓reduceIte, Try.vcT]
  intro w2 p hp
  have hlt : ∀ k, (Value.slice a xs.length c).ownBlock = some k → k < w1.heap.size := fun k hk => hc.own.lt hk
  refine ⟨p, _, rfl, ⟨hp.blk, hc.own.rd.chg hp.chg (fun _ _ => id), fun _ e => ?_⟩, hc.chg.trans hp.chg (fun _ f => f.elim), ?_, hc.new⟩
  · have := hlt _ e; have := hp.eq; omega
  · have := hp.eq; have := hc.chg.size; omega

theorem Chg.trans' {w w1 w2 : World} {p b : Nat} (h : Chg (fun k => k = p) w w1) (k : Chg (fun k => k = b) w1 w2) (hb : w.heap.size ≤ b) : Chg (fun k => k = p) w w2 := h.trans k fun x hx => .inr (by omega)
theorem RdQ.trans {t p : Nat} {w w1 w2 : World} {v v1 : Value} {s2 : R8} (hc : Chg (fun k => k = p) w w1) (hb : ∀ k, v1.ownBlock = some k → v.ownBlock = some k) (h : RdQ t p w1 v1 s2 w2) : RdQ t p w v s2 w2 := by
  obtain ⟨v2, h2, c2, b2⟩ := h
  exact ⟨v2, h2, hc.trans c2 (fun x hx => .inl hx), fun k hk => hb k (b2 k hk)⟩

theorem R8.rawS_len (s : R8) (n : Int) : (s.rawS n).l.length ≤ s.l.length := by
  unfold R8.rawS
  split
  · exact Nat.le_refl _
  · simp
theorem R8.numS_len (s : R8) (n : Int) : (s.numS n).l.length ≤ s.l.length := by
  unfold R8.numS
  have := (s.sz n).rawS_len n
  have e : (s.sz n).l = s.l := by unfold R8.sz; split <;> rfl
  rw [e] at this
  exact this
def R8.ptS (s : R8) : R8 := (s.numS 3).numS 3
def R8.ptV (s : R8) : Int × Int := if s.ptS.bad then (0, 0) else (s.numV 3, (s.numS 3).numV 3)
theorem R8.ptS_len (s : R8) : s.ptS.l.length ≤ s.l.length := Nat.le_trans ((s.numS 3).numS_len 3) (s.numS_len 3)
theorem rpoint (p : Nat) (v : Value) (s : R8) (w : World) (hw : Rdr 134 w p v s) (hl : s.l.length ≤ 10000000) :
    Calls Try.prog 49 [.pointer (some ⟨p, 0, none⟩)].toArray w (RetK fun r w' => r = .agg #[.int .i64 s.ptV.1, .int .i64 s.ptV.2] ∧ RdQ 134 p w v s.ptS w') := by
  refine walk Try.func49 rfl (by kernel_rfl) (by rw [Try.nt49]; simp) ?_
  simp -dsimp only [↓vcA, vcB, vcD, ↓pureT_lenS, ↓iteT, ↓iteF, cond_true, cond_false, eq_self, argE, Env.get, Env.push, ev, evs, evo, retV, Value.cells, Value.oneCell', setR, overR, fillL, zl, places, allSizes, heldC, ne_eq, Int.reduceLE, Int.reduceLT, Int.reduceEq, Int.reduceNe, Int.reduceToNat, Int.cast_ofNat_Int, Nat.reduceMul, Nat.reduceLeDiff, reduceIte, Nat.reduceEqDiff, Nat.reduceAdd, ↓reduceIte, Try.vcT]
  intro w1 b hb
  have hw1 := hw.chg hb.chg id (fun _ _ _ => id)
  have hlow := hw.lt
  refine callsK_use (rnum p v s 3 w1 hw1 hl) ?_
  rintro _ w2 ⟨rfl, v2, h2, c2, b2⟩
  simp -dsimp only [↓vcA, vcB, vcD, ↓pureT_lenS, ↓iteT, ↓iteF, cond_true, cond_false, eq_self, argE, Env.get, Env.push, ev, evs, evo, retV, Value.cells, Value.oneCell', setR, overR, fillL, zl, places, allSizes, heldC, ne_eq, Int.reduceLE, Int.reduceLT, Int.reduceEq, Int.reduceNe, Int.reduceToNat, Int.cast_ofNat_Int, Nat.reduceMul, Nat.reduceLeDiff, reduceIte, Nat.reduceEqDiff, Nat.reduceAdd, ↓reduceIte, Try.vcT]
  refine callsK_use (rnum p v2 (s.numS 3) 3 w2 h2 (Nat.le_trans (s.numS_len 3) hl)) ?_
  rintro _ w3 ⟨rfl, v3, h3, c3, b3⟩
  have hnb : ¬ b = p := by have := hb.eq; have := lt_of_block hw.blk; omega
  have bk : blkOf w3 b = some (_, _) := c3.blkOf (c2.blkOf hb.blkOf hnb) hnb
  have cc : Chg (fun k => k = p) w w3 := hb.chg.seq (c2.trans c3 fun x hx => .inl hx)
  have hbw : w.heap.size ≤ b := by have := hb.eq; omega
  have hc1 := h3.c1
  have es : s.ptS = (s.numS 3).numS 3 := rfl
  rw [← es] at h3 hc1
  cases hbad : s.ptS.bad with
  | true =>
    rw [hbad] at hc1
    simp -dsimp only [↓vcA, vcB, vcD, ↓pureT_lenS, ↓iteT, ↓iteF, cond_true, cond_false, eq_self, argE, Env.get, Env.push, ev, evs, evo, retV, Value.cells, Value.oneCell', setR, overR, fillL, zl, places, allSizes, heldC, ne_eq, Int.reduceLE, Int.reduceLT, Int.reduceEq, Int.reduceNe, Int.reduceToNat, Int.cast_ofNat_Int, Nat.reduceMul, Nat.reduceLeDiff, reduceIte, Nat.reduceEqDiff, Nat.reduceAdd, ↓reduceIte, Try.vcT, hc1, bk]
    intro w4 p4
    simp -dsimp only [↓vcA, vcB, vcD, ↓pureT_lenS, ↓iteT, ↓iteF, cond_true, cond_false, eq_self, argE, Env.get, Env.push, ev, evs, evo, retV, Value.cells, Value.oneCell', setR, overR, fillL, zl, places, allSizes, heldC, ne_eq, Int.reduceLE, Int.reduceLT, Int.reduceEq, Int.reduceNe, Int.reduceToNat, Int.cast_ofNat_Int, Nat.reduceMul, Nat.reduceLeDiff, reduceIte, Nat.reduceEqDiff, Nat.reduceAdd, ↓reduceIte, Try.vcT, cellsAt, p4.cell]
    have h4 := h3.chg p4.chg (fun e => hnb e.symm) (fun hpos k hk e => by
      have := b2 k (b3 k hk)
      have := hlow (Nat.lt_of_lt_of_le hpos s.ptS_len) k this; omega)
    refine ⟨by simp [R8.ptV, hbad], v3, h4, ?_, fun k hk => b2 k (b3 k hk)⟩
    exact cc.trans' p4.chg hbw
  | false =>
    rw [hbad] at hc1
    simp -dsimp only [↓vcA, vcB, vcD, ↓pureT_lenS, ↓iteT, ↓iteF, cond_true, cond_false, eq_self, argE, Env.get, Env.push, ev, evs, evo, retV, Value.cells, Value.oneCell', setR, overR, fillL, zl, places, allSizes, heldC, ne_eq, Int.reduceLE, Int.reduceLT, Int.reduceEq, Int.reduceNe, Int.reduceToNat, Int.cast_ofNat_Int, Nat.reduceMul, Nat.reduceLeDiff, reduceIte, Nat.reduceEqDiff, Nat.reduceAdd, ↓reduceIte, Try.vcT, hc1, bk]
    intro w4 p4
    simp -dsimp only [↓vcA, vcB, vcD, ↓pureT_lenS, ↓iteT, ↓iteF, cond_true, cond_false, eq_self, argE, Env.get, Env.push, ev, evs, evo, retV, Value.cells, Value.oneCell', setR, overR, fillL, zl, places, allSizes, heldC, ne_eq, Int.reduceLE, Int.reduceLT, Int.reduceEq, Int.reduceNe, Int.reduceToNat, Int.cast_ofNat_Int, Nat.reduceMul, Nat.reduceLeDiff, reduceIte, Nat.reduceEqDiff, Nat.reduceAdd, ↓reduceIte, Try.vcT, cellsAt, p4.cell]
    have h4 := h3.chg p4.chg (fun e => hnb e.symm) (fun hpos k hk e => by
      have := b2 k (b3 k hk)
      have := hlow (Nat.lt_of_lt_of_le hpos s.ptS_len) k this; omega)
    refine ⟨by simp [R8.ptV, hbad], v3, h4, ?_, fun k hk => b2 k (b3 k hk)⟩
    exact cc.trans' p4.chg hbw
end Go.Proofs.Ytnhgjgoglmadnaa
