/- Joined texts of this claim (part 5), printed by a program of this work. The last part holds the claimed theorem: the law answers true at every input of its row. -/
import Derived.Test.YtnhgjgoglmadnaaSP14d
namespace Go.Proofs.Ytnhgjgoglmadnaa
open Go.RowKit
set_option linter.unusedVariables false

theorem i64w (n : Int) (h0 : -9223372036854775808 ≤ n) (h1 : n ≤ 9223372036854775807) : IntKind.i64.wrap n = n := IntWalk.i64_in _ (by omega)
theorem rstep_eq {a x : Int} (ha : 0 ≤ a) (hx : 0 ≤ x ∧ x ≤ 255) (h : a * 256 + x ≤ 9223372036854775807) : rstep a x = a * 256 + x := by
  obtain ⟨m, rfl⟩ := Int.eq_ofNat_of_zero_le ha
  obtain ⟨y, rfl⟩ := Int.eq_ofNat_of_zero_le hx.1
  unfold rstep
  have e : IntKind.i64.bits = 64 := rfl
  have h64 : (2 : Nat) ^ 64 = 18446744073709551616 := by decide
  have e1 : min 8 IntKind.i64.bits = 8 := rfl
  rw [e1, e]
  have p8 : (2 : Int) ^ 8 = 256 := by decide
  rw [p8, i64w ((m : Int) * 256) (by omega) (by omega), i64w (y : Int) (by omega) (by omega)]
  have e2 : ((m : Int) * 256) = ((m * 256 : Nat) : Int) := by omega
  rw [e2, BitVec.ofInt_natCast, BitVec.ofInt_natCast, BitVec.toNat_or, BitVec.toNat_ofNat, BitVec.toNat_ofNat, h64, Nat.mod_eq_of_lt (show m * 256 < 18446744073709551616 by omega), Nat.mod_eq_of_lt (show y < 18446744073709551616 by omega)]
  have e3 : m * 256 ||| y = m * 256 + y := by
    have := Nat.two_pow_add_eq_or_of_lt (i := 8) (b := y) (by omega) m
    rw [Nat.mul_comm] at this
    exact this.symm
  rw [e3, i64w _ (by omega) (by omega)]
  omega

theorem be_byt (n : Int) (s : Nat) : Byt (be n s) := fun x hx => by
  simp only [be, List.mem_map] at hx
  obtain ⟨i, _, rfl⟩ := hx
  omega
theorem be_part (n : Int) (s : Nat) (h0 : 0 ≤ n) (h1 : n ≤ 9223372036854775807) (hfit : n / 2 ^ (8 * s) = 0) : ∀ i, i ≤ s → ((be n s).take i).foldl rstep 0 = n / 2 ^ (8 * (s - i))
  | 0, _ => by simp [hfit]
  | i + 1, hi => by
    rw [be_take n s i (by omega), List.foldl_append, be_part n s h0 h1 hfit i (by omega)]
    simp only [List.foldl_cons, List.foldl_nil]
    have e1 : 8 * (s - i) = 8 * (s - 1 - i) + 8 := by omega
    have e2 : 8 * (s - (i + 1)) = 8 * (s - 1 - i) := by omega
    rw [e1, e2, Int.pow_add, ← Int.ediv_ediv_of_nonneg (Int.le_of_lt (Int.pow_pos (by decide)))]
    have p8 : (2 : Int) ^ 8 = 256 := by decide
    rw [p8]
    generalize hq : n / 2 ^ (8 * (s - 1 - i)) = q
    have hq0 : 0 ≤ q := by rw [← hq]; exact Int.ediv_nonneg h0 (Int.le_of_lt (Int.pow_pos (by decide)))
    have hq1 : q ≤ n := by rw [← hq]; exact Int.ediv_le_self _ h0
    rw [rstep_eq (by omega) (by omega) (by omega)]
    omega
theorem rval_be (n : Int) (s : Nat) (h0 : 0 ≤ n) (h1 : n ≤ 9223372036854775807) (hfit : n / 2 ^ (8 * s) = 0) : rval (be n s) = n := by
  have := be_part n s h0 h1 hfit s (Nat.le_refl _)
  rw [List.take_of_length_le (by rw [be_length]; exact Nat.le_refl _)] at this
  unfold rval
  rw [this]
  simp
end Go.Proofs.Ytnhgjgoglmadnaa
namespace Go.Proofs.Ytnhgjgoglmadnaa
open Go.RowKit
set_option maxRecDepth 100000
set_option linter.unusedSimpArgs false
set_option linter.unusedVariables false
set_option pp.maxSteps 1500
set_option pp.deepTerms.threshold 8

theorem Wr.fresh {w w1 : World} {b : Nat} {t : TypeId} (h : New w w1 b [.slice none 0 0, .bool false] t) : WrS t w1 b (.slice none 0 0) ⟨[], false⟩ := ⟨h.blk, Own.nil w1⟩
def Up (N : Nat) (v : Value) : Prop := ∀ k, v.ownBlock = some k → N ≤ k
structure Fr (N : Nat) (w w' : World) : Prop where
  le : N ≤ w.heap.size
  chg : Chg (fun k => N ≤ k) w w'
theorem Fr.refl (w : World) : Fr w.heap.size w w := ⟨Nat.le_refl _, Chg.refl _ _⟩
theorem Fr.go {N : Nat} {S : Nat → Prop} {w w1 w2 : World} (f : Fr N w w1) (h : Chg S w1 w2) (hs : ∀ x, S x → N ≤ x) : Fr N w w2 := ⟨f.le, f.chg.trans h fun x hx => .inl (hs x hx)⟩
theorem Fr.at {N : Nat} {w w1 : World} (f : Fr N w w1) : N ≤ w1.heap.size := Nat.le_trans f.le f.chg.size
theorem Fr.new {N : Nat} {w w1 w2 : World} {b : Nat} {cs : List Value} {t : TypeId} (f : Fr N w w1) (h : New w1 w2 b cs t) : Fr N w w2 := f.go h.chg fun _ x => x.elim
theorem Fr.newUp {N : Nat} {w w1 w2 : World} {b : Nat} {cs : List Value} {t : TypeId} (f : Fr N w w1) (h : New w1 w2 b cs t) : N ≤ b := by have := f.at; have := h.eq; omega
theorem Fr.wr {N p : Nat} {w w1 w2 : World} {v v2 : Value} (f : Fr N w w1) (k : WrStep p w1 v w2 v2) (hp : N ≤ p) (hv : Up N v) : Fr N w w2 := f.go k.chg fun x hx => hx.elim (fun e => e ▸ hp) (hv x)
theorem Fr.nil {N : Nat} {w w1 w2 : World} (f : Fr N w w1) (h : Chg (fun _ => False) w1 w2) : Fr N w w2 := f.go h fun _ x => x.elim
theorem Fr.one {N p : Nat} {w w1 w2 : World} (f : Fr N w w1) (h : Chg (fun k => k = p) w1 w2) (hp : N ≤ p) : Fr N w w2 := f.go h fun _ e => e ▸ hp
theorem Fr.done {w w1 : World} (f : Fr w.heap.size w w1) : Chg (fun _ => False) w w1 := ⟨f.chg.os, f.chg.tape, f.chg.output, f.chg.size, fun k hk _ => f.chg.block k hk (by omega)⟩
theorem Rd.fr {N : Nat} {w w1 : World} {v : Value} {xs : List Int} (h : Rd w v xs) (f : Fr N w w1) (hl : ∀ k, v.ownBlock = some k → k < N) : Rd w1 v xs := h.chg f.chg fun k hk e => by have := hl k hk; omega
theorem Up.nil (N : Nat) : Up N (.slice none 0 0) := fun k hk => by simp [Value.ownBlock] at hk

theorem Rd.nil (w : World) : Rd w (.slice none 0 0) [] := (Own.nil w).rd

theorem strLit (xs : List Int) (b : ByteArray) : ((strOfNums xs).toList == b.toList) = (Lib.bytesOf xs == b.data.toList) := by rw [Lib.strOfNums_toList, Lib.toList_data]
end Go.Proofs.Ytnhgjgoglmadnaa
namespace Go.Proofs.Ytnhgjgoglmadnaa
open Go.RowKit
set_option maxRecDepth 100000
set_option linter.unusedSimpArgs false
set_option linter.unusedVariables false
set_option pp.maxSteps 1500
set_option pp.deepTerms.threshold 8

abbrev RetP (x : Value) (w : World) : Ending → World → Prop := RetK fun r w' => r = x ∧ Chg (fun _ => False) w w'
theorem callsK_new {P : Program} {f : FuncId} {args : Array Value} {w : World} {x : Value} {K : Value → World → Prop} (h : Calls P f args w (RetP x w)) (hk : ∀ w', Chg (fun _ => False) w w' → K x w') : callsK P f args w K :=
  callsK_use h fun _ _ ⟨e1, e2⟩ => by rw [e1]; exact hk _ e2
theorem chg_blk {w w' : World} {b : Nat} {x : List Value × TypeId} (c : Chg (fun _ => False) w w') (h : blkOf w b = some x) : blkOf w' b = some x := c.blkOf h id

def vpt (x y : Int) : Bool := decide (0 ≤ x ∧ x < 16777216 ∧ 0 ≤ y ∧ y < 16777216)
theorem valid47 (x y : Int) (w : World) : Calls Try.prog 47 [.agg #[.int .i64 x, .int .i64 y]].toArray w (RetP (.bool (vpt x y)) w) := by
  refine walk Try.func47 rfl (by kernel_rfl) (by rw [Try.nt47]; simp) ?_
  simp -dsimp only [↓vcA, vcB, vcD, ↓pureT_lenS, ↓iteT, ↓iteF, cond_true, cond_false, eq_self, argE, Env.get, Env.push, ev, evs, evo, retV, Value.cells, Value.oneCell', setR, overR, fillL, zl, places, allSizes, heldC, ne_eq, Int.reduceLE, Int.reduceLT, Int.reduceEq, Int.reduceNe, Int.reduceToNat, Int.cast_ofNat_Int, Nat.reduceMul, Nat.reduceLeDiff, reduceIte, Nat.reduceEqDiff, Nat.reduceAdd, ↓reduceIte, Try.vcT]
  intro w1 b hb
  by_cases a1 : 0 ≤ x
  · by_cases a2 : x < 16777216
    · by_cases a3 : 0 ≤ y
      · by_cases a4 : y < 16777216
        · have e : vpt x y = true := by simp [vpt]; omega
          simp -dsimp only [↓vcA, vcB, vcD, ↓pureT_lenS, ↓iteT, ↓iteF, cond_true, cond_false, eq_self, argE, Env.get, Env.push, ev, evs, evo, retV, Value.cells, Value.oneCell', setR, overR, fillL, zl, places, allSizes, heldC, ne_eq, Int.reduceLE, Int.reduceLT, Int.reduceEq, Int.reduceNe, Int.reduceToNat, Int.cast_ofNat_Int, Nat.reduceMul, Nat.reduceLeDiff, reduceIte, Nat.reduceEqDiff, Nat.reduceAdd, ↓reduceIte, Try.vcT, hb.cell, decide_eq_true a1, decide_eq_true a2, decide_eq_true a3, decide_eq_true a4, e]
          exact hb.chg
        · have e : vpt x y = false := by simp [vpt]; omega
          simp -dsimp only [↓vcA, vcB, vcD, ↓pureT_lenS, ↓iteT, ↓iteF, cond_true, cond_false, eq_self, argE, Env.get, Env.push, ev, evs, evo, retV, Value.cells, Value.oneCell', setR, overR, fillL, zl, places, allSizes, heldC, ne_eq, Int.reduceLE, Int.reduceLT, Int.reduceEq, Int.reduceNe, Int.reduceToNat, Int.cast_ofNat_Int, Nat.reduceMul, Nat.reduceLeDiff, reduceIte, Nat.reduceEqDiff, Nat.reduceAdd, ↓reduceIte, Try.vcT, hb.cell, decide_eq_true a1, decide_eq_true a2, decide_eq_true a3, decide_eq_false a4, e]
          exact hb.chg
      · have e : vpt x y = false := by simp [vpt]; omega
        simp -dsimp only [↓vcA, vcB, vcD, ↓pureT_lenS, ↓iteT, ↓iteF, cond_true, cond_false, eq_self, argE, Env.get, Env.push, ev, evs, evo, retV, Value.cells, Value.oneCell', setR, overR, fillL, zl, places, allSizes, heldC, ne_eq, Int.reduceLE, Int.reduceLT, Int.reduceEq, Int.reduceNe, Int.reduceToNat, Int.cast_ofNat_Int, Nat.reduceMul, Nat.reduceLeDiff, reduceIte, Nat.reduceEqDiff, Nat.reduceAdd, ↓reduceIte, Try.vcT, hb.cell, decide_eq_true a1, decide_eq_true a2, decide_eq_false a3, e]
        exact hb.chg
    · have e : vpt x y = false := by simp [vpt]; omega
      simp -dsimp only [↓vcA, vcB, vcD, ↓pureT_lenS, ↓iteT, ↓iteF, cond_true, cond_false, eq_self, argE, Env.get, Env.push, ev, evs, evo, retV, Value.cells, Value.oneCell', setR, overR, fillL, zl, places, allSizes, heldC, ne_eq, Int.reduceLE, Int.reduceLT, Int.reduceEq, Int.reduceNe, Int.reduceToNat, Int.cast_ofNat_Int, Nat.reduceMul, Nat.reduceLeDiff, reduceIte, Nat.reduceEqDiff, Nat.reduceAdd, ↓reduceIte, Try.vcT, hb.cell, decide_eq_true a1, decide_eq_false a2, e]
      exact hb.chg
  · have e : vpt x y = false := by simp [vpt]; omega
    simp -dsimp only [↓vcA, vcB, vcD, ↓pureT_lenS, ↓iteT, ↓iteF, cond_true, cond_false, eq_self, argE, Env.get, Env.push, ev, evs, evo, retV, Value.cells, Value.oneCell', setR, overR, fillL, zl, places, allSizes, heldC, ne_eq, Int.reduceLE, Int.reduceLT, Int.reduceEq, Int.reduceNe, Int.reduceToNat, Int.cast_ofNat_Int, Nat.reduceMul, Nat.reduceLeDiff, reduceIte, Nat.reduceEqDiff, Nat.reduceAdd, ↓reduceIte, Try.vcT, hb.cell, decide_eq_false a1, e]
    exact hb.chg
theorem valid150 (x y : Int) (w : World) : Calls Try.prog 150 [.agg #[.int .i64 x, .int .i64 y]].toArray w (RetP (.bool (vpt x y)) w) := by
  refine walk Try.func150 rfl (by kernel_rfl) (by rw [Try.nt150]; simp) ?_
  simp -dsimp only [↓vcA, vcB, vcD, ↓pureT_lenS, ↓iteT, ↓iteF, cond_true, cond_false, eq_self, argE, Env.get, Env.push, ev, evs, evo, retV, Value.cells, Value.oneCell', setR, overR, fillL, zl, places, allSizes, heldC, ne_eq, Int.reduceLE, Int.reduceLT, Int.reduceEq, Int.reduceNe, Int.reduceToNat, Int.cast_ofNat_Int, Nat.reduceMul, Nat.reduceLeDiff, reduceIte, Nat.reduceEqDiff, Nat.reduceAdd, ↓reduceIte, Try.vcT]
  intro w1 b hb
  by_cases a1 : 0 ≤ x
  · by_cases a2 : x < 16777216
    · by_cases a3 : 0 ≤ y
      · by_cases a4 : y < 16777216
        · have e : vpt x y = true := by simp [vpt]; omega
          simp -dsimp only [↓vcA, vcB, vcD, ↓pureT_lenS, ↓iteT, ↓iteF, cond_true, cond_false, eq_self, argE, Env.get, Env.push, ev, evs, evo, retV, Value.cells, Value.oneCell', setR, overR, fillL, zl, places, allSizes, heldC, ne_eq, Int.reduceLE, Int.reduceLT, Int.reduceEq, Int.reduceNe, Int.reduceToNat, Int.cast_ofNat_Int, Nat.reduceMul, Nat.reduceLeDiff, reduceIte, Nat.reduceEqDiff, Nat.reduceAdd, ↓reduceIte, Try.vcT, hb.cell, decide_eq_true a1, decide_eq_true a2, decide_eq_true a3, decide_eq_true a4, e]
          exact hb.chg
        · have e : vpt x y = false := by simp [vpt]; omega
          simp -dsimp only [↓vcA, vcB, vcD, ↓pureT_lenS, ↓iteT, ↓iteF, cond_true, cond_false, eq_self, argE, Env.get, Env.push, ev, evs, evo, retV, Value.cells, Value.oneCell', setR, overR, fillL, zl, places, allSizes, heldC, ne_eq, Int.reduceLE, Int.reduceLT, Int.reduceEq, Int.reduceNe, Int.reduceToNat, Int.cast_ofNat_Int, Nat.reduceMul, Nat.reduceLeDiff, reduceIte, Nat.reduceEqDiff, Nat.reduceAdd, ↓reduceIte, Try.vcT, hb.cell, decide_eq_true a1, decide_eq_true a2, decide_eq_true a3, decide_eq_false a4, e]
          exact hb.chg
      · have e : vpt x y = false := by simp [vpt]; omega
        simp -dsimp only [↓vcA, vcB, vcD, ↓pureT_lenS, ↓iteT, ↓iteF, cond_true, cond_false, eq_self, argE, Env.get, Env.push, ev, evs, evo, retV, Value.cells, Value.oneCell', setR, overR, fillL, zl, places, allSizes, heldC, ne_eq, Int.reduceLE, Int.reduceLT, Int.reduceEq, Int.reduceNe, Int.reduceToNat, Int.cast_ofNat_Int, Nat.reduceMul, Nat.reduceLeDiff, reduceIte, Nat.reduceEqDiff, Nat.reduceAdd, ↓reduceIte, Try.vcT, hb.cell, decide_eq_true a1, decide_eq_true a2, decide_eq_false a3, e]
        exact hb.chg
    · have e : vpt x y = false := by simp [vpt]; omega
      simp -dsimp only [↓vcA, vcB, vcD, ↓pureT_lenS, ↓iteT, ↓iteF, cond_true, cond_false, eq_self, argE, Env.get, Env.push, ev, evs, evo, retV, Value.cells, Value.oneCell', setR, overR, fillL, zl, places, allSizes, heldC, ne_eq, Int.reduceLE, Int.reduceLT, Int.reduceEq, Int.reduceNe, Int.reduceToNat, Int.cast_ofNat_Int, Nat.reduceMul, Nat.reduceLeDiff, reduceIte, Nat.reduceEqDiff, Nat.reduceAdd, ↓reduceIte, Try.vcT, hb.cell, decide_eq_true a1, decide_eq_false a2, e]
      exact hb.chg
  · have e : vpt x y = false := by simp [vpt]; omega
    simp -dsimp only [↓vcA, vcB, vcD, ↓pureT_lenS, ↓iteT, ↓iteF, cond_true, cond_false, eq_self, argE, Env.get, Env.push, ev, evs, evo, retV, Value.cells, Value.oneCell', setR, overR, fillL, zl, places, allSizes, heldC, ne_eq, Int.reduceLE, Int.reduceLT, Int.reduceEq, Int.reduceNe, Int.reduceToNat, Int.cast_ofNat_Int, Nat.reduceMul, Nat.reduceLeDiff, reduceIte, Nat.reduceEqDiff, Nat.reduceAdd, ↓reduceIte, Try.vcT, hb.cell, decide_eq_false a1, e]
    exact hb.chg

def cmpI (x y : Int) : Int := if x < y then -1 else if y < x then 1 else 0
theorem isNaN (x : Int) (w : World) : Calls Try.prog 151 [.int .i64 x].toArray w (RetK fun r w' => r = .bool false ∧ w' = w) := by
  refine walk Try.func151 rfl (by kernel_rfl) (by rw [Try.nt151]; simp) ?_
  simp -dsimp only [↓vcA, vcB, vcD, ↓pureT_lenS, ↓iteT, ↓iteF, cond_true, cond_false, eq_self, argE, Env.get, Env.push, ev, evs, evo, retV, Value.cells, Value.oneCell', setR, overR, fillL, zl, places, allSizes, heldC, ne_eq, Int.reduceLE, Int.reduceLT, Int.reduceEq, Int.reduceNe, Int.reduceToNat, Int.cast_ofNat_Int, Nat.reduceMul, Nat.reduceLeDiff, reduceIte, Nat.reduceEqDiff, Nat.reduceAdd, ↓reduceIte, Try.vcT]
theorem compare (x y : Int) (w : World) : Calls Try.prog 148 [.int .i64 x, .int .i64 y].toArray w (RetK fun r w' => r = .int .i64 (cmpI x y) ∧ w' = w) := by
  refine walk Try.func148 rfl (by kernel_rfl) (by rw [Try.nt148]; simp) ?_
  simp -dsimp only [↓vcA, vcB, vcD, ↓pureT_lenS, ↓iteT, ↓iteF, cond_true, cond_false, eq_self, argE, Env.get, Env.push, ev, evs, evo, retV, Value.cells, Value.oneCell', setR, overR, fillL, zl, places, allSizes, heldC, ne_eq, Int.reduceLE, Int.reduceLT, Int.reduceEq, Int.reduceNe, Int.reduceToNat, Int.cast_ofNat_Int, Nat.reduceMul, Nat.reduceLeDiff, reduceIte, Nat.reduceEqDiff, Nat.reduceAdd, ↓reduceIte, Try.vcT]
  refine callsK_pure (isNaN x w) ?_
  simp -dsimp only [↓vcA, vcB, vcD, ↓pureT_lenS, ↓iteT, ↓iteF, cond_true, cond_false, eq_self, argE, Env.get, Env.push, ev, evs, evo, retV, Value.cells, Value.oneCell', setR, overR, fillL, zl, places, allSizes, heldC, ne_eq, Int.reduceLE, Int.reduceLT, Int.reduceEq, Int.reduceNe, Int.reduceToNat, Int.cast_ofNat_Int, Nat.reduceMul, Nat.reduceLeDiff, reduceIte, Nat.reduceEqDiff, Nat.reduceAdd, ↓reduceIte, Try.vcT]
  refine callsK_pure (isNaN y w) ?_
  by_cases h1 : x < y
  · have e : cmpI x y = -1 := by simp [cmpI, h1]
    simp -dsimp only [↓vcA, vcB, vcD, ↓pureT_lenS, ↓iteT, ↓iteF, cond_true, cond_false, eq_self, argE, Env.get, Env.push, ev, evs, evo, retV, Value.cells, Value.oneCell', setR, overR, fillL, zl, places, allSizes, heldC, ne_eq, Int.reduceLE, Int.reduceLT, Int.reduceEq, Int.reduceNe, Int.reduceToNat, Int.cast_ofNat_Int, Nat.reduceMul, Nat.reduceLeDiff, reduceIte, Nat.reduceEqDiff, Nat.reduceAdd, ↓reduceIte, Try.vcT, decide_eq_true h1, e]
  · by_cases h2 : y < x
    · have e : cmpI x y = 1 := by simp [cmpI, h1, h2]
      simp -dsimp only [↓vcA, vcB, vcD, ↓pureT_lenS, ↓iteT, ↓iteF, cond_true, cond_false, eq_self, argE, Env.get, Env.push, ev, evs, evo, retV, Value.cells, Value.oneCell', setR, overR, fillL, zl, places, allSizes, heldC, ne_eq, Int.reduceLE, Int.reduceLT, Int.reduceEq, Int.reduceNe, Int.reduceToNat, Int.cast_ofNat_Int, Nat.reduceMul, Nat.reduceLeDiff, reduceIte, Nat.reduceEqDiff, Nat.reduceAdd, ↓reduceIte, Try.vcT, decide_eq_false h1, decide_eq_true h2, e]
    · have e : cmpI x y = 0 := by simp [cmpI, h1, h2]
      simp -dsimp only [↓vcA, vcB, vcD, ↓pureT_lenS, ↓iteT, ↓iteF, cond_true, cond_false, eq_self, argE, Env.get, Env.push, ev, evs, evo, retV, Value.cells, Value.oneCell', setR, overR, fillL, zl, places, allSizes, heldC, ne_eq, Int.reduceLE, Int.reduceLT, Int.reduceEq, Int.reduceNe, Int.reduceToNat, Int.cast_ofNat_Int, Nat.reduceMul, Nat.reduceLeDiff, reduceIte, Nat.reduceEqDiff, Nat.reduceAdd, ↓reduceIte, Try.vcT, decide_eq_false h1, decide_eq_false h2, e]
theorem or2 (a c : Int) (b : Nat) (w : World) (h0 : w.cell? ⟨b, 0, none⟩ = some (.int .i64 a)) (h1 : w.cell? ⟨b, 1, none⟩ = some (.int .i64 c)) :
    Calls Try.prog 149 [.slice (some ⟨b, 0, none⟩) 2 2].toArray w (RetK fun r w' => r = .int .i64 (if a = 0 then c else a) ∧ w' = w) := by
  refine walk Try.func149 rfl (by kernel_rfl) (by rw [Try.nt149]; simp) ?_
  simp -dsimp only [↓vcA, vcB, vcD, ↓pureT_lenS, ↓iteT, ↓iteF, cond_true, cond_false, eq_self, argE, Env.get, Env.push, ev, evs, evo, retV, Value.cells, Value.oneCell', setR, overR, fillL, zl, places, allSizes, heldC, ne_eq, Int.reduceLE, Int.reduceLT, Int.reduceEq, Int.reduceNe, Int.reduceToNat, Int.cast_ofNat_Int, Nat.reduceMul, Nat.reduceLeDiff, reduceIte, Nat.reduceEqDiff, Nat.reduceAdd, ↓reduceIte, Try.vcT]
  refine walkLoop [3, 6, 7] [8] (fun q vs w' => w' = w ∧ ∃ i : Nat, i ≤ 2 ∧ q = 2 - i ∧ vs = [.int .i64 i] ∧ (0 < i → a = 0) ∧ (1 < i → c = 0)) (by kernel_rfl) ?_ ?_
  · simp -dsimp only [↓vcA, vcB, vcD, ↓pureT_lenS, ↓iteT, ↓iteF, cond_true, cond_false, eq_self, argE, Env.get, Env.push, ev, evs, evo, retV, Value.cells, Value.oneCell', setR, overR, fillL, zl, places, allSizes, heldC, ne_eq, Int.reduceLE, Int.reduceLT, Int.reduceEq, Int.reduceNe, Int.reduceToNat, Int.cast_ofNat_Int, Nat.reduceMul, Nat.reduceLeDiff, reduceIte, Nat.reduceEqDiff, Nat.reduceAdd, ↓reduceIte, Try.vcT, gets]
    exact ⟨_, 0, by omega, rfl, rfl, by omega, by omega⟩
  · intro ks hk q vs w1 hi
    obtain ⟨rfl, i, hi, rfl, rfl, ha, hc⟩ := hi
    simp -dsimp only [gets, argE, List.zip_cons_cons, List.zip_nil_left, List.cons_append, List.nil_append, Env.get, Env.push, Option.bind_some, Option.map_some, Option.some.injEq, reduceIte, Nat.reduceEqDiff, Nat.reduceAdd, ↓reduceIte] at hk; subst hk
    have hcs : i = 0 ∨ i = 1 ∨ i = 2 := by omega
    rcases hcs with rfl | rfl | rfl
    · by_cases h : a = 0
      · simp -dsimp only [↓vcA, vcB, vcD, ↓pureT_lenS, ↓iteT, ↓iteF, cond_true, cond_false, eq_self, argE, Env.get, Env.push, ev, evs, evo, retV, Value.cells, Value.oneCell', setR, overR, fillL, zl, places, allSizes, heldC, ne_eq, Int.reduceLE, Int.reduceLT, Int.reduceEq, Int.reduceNe, Int.reduceToNat, Int.cast_ofNat_Int, Nat.reduceMul, Nat.reduceLeDiff, reduceIte, Nat.reduceEqDiff, Nat.reduceAdd, ↓reduceIte, Try.vcT, gets, h0, decide_eq_true h, Int.natCast_zero, Int.toNat_zero, Nat.zero_mul]
        exact ⟨_, by decide, 1, by omega, rfl, rfl, fun _ => h, by omega⟩
      · simp -dsimp only [↓vcA, vcB, vcD, ↓pureT_lenS, ↓iteT, ↓iteF, cond_true, cond_false, eq_self, argE, Env.get, Env.push, ev, evs, evo, retV, Value.cells, Value.oneCell', setR, overR, fillL, zl, places, allSizes, heldC, ne_eq, Int.reduceLE, Int.reduceLT, Int.reduceEq, Int.reduceNe, Int.reduceToNat, Int.cast_ofNat_Int, Nat.reduceMul, Nat.reduceLeDiff, reduceIte, Nat.reduceEqDiff, Nat.reduceAdd, ↓reduceIte, Try.vcT, gets, h0, decide_eq_false h, Int.natCast_zero, Int.toNat_zero, Nat.zero_mul]
        simp [h]
    · have ha := ha (by omega)
      subst ha
      by_cases h : c = 0
      · simp -dsimp only [↓vcA, vcB, vcD, ↓pureT_lenS, ↓iteT, ↓iteF, cond_true, cond_false, eq_self, argE, Env.get, Env.push, ev, evs, evo, retV, Value.cells, Value.oneCell', setR, overR, fillL, zl, places, allSizes, heldC, ne_eq, Int.reduceLE, Int.reduceLT, Int.reduceEq, Int.reduceNe, Int.reduceToNat, Int.cast_ofNat_Int, Nat.reduceMul, Nat.reduceLeDiff, reduceIte, Nat.reduceEqDiff, Nat.reduceAdd, ↓reduceIte, Try.vcT, gets, h1, decide_eq_true h, Int.natCast_one, Int.toNat_one, Nat.one_mul]
        exact ⟨_, by decide, 2, by omega, rfl, rfl, fun _ => trivial, fun _ => h⟩
      · simp -dsimp only [↓vcA, vcB, vcD, ↓pureT_lenS, ↓iteT, ↓iteF, cond_true, cond_false, eq_self, argE, Env.get, Env.push, ev, evs, evo, retV, Value.cells, Value.oneCell', setR, overR, fillL, zl, places, allSizes, heldC, ne_eq, Int.reduceLE, Int.reduceLT, Int.reduceEq, Int.reduceNe, Int.reduceToNat, Int.cast_ofNat_Int, Nat.reduceMul, Nat.reduceLeDiff, reduceIte, Nat.reduceEqDiff, Nat.reduceAdd, ↓reduceIte, Try.vcT, gets, h1, decide_eq_false h, Int.natCast_one, Int.toNat_one, Nat.one_mul]
    · have ha := ha (by omega)
      have hc := hc (by omega)
      subst ha hc
      simp -dsimp only [↓vcA, vcB, vcD, ↓pureT_lenS, ↓iteT, ↓iteF, cond_true, cond_false, eq_self, argE, Env.get, Env.push, ev, evs, evo, retV, Value.cells, Value.oneCell', setR, overR, fillL, zl, places, allSizes, heldC, ne_eq, Int.reduceLE, Int.reduceLT, Int.reduceEq, Int.reduceNe, Int.reduceToNat, Int.cast_ofNat_Int, Nat.reduceMul, Nat.reduceLeDiff, reduceIte, Nat.reduceEqDiff, Nat.reduceAdd, ↓reduceIte, Try.vcT, gets]
end Go.Proofs.Ytnhgjgoglmadnaa
namespace Go.Proofs.Ytnhgjgoglmadnaa
open Go.RowKit
set_option maxRecDepth 100000
set_option linter.unusedSimpArgs false
set_option linter.unusedVariables false
set_option pp.maxSteps 1500
set_option pp.deepTerms.threshold 8

theorem round_eq (k n : Int) (h0 : 0 < n) (h1 : n ≤ 1000000000000) : (IntKind.i64.wrap (k.tmod n + n)).tmod n = k % n := by
  have h2 := Int.tmod_lt_of_pos k h0
  have h3 : -n < k.tmod n := Int.lt_tmod_of_pos k h0
  rw [IntWalk.i64_in _ (by omega)]
  rw [Int.tmod_eq_emod_of_nonneg (by omega), Int.add_emod_right]
  rw [Int.tmod_eq_emod]
  split
  · simp
  · have e : (n.natAbs : Int) = n := by omega
    rw [e, show k % n - n = k % n + n * (-1) by omega, Int.add_mul_emod_self_left, Int.emod_emod]
theorem round (k n : Int) (w : World) (h0 : 0 < n) (h1 : n ≤ 1000000000000) :
    Calls Try.prog 21 [.int .i64 k, .int .i64 n].toArray w (RetK fun r w' => r = .int .i64 (k % n) ∧ w' = w) := by
  refine walk Try.func21 rfl (by kernel_rfl) (by rw [Try.nt21]; simp) ?_
  simp -dsimp only [↓vcA, vcB, vcD, ↓pureT_lenS, ↓iteT, ↓iteF, cond_true, cond_false, eq_self, argE, Env.get, Env.push, ev, evs, evo, retV, Value.cells, Value.oneCell', setR, overR, fillL, zl, places, allSizes, heldC, ne_eq, Int.reduceLE, Int.reduceLT, Int.reduceEq, Int.reduceNe, Int.reduceToNat, Int.cast_ofNat_Int, Nat.reduceMul, Nat.reduceLeDiff, reduceIte, Nat.reduceEqDiff, Nat.reduceAdd, ↓reduceIte, Try.vcT]
  refine ⟨by omega, by omega, ?_⟩
  rw [round_eq k n h0 h1]

theorem Own.form {w : World} {v : Value} {xs : List Int} (h : Own w v xs) (hp : 0 < xs.length) : ∃ g cap cur, v = .slice (some ⟨g, 0, none⟩) xs.length cap ∧ blkOf w g = some (cur, 5) ∧ xs.length ≤ cap ∧ cap ≤ maxLen ∧ cur.length = cap ∧ cur.take xs.length = u8s xs := by
  rcases h.2 with ⟨_, h0⟩ | ⟨g, cap, cur, rfl, hb, hg, hn, hm, hs, ht⟩
  · omega
  · exact ⟨g, cap, cur.toList, rfl, blkOf_of hg, hn, hm, by simpa using hs, by simpa using ht⟩
theorem Rd.cell {w : World} {b o n c : Nat} {xs : List Int} (h : Rd w (.slice (some ⟨b, o, none⟩) n c) xs) (j : Nat) (hj : j < xs.length) : w.cell? ⟨b, o + j, none⟩ = some (.int .u8 (xs.getD j 0)) := by
  obtain ⟨a, c', e, h1, h2, h3, h4⟩ := h
  injection e with e1 e2 e3
  obtain ⟨b', o', e4, hc⟩ := h4 (by omega)
  rw [← e1] at e4
  injection e4 with e4
  injection e4 with e5 e6 _
  subst e5 e6
  exact hc j hj

end Go.Proofs.Ytnhgjgoglmadnaa
namespace Go.Proofs.Ytnhgjgoglmadnaa
open Go.RowKit
set_option maxRecDepth 100000
set_option linter.unusedSimpArgs false
set_option linter.unusedVariables false
set_option pp.maxSteps 1500
set_option pp.deepTerms.threshold 8

def cmp2 (x y x' y' : Int) : Int := if cmpI x x' = 0 then cmpI y y' else cmpI x x'
theorem cmp143 (x y x' y' : Int) (w : World) : Calls Try.prog 143 [.agg #[.int .i64 x, .int .i64 y], .agg #[.int .i64 x', .int .i64 y']].toArray w (RetP (.int .i64 (cmp2 x y x' y')) w) := by
  refine walk Try.func143 rfl (by kernel_rfl) (by rw [Try.nt143]; simp) ?_
  simp -dsimp only [↓vcA, vcB, vcD, ↓pureT_lenS, ↓iteT, ↓iteF, cond_true, cond_false, eq_self, argE, Env.get, Env.push, ev, evs, evo, retV, Value.cells, Value.oneCell', setR, overR, fillL, zl, places, allSizes, heldC, ne_eq, Int.reduceLE, Int.reduceLT, Int.reduceEq, Int.reduceNe, Int.reduceToNat, Int.cast_ofNat_Int, Nat.reduceMul, Nat.reduceLeDiff, reduceIte, Nat.reduceEqDiff, Nat.reduceAdd, ↓reduceIte, Try.vcT]
  intro w1 b1 n1 w2 b2 n2
  have hb1 := chg_blk n2.chg n1.blkOf
  have hL : Holds [(b1, 0, .int .i64 x), (b2, 0, .int .i64 x'), (b1, 1, .int .i64 y), (b2, 1, .int .i64 y')] w2 := by
    simp [Holds_nil, Holds_cons, cell_of_blkOf hb1, n2.cell]
  refine walkDraw (.q 0 (.q 2 (.q 5 (.q 7 (.h 1 0 (.h 3 1 (.h 6 2 (.h 8 3 (.l 4 (.l 9 (.l 10 (.l 11 (.q 12 .fin))))))))))))) [(b1, 0, .int .i64 x), (b2, 0, .int .i64 x'), (b1, 1, .int .i64 y), (b2, 1, .int .i64 y')] (by kernel_rfl) hL ?_
  intro w3 e3 c3
  have L3 := c3.holds hL
  simp -dsimp only [↓vcA, vcB, vcD, ↓pureT_lenS, ↓iteT, ↓iteF, cond_true, cond_false, eq_self, argE, Env.get, Env.push, ev, evs, evo, retV, Value.cells, Value.oneCell', setR, overR, fillL, zl, places, allSizes, heldC, ne_eq, Int.reduceLE, Int.reduceLT, Int.reduceEq, Int.reduceNe, Int.reduceToNat, Int.cast_ofNat_Int, Nat.reduceMul, Nat.reduceLeDiff, reduceIte, Nat.reduceEqDiff, Nat.reduceAdd, ↓reduceIte, Try.vcT]
  refine callsK_pure (compare x x' w3) ?_
  simp -dsimp only [↓vcA, vcB, vcD, ↓pureT_lenS, ↓iteT, ↓iteF, cond_true, cond_false, eq_self, argE, Env.get, Env.push, ev, evs, evo, retV, Value.cells, Value.oneCell', setR, overR, fillL, zl, places, allSizes, heldC, ne_eq, Int.reduceLE, Int.reduceLT, Int.reduceEq, Int.reduceNe, Int.reduceToNat, Int.cast_ofNat_Int, Nat.reduceMul, Nat.reduceLeDiff, reduceIte, Nat.reduceEqDiff, Nat.reduceAdd, ↓reduceIte, Try.vcT, L3]
  refine callsK_pure (compare y y' w3) ?_
  simp -dsimp only [↓vcA, vcB, vcD, ↓pureT_lenS, ↓iteT, ↓iteF, cond_true, cond_false, eq_self, argE, Env.get, Env.push, ev, evs, evo, retV, Value.cells, Value.oneCell', setR, overR, fillL, zl, places, allSizes, heldC, ne_eq, Int.reduceLE, Int.reduceLT, Int.reduceEq, Int.reduceNe, Int.reduceToNat, Int.cast_ofNat_Int, Nat.reduceMul, Nat.reduceLeDiff, reduceIte, Nat.reduceEqDiff, Nat.reduceAdd, ↓reduceIte, Try.vcT, L3]
  intro w4 b4 n4
  have L4 := n4.chg.holds L3
  refine ⟨L4, ?_⟩
  refine callsK_pure (or2 _ _ b4 w4 (n4.cell 0) (n4.cell 1)) ?_
  simp -dsimp only [↓vcA, vcB, vcD, ↓pureT_lenS, ↓iteT, ↓iteF, cond_true, cond_false, eq_self, argE, Env.get, Env.push, ev, evs, evo, retV, Value.cells, Value.oneCell', setR, overR, fillL, zl, places, allSizes, heldC, ne_eq, Int.reduceLE, Int.reduceLT, Int.reduceEq, Int.reduceNe, Int.reduceToNat, Int.cast_ofNat_Int, Nat.reduceMul, Nat.reduceLeDiff, reduceIte, Nat.reduceEqDiff, Nat.reduceAdd, ↓reduceIte, Try.vcT, L4]
  exact ⟨rfl, ((n1.chg.seq n2.chg).seq c3).seq n4.chg⟩

theorem cmpPoint (x y x' y' : Int) (w : World) : Calls Try.prog 135 [.agg #[.int .i64 x, .int .i64 y], .agg #[.int .i64 x', .int .i64 y']].toArray w (RetP (.int .i64 (cmp2 x y x' y')) w) := by
  refine walk Try.func135 rfl (by kernel_rfl) (by rw [Try.nt135]; simp) ?_
  simp -dsimp only [↓vcA, vcB, vcD, ↓pureT_lenS, ↓iteT, ↓iteF, cond_true, cond_false, eq_self, argE, Env.get, Env.push, ev, evs, evo, retV, Value.cells, Value.oneCell', setR, overR, fillL, zl, places, allSizes, heldC, ne_eq, Int.reduceLE, Int.reduceLT, Int.reduceEq, Int.reduceNe, Int.reduceToNat, Int.cast_ofNat_Int, Nat.reduceMul, Nat.reduceLeDiff, reduceIte, Nat.reduceEqDiff, Nat.reduceAdd, ↓reduceIte, Try.vcT]
  intro w1 b1 n1 w2 b2 n2
  have hb1 := chg_blk n2.chg n1.blkOf
  have cc := n1.chg.seq n2.chg
  by_cases h1 : x < x'
  · have e : cmp2 x y x' y' = -1 := by simp [cmp2, cmpI, h1]
    simp -dsimp only [↓vcA, vcB, vcD, ↓pureT_lenS, ↓iteT, ↓iteF, cond_true, cond_false, eq_self, argE, Env.get, Env.push, ev, evs, evo, retV, Value.cells, Value.oneCell', setR, overR, fillL, zl, places, allSizes, heldC, ne_eq, Int.reduceLE, Int.reduceLT, Int.reduceEq, Int.reduceNe, Int.reduceToNat, Int.cast_ofNat_Int, Nat.reduceMul, Nat.reduceLeDiff, reduceIte, Nat.reduceEqDiff, Nat.reduceAdd, ↓reduceIte, Try.vcT, cell_of_blkOf hb1, n2.cell, decide_eq_true h1, e]
    exact cc
  · by_cases h2 : x = x'
    · by_cases h3 : y < y'
      · have e : cmp2 x y x' y' = -1 := by simp [cmp2, cmpI, h2, h3]
        simp -dsimp only [↓vcA, vcB, vcD, ↓pureT_lenS, ↓iteT, ↓iteF, cond_true, cond_false, eq_self, argE, Env.get, Env.push, ev, evs, evo, retV, Value.cells, Value.oneCell', setR, overR, fillL, zl, places, allSizes, heldC, ne_eq, Int.reduceLE, Int.reduceLT, Int.reduceEq, Int.reduceNe, Int.reduceToNat, Int.cast_ofNat_Int, Nat.reduceMul, Nat.reduceLeDiff, reduceIte, Nat.reduceEqDiff, Nat.reduceAdd, ↓reduceIte, Try.vcT, cell_of_blkOf hb1, n2.cell, decide_eq_false h1, decide_eq_true h2, decide_eq_true h3, e]
        exact cc
      · by_cases h4 : y = y'
        · have e : cmp2 x y x' y' = 0 := by simp [cmp2, cmpI, h2, h4]
          simp -dsimp only [↓vcA, vcB, vcD, ↓pureT_lenS, ↓iteT, ↓iteF, cond_true, cond_false, eq_self, argE, Env.get, Env.push, ev, evs, evo, retV, Value.cells, Value.oneCell', setR, overR, fillL, zl, places, allSizes, heldC, ne_eq, Int.reduceLE, Int.reduceLT, Int.reduceEq, Int.reduceNe, Int.reduceToNat, Int.cast_ofNat_Int, Nat.reduceMul, Nat.reduceLeDiff, reduceIte, Nat.reduceEqDiff, Nat.reduceAdd, ↓reduceIte, Try.vcT, cell_of_blkOf hb1, n2.cell, decide_eq_false h1, decide_eq_true h2, decide_eq_false h3, e, cellsAt, eql_pt, decide_eq_true h4]
          exact cc
        · have e : cmp2 x y x' y' = 1 := by simp [cmp2, cmpI, h2, h3]; omega
          simp -dsimp only [↓vcA, vcB, vcD, ↓pureT_lenS, ↓iteT, ↓iteF, cond_true, cond_false, eq_self, argE, Env.get, Env.push, ev, evs, evo, retV, Value.cells, Value.oneCell', setR, overR, fillL, zl, places, allSizes, heldC, ne_eq, Int.reduceLE, Int.reduceLT, Int.reduceEq, Int.reduceNe, Int.reduceToNat, Int.cast_ofNat_Int, Nat.reduceMul, Nat.reduceLeDiff, reduceIte, Nat.reduceEqDiff, Nat.reduceAdd, ↓reduceIte, Try.vcT, cell_of_blkOf hb1, n2.cell, decide_eq_false h1, decide_eq_true h2, decide_eq_false h3, e, cellsAt, eql_pt, decide_eq_false h4, Bool.and_false]
          exact cc
    · have e : cmp2 x y x' y' = 1 := by
        have : x' < x := by omega
        simp [cmp2, cmpI, h1, this]
      simp -dsimp only [↓vcA, vcB, vcD, ↓pureT_lenS, ↓iteT, ↓iteF, cond_true, cond_false, eq_self, argE, Env.get, Env.push, ev, evs, evo, retV, Value.cells, Value.oneCell', setR, overR, fillL, zl, places, allSizes, heldC, ne_eq, Int.reduceLE, Int.reduceLT, Int.reduceEq, Int.reduceNe, Int.reduceToNat, Int.cast_ofNat_Int, Nat.reduceMul, Nat.reduceLeDiff, reduceIte, Nat.reduceEqDiff, Nat.reduceAdd, ↓reduceIte, Try.vcT, cell_of_blkOf hb1, n2.cell, decide_eq_false h1, decide_eq_false h2, e, cellsAt, eql_pt, Bool.false_and]
      exact cc

theorem all147 (ax ay bx by' cx cy : Int) (b : Nat) (w : World) (h : blkOf w b = some ([.int .i64 ax, .int .i64 ay, .int .i64 bx, .int .i64 by', .int .i64 cx, .int .i64 cy], 37)) :
    Calls Try.prog 147 [.slice (some ⟨b, 0, none⟩) 3 3].toArray w (RetP (.bool (vpt ax ay && vpt bx by' && vpt cx cy)) w) := by
  refine walk Try.func147 rfl (by kernel_rfl) (by rw [Try.nt147]; simp) ?_
  simp -dsimp only [↓vcA, vcB, vcD, ↓pureT_lenS, ↓iteT, ↓iteF, cond_true, cond_false, eq_self, argE, Env.get, Env.push, ev, evs, evo, retV, Value.cells, Value.oneCell', setR, overR, fillL, zl, places, allSizes, heldC, ne_eq, Int.reduceLE, Int.reduceLT, Int.reduceEq, Int.reduceNe, Int.reduceToNat, Int.cast_ofNat_Int, Nat.reduceMul, Nat.reduceLeDiff, reduceIte, Nat.reduceEqDiff, Nat.reduceAdd, ↓reduceIte, Try.vcT]
  refine walkLoop [5, 6] [7] (fun q vs w' => Chg (fun _ => False) w w' ∧ ∃ i : Nat, i ≤ 3 ∧ q = 3 - i ∧ vs = [.int .i64 i] ∧ (0 < i → vpt ax ay = true) ∧ (1 < i → vpt bx by' = true) ∧ (2 < i → vpt cx cy = true)) (by kernel_rfl) ?_ ?_
  · simp -dsimp only [↓vcA, vcB, vcD, ↓pureT_lenS, ↓iteT, ↓iteF, cond_true, cond_false, eq_self, argE, Env.get, Env.push, ev, evs, evo, retV, Value.cells, Value.oneCell', setR, overR, fillL, zl, places, allSizes, heldC, ne_eq, Int.reduceLE, Int.reduceLT, Int.reduceEq, Int.reduceNe, Int.reduceToNat, Int.cast_ofNat_Int, Nat.reduceMul, Nat.reduceLeDiff, reduceIte, Nat.reduceEqDiff, Nat.reduceAdd, ↓reduceIte, Try.vcT, gets]
    exact ⟨_, Chg.refl _ _, 0, by omega, rfl, rfl, by omega, by omega, by omega⟩
  · intro ks hk q vs w1 hi
    obtain ⟨cc, i, hi, rfl, rfl, h1, h2, h3⟩ := hi
    simp -dsimp only [gets, argE, List.zip_cons_cons, List.zip_nil_left, List.cons_append, List.nil_append, Env.get, Env.push, Option.bind_some, Option.map_some, Option.some.injEq, reduceIte, Nat.reduceEqDiff, Nat.reduceAdd, ↓reduceIte] at hk; subst hk
    have hb := chg_blk cc h
    have hcs : i = 0 ∨ i = 1 ∨ i = 2 ∨ i = 3 := by omega
    rcases hcs with rfl | rfl | rfl | rfl
    · have F1 : Fr w.heap.size w w1 := ⟨Nat.le_refl _, cc.mono fun _ f => f.elim⟩
      simp -dsimp only [↓vcA, vcB, vcD, ↓pureT_lenS, ↓iteT, ↓iteF, cond_true, cond_false, eq_self, argE, Env.get, Env.push, ev, evs, evo, retV, Value.cells, Value.oneCell', setR, overR, fillL, zl, places, allSizes, heldC, ne_eq, Int.reduceLE, Int.reduceLT, Int.reduceEq, Int.reduceNe, Int.reduceToNat, Int.cast_ofNat_Int, Nat.reduceMul, Nat.reduceLeDiff, reduceIte, Nat.reduceEqDiff, Nat.reduceAdd, ↓reduceIte, Try.vcT, gets, cell_of_blkOf hb, cellsAt, Int.natCast_zero, Int.toNat_zero, Nat.zero_mul]
      intro w2 b2 n2
      simp -dsimp only [↓vcA, vcB, vcD, ↓pureT_lenS, ↓iteT, ↓iteF, cond_true, cond_false, eq_self, argE, Env.get, Env.push, ev, evs, evo, retV, Value.cells, Value.oneCell', setR, overR, fillL, zl, places, allSizes, heldC, ne_eq, Int.reduceLE, Int.reduceLT, Int.reduceEq, Int.reduceNe, Int.reduceToNat, Int.cast_ofNat_Int, Nat.reduceMul, Nat.reduceLeDiff, reduceIte, Nat.reduceEqDiff, Nat.reduceAdd, ↓reduceIte, Try.vcT, n2.blkOf]
      intro w3 p3
      have F3 := (F1.new n2).one p3.chg (F1.newUp n2)
      try simp -dsimp only [↓vcA, vcB, vcD, ↓pureT_lenS, ↓iteT, ↓iteF, cond_true, cond_false, eq_self, argE, Env.get, Env.push, ev, evs, evo, retV, Value.cells, Value.oneCell', setR, overR, fillL, zl, places, allSizes, heldC, ne_eq, Int.reduceLE, Int.reduceLT, Int.reduceEq, Int.reduceNe, Int.reduceToNat, Int.cast_ofNat_Int, Nat.reduceMul, Nat.reduceLeDiff, reduceIte, Nat.reduceEqDiff, Nat.reduceAdd, ↓reduceIte, Try.vcT, gets, p3.cell, cellsAt]
      refine callsK_new (valid150 ax ay w3) ?_
      intro w4 c4
      have F4 := F3.nil c4
      cases hv : vpt ax ay with
      | false =>
        simp -dsimp only [↓vcA, vcB, vcD, ↓pureT_lenS, ↓iteT, ↓iteF, cond_true, cond_false, eq_self, argE, Env.get, Env.push, ev, evs, evo, retV, Value.cells, Value.oneCell', setR, overR, fillL, zl, places, allSizes, heldC, ne_eq, Int.reduceLE, Int.reduceLT, Int.reduceEq, Int.reduceNe, Int.reduceToNat, Int.cast_ofNat_Int, Nat.reduceMul, Nat.reduceLeDiff, reduceIte, Nat.reduceEqDiff, Nat.reduceAdd, ↓reduceIte, Try.vcT, gets]
        exact ⟨by simp [hv], F4.done⟩
      | true =>
        simp -dsimp only [↓vcA, vcB, vcD, ↓pureT_lenS, ↓iteT, ↓iteF, cond_true, cond_false, eq_self, argE, Env.get, Env.push, ev, evs, evo, retV, Value.cells, Value.oneCell', setR, overR, fillL, zl, places, allSizes, heldC, ne_eq, Int.reduceLE, Int.reduceLT, Int.reduceEq, Int.reduceNe, Int.reduceToNat, Int.cast_ofNat_Int, Nat.reduceMul, Nat.reduceLeDiff, reduceIte, Nat.reduceEqDiff, Nat.reduceAdd, ↓reduceIte, Try.vcT, gets]
        exact ⟨_, by decide, F4.done, 1, by omega, rfl, rfl, fun _ => trivial, by omega, by omega⟩
    · have F1 : Fr w.heap.size w w1 := ⟨Nat.le_refl _, cc.mono fun _ f => f.elim⟩
      have e1 := h1 (by omega)
      simp -dsimp only [↓vcA, vcB, vcD, ↓pureT_lenS, ↓iteT, ↓iteF, cond_true, cond_false, eq_self, argE, Env.get, Env.push, ev, evs, evo, retV, Value.cells, Value.oneCell', setR, overR, fillL, zl, places, allSizes, heldC, ne_eq, Int.reduceLE, Int.reduceLT, Int.reduceEq, Int.reduceNe, Int.reduceToNat, Int.cast_ofNat_Int, Nat.reduceMul, Nat.reduceLeDiff, reduceIte, Nat.reduceEqDiff, Nat.reduceAdd, ↓reduceIte, Try.vcT, gets, cell_of_blkOf hb, cellsAt, Int.natCast_one, Int.toNat_one, Nat.one_mul]
      intro w2 b2 n2
      simp -dsimp only [↓vcA, vcB, vcD, ↓pureT_lenS, ↓iteT, ↓iteF, cond_true, cond_false, eq_self, argE, Env.get, Env.push, ev, evs, evo, retV, Value.cells, Value.oneCell', setR, overR, fillL, zl, places, allSizes, heldC, ne_eq, Int.reduceLE, Int.reduceLT, Int.reduceEq, Int.reduceNe, Int.reduceToNat, Int.cast_ofNat_Int, Nat.reduceMul, Nat.reduceLeDiff, reduceIte, Nat.reduceEqDiff, Nat.reduceAdd, ↓reduceIte, Try.vcT, n2.blkOf]
      intro w3 p3
      have F3 := (F1.new n2).one p3.chg (F1.newUp n2)
      try simp -dsimp only [↓vcA, vcB, vcD, ↓pureT_lenS, ↓iteT, ↓iteF, cond_true, cond_false, eq_self, argE, Env.get, Env.push, ev, evs, evo, retV, Value.cells, Value.oneCell', setR, overR, fillL, zl, places, allSizes, heldC, ne_eq, Int.reduceLE, Int.reduceLT, Int.reduceEq, Int.reduceNe, Int.reduceToNat, Int.cast_ofNat_Int, Nat.reduceMul, Nat.reduceLeDiff, reduceIte, Nat.reduceEqDiff, Nat.reduceAdd, ↓reduceIte, Try.vcT, gets, p3.cell, cellsAt]
      refine callsK_new (valid150 bx by' w3) ?_
      intro w4 c4
      have F4 := F3.nil c4
      cases hv : vpt bx by' with
      | false =>
        simp -dsimp only [↓vcA, vcB, vcD, ↓pureT_lenS, ↓iteT, ↓iteF, cond_true, cond_false, eq_self, argE, Env.get, Env.push, ev, evs, evo, retV, Value.cells, Value.oneCell', setR, overR, fillL, zl, places, allSizes, heldC, ne_eq, Int.reduceLE, Int.reduceLT, Int.reduceEq, Int.reduceNe, Int.reduceToNat, Int.cast_ofNat_Int, Nat.reduceMul, Nat.reduceLeDiff, reduceIte, Nat.reduceEqDiff, Nat.reduceAdd, ↓reduceIte, Try.vcT, gets]
        exact ⟨by simp [hv, e1], F4.done⟩
      | true =>
        simp -dsimp only [↓vcA, vcB, vcD, ↓pureT_lenS, ↓iteT, ↓iteF, cond_true, cond_false, eq_self, argE, Env.get, Env.push, ev, evs, evo, retV, Value.cells, Value.oneCell', setR, overR, fillL, zl, places, allSizes, heldC, ne_eq, Int.reduceLE, Int.reduceLT, Int.reduceEq, Int.reduceNe, Int.reduceToNat, Int.cast_ofNat_Int, Nat.reduceMul, Nat.reduceLeDiff, reduceIte, Nat.reduceEqDiff, Nat.reduceAdd, ↓reduceIte, Try.vcT, gets]
        exact ⟨_, by decide, F4.done, 2, by omega, rfl, rfl, fun _ => e1, fun _ => trivial, by omega⟩
    · have F1 : Fr w.heap.size w w1 := ⟨Nat.le_refl _, cc.mono fun _ f => f.elim⟩
      have e1 := h1 (by omega)
      have e2 := h2 (by omega)
      simp -dsimp only [↓vcA, vcB, vcD, ↓pureT_lenS, ↓iteT, ↓iteF, cond_true, cond_false, eq_self, argE, Env.get, Env.push, ev, evs, evo, retV, Value.cells, Value.oneCell', setR, overR, fillL, zl, places, allSizes, heldC, ne_eq, Int.reduceLE, Int.reduceLT, Int.reduceEq, Int.reduceNe, Int.reduceToNat, Int.cast_ofNat_Int, Nat.reduceMul, Nat.reduceLeDiff, reduceIte, Nat.reduceEqDiff, Nat.reduceAdd, ↓reduceIte, Try.vcT, gets, cell_of_blkOf hb, cellsAt]
      intro w2 b2 n2
      simp -dsimp only [↓vcA, vcB, vcD, ↓pureT_lenS, ↓iteT, ↓iteF, cond_true, cond_false, eq_self, argE, Env.get, Env.push, ev, evs, evo, retV, Value.cells, Value.oneCell', setR, overR, fillL, zl, places, allSizes, heldC, ne_eq, Int.reduceLE, Int.reduceLT, Int.reduceEq, Int.reduceNe, Int.reduceToNat, Int.cast_ofNat_Int, Nat.reduceMul, Nat.reduceLeDiff, reduceIte, Nat.reduceEqDiff, Nat.reduceAdd, ↓reduceIte, Try.vcT, n2.blkOf]
      intro w3 p3
      have F3 := (F1.new n2).one p3.chg (F1.newUp n2)
      try simp -dsimp only [↓vcA, vcB, vcD, ↓pureT_lenS, ↓iteT, ↓iteF, cond_true, cond_false, eq_self, argE, Env.get, Env.push, ev, evs, evo, retV, Value.cells, Value.oneCell', setR, overR, fillL, zl, places, allSizes, heldC, ne_eq, Int.reduceLE, Int.reduceLT, Int.reduceEq, Int.reduceNe, Int.reduceToNat, Int.cast_ofNat_Int, Nat.reduceMul, Nat.reduceLeDiff, reduceIte, Nat.reduceEqDiff, Nat.reduceAdd, ↓reduceIte, Try.vcT, gets, p3.cell, cellsAt]
      refine callsK_new (valid150 cx cy w3) ?_
      intro w4 c4
      have F4 := F3.nil c4
      cases hv : vpt cx cy with
      | false =>
        simp -dsimp only [↓vcA, vcB, vcD, ↓pureT_lenS, ↓iteT, ↓iteF, cond_true, cond_false, eq_self, argE, Env.get, Env.push, ev, evs, evo, retV, Value.cells, Value.oneCell', setR, overR, fillL, zl, places, allSizes, heldC, ne_eq, Int.reduceLE, Int.reduceLT, Int.reduceEq, Int.reduceNe, Int.reduceToNat, Int.cast_ofNat_Int, Nat.reduceMul, Nat.reduceLeDiff, reduceIte, Nat.reduceEqDiff, Nat.reduceAdd, ↓reduceIte, Try.vcT, gets]
        exact ⟨by simp [hv, e1, e2], F4.done⟩
      | true =>
        simp -dsimp only [↓vcA, vcB, vcD, ↓pureT_lenS, ↓iteT, ↓iteF, cond_true, cond_false, eq_self, argE, Env.get, Env.push, ev, evs, evo, retV, Value.cells, Value.oneCell', setR, overR, fillL, zl, places, allSizes, heldC, ne_eq, Int.reduceLE, Int.reduceLT, Int.reduceEq, Int.reduceNe, Int.reduceToNat, Int.cast_ofNat_Int, Nat.reduceMul, Nat.reduceLeDiff, reduceIte, Nat.reduceEqDiff, Nat.reduceAdd, ↓reduceIte, Try.vcT, gets]
        exact ⟨_, by decide, F4.done, 3, by omega, rfl, rfl, fun _ => e1, fun _ => e2, fun _ => trivial⟩
    · have e1 := h1 (by omega)
      have e2 := h2 (by omega)
      have e3 := h3 (by omega)
      simp -dsimp only [↓vcA, vcB, vcD, ↓pureT_lenS, ↓iteT, ↓iteF, cond_true, cond_false, eq_self, argE, Env.get, Env.push, ev, evs, evo, retV, Value.cells, Value.oneCell', setR, overR, fillL, zl, places, allSizes, heldC, ne_eq, Int.reduceLE, Int.reduceLT, Int.reduceEq, Int.reduceNe, Int.reduceToNat, Int.cast_ofNat_Int, Nat.reduceMul, Nat.reduceLeDiff, reduceIte, Nat.reduceEqDiff, Nat.reduceAdd, ↓reduceIte, Try.vcT, gets]
      exact ⟨by simp [e1, e2, e3], cc⟩
end Go.Proofs.Ytnhgjgoglmadnaa
namespace Go.Proofs.Ytnhgjgoglmadnaa
open Go.RowKit
set_option maxRecDepth 100000
set_option linter.unusedSimpArgs false
set_option linter.unusedVariables false
set_option pp.maxSteps 1500
set_option pp.deepTerms.threshold 8

def orientI (ax ay bx by' cx cy : Int) : Int := if vpt ax ay && vpt bx by' && vpt cx cy then cmpI ((bx - ax) * (cy - ay)) ((by' - ay) * (cx - ax)) else 0
theorem vpt_iff (x y : Int) : vpt x y = true ↔ 0 ≤ x ∧ x < 16777216 ∧ 0 ≤ y ∧ y < 16777216 := by simp [vpt]
theorem mul_bound {a b : Int} (ha : -16777216 < a ∧ a < 16777216) (hb : -16777216 < b ∧ b < 16777216) : -281474976710656 ≤ a * b ∧ a * b ≤ 281474976710656 := by
  have h : (a * b).natAbs ≤ 16777216 * 16777216 := by
    rw [Int.natAbs_mul]; exact Nat.mul_le_mul (by omega) (by omega)
  omega

theorem orient142 (ax ay bx by' cx cy : Int) (w : World) : Calls Try.prog 142 [.agg #[.int .i64 ax, .int .i64 ay], .agg #[.int .i64 bx, .int .i64 by'], .agg #[.int .i64 cx, .int .i64 cy]].toArray w (RetP (.int .i64 (orientI ax ay bx by' cx cy)) w) := by
  refine walk Try.func142 rfl (by kernel_rfl) (by rw [Try.nt142]; simp) ?_
  simp -dsimp only [↓vcA, vcB, vcD, ↓pureT_lenS, ↓iteT, ↓iteF, cond_true, cond_false, eq_self, argE, Env.get, Env.push, ev, evs, evo, retV, Value.cells, Value.oneCell', setR, overR, fillL, zl, places, allSizes, heldC, ne_eq, Int.reduceLE, Int.reduceLT, Int.reduceEq, Int.reduceNe, Int.reduceToNat, Int.cast_ofNat_Int, Nat.reduceMul, Nat.reduceLeDiff, reduceIte, Nat.reduceEqDiff, Nat.reduceAdd, ↓reduceIte, Try.vcT]
  intro w1 b1 n1 w2 b2 n2 w3 b3 n3
  have h1 := chg_blk n3.chg (chg_blk n2.chg n1.blkOf)
  have h2 := chg_blk n3.chg n2.blkOf
  have c13 := (n1.chg.seq n2.chg).seq n3.chg
  simp -dsimp only [↓vcA, vcB, vcD, ↓pureT_lenS, ↓iteT, ↓iteF, cond_true, cond_false, eq_self, argE, Env.get, Env.push, ev, evs, evo, retV, Value.cells, Value.oneCell', setR, overR, fillL, zl, places, allSizes, heldC, ne_eq, Int.reduceLE, Int.reduceLT, Int.reduceEq, Int.reduceNe, Int.reduceToNat, Int.cast_ofNat_Int, Nat.reduceMul, Nat.reduceLeDiff, reduceIte, Nat.reduceEqDiff, Nat.reduceAdd, ↓reduceIte, Try.vcT, cell_of_blkOf h1, cell_of_blkOf h2, n3.cell, cellsAt]
  intro w4 b4 n4
  refine callsK_new (all147 ax ay bx by' cx cy b4 w4 n4.blkOf) ?_
  intro w5 c5
  have g1 := chg_blk c5 (chg_blk n4.chg h1)
  have g2 := chg_blk c5 (chg_blk n4.chg h2)
  have g3 := chg_blk c5 (chg_blk n4.chg n3.blkOf)
  have c15 := (c13.seq n4.chg).seq c5
  cases hv : (vpt ax ay && vpt bx by' && vpt cx cy) with
  | false =>
    have e : orientI ax ay bx by' cx cy = 0 := by simp [orientI, hv]
    simp -dsimp only [↓vcA, vcB, vcD, ↓pureT_lenS, ↓iteT, ↓iteF, cond_true, cond_false, eq_self, argE, Env.get, Env.push, ev, evs, evo, retV, Value.cells, Value.oneCell', setR, overR, fillL, zl, places, allSizes, heldC, ne_eq, Int.reduceLE, Int.reduceLT, Int.reduceEq, Int.reduceNe, Int.reduceToNat, Int.cast_ofNat_Int, Nat.reduceMul, Nat.reduceLeDiff, reduceIte, Nat.reduceEqDiff, Nat.reduceAdd, ↓reduceIte, Try.vcT, e]
    exact c15
  | true =>
    have e : orientI ax ay bx by' cx cy = cmpI ((bx - ax) * (cy - ay)) ((by' - ay) * (cx - ax)) := by simp only [orientI, hv, if_true]
    simp only [Bool.and_eq_true, vpt_iff] at hv
    obtain ⟨⟨⟨a1, a2, a3, a4⟩, b1', b2', b3', b4'⟩, d1, d2, d3, d4⟩ := hv
    have m1 := mul_bound (a := bx - ax) (b := cy - ay) (by omega) (by omega)
    have m2 := mul_bound (a := by' - ay) (b := cx - ax) (by omega) (by omega)
    have e1 : IntKind.i64.wrap (bx - ax) = bx - ax := i64w _ (by omega) (by omega)
    have e2 : IntKind.i64.wrap (cy - ay) = cy - ay := i64w _ (by omega) (by omega)
    have e3 : IntKind.i64.wrap (by' - ay) = by' - ay := i64w _ (by omega) (by omega)
    have e4 : IntKind.i64.wrap (cx - ax) = cx - ax := i64w _ (by omega) (by omega)
    have e5 : IntKind.i64.wrap ((bx - ax) * (cy - ay)) = (bx - ax) * (cy - ay) := i64w _ (by omega) (by omega)
    have e6 : IntKind.i64.wrap ((by' - ay) * (cx - ax)) = (by' - ay) * (cx - ax) := i64w _ (by omega) (by omega)
    simp -dsimp only [↓vcA, vcB, vcD, ↓pureT_lenS, ↓iteT, ↓iteF, cond_true, cond_false, eq_self, argE, Env.get, Env.push, ev, evs, evo, retV, Value.cells, Value.oneCell', setR, overR, fillL, zl, places, allSizes, heldC, ne_eq, Int.reduceLE, Int.reduceLT, Int.reduceEq, Int.reduceNe, Int.reduceToNat, Int.cast_ofNat_Int, Nat.reduceMul, Nat.reduceLeDiff, reduceIte, Nat.reduceEqDiff, Nat.reduceAdd, ↓reduceIte, Try.vcT, cell_of_blkOf g1, cell_of_blkOf g2, cell_of_blkOf g3, cellsAt, e1, e2, e3, e4, e5, e6]
    refine callsK_pure (compare _ _ w5) ?_
    simp -dsimp only [↓vcA, vcB, vcD, ↓pureT_lenS, ↓iteT, ↓iteF, cond_true, cond_false, eq_self, argE, Env.get, Env.push, ev, evs, evo, retV, Value.cells, Value.oneCell', setR, overR, fillL, zl, places, allSizes, heldC, ne_eq, Int.reduceLE, Int.reduceLT, Int.reduceEq, Int.reduceNe, Int.reduceToNat, Int.cast_ofNat_Int, Nat.reduceMul, Nat.reduceLeDiff, reduceIte, Nat.reduceEqDiff, Nat.reduceAdd, ↓reduceIte, Try.vcT, e]
    exact c15

theorem sign140 (n : Int) (w : World) : Calls Try.prog 140 [.int .i64 n].toArray w (RetK fun r w' => r = .int .i64 (cmpI n 0) ∧ w' = w) := by
  refine walk Try.func140 rfl (by kernel_rfl) (by rw [Try.nt140]; simp) ?_
  by_cases h1 : n < 0
  · have e : cmpI n 0 = -1 := by simp [cmpI, h1]
    simp -dsimp only [↓vcA, vcB, vcD, ↓pureT_lenS, ↓iteT, ↓iteF, cond_true, cond_false, eq_self, argE, Env.get, Env.push, ev, evs, evo, retV, Value.cells, Value.oneCell', setR, overR, fillL, zl, places, allSizes, heldC, ne_eq, Int.reduceLE, Int.reduceLT, Int.reduceEq, Int.reduceNe, Int.reduceToNat, Int.cast_ofNat_Int, Nat.reduceMul, Nat.reduceLeDiff, reduceIte, Nat.reduceEqDiff, Nat.reduceAdd, ↓reduceIte, Try.vcT, decide_eq_true h1, e]
  · by_cases h2 : 0 < n
    · have e : cmpI n 0 = 1 := by simp [cmpI, h1, h2]
      simp -dsimp only [↓vcA, vcB, vcD, ↓pureT_lenS, ↓iteT, ↓iteF, cond_true, cond_false, eq_self, argE, Env.get, Env.push, ev, evs, evo, retV, Value.cells, Value.oneCell', setR, overR, fillL, zl, places, allSizes, heldC, ne_eq, Int.reduceLE, Int.reduceLT, Int.reduceEq, Int.reduceNe, Int.reduceToNat, Int.cast_ofNat_Int, Nat.reduceMul, Nat.reduceLeDiff, reduceIte, Nat.reduceEqDiff, Nat.reduceAdd, ↓reduceIte, Try.vcT, decide_eq_false h1, decide_eq_true h2, e]
    · have e : cmpI n 0 = 0 := by simp [cmpI, h1, h2]
      simp -dsimp only [↓vcA, vcB, vcD, ↓pureT_lenS, ↓iteT, ↓iteF, cond_true, cond_false, eq_self, argE, Env.get, Env.push, ev, evs, evo, retV, Value.cells, Value.oneCell', setR, overR, fillL, zl, places, allSizes, heldC, ne_eq, Int.reduceLE, Int.reduceLT, Int.reduceEq, Int.reduceNe, Int.reduceToNat, Int.cast_ofNat_Int, Nat.reduceMul, Nat.reduceLeDiff, reduceIte, Nat.reduceEqDiff, Nat.reduceAdd, ↓reduceIte, Try.vcT, decide_eq_false h1, decide_eq_false h2, e]
theorem twice141 (ax ay bx by' cx cy : Int) (w : World) (hv : (vpt ax ay && vpt bx by' && vpt cx cy) = true) : Calls Try.prog 141 [.agg #[.int .i64 ax, .int .i64 ay], .agg #[.int .i64 bx, .int .i64 by'], .agg #[.int .i64 cx, .int .i64 cy]].toArray w
    (RetP (.int .i64 ((bx - ax) * (cy - ay) - (by' - ay) * (cx - ax))) w) := by
  simp only [Bool.and_eq_true, vpt_iff] at hv
  obtain ⟨⟨⟨a1, a2, a3, a4⟩, b1', b2', b3', b4'⟩, d1, d2, d3, d4⟩ := hv
  have m1 := mul_bound (a := bx - ax) (b := cy - ay) (by omega) (by omega)
  have m2 := mul_bound (a := by' - ay) (b := cx - ax) (by omega) (by omega)
  have e1 : IntKind.i64.wrap (bx - ax) = bx - ax := i64w _ (by omega) (by omega)
  have e2 : IntKind.i64.wrap (cy - ay) = cy - ay := i64w _ (by omega) (by omega)
  have e3 : IntKind.i64.wrap (by' - ay) = by' - ay := i64w _ (by omega) (by omega)
  have e4 : IntKind.i64.wrap (cx - ax) = cx - ax := i64w _ (by omega) (by omega)
  have e5 : IntKind.i64.wrap ((bx - ax) * (cy - ay)) = (bx - ax) * (cy - ay) := i64w _ (by omega) (by omega)
  have e6 : IntKind.i64.wrap ((by' - ay) * (cx - ax)) = (by' - ay) * (cx - ax) := i64w _ (by omega) (by omega)
  have e7 : IntKind.i64.wrap ((bx - ax) * (cy - ay) - (by' - ay) * (cx - ax)) = (bx - ax) * (cy - ay) - (by' - ay) * (cx - ax) := i64w _ (by omega) (by omega)
  refine walk Try.func141 rfl (by kernel_rfl) (by rw [Try.nt141]; simp) ?_
  simp -dsimp only [↓vcA, vcB, vcD, ↓pureT_lenS, ↓iteT, ↓iteF, cond_true, cond_false, eq_self, argE, Env.get, Env.push, ev, evs, evo, retV, Value.cells, Value.oneCell', setR, overR, fillL, zl, places, allSizes, heldC, ne_eq, Int.reduceLE, Int.reduceLT, Int.reduceEq, Int.reduceNe, Int.reduceToNat, Int.cast_ofNat_Int, Nat.reduceMul, Nat.reduceLeDiff, reduceIte, Nat.reduceEqDiff, Nat.reduceAdd, ↓reduceIte, Try.vcT]
  intro w1 b1 n1 w2 b2 n2 w3 b3 n3
  have h1 := chg_blk n3.chg (chg_blk n2.chg n1.blkOf)
  have h2 := chg_blk n3.chg n2.blkOf
  have c13 := (n1.chg.seq n2.chg).seq n3.chg
  simp -dsimp only [↓vcA, vcB, vcD, ↓pureT_lenS, ↓iteT, ↓iteF, cond_true, cond_false, eq_self, argE, Env.get, Env.push, ev, evs, evo, retV, Value.cells, Value.oneCell', setR, overR, fillL, zl, places, allSizes, heldC, ne_eq, Int.reduceLE, Int.reduceLT, Int.reduceEq, Int.reduceNe, Int.reduceToNat, Int.cast_ofNat_Int, Nat.reduceMul, Nat.reduceLeDiff, reduceIte, Nat.reduceEqDiff, Nat.reduceAdd, ↓reduceIte, Try.vcT, cell_of_blkOf h1, cell_of_blkOf h2, n3.cell, e1, e2, e3, e4, e5, e6, e7]
  exact c13
theorem cmpI_sub (p q : Int) : cmpI (p - q) 0 = cmpI p q := by
  unfold cmpI
  split <;> split <;> (try split) <;> (try split) <;> omega
theorem orient134 (ax ay bx by' cx cy : Int) (w : World) : Calls Try.prog 134 [.agg #[.int .i64 ax, .int .i64 ay], .agg #[.int .i64 bx, .int .i64 by'], .agg #[.int .i64 cx, .int .i64 cy]].toArray w (RetP (.int .i64 (orientI ax ay bx by' cx cy)) w) := by
  refine walk Try.func134 rfl (by kernel_rfl) (by rw [Try.nt134]; simp) ?_
  simp -dsimp only [↓vcA, vcB, vcD, ↓pureT_lenS, ↓iteT, ↓iteF, cond_true, cond_false, eq_self, argE, Env.get, Env.push, ev, evs, evo, retV, Value.cells, Value.oneCell', setR, overR, fillL, zl, places, allSizes, heldC, ne_eq, Int.reduceLE, Int.reduceLT, Int.reduceEq, Int.reduceNe, Int.reduceToNat, Int.cast_ofNat_Int, Nat.reduceMul, Nat.reduceLeDiff, reduceIte, Nat.reduceEqDiff, Nat.reduceAdd, ↓reduceIte, Try.vcT]
  intro w1 b1 n1 w2 b2 n2 w3 b3 n3
  have h1 := chg_blk n3.chg (chg_blk n2.chg n1.blkOf)
  have h2 := chg_blk n3.chg n2.blkOf
  have c13 := (n1.chg.seq n2.chg).seq n3.chg
  simp -dsimp only [↓vcA, vcB, vcD, ↓pureT_lenS, ↓iteT, ↓iteF, cond_true, cond_false, eq_self, argE, Env.get, Env.push, ev, evs, evo, retV, Value.cells, Value.oneCell', setR, overR, fillL, zl, places, allSizes, heldC, ne_eq, Int.reduceLE, Int.reduceLT, Int.reduceEq, Int.reduceNe, Int.reduceToNat, Int.cast_ofNat_Int, Nat.reduceMul, Nat.reduceLeDiff, reduceIte, Nat.reduceEqDiff, Nat.reduceAdd, ↓reduceIte, Try.vcT, cell_of_blkOf h1, cell_of_blkOf h2, n3.cell, cellsAt]
  refine callsK_new (valid47 ax ay w3) ?_
  intro w4 c4
  cases ha : vpt ax ay with
  | false =>
    have e : orientI ax ay bx by' cx cy = 0 := by simp [orientI, ha]
    simp -dsimp only [↓vcA, vcB, vcD, ↓pureT_lenS, ↓iteT, ↓iteF, cond_true, cond_false, eq_self, argE, Env.get, Env.push, ev, evs, evo, retV, Value.cells, Value.oneCell', setR, overR, fillL, zl, places, allSizes, heldC, ne_eq, Int.reduceLE, Int.reduceLT, Int.reduceEq, Int.reduceNe, Int.reduceToNat, Int.cast_ofNat_Int, Nat.reduceMul, Nat.reduceLeDiff, reduceIte, Nat.reduceEqDiff, Nat.reduceAdd, ↓reduceIte, Try.vcT, e]
    exact c13.seq c4
  | true =>
  have h14 := chg_blk c4 h1
  have h24 := chg_blk c4 h2
  have h34 := chg_blk c4 n3.blkOf
  simp -dsimp only [↓vcA, vcB, vcD, ↓pureT_lenS, ↓iteT, ↓iteF, cond_true, cond_false, eq_self, argE, Env.get, Env.push, ev, evs, evo, retV, Value.cells, Value.oneCell', setR, overR, fillL, zl, places, allSizes, heldC, ne_eq, Int.reduceLE, Int.reduceLT, Int.reduceEq, Int.reduceNe, Int.reduceToNat, Int.cast_ofNat_Int, Nat.reduceMul, Nat.reduceLeDiff, reduceIte, Nat.reduceEqDiff, Nat.reduceAdd, ↓reduceIte, Try.vcT, cell_of_blkOf h24, cellsAt]
  refine callsK_new (valid47 bx by' w4) ?_
  intro w5 c5
  cases hb : vpt bx by' with
  | false =>
    have e : orientI ax ay bx by' cx cy = 0 := by simp [orientI, hb]
    simp -dsimp only [↓vcA, vcB, vcD, ↓pureT_lenS, ↓iteT, ↓iteF, cond_true, cond_false, eq_self, argE, Env.get, Env.push, ev, evs, evo, retV, Value.cells, Value.oneCell', setR, overR, fillL, zl, places, allSizes, heldC, ne_eq, Int.reduceLE, Int.reduceLT, Int.reduceEq, Int.reduceNe, Int.reduceToNat, Int.cast_ofNat_Int, Nat.reduceMul, Nat.reduceLeDiff, reduceIte, Nat.reduceEqDiff, Nat.reduceAdd, ↓reduceIte, Try.vcT, e]
    exact (c13.seq c4).seq c5
  | true =>
  have h15 := chg_blk c5 h14
  have h25 := chg_blk c5 h24
  have h35 := chg_blk c5 h34
  simp -dsimp only [↓vcA, vcB, vcD, ↓pureT_lenS, ↓iteT, ↓iteF, cond_true, cond_false, eq_self, argE, Env.get, Env.push, ev, evs, evo, retV, Value.cells, Value.oneCell', setR, overR, fillL, zl, places, allSizes, heldC, ne_eq, Int.reduceLE, Int.reduceLT, Int.reduceEq, Int.reduceNe, Int.reduceToNat, Int.cast_ofNat_Int, Nat.reduceMul, Nat.reduceLeDiff, reduceIte, Nat.reduceEqDiff, Nat.reduceAdd, ↓reduceIte, Try.vcT, cell_of_blkOf h35, cellsAt]
  refine callsK_new (valid47 cx cy w5) ?_
  intro w6 c6
  cases hc : vpt cx cy with
  | false =>
    have e : orientI ax ay bx by' cx cy = 0 := by simp [orientI, hc]
    simp -dsimp only [↓vcA, vcB, vcD, ↓pureT_lenS, ↓iteT, ↓iteF, cond_true, cond_false, eq_self, argE, Env.get, Env.push, ev, evs, evo, retV, Value.cells, Value.oneCell', setR, overR, fillL, zl, places, allSizes, heldC, ne_eq, Int.reduceLE, Int.reduceLT, Int.reduceEq, Int.reduceNe, Int.reduceToNat, Int.cast_ofNat_Int, Nat.reduceMul, Nat.reduceLeDiff, reduceIte, Nat.reduceEqDiff, Nat.reduceAdd, ↓reduceIte, Try.vcT, e]
    exact ((c13.seq c4).seq c5).seq c6
  | true =>
  have h16 := chg_blk c6 h15
  have h26 := chg_blk c6 h25
  have h36 := chg_blk c6 h35
  have hv : (vpt ax ay && vpt bx by' && vpt cx cy) = true := by simp [ha, hb, hc]
  have e : orientI ax ay bx by' cx cy = cmpI ((bx - ax) * (cy - ay)) ((by' - ay) * (cx - ax)) := by simp only [orientI, hv, if_true]
  simp -dsimp only [↓vcA, vcB, vcD, ↓pureT_lenS, ↓iteT, ↓iteF, cond_true, cond_false, eq_self, argE, Env.get, Env.push, ev, evs, evo, retV, Value.cells, Value.oneCell', setR, overR, fillL, zl, places, allSizes, heldC, ne_eq, Int.reduceLE, Int.reduceLT, Int.reduceEq, Int.reduceNe, Int.reduceToNat, Int.cast_ofNat_Int, Nat.reduceMul, Nat.reduceLeDiff, reduceIte, Nat.reduceEqDiff, Nat.reduceAdd, ↓reduceIte, Try.vcT, cell_of_blkOf h16, cell_of_blkOf h26, cell_of_blkOf h36, cellsAt]
  refine callsK_new (twice141 ax ay bx by' cx cy w6 hv) ?_
  intro w7 c7
  simp -dsimp only [↓vcA, vcB, vcD, ↓pureT_lenS, ↓iteT, ↓iteF, cond_true, cond_false, eq_self, argE, Env.get, Env.push, ev, evs, evo, retV, Value.cells, Value.oneCell', setR, overR, fillL, zl, places, allSizes, heldC, ne_eq, Int.reduceLE, Int.reduceLT, Int.reduceEq, Int.reduceNe, Int.reduceToNat, Int.cast_ofNat_Int, Nat.reduceMul, Nat.reduceLeDiff, reduceIte, Nat.reduceEqDiff, Nat.reduceAdd, ↓reduceIte, Try.vcT]
  refine callsK_pure (sign140 _ w7) ?_
  simp -dsimp only [↓vcA, vcB, vcD, ↓pureT_lenS, ↓iteT, ↓iteF, cond_true, cond_false, eq_self, argE, Env.get, Env.push, ev, evs, evo, retV, Value.cells, Value.oneCell', setR, overR, fillL, zl, places, allSizes, heldC, ne_eq, Int.reduceLE, Int.reduceLT, Int.reduceEq, Int.reduceNe, Int.reduceToNat, Int.cast_ofNat_Int, Nat.reduceMul, Nat.reduceLeDiff, reduceIte, Nat.reduceEqDiff, Nat.reduceAdd, ↓reduceIte, Try.vcT, cmpI_sub, e]
  exact (((c13.seq c4).seq c5).seq c6).seq c7
end Go.Proofs.Ytnhgjgoglmadnaa
namespace Go.Proofs.Ytnhgjgoglmadnaa
open Go.RowKit
set_option maxRecDepth 100000
set_option linter.unusedSimpArgs false
set_option linter.unusedVariables false
set_option pp.maxSteps 1500
set_option pp.deepTerms.threshold 8

theorem Rd.old {w w1 : World} {v : Value} {xs : List Int} (h : Rd w v xs) (f : Fr w.heap.size w w1) : Rd w1 v xs := by
  obtain ⟨a, c, rfl, h1, h2, h3, h4⟩ := h
  refine ⟨a, c, rfl, h1, h2, h3, fun hp => ?_⟩
  obtain ⟨b, o, rfl, hc⟩ := h4 hp
  refine ⟨b, o, rfl, fun j hj => f.done.cell (hc j hj) id⟩

def WrU (t p : Nat) (w : World) (v : Value) (s' : W8) (r : Value) (w' : World) : Prop := r = .tuple #[] ∧ ∃ v', WrS t w' p v' s' ∧ WrStep p w v w' v'

theorem Wr.mark' {t p : Nat} {w w1 : World} {v : Value} {xs : List Int} {bad : Bool} (h : Wr t w p v xs bad) (ht : t ≠ 5) (hp : Put w w1 p [v, .bool true] t) : Wr t w1 p v xs true ∧ WrStep p w v w1 v :=
  ⟨⟨hp.blk, h.own.chg hp.chg fun k hk e => h.own.ne h.blk ht (e ▸ hk)⟩, hp.chg.mono fun k hk => .inl hk, fun k hk => .inl hk⟩

set_option maxHeartbeats 1000000 in
theorem refNum (p : Nat) (v : Value) (s : W8) (n size : Int) (w : World) (hw : WrS 35 w p v s) (hlen : s.l.length ≤ 1000000) (hn : -9223372036854775808 ≤ n) (hn1 : n ≤ 9223372036854775807) :
    Calls Try.prog 24 [.pointer (some ⟨p, 0, none⟩), .int .i64 n, .int .i64 size].toArray w (RetK (WrU 35 p w v (s.num n size))) := by
  refine walk Try.func24 rfl (by kernel_rfl) (by rw [Try.nt24]; simp) ?_
  by_cases hg : fits n size = true
  case neg =>
    have hbad : s.num n size = ⟨s.l, true⟩ := by simp [W8.num, hg]
    rw [hbad]
    have hcs : size < 1 ∨ (¬ size < 1 ∧ 8 < size) ∨ (¬ size < 1 ∧ ¬ 8 < size ∧ n < 0) ∨ (¬ size < 1 ∧ ¬ 8 < size ∧ ¬ n < 0 ∧ size < 8 ∧ ¬ n / 2 ^ (8 * size).toNat = 0) := by
      simp only [fits, decide_eq_true_eq] at hg
      omega
    rcases hcs with a1 | ⟨a1, a2⟩ | ⟨a1, a2, a3⟩ | ⟨a1, a2, a3, a4, a5⟩
    case' inl => simp -dsimp only [↓vcA, vcB, vcD, ↓pureT_lenS, ↓iteT, ↓iteF, cond_true, cond_false, eq_self, argE, Env.get, Env.push, ev, evs, evo, retV, Value.cells, Value.oneCell', setR, overR, fillL, zl, places, allSizes, heldC, ne_eq, Int.reduceLE, Int.reduceLT, Int.reduceEq, Int.reduceNe, Int.reduceToNat, Int.cast_ofNat_Int, Nat.reduceMul, Nat.reduceLeDiff, reduceIte, Nat.reduceEqDiff, Nat.reduceAdd, ↓reduceIte, Try.vcT, decide_eq_true a1, hw.bk]
    case' inr.inl => simp -dsimp only [↓vcA, vcB, vcD, ↓pureT_lenS, ↓iteT, ↓iteF, cond_true, cond_false, eq_self, argE, Env.get, Env.push, ev, evs, evo, retV, Value.cells, Value.oneCell', setR, overR, fillL, zl, places, allSizes, heldC, ne_eq, Int.reduceLE, Int.reduceLT, Int.reduceEq, Int.reduceNe, Int.reduceToNat, Int.cast_ofNat_Int, Nat.reduceMul, Nat.reduceLeDiff, reduceIte, Nat.reduceEqDiff, Nat.reduceAdd, ↓reduceIte, Try.vcT, decide_eq_false a1, decide_eq_true a2, hw.bk]
    case' inr.inr.inl => simp -dsimp only [↓vcA, vcB, vcD, ↓pureT_lenS, ↓iteT, ↓iteF, cond_true, cond_false, eq_self, argE, Env.get, Env.push, ev, evs, evo, retV, Value.cells, Value.oneCell', setR, overR, fillL, zl, places, allSizes, heldC, ne_eq, Int.reduceLE, Int.reduceLT, Int.reduceEq, Int.reduceNe, Int.reduceToNat, Int.cast_ofNat_Int, Nat.reduceMul, Nat.reduceLeDiff, reduceIte, Nat.reduceEqDiff, Nat.reduceAdd, ↓reduceIte, Try.vcT, decide_eq_false a1, decide_eq_false a2, decide_eq_true a3, hw.bk]
    case' inr.inr.inr =>
      have e1 : IntKind.i64.wrap (8 * size) = 8 * size := i64w _ (by omega) (by omega)
      have e2 : min (8 * size).toNat IntKind.i64.bits = (8 * size).toNat := by simp [IntKind.bits]; omega
      have e3 : IntKind.u64.wrap (8 * size) = 8 * size := by rw [u64wrap, Int.emod_eq_of_lt (by omega) (by omega)]
      simp -dsimp only [↓vcA, vcB, vcD, ↓pureT_lenS, ↓iteT, ↓iteF, cond_true, cond_false, eq_self, argE, Env.get, Env.push, ev, evs, evo, retV, Value.cells, Value.oneCell', setR, overR, fillL, zl, places, allSizes, heldC, ne_eq, Int.reduceLE, Int.reduceLT, Int.reduceEq, Int.reduceNe, Int.reduceToNat, Int.cast_ofNat_Int, Nat.reduceMul, Nat.reduceLeDiff, reduceIte, Nat.reduceEqDiff, Nat.reduceAdd, ↓reduceIte, Try.vcT, decide_eq_false a1, decide_eq_false a2, decide_eq_false a3, decide_eq_true a4, e1, e2, e3, decide_eq_false a5, hw.bk]
      refine ⟨by omega, ?_⟩
    all_goals
      intro w1 p1
      obtain ⟨q1, q2⟩ := hw.mark' (by decide) p1
      exact ⟨rfl, v, q1, q2⟩
  case pos =>
    have hg' : 1 ≤ size ∧ size ≤ 8 ∧ 0 ≤ n ∧ (size < 8 → n / 2 ^ (8 * size).toNat = 0) := of_decide_eq_true hg
    obtain ⟨k, rfl⟩ := Int.eq_ofNat_of_zero_le (show 0 ≤ size by omega)
    obtain ⟨a1, a2, a3, a4⟩ := hg'
    have a1' : ¬ (k : Int) < 1 := by omega
    have a2' : ¬ (8 : Int) < k := by omega
    have a3' : ¬ n < 0 := by omega
    have hgood : s.num n k = ⟨s.l ++ be n k, s.bad⟩ := by simp [W8.num, hg]
    rw [hgood]
    have e5 : IntKind.i64.wrap ((k : Int) - 1) = (k : Int) - 1 := i64w _ (by omega) (by omega)
    by_cases h8 : (k : Int) < 8
    case' neg => simp -dsimp only [↓vcA, vcB, vcD, ↓pureT_lenS, ↓iteT, ↓iteF, cond_true, cond_false, eq_self, argE, Env.get, Env.push, ev, evs, evo, retV, Value.cells, Value.oneCell', setR, overR, fillL, zl, places, allSizes, heldC, ne_eq, Int.reduceLE, Int.reduceLT, Int.reduceEq, Int.reduceNe, Int.reduceToNat, Int.cast_ofNat_Int, Nat.reduceMul, Nat.reduceLeDiff, reduceIte, Nat.reduceEqDiff, Nat.reduceAdd, ↓reduceIte, Try.vcT, decide_eq_false a1', decide_eq_false a2', decide_eq_false a3', decide_eq_false h8, e5]
    case' pos =>
      have e1 : IntKind.i64.wrap (8 * (k : Int)) = 8 * k := i64w _ (by omega) (by omega)
      have e2 : min (8 * (k : Int)).toNat IntKind.i64.bits = (8 * (k : Int)).toNat := by simp [IntKind.bits]; omega
      have e3 : IntKind.u64.wrap (8 * (k : Int)) = 8 * k := by rw [u64wrap, Int.emod_eq_of_lt (by omega) (by omega)]
      simp -dsimp only [↓vcA, vcB, vcD, ↓pureT_lenS, ↓iteT, ↓iteF, cond_true, cond_false, eq_self, argE, Env.get, Env.push, ev, evs, evo, retV, Value.cells, Value.oneCell', setR, overR, fillL, zl, places, allSizes, heldC, ne_eq, Int.reduceLE, Int.reduceLT, Int.reduceEq, Int.reduceNe, Int.reduceToNat, Int.cast_ofNat_Int, Nat.reduceMul, Nat.reduceLeDiff, reduceIte, Nat.reduceEqDiff, Nat.reduceAdd, ↓reduceIte, Try.vcT, decide_eq_false a1', decide_eq_false a2', decide_eq_false a3', decide_eq_true h8, e1, e2, e3, decide_eq_true (a4 h8), e5]
      refine ⟨by omega, ?_⟩
    all_goals
      refine walkLoop [0, 1] [6] (fun q vs w' => ∃ i : Nat, i ≤ k ∧ q = k - i ∧ vs = [.int .i64 ((k : Int) - 1 - i)] ∧ ∃ v', WrS 35 w' p v' ⟨s.l ++ (be n k).take i, s.bad⟩ ∧ WrStep p w v w' v') (by kernel_rfl) ?_ ?_
      · simp -dsimp only [↓vcA, vcB, vcD, ↓pureT_lenS, ↓iteT, ↓iteF, cond_true, cond_false, eq_self, argE, Env.get, Env.push, ev, evs, evo, retV, Value.cells, Value.oneCell', setR, overR, fillL, zl, places, allSizes, heldC, ne_eq, Int.reduceLE, Int.reduceLT, Int.reduceEq, Int.reduceNe, Int.reduceToNat, Int.cast_ofNat_Int, Nat.reduceMul, Nat.reduceLeDiff, reduceIte, Nat.reduceEqDiff, Nat.reduceAdd, ↓reduceIte, Try.vcT, gets]
        exact ⟨_, 0, Nat.zero_le _, rfl, by simp, v, by simpa using hw, WrStep.refl _ _ _⟩
      · intro ks hk q vs w1 hi
        obtain ⟨i, hi, rfl, rfl, v1, h1, k1⟩ := hi
        simp -dsimp only [gets, argE, List.zip_cons_cons, List.zip_nil_left, List.cons_append, List.nil_append, Env.get, Env.push, Option.bind_some, Option.map_some, Option.some.injEq, reduceIte, Nat.reduceEqDiff, Nat.reduceAdd, ↓reduceIte] at hk; subst hk
        by_cases hlt : (0 : Int) ≤ (k : Int) - 1 - i
        · have e1 : IntKind.i64.wrap (8 * ((k : Int) - 1 - i)) = 8 * ((k : Int) - 1 - i) := i64w _ (by omega) (by omega)
          have e2 : min (8 * ((k : Int) - 1 - i)).toNat IntKind.i64.bits = 8 * (k - 1 - i) := by simp [IntKind.bits]; omega
          have e3 : IntKind.u64.wrap (8 * ((k : Int) - 1 - i)) = 8 * ((k : Int) - 1 - i) := by rw [u64wrap, Int.emod_eq_of_lt (by omega) (by omega)]
          have e4 : IntKind.i64.wrap ((k : Int) - 1 - i - 1) = (k : Int) - 1 - (i + 1 : Nat) := by rw [i64w _ (by omega) (by omega)]; omega
          simp -dsimp only [↓vcA, vcB, vcD, ↓pureT_lenS, ↓iteT, ↓iteF, cond_true, cond_false, eq_self, argE, Env.get, Env.push, ev, evs, evo, retV, Value.cells, Value.oneCell', setR, overR, fillL, zl, places, allSizes, heldC, ne_eq, Int.reduceLE, Int.reduceLT, Int.reduceEq, Int.reduceNe, Int.reduceToNat, Int.cast_ofNat_Int, Nat.reduceMul, Nat.reduceLeDiff, reduceIte, Nat.reduceEqDiff, Nat.reduceAdd, ↓reduceIte, Try.vcT, gets, decide_eq_true hlt, e1, e2, e3, e4, h1.c0]
          refine ⟨by omega, ?_⟩
          intro w2 b2 n2
          have h2 : WrS 35 w2 p v1 ⟨s.l ++ (be n k).take i, s.bad⟩ := h1.chg n2.chg id (fun _ _ => id)
          have hr : Rd w2 (.slice (some ⟨b2, 0, none⟩) 1 1) [IntKind.u8.wrap (n / 2 ^ (8 * (k - 1 - i)))] := Own.rd (n2.owns (by simp [u8s]) (by simp [maxLen]))
          refine app h2.own hr (by simp [be_length]; omega) ?_
          intro a c w3 o3 g3 t3
          have hb3 : blkOf w3 p = some ([v1, .bool s.bad], 35) := (Chg.ofGrown g3).blkOf h2.bk (h2.own.ne h2.blk (by decide))
          simp -dsimp only [↓vcA, vcB, vcD, ↓pureT_lenS, ↓iteT, ↓iteF, cond_true, cond_false, eq_self, argE, Env.get, Env.push, ev, evs, evo, retV, Value.cells, Value.oneCell', setR, overR, fillL, zl, places, allSizes, heldC, ne_eq, Int.reduceLE, Int.reduceLT, Int.reduceEq, Int.reduceNe, Int.reduceToNat, Int.cast_ofNat_Int, Nat.reduceMul, Nat.reduceLeDiff, reduceIte, Nat.reduceEqDiff, Nat.reduceAdd, ↓reduceIte, Try.vcT, gets, hb3, e4]
          intro w4 p4
          obtain ⟨q1, q2⟩ := h2.put (by decide) o3 g3 t3 p4
          refine ⟨_, ?_, i + 1, by omega, rfl, rfl, _, ?_, (k1.trans (WrStep.pre n2.chg q2))⟩
          · omega
          · have : (be n k).take (i + 1) = (be n k).take i ++ [IntKind.u8.wrap (n / 2 ^ (8 * (k - 1 - i)))] := by rw [be_take n k i (by omega), u8wrap]
            rw [this, ← List.append_assoc]
            exact q1
        · simp -dsimp only [↓vcA, vcB, vcD, ↓pureT_lenS, ↓iteT, ↓iteF, cond_true, cond_false, eq_self, argE, Env.get, Env.push, ev, evs, evo, retV, Value.cells, Value.oneCell', setR, overR, fillL, zl, places, allSizes, heldC, ne_eq, Int.reduceLE, Int.reduceLT, Int.reduceEq, Int.reduceNe, Int.reduceToNat, Int.cast_ofNat_Int, Nat.reduceMul, Nat.reduceLeDiff, reduceIte, Nat.reduceEqDiff, Nat.reduceAdd, ↓reduceIte, Try.vcT, gets, decide_eq_false hlt]
          have hik : i = k := by omega
          subst hik
          rw [List.take_of_length_le (by rw [be_length]; exact Nat.le_refl _)] at h1
          exact ⟨rfl, v1, h1, k1⟩
end Go.Proofs.Ytnhgjgoglmadnaa
