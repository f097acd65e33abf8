/- Joined texts of this claim (part 5), printed by a program of this work. The last part holds the claimed theorem: the law answers true at every input of its row. -/
import Derived.Test.YtnhgjgoglmadnaaSP16d
namespace Go.Proofs.Ytnhgjgoglmadnaa
open Go.RowKit
set_option linter.unusedVariables false

theorem i64w (n : Int) (h0 : -9223372036854775808 ≤ n) (h1 : n ≤ 9223372036854775807) : IntKind.i64.wrap n = n := IntWalk.i64_in _ (by omega)
theorem rstep_eq {a x : Int} (ha : 0 ≤ a) (hx : 0 ≤ x ∧ x ≤ 255) (h : a * 256 + x ≤ 9223372036854775807) : rstep a x = a * 256 + x := by
  obtain ⟨m, rfl⟩ := Int.eq_ofNat_of_zero_le ha
  obtain ⟨y, rfl⟩ := Int.eq_ofNat_of_zero_le hx.1
  unfold rstep
  have e : IntKind.i64.bits = 64 := rfl
  have h64 : (2 : Nat) ^ 64 = 18446744073709551616 := by decide
  have e1 : min 8 IntKind.i64.bits = 8 := rfl
  rw [e1, e]
  have p8 : (2 : Int) ^ 8 = 256 := by decide
  rw [p8, i64w ((m : Int) * 256) (by omega) (by omega), i64w (y : Int) (by omega) (by omega)]
  have e2 : ((m : Int) * 256) = ((m * 256 : Nat) : Int) := by omega
  rw [e2, BitVec.ofInt_natCast, BitVec.ofInt_natCast, BitVec.toNat_or, BitVec.toNat_ofNat, BitVec.toNat_ofNat, h64, Nat.mod_eq_of_lt (show m * 256 < 18446744073709551616 by omega), Nat.mod_eq_of_lt (show y < 18446744073709551616 by omega)]
  have e3 : m * 256 ||| y = m * 256 + y := by
    have := Nat.two_pow_add_eq_or_of_lt (i := 8) (b := y) (by omega) m
    rw [Nat.mul_comm] at this
    exact this.symm
  rw [e3, i64w _ (by omega) (by omega)]
  omega

theorem be_byt (n : Int) (s : Nat) : Byt (be n s) := fun x hx => by
  simp only [be, List.mem_map] at hx
  obtain ⟨i, _, rfl⟩ := hx
  omega
theorem be_part (n : Int) (s : Nat) (h0 : 0 ≤ n) (h1 : n ≤ 9223372036854775807) (hfit : n / 2 ^ (8 * s) = 0) : ∀ i, i ≤ s → ((be n s).take i).foldl rstep 0 = n / 2 ^ (8 * (s - i))
  | 0, _ => by simp [hfit]
  | i + 1, hi => by
    rw [be_take n s i (by omega), List.foldl_append, be_part n s h0 h1 hfit i (by omega)]
    simp only [List.foldl_cons, List.foldl_nil]
    have e1 : 8 * (s - i) = 8 * (s - 1 - i) + 8 := by omega
    have e2 : 8 * (s - (i + 1)) = 8 * (s - 1 - i) := by omega
    rw [e1, e2, Int.pow_add, ← Int.ediv_ediv_of_nonneg (Int.le_of_lt (Int.pow_pos (by decide)))]
    have p8 : (2 : Int) ^ 8 = 256 := by decide
    rw [p8]
    generalize hq : n / 2 ^ (8 * (s - 1 - i)) = q
    have hq0 : 0 ≤ q := by rw [← hq]; exact Int.ediv_nonneg h0 (Int.le_of_lt (Int.pow_pos (by decide)))
    have hq1 : q ≤ n := by rw [← hq]; exact Int.ediv_le_self _ h0
    rw [rstep_eq (by omega) (by omega) (by omega)]
    omega
theorem rval_be (n : Int) (s : Nat) (h0 : 0 ≤ n) (h1 : n ≤ 9223372036854775807) (hfit : n / 2 ^ (8 * s) = 0) : rval (be n s) = n := by
  have := be_part n s h0 h1 hfit s (Nat.le_refl _)
  rw [List.take_of_length_le (by rw [be_length]; exact Nat.le_refl _)] at this
  unfold rval
  rw [this]
  simp
end Go.Proofs.Ytnhgjgoglmadnaa
namespace Go.Proofs.Ytnhgjgoglmadnaa
open Go.RowKit
set_option maxRecDepth 100000
set_option linter.unusedSimpArgs false
set_option linter.unusedVariables false
set_option pp.maxSteps 1500
set_option pp.deepTerms.threshold 8

theorem Wr.fresh {w w1 : World} {b : Nat} {t : TypeId} (h : New w w1 b [.slice none 0 0, .bool false] t) : WrS t w1 b (.slice none 0 0) ⟨[], false⟩ := ⟨h.blk, Own.nil w1⟩
def Up (N : Nat) (v : Value) : Prop := ∀ k, v.ownBlock = some k → N ≤ k
structure Fr (N : Nat) (w w' : World) : Prop where
  le : N ≤ w.heap.size
  chg : Chg (fun k => N ≤ k) w w'
theorem Fr.refl (w : World) : Fr w.heap.size w w := ⟨Nat.le_refl _, Chg.refl _ _⟩
theorem Fr.go {N : Nat} {S : Nat → Prop} {w w1 w2 : World} (f : Fr N w w1) (h : Chg S w1 w2) (hs : ∀ x, S x → N ≤ x) : Fr N w w2 := ⟨f.le, f.chg.trans h fun x hx => .inl (hs x hx)⟩
theorem Fr.at {N : Nat} {w w1 : World} (f : Fr N w w1) : N ≤ w1.heap.size := Nat.le_trans f.le f.chg.size
theorem Fr.new {N : Nat} {w w1 w2 : World} {b : Nat} {cs : List Value} {t : TypeId} (f : Fr N w w1) (h : New w1 w2 b cs t) : Fr N w w2 := f.go h.chg fun _ x => x.elim
theorem Fr.newUp {N : Nat} {w w1 w2 : World} {b : Nat} {cs : List Value} {t : TypeId} (f : Fr N w w1) (h : New w1 w2 b cs t) : N ≤ b := by have := f.at; have := h.eq; omega
theorem Fr.wr {N p : Nat} {w w1 w2 : World} {v v2 : Value} (f : Fr N w w1) (k : WrStep p w1 v w2 v2) (hp : N ≤ p) (hv : Up N v) : Fr N w w2 := f.go k.chg fun x hx => hx.elim (fun e => e ▸ hp) (hv x)
theorem Fr.nil {N : Nat} {w w1 w2 : World} (f : Fr N w w1) (h : Chg (fun _ => False) w1 w2) : Fr N w w2 := f.go h fun _ x => x.elim
theorem Fr.one {N p : Nat} {w w1 w2 : World} (f : Fr N w w1) (h : Chg (fun k => k = p) w1 w2) (hp : N ≤ p) : Fr N w w2 := f.go h fun _ e => e ▸ hp
theorem Fr.done {w w1 : World} (f : Fr w.heap.size w w1) : Chg (fun _ => False) w w1 := ⟨f.chg.os, f.chg.tape, f.chg.output, f.chg.size, fun k hk _ => f.chg.block k hk (by omega)⟩
theorem Rd.fr {N : Nat} {w w1 : World} {v : Value} {xs : List Int} (h : Rd w v xs) (f : Fr N w w1) (hl : ∀ k, v.ownBlock = some k → k < N) : Rd w1 v xs := h.chg f.chg fun k hk e => by have := hl k hk; omega
theorem Up.nil (N : Nat) : Up N (.slice none 0 0) := fun k hk => by simp [Value.ownBlock] at hk

theorem Rd.nil (w : World) : Rd w (.slice none 0 0) [] := (Own.nil w).rd

theorem strLit (xs : List Int) (b : ByteArray) : ((strOfNums xs).toList == b.toList) = (Lib.bytesOf xs == b.data.toList) := by rw [Lib.strOfNums_toList, Lib.toList_data]
end Go.Proofs.Ytnhgjgoglmadnaa
namespace Go.Proofs.Ytnhgjgoglmadnaa
open Go.RowKit
set_option maxRecDepth 100000
set_option linter.unusedSimpArgs false
set_option linter.unusedVariables false
set_option pp.maxSteps 1500
set_option pp.deepTerms.threshold 8

abbrev RetP (x : Value) (w : World) : Ending → World → Prop := RetK fun r w' => r = x ∧ Chg (fun _ => False) w w'
theorem callsK_new {P : Program} {f : FuncId} {args : Array Value} {w : World} {x : Value} {K : Value → World → Prop} (h : Calls P f args w (RetP x w)) (hk : ∀ w', Chg (fun _ => False) w w' → K x w') : callsK P f args w K :=
  callsK_use h fun _ _ ⟨e1, e2⟩ => by rw [e1]; exact hk _ e2
theorem chg_blk {w w' : World} {b : Nat} {x : List Value × TypeId} (c : Chg (fun _ => False) w w') (h : blkOf w b = some x) : blkOf w' b = some x := c.blkOf h id

def vpt (x y : Int) : Bool := decide (0 ≤ x ∧ x < 16777216 ∧ 0 ≤ y ∧ y < 16777216)
theorem valid150 (x y : Int) (w : World) : Calls Try.prog 150 [.agg #[.int .i64 x, .int .i64 y]].toArray w (RetP (.bool (vpt x y)) w) := by
  refine walk Try.func150 rfl (by kernel_rfl) (by rw [Try.nt150]; simp) ?_
  simp -dsimp only [↓vcA, vcB, vcD, ↓pureT_lenS, ↓iteT, ↓iteF, cond_true, cond_false, eq_self, argE, Env.get, Env.push, ev, evs, evo, retV, Value.cells, Value.oneCell', setR, overR, fillL, zl, places, allSizes, heldC, ne_eq, Int.reduceLE, Int.reduceLT, Int.reduceEq, Int.reduceNe, Int.reduceToNat, Int.cast_ofNat_Int, Nat.reduceMul, Nat.reduceLeDiff, reduceIte, Nat.reduceEqDiff, Nat.reduceAdd, ↓reduceIte, Try.vcT]
  intro w1 b hb
  by_cases a1 : 0 ≤ x
  · by_cases a2 : x < 16777216
    · by_cases a3 : 0 ≤ y
      · by_cases a4 : y < 16777216
        · have e : vpt x y = true := by simp [vpt]; omega
          simp -dsimp only [↓vcA, vcB, vcD, ↓pureT_lenS, ↓iteT, ↓iteF, cond_true, cond_false, eq_self, argE, Env.get, Env.push, ev, evs, evo, retV, Value.cells, Value.oneCell', setR, overR, fillL, zl, places, allSizes, heldC, ne_eq, Int.reduceLE, Int.reduceLT, Int.reduceEq, Int.reduceNe, Int.reduceToNat, Int.cast_ofNat_Int, Nat.reduceMul, Nat.reduceLeDiff, reduceIte, Nat.reduceEqDiff, Nat.reduceAdd, ↓reduceIte, Try.vcT, hb.cell, decide_eq_true a1, decide_eq_true a2, decide_eq_true a3, decide_eq_true a4, e]
          exact hb.chg
        · have e : vpt x y = false := by simp [vpt]; omega
          simp -dsimp only [↓vcA, vcB, vcD, ↓pureT_lenS, ↓iteT, ↓iteF, cond_true, cond_false, eq_self, argE, Env.get, Env.push, ev, evs, evo, retV, Value.cells, Value.oneCell', setR, overR, fillL, zl, places, allSizes, heldC, ne_eq, Int.reduceLE, Int.reduceLT, Int.reduceEq, Int.reduceNe, Int.reduceToNat, Int.cast_ofNat_Int, Nat.reduceMul, Nat.reduceLeDiff, reduceIte, Nat.reduceEqDiff, Nat.reduceAdd, ↓reduceIte, Try.vcT, hb.cell, decide_eq_true a1, decide_eq_true a2, decide_eq_true a3, decide_eq_false a4, e]
          exact hb.chg
      · have e : vpt x y = false := by simp [vpt]; omega
        simp -dsimp only [↓vcA, vcB, vcD, ↓pureT_lenS, ↓iteT, ↓iteF, cond_true, cond_false, eq_self, argE, Env.get, Env.push, ev, evs, evo, retV, Value.cells, Value.oneCell', setR, overR, fillL, zl, places, allSizes, heldC, ne_eq, Int.reduceLE, Int.reduceLT, Int.reduceEq, Int.reduceNe, Int.reduceToNat, Int.cast_ofNat_Int, Nat.reduceMul, Nat.reduceLeDiff, reduceIte, Nat.reduceEqDiff, Nat.reduceAdd, ↓reduceIte, Try.vcT, hb.cell, decide_eq_true a1, decide_eq_true a2, decide_eq_false a3, e]
        exact hb.chg
    · have e : vpt x y = false := by simp [vpt]; omega
      simp -dsimp only [↓vcA, vcB, vcD, ↓pureT_lenS, ↓iteT, ↓iteF, cond_true, cond_false, eq_self, argE, Env.get, Env.push, ev, evs, evo, retV, Value.cells, Value.oneCell', setR, overR, fillL, zl, places, allSizes, heldC, ne_eq, Int.reduceLE, Int.reduceLT, Int.reduceEq, Int.reduceNe, Int.reduceToNat, Int.cast_ofNat_Int, Nat.reduceMul, Nat.reduceLeDiff, reduceIte, Nat.reduceEqDiff, Nat.reduceAdd, ↓reduceIte, Try.vcT, hb.cell, decide_eq_true a1, decide_eq_false a2, e]
      exact hb.chg
  · have e : vpt x y = false := by simp [vpt]; omega
    simp -dsimp only [↓vcA, vcB, vcD, ↓pureT_lenS, ↓iteT, ↓iteF, cond_true, cond_false, eq_self, argE, Env.get, Env.push, ev, evs, evo, retV, Value.cells, Value.oneCell', setR, overR, fillL, zl, places, allSizes, heldC, ne_eq, Int.reduceLE, Int.reduceLT, Int.reduceEq, Int.reduceNe, Int.reduceToNat, Int.cast_ofNat_Int, Nat.reduceMul, Nat.reduceLeDiff, reduceIte, Nat.reduceEqDiff, Nat.reduceAdd, ↓reduceIte, Try.vcT, hb.cell, decide_eq_false a1, e]
    exact hb.chg

def cmpI (x y : Int) : Int := if x < y then -1 else if y < x then 1 else 0
theorem isNaN (x : Int) (w : World) : Calls Try.prog 151 [.int .i64 x].toArray w (RetK fun r w' => r = .bool false ∧ w' = w) := by
  refine walk Try.func151 rfl (by kernel_rfl) (by rw [Try.nt151]; simp) ?_
  simp -dsimp only [↓vcA, vcB, vcD, ↓pureT_lenS, ↓iteT, ↓iteF, cond_true, cond_false, eq_self, argE, Env.get, Env.push, ev, evs, evo, retV, Value.cells, Value.oneCell', setR, overR, fillL, zl, places, allSizes, heldC, ne_eq, Int.reduceLE, Int.reduceLT, Int.reduceEq, Int.reduceNe, Int.reduceToNat, Int.cast_ofNat_Int, Nat.reduceMul, Nat.reduceLeDiff, reduceIte, Nat.reduceEqDiff, Nat.reduceAdd, ↓reduceIte, Try.vcT]
theorem compare (x y : Int) (w : World) : Calls Try.prog 148 [.int .i64 x, .int .i64 y].toArray w (RetK fun r w' => r = .int .i64 (cmpI x y) ∧ w' = w) := by
  refine walk Try.func148 rfl (by kernel_rfl) (by rw [Try.nt148]; simp) ?_
  simp -dsimp only [↓vcA, vcB, vcD, ↓pureT_lenS, ↓iteT, ↓iteF, cond_true, cond_false, eq_self, argE, Env.get, Env.push, ev, evs, evo, retV, Value.cells, Value.oneCell', setR, overR, fillL, zl, places, allSizes, heldC, ne_eq, Int.reduceLE, Int.reduceLT, Int.reduceEq, Int.reduceNe, Int.reduceToNat, Int.cast_ofNat_Int, Nat.reduceMul, Nat.reduceLeDiff, reduceIte, Nat.reduceEqDiff, Nat.reduceAdd, ↓reduceIte, Try.vcT]
  refine callsK_pure (isNaN x w) ?_
  simp -dsimp only [↓vcA, vcB, vcD, ↓pureT_lenS, ↓iteT, ↓iteF, cond_true, cond_false, eq_self, argE, Env.get, Env.push, ev, evs, evo, retV, Value.cells, Value.oneCell', setR, overR, fillL, zl, places, allSizes, heldC, ne_eq, Int.reduceLE, Int.reduceLT, Int.reduceEq, Int.reduceNe, Int.reduceToNat, Int.cast_ofNat_Int, Nat.reduceMul, Nat.reduceLeDiff, reduceIte, Nat.reduceEqDiff, Nat.reduceAdd, ↓reduceIte, Try.vcT]
  refine callsK_pure (isNaN y w) ?_
  by_cases h1 : x < y
  · have e : cmpI x y = -1 := by simp [cmpI, h1]
    simp -dsimp only [↓vcA, vcB, vcD, ↓pureT_lenS, ↓iteT, ↓iteF, cond_true, cond_false, eq_self, argE, Env.get, Env.push, ev, evs, evo, retV, Value.cells, Value.oneCell', setR, overR, fillL, zl, places, allSizes, heldC, ne_eq, Int.reduceLE, Int.reduceLT, Int.reduceEq, Int.reduceNe, Int.reduceToNat, Int.cast_ofNat_Int, Nat.reduceMul, Nat.reduceLeDiff, reduceIte, Nat.reduceEqDiff, Nat.reduceAdd, ↓reduceIte, Try.vcT, decide_eq_true h1, e]
  · by_cases h2 : y < x
    · have e : cmpI x y = 1 := by simp [cmpI, h1, h2]
      simp -dsimp only [↓vcA, vcB, vcD, ↓pureT_lenS, ↓iteT, ↓iteF, cond_true, cond_false, eq_self, argE, Env.get, Env.push, ev, evs, evo, retV, Value.cells, Value.oneCell', setR, overR, fillL, zl, places, allSizes, heldC, ne_eq, Int.reduceLE, Int.reduceLT, Int.reduceEq, Int.reduceNe, Int.reduceToNat, Int.cast_ofNat_Int, Nat.reduceMul, Nat.reduceLeDiff, reduceIte, Nat.reduceEqDiff, Nat.reduceAdd, ↓reduceIte, Try.vcT, decide_eq_false h1, decide_eq_true h2, e]
    · have e : cmpI x y = 0 := by simp [cmpI, h1, h2]
      simp -dsimp only [↓vcA, vcB, vcD, ↓pureT_lenS, ↓iteT, ↓iteF, cond_true, cond_false, eq_self, argE, Env.get, Env.push, ev, evs, evo, retV, Value.cells, Value.oneCell', setR, overR, fillL, zl, places, allSizes, heldC, ne_eq, Int.reduceLE, Int.reduceLT, Int.reduceEq, Int.reduceNe, Int.reduceToNat, Int.cast_ofNat_Int, Nat.reduceMul, Nat.reduceLeDiff, reduceIte, Nat.reduceEqDiff, Nat.reduceAdd, ↓reduceIte, Try.vcT, decide_eq_false h1, decide_eq_false h2, e]
theorem or2 (a c : Int) (b : Nat) (w : World) (h0 : w.cell? ⟨b, 0, none⟩ = some (.int .i64 a)) (h1 : w.cell? ⟨b, 1, none⟩ = some (.int .i64 c)) :
    Calls Try.prog 149 [.slice (some ⟨b, 0, none⟩) 2 2].toArray w (RetK fun r w' => r = .int .i64 (if a = 0 then c else a) ∧ w' = w) := by
  refine walk Try.func149 rfl (by kernel_rfl) (by rw [Try.nt149]; simp) ?_
  simp -dsimp only [↓vcA, vcB, vcD, ↓pureT_lenS, ↓iteT, ↓iteF, cond_true, cond_false, eq_self, argE, Env.get, Env.push, ev, evs, evo, retV, Value.cells, Value.oneCell', setR, overR, fillL, zl, places, allSizes, heldC, ne_eq, Int.reduceLE, Int.reduceLT, Int.reduceEq, Int.reduceNe, Int.reduceToNat, Int.cast_ofNat_Int, Nat.reduceMul, Nat.reduceLeDiff, reduceIte, Nat.reduceEqDiff, Nat.reduceAdd, ↓reduceIte, Try.vcT]
  refine walkLoop [3, 6, 7] [8] (fun q vs w' => w' = w ∧ ∃ i : Nat, i ≤ 2 ∧ q = 2 - i ∧ vs = [.int .i64 i] ∧ (0 < i → a = 0) ∧ (1 < i → c = 0)) (by kernel_rfl) ?_ ?_
  · simp -dsimp only [↓vcA, vcB, vcD, ↓pureT_lenS, ↓iteT, ↓iteF, cond_true, cond_false, eq_self, argE, Env.get, Env.push, ev, evs, evo, retV, Value.cells, Value.oneCell', setR, overR, fillL, zl, places, allSizes, heldC, ne_eq, Int.reduceLE, Int.reduceLT, Int.reduceEq, Int.reduceNe, Int.reduceToNat, Int.cast_ofNat_Int, Nat.reduceMul, Nat.reduceLeDiff, reduceIte, Nat.reduceEqDiff, Nat.reduceAdd, ↓reduceIte, Try.vcT, gets]
    exact ⟨_, 0, by omega, rfl, rfl, by omega, by omega⟩
  · intro ks hk q vs w1 hi
    obtain ⟨rfl, i, hi, rfl, rfl, ha, hc⟩ := hi
    simp -dsimp only [gets, argE, List.zip_cons_cons, List.zip_nil_left, List.cons_append, List.nil_append, Env.get, Env.push, Option.bind_some, Option.map_some, Option.some.injEq, reduceIte, Nat.reduceEqDiff, Nat.reduceAdd, ↓reduceIte] at hk; subst hk
    have hcs : i = 0 ∨ i = 1 ∨ i = 2 := by omega
    rcases hcs with rfl | rfl | rfl
    · by_cases h : a = 0
      · simp -dsimp only [↓vcA, vcB, vcD, ↓pureT_lenS, ↓iteT, ↓iteF, cond_true, cond_false, eq_self, argE, Env.get, Env.push, ev, evs, evo, retV, Value.cells, Value.oneCell', setR, overR, fillL, zl, places, allSizes, heldC, ne_eq, Int.reduceLE, Int.reduceLT, Int.reduceEq, Int.reduceNe, Int.reduceToNat, Int.cast_ofNat_Int, Nat.reduceMul, Nat.reduceLeDiff, reduceIte, Nat.reduceEqDiff, Nat.reduceAdd, ↓reduceIte, Try.vcT, gets, h0, decide_eq_true h, Int.natCast_zero, Int.toNat_zero, Nat.zero_mul]
        exact ⟨_, by decide, 1, by omega, rfl, rfl, fun _ => h, by omega⟩
      · simp -dsimp only [↓vcA, vcB, vcD, ↓pureT_lenS, ↓iteT, ↓iteF, cond_true, cond_false, eq_self, argE, Env.get, Env.push, ev, evs, evo, retV, Value.cells, Value.oneCell', setR, overR, fillL, zl, places, allSizes, heldC, ne_eq, Int.reduceLE, Int.reduceLT, Int.reduceEq, Int.reduceNe, Int.reduceToNat, Int.cast_ofNat_Int, Nat.reduceMul, Nat.reduceLeDiff, reduceIte, Nat.reduceEqDiff, Nat.reduceAdd, ↓reduceIte, Try.vcT, gets, h0, decide_eq_false h, Int.natCast_zero, Int.toNat_zero, Nat.zero_mul]
        simp [h]
    · have ha := ha (by omega)
      subst ha
      by_cases h : c = 0
      · simp -dsimp only [↓vcA, vcB, vcD, ↓pureT_lenS, ↓iteT, ↓iteF, cond_true, cond_false, eq_self, argE, Env.get, Env.push, ev, evs, evo, retV, Value.cells, Value.oneCell', setR, overR, fillL, zl, places, allSizes, heldC, ne_eq, Int.reduceLE, Int.reduceLT, Int.reduceEq, Int.reduceNe, Int.reduceToNat, Int.cast_ofNat_Int, Nat.reduceMul, Nat.reduceLeDiff, reduceIte, Nat.reduceEqDiff, Nat.reduceAdd, ↓reduceIte, Try.vcT, gets, h1, decide_eq_true h, Int.natCast_one, Int.toNat_one, Nat.one_mul]
        exact ⟨_, by decide, 2, by omega, rfl, rfl, fun _ => trivial, fun _ => h⟩
      · simp -dsimp only [↓vcA, vcB, vcD, ↓pureT_lenS, ↓iteT, ↓iteF, cond_true, cond_false, eq_self, argE, Env.get, Env.push, ev, evs, evo, retV, Value.cells, Value.oneCell', setR, overR, fillL, zl, places, allSizes, heldC, ne_eq, Int.reduceLE, Int.reduceLT, Int.reduceEq, Int.reduceNe, Int.reduceToNat, Int.cast_ofNat_Int, Nat.reduceMul, Nat.reduceLeDiff, reduceIte, Nat.reduceEqDiff, Nat.reduceAdd, ↓reduceIte, Try.vcT, gets, h1, decide_eq_false h, Int.natCast_one, Int.toNat_one, Nat.one_mul]
    · have ha := ha (by omega)
      have hc := hc (by omega)
      subst ha hc
      simp -dsimp only [↓vcA, vcB, vcD, ↓pureT_lenS, ↓iteT, ↓iteF, cond_true, cond_false, eq_self, argE, Env.get, Env.push, ev, evs, evo, retV, Value.cells, Value.oneCell', setR, overR, fillL, zl, places, allSizes, heldC, ne_eq, Int.reduceLE, Int.reduceLT, Int.reduceEq, Int.reduceNe, Int.reduceToNat, Int.cast_ofNat_Int, Nat.reduceMul, Nat.reduceLeDiff, reduceIte, Nat.reduceEqDiff, Nat.reduceAdd, ↓reduceIte, Try.vcT, gets]
end Go.Proofs.Ytnhgjgoglmadnaa
namespace Go.Proofs.Ytnhgjgoglmadnaa
open Go.RowKit
set_option maxRecDepth 100000
set_option linter.unusedSimpArgs false
set_option linter.unusedVariables false
set_option pp.maxSteps 1500
set_option pp.deepTerms.threshold 8

theorem round_eq (k n : Int) (h0 : 0 < n) (h1 : n ≤ 1000000000000) : (IntKind.i64.wrap (k.tmod n + n)).tmod n = k % n := by
  have h2 := Int.tmod_lt_of_pos k h0
  have h3 : -n < k.tmod n := Int.lt_tmod_of_pos k h0
  rw [IntWalk.i64_in _ (by omega)]
  rw [Int.tmod_eq_emod_of_nonneg (by omega), Int.add_emod_right]
  rw [Int.tmod_eq_emod]
  split
  · simp
  · have e : (n.natAbs : Int) = n := by omega
    rw [e, show k % n - n = k % n + n * (-1) by omega, Int.add_mul_emod_self_left, Int.emod_emod]
theorem round (k n : Int) (w : World) (h0 : 0 < n) (h1 : n ≤ 1000000000000) :
    Calls Try.prog 21 [.int .i64 k, .int .i64 n].toArray w (RetK fun r w' => r = .int .i64 (k % n) ∧ w' = w) := by
  refine walk Try.func21 rfl (by kernel_rfl) (by rw [Try.nt21]; simp) ?_
  simp -dsimp only [↓vcA, vcB, vcD, ↓pureT_lenS, ↓iteT, ↓iteF, cond_true, cond_false, eq_self, argE, Env.get, Env.push, ev, evs, evo, retV, Value.cells, Value.oneCell', setR, overR, fillL, zl, places, allSizes, heldC, ne_eq, Int.reduceLE, Int.reduceLT, Int.reduceEq, Int.reduceNe, Int.reduceToNat, Int.cast_ofNat_Int, Nat.reduceMul, Nat.reduceLeDiff, reduceIte, Nat.reduceEqDiff, Nat.reduceAdd, ↓reduceIte, Try.vcT]
  refine ⟨by omega, by omega, ?_⟩
  rw [round_eq k n h0 h1]

theorem Own.form {w : World} {v : Value} {xs : List Int} (h : Own w v xs) (hp : 0 < xs.length) : ∃ g cap cur, v = .slice (some ⟨g, 0, none⟩) xs.length cap ∧ blkOf w g = some (cur, 5) ∧ xs.length ≤ cap ∧ cap ≤ maxLen ∧ cur.length = cap ∧ cur.take xs.length = u8s xs := by
  rcases h.2 with ⟨_, h0⟩ | ⟨g, cap, cur, rfl, hb, hg, hn, hm, hs, ht⟩
  · omega
  · exact ⟨g, cap, cur.toList, rfl, blkOf_of hg, hn, hm, by simpa using hs, by simpa using ht⟩
theorem Rd.cell {w : World} {b o n c : Nat} {xs : List Int} (h : Rd w (.slice (some ⟨b, o, none⟩) n c) xs) (j : Nat) (hj : j < xs.length) : w.cell? ⟨b, o + j, none⟩ = some (.int .u8 (xs.getD j 0)) := by
  obtain ⟨a, c', e, h1, h2, h3, h4⟩ := h
  injection e with e1 e2 e3
  obtain ⟨b', o', e4, hc⟩ := h4 (by omega)
  rw [← e1] at e4
  injection e4 with e4
  injection e4 with e5 e6 _
  subst e5 e6
  exact hc j hj

end Go.Proofs.Ytnhgjgoglmadnaa
namespace Go.Proofs.Ytnhgjgoglmadnaa
open Go.RowKit
set_option maxRecDepth 100000
set_option linter.unusedSimpArgs false
set_option linter.unusedVariables false
set_option pp.maxSteps 1500
set_option pp.deepTerms.threshold 8

def cmp2 (x y x' y' : Int) : Int := if cmpI x x' = 0 then cmpI y y' else cmpI x x'
theorem cmp143 (x y x' y' : Int) (w : World) : Calls Try.prog 143 [.agg #[.int .i64 x, .int .i64 y], .agg #[.int .i64 x', .int .i64 y']].toArray w (RetP (.int .i64 (cmp2 x y x' y')) w) := by
  refine walk Try.func143 rfl (by kernel_rfl) (by rw [Try.nt143]; simp) ?_
  simp -dsimp only [↓vcA, vcB, vcD, ↓pureT_lenS, ↓iteT, ↓iteF, cond_true, cond_false, eq_self, argE, Env.get, Env.push, ev, evs, evo, retV, Value.cells, Value.oneCell', setR, overR, fillL, zl, places, allSizes, heldC, ne_eq, Int.reduceLE, Int.reduceLT, Int.reduceEq, Int.reduceNe, Int.reduceToNat, Int.cast_ofNat_Int, Nat.reduceMul, Nat.reduceLeDiff, reduceIte, Nat.reduceEqDiff, Nat.reduceAdd, ↓reduceIte, Try.vcT]
  intro w1 b1 n1 w2 b2 n2
  have hb1 := chg_blk n2.chg n1.blkOf
  have hL : Holds [(b1, 0, .int .i64 x), (b2, 0, .int .i64 x'), (b1, 1, .int .i64 y), (b2, 1, .int .i64 y')] w2 := by
    simp [Holds_nil, Holds_cons, cell_of_blkOf hb1, n2.cell]
  refine walkDraw (.q 0 (.q 2 (.q 5 (.q 7 (.h 1 0 (.h 3 1 (.h 6 2 (.h 8 3 (.l 4 (.l 9 (.l 10 (.l 11 (.q 12 .fin))))))))))))) [(b1, 0, .int .i64 x), (b2, 0, .int .i64 x'), (b1, 1, .int .i64 y), (b2, 1, .int .i64 y')] (by kernel_rfl) hL ?_
  intro w3 e3 c3
  have L3 := c3.holds hL
  simp -dsimp only [↓vcA, vcB, vcD, ↓pureT_lenS, ↓iteT, ↓iteF, cond_true, cond_false, eq_self, argE, Env.get, Env.push, ev, evs, evo, retV, Value.cells, Value.oneCell', setR, overR, fillL, zl, places, allSizes, heldC, ne_eq, Int.reduceLE, Int.reduceLT, Int.reduceEq, Int.reduceNe, Int.reduceToNat, Int.cast_ofNat_Int, Nat.reduceMul, Nat.reduceLeDiff, reduceIte, Nat.reduceEqDiff, Nat.reduceAdd, ↓reduceIte, Try.vcT]
  refine callsK_pure (compare x x' w3) ?_
  simp -dsimp only [↓vcA, vcB, vcD, ↓pureT_lenS, ↓iteT, ↓iteF, cond_true, cond_false, eq_self, argE, Env.get, Env.push, ev, evs, evo, retV, Value.cells, Value.oneCell', setR, overR, fillL, zl, places, allSizes, heldC, ne_eq, Int.reduceLE, Int.reduceLT, Int.reduceEq, Int.reduceNe, Int.reduceToNat, Int.cast_ofNat_Int, Nat.reduceMul, Nat.reduceLeDiff, reduceIte, Nat.reduceEqDiff, Nat.reduceAdd, ↓reduceIte, Try.vcT, L3]
  refine callsK_pure (compare y y' w3) ?_
  simp -dsimp only [↓vcA, vcB, vcD, ↓pureT_lenS, ↓iteT, ↓iteF, cond_true, cond_false, eq_self, argE, Env.get, Env.push, ev, evs, evo, retV, Value.cells, Value.oneCell', setR, overR, fillL, zl, places, allSizes, heldC, ne_eq, Int.reduceLE, Int.reduceLT, Int.reduceEq, Int.reduceNe, Int.reduceToNat, Int.cast_ofNat_Int, Nat.reduceMul, Nat.reduceLeDiff, reduceIte, Nat.reduceEqDiff, Nat.reduceAdd, ↓reduceIte, Try.vcT, L3]
  intro w4 b4 n4
  have L4 := n4.chg.holds L3
  refine ⟨L4, ?_⟩
  refine callsK_pure (or2 _ _ b4 w4 (n4.cell 0) (n4.cell 1)) ?_
  simp -dsimp only [↓vcA, vcB, vcD, ↓pureT_lenS, ↓iteT, ↓iteF, cond_true, cond_false, eq_self, argE, Env.get, Env.push, ev, evs, evo, retV, Value.cells, Value.oneCell', setR, overR, fillL, zl, places, allSizes, heldC, ne_eq, Int.reduceLE, Int.reduceLT, Int.reduceEq, Int.reduceNe, Int.reduceToNat, Int.cast_ofNat_Int, Nat.reduceMul, Nat.reduceLeDiff, reduceIte, Nat.reduceEqDiff, Nat.reduceAdd, ↓reduceIte, Try.vcT, L4]
  exact ⟨rfl, ((n1.chg.seq n2.chg).seq c3).seq n4.chg⟩

theorem all147 (ax ay bx by' cx cy : Int) (b : Nat) (w : World) (h : blkOf w b = some ([.int .i64 ax, .int .i64 ay, .int .i64 bx, .int .i64 by', .int .i64 cx, .int .i64 cy], 37)) :
    Calls Try.prog 147 [.slice (some ⟨b, 0, none⟩) 3 3].toArray w (RetP (.bool (vpt ax ay && vpt bx by' && vpt cx cy)) w) := by
  refine walk Try.func147 rfl (by kernel_rfl) (by rw [Try.nt147]; simp) ?_
  simp -dsimp only [↓vcA, vcB, vcD, ↓pureT_lenS, ↓iteT, ↓iteF, cond_true, cond_false, eq_self, argE, Env.get, Env.push, ev, evs, evo, retV, Value.cells, Value.oneCell', setR, overR, fillL, zl, places, allSizes, heldC, ne_eq, Int.reduceLE, Int.reduceLT, Int.reduceEq, Int.reduceNe, Int.reduceToNat, Int.cast_ofNat_Int, Nat.reduceMul, Nat.reduceLeDiff, reduceIte, Nat.reduceEqDiff, Nat.reduceAdd, ↓reduceIte, Try.vcT]
  refine walkLoop [5, 6] [7] (fun q vs w' => Chg (fun _ => False) w w' ∧ ∃ i : Nat, i ≤ 3 ∧ q = 3 - i ∧ vs = [.int .i64 i] ∧ (0 < i → vpt ax ay = true) ∧ (1 < i → vpt bx by' = true) ∧ (2 < i → vpt cx cy = true)) (by kernel_rfl) ?_ ?_
  · simp -dsimp only [↓vcA, vcB, vcD, ↓pureT_lenS, ↓iteT, ↓iteF, cond_true, cond_false, eq_self, argE, Env.get, Env.push, ev, evs, evo, retV, Value.cells, Value.oneCell', setR, overR, fillL, zl, places, allSizes, heldC, ne_eq, Int.reduceLE, Int.reduceLT, Int.reduceEq, Int.reduceNe, Int.reduceToNat, Int.cast_ofNat_Int, Nat.reduceMul, Nat.reduceLeDiff, reduceIte, Nat.reduceEqDiff, Nat.reduceAdd, ↓reduceIte, Try.vcT, gets]
    exact ⟨_, Chg.refl _ _, 0, by omega, rfl, rfl, by omega, by omega, by omega⟩
  · intro ks hk q vs w1 hi
    obtain ⟨cc, i, hi, rfl, rfl, h1, h2, h3⟩ := hi
    simp -dsimp only [gets, argE, List.zip_cons_cons, List.zip_nil_left, List.cons_append, List.nil_append, Env.get, Env.push, Option.bind_some, Option.map_some, Option.some.injEq, reduceIte, Nat.reduceEqDiff, Nat.reduceAdd, ↓reduceIte] at hk; subst hk
    have hb := chg_blk cc h
    have hcs : i = 0 ∨ i = 1 ∨ i = 2 ∨ i = 3 := by omega
    rcases hcs with rfl | rfl | rfl | rfl
    · have F1 : Fr w.heap.size w w1 := ⟨Nat.le_refl _, cc.mono fun _ f => f.elim⟩
      simp -dsimp only [↓vcA, vcB, vcD, ↓pureT_lenS, ↓iteT, ↓iteF, cond_true, cond_false, eq_self, argE, Env.get, Env.push, ev, evs, evo, retV, Value.cells, Value.oneCell', setR, overR, fillL, zl, places, allSizes, heldC, ne_eq, Int.reduceLE, Int.reduceLT, Int.reduceEq, Int.reduceNe, Int.reduceToNat, Int.cast_ofNat_Int, Nat.reduceMul, Nat.reduceLeDiff, reduceIte, Nat.reduceEqDiff, Nat.reduceAdd, ↓reduceIte, Try.vcT, gets, cell_of_blkOf hb, cellsAt, Int.natCast_zero, Int.toNat_zero, Nat.zero_mul]
      intro w2 b2 n2
      simp -dsimp only [↓vcA, vcB, vcD, ↓pureT_lenS, ↓iteT, ↓iteF, cond_true, cond_false, eq_self, argE, Env.get, Env.push, ev, evs, evo, retV, Value.cells, Value.oneCell', setR, overR, fillL, zl, places, allSizes, heldC, ne_eq, Int.reduceLE, Int.reduceLT, Int.reduceEq, Int.reduceNe, Int.reduceToNat, Int.cast_ofNat_Int, Nat.reduceMul, Nat.reduceLeDiff, reduceIte, Nat.reduceEqDiff, Nat.reduceAdd, ↓reduceIte, Try.vcT, n2.blkOf]
      intro w3 p3
      have F3 := (F1.new n2).one p3.chg (F1.newUp n2)
      try simp -dsimp only [↓vcA, vcB, vcD, ↓pureT_lenS, ↓iteT, ↓iteF, cond_true, cond_false, eq_self, argE, Env.get, Env.push, ev, evs, evo, retV, Value.cells, Value.oneCell', setR, overR, fillL, zl, places, allSizes, heldC, ne_eq, Int.reduceLE, Int.reduceLT, Int.reduceEq, Int.reduceNe, Int.reduceToNat, Int.cast_ofNat_Int, Nat.reduceMul, Nat.reduceLeDiff, reduceIte, Nat.reduceEqDiff, Nat.reduceAdd, ↓reduceIte, Try.vcT, gets, p3.cell, cellsAt]
      refine callsK_new (valid150 ax ay w3) ?_
      intro w4 c4
      have F4 := F3.nil c4
      cases hv : vpt ax ay with
      | false =>
        simp -dsimp only [↓vcA, vcB, vcD, ↓pureT_lenS, ↓iteT, ↓iteF, cond_true, cond_false, eq_self, argE, Env.get, Env.push, ev, evs, evo, retV, Value.cells, Value.oneCell', setR, overR, fillL, zl, places, allSizes, heldC, ne_eq, Int.reduceLE, Int.reduceLT, Int.reduceEq, Int.reduceNe, Int.reduceToNat, Int.cast_ofNat_Int, Nat.reduceMul, Nat.reduceLeDiff, reduceIte, Nat.reduceEqDiff, Nat.reduceAdd, ↓reduceIte, Try.vcT, gets]
        exact ⟨by simp [hv], F4.done⟩
      | true =>
        simp -dsimp only [↓vcA, vcB, vcD, ↓pureT_lenS, ↓iteT, ↓iteF, cond_true, cond_false, eq_self, argE, Env.get, Env.push, ev, evs, evo, retV, Value.cells, Value.oneCell', setR, overR, fillL, zl, places, allSizes, heldC, ne_eq, Int.reduceLE, Int.reduceLT, Int.reduceEq, Int.reduceNe, Int.reduceToNat, Int.cast_ofNat_Int, Nat.reduceMul, Nat.reduceLeDiff, reduceIte, Nat.reduceEqDiff, Nat.reduceAdd, ↓reduceIte, Try.vcT, gets]
        exact ⟨_, by decide, F4.done, 1, by omega, rfl, rfl, fun _ => trivial, by omega, by omega⟩
    · have F1 : Fr w.heap.size w w1 := ⟨Nat.le_refl _, cc.mono fun _ f => f.elim⟩
      have e1 := h1 (by omega)
      simp -dsimp only [↓vcA, vcB, vcD, ↓pureT_lenS, ↓iteT, ↓iteF, cond_true, cond_false, eq_self, argE, Env.get, Env.push, ev, evs, evo, retV, Value.cells, Value.oneCell', setR, overR, fillL, zl, places, allSizes, heldC, ne_eq, Int.reduceLE, Int.reduceLT, Int.reduceEq, Int.reduceNe, Int.reduceToNat, Int.cast_ofNat_Int, Nat.reduceMul, Nat.reduceLeDiff, reduceIte, Nat.reduceEqDiff, Nat.reduceAdd, ↓reduceIte, Try.vcT, gets, cell_of_blkOf hb, cellsAt, Int.natCast_one, Int.toNat_one, Nat.one_mul]
      intro w2 b2 n2
      simp -dsimp only [↓vcA, vcB, vcD, ↓pureT_lenS, ↓iteT, ↓iteF, cond_true, cond_false, eq_self, argE, Env.get, Env.push, ev, evs, evo, retV, Value.cells, Value.oneCell', setR, overR, fillL, zl, places, allSizes, heldC, ne_eq, Int.reduceLE, Int.reduceLT, Int.reduceEq, Int.reduceNe, Int.reduceToNat, Int.cast_ofNat_Int, Nat.reduceMul, Nat.reduceLeDiff, reduceIte, Nat.reduceEqDiff, Nat.reduceAdd, ↓reduceIte, Try.vcT, n2.blkOf]
      intro w3 p3
      have F3 := (F1.new n2).one p3.chg (F1.newUp n2)
      try simp -dsimp only [↓vcA, vcB, vcD, ↓pureT_lenS, ↓iteT, ↓iteF, cond_true, cond_false, eq_self, argE, Env.get, Env.push, ev, evs, evo, retV, Value.cells, Value.oneCell', setR, overR, fillL, zl, places, allSizes, heldC, ne_eq, Int.reduceLE, Int.reduceLT, Int.reduceEq, Int.reduceNe, Int.reduceToNat, Int.cast_ofNat_Int, Nat.reduceMul, Nat.reduceLeDiff, reduceIte, Nat.reduceEqDiff, Nat.reduceAdd, ↓reduceIte, Try.vcT, gets, p3.cell, cellsAt]
      refine callsK_new (valid150 bx by' w3) ?_
      intro w4 c4
      have F4 := F3.nil c4
      cases hv : vpt bx by' with
      | false =>
        simp -dsimp only [↓vcA, vcB, vcD, ↓pureT_lenS, ↓iteT, ↓iteF, cond_true, cond_false, eq_self, argE, Env.get, Env.push, ev, evs, evo, retV, Value.cells, Value.oneCell', setR, overR, fillL, zl, places, allSizes, heldC, ne_eq, Int.reduceLE, Int.reduceLT, Int.reduceEq, Int.reduceNe, Int.reduceToNat, Int.cast_ofNat_Int, Nat.reduceMul, Nat.reduceLeDiff, reduceIte, Nat.reduceEqDiff, Nat.reduceAdd, ↓reduceIte, Try.vcT, gets]
        exact ⟨by simp [hv, e1], F4.done⟩
      | true =>
        simp -dsimp only [↓vcA, vcB, vcD, ↓pureT_lenS, ↓iteT, ↓iteF, cond_true, cond_false, eq_self, argE, Env.get, Env.push, ev, evs, evo, retV, Value.cells, Value.oneCell', setR, overR, fillL, zl, places, allSizes, heldC, ne_eq, Int.reduceLE, Int.reduceLT, Int.reduceEq, Int.reduceNe, Int.reduceToNat, Int.cast_ofNat_Int, Nat.reduceMul, Nat.reduceLeDiff, reduceIte, Nat.reduceEqDiff, Nat.reduceAdd, ↓reduceIte, Try.vcT, gets]
        exact ⟨_, by decide, F4.done, 2, by omega, rfl, rfl, fun _ => e1, fun _ => trivial, by omega⟩
    · have F1 : Fr w.heap.size w w1 := ⟨Nat.le_refl _, cc.mono fun _ f => f.elim⟩
      have e1 := h1 (by omega)
      have e2 := h2 (by omega)
      simp -dsimp only [↓vcA, vcB, vcD, ↓pureT_lenS, ↓iteT, ↓iteF, cond_true, cond_false, eq_self, argE, Env.get, Env.push, ev, evs, evo, retV, Value.cells, Value.oneCell', setR, overR, fillL, zl, places, allSizes, heldC, ne_eq, Int.reduceLE, Int.reduceLT, Int.reduceEq, Int.reduceNe, Int.reduceToNat, Int.cast_ofNat_Int, Nat.reduceMul, Nat.reduceLeDiff, reduceIte, Nat.reduceEqDiff, Nat.reduceAdd, ↓reduceIte, Try.vcT, gets, cell_of_blkOf hb, cellsAt]
      intro w2 b2 n2
      simp -dsimp only [↓vcA, vcB, vcD, ↓pureT_lenS, ↓iteT, ↓iteF, cond_true, cond_false, eq_self, argE, Env.get, Env.push, ev, evs, evo, retV, Value.cells, Value.oneCell', setR, overR, fillL, zl, places, allSizes, heldC, ne_eq, Int.reduceLE, Int.reduceLT, Int.reduceEq, Int.reduceNe, Int.reduceToNat, Int.cast_ofNat_Int, Nat.reduceMul, Nat.reduceLeDiff, reduceIte, Nat.reduceEqDiff, Nat.reduceAdd, ↓reduceIte, Try.vcT, n2.blkOf]
      intro w3 p3
      have F3 := (F1.new n2).one p3.chg (F1.newUp n2)
      try simp -dsimp only [↓vcA, vcB, vcD, ↓pureT_lenS, ↓iteT, ↓iteF, cond_true, cond_false, eq_self, argE, Env.get, Env.push, ev, evs, evo, retV, Value.cells, Value.oneCell', setR, overR, fillL, zl, places, allSizes, heldC, ne_eq, Int.reduceLE, Int.reduceLT, Int.reduceEq, Int.reduceNe, Int.reduceToNat, Int.cast_ofNat_Int, Nat.reduceMul, Nat.reduceLeDiff, reduceIte, Nat.reduceEqDiff, Nat.reduceAdd, ↓reduceIte, Try.vcT, gets, p3.cell, cellsAt]
      refine callsK_new (valid150 cx cy w3) ?_
      intro w4 c4
      have F4 := F3.nil c4
      cases hv : vpt cx cy with
      | false =>
        simp -dsimp only [↓vcA, vcB, vcD, ↓pureT_lenS, ↓iteT, ↓iteF, cond_true, cond_false, eq_self, argE, Env.get, Env.push, ev, evs, evo, retV, Value.cells, Value.oneCell', setR, overR, fillL, zl, places, allSizes, heldC, ne_eq, Int.reduceLE, Int.reduceLT, Int.reduceEq, Int.reduceNe, Int.reduceToNat, Int.cast_ofNat_Int, Nat.reduceMul, Nat.reduceLeDiff, reduceIte, Nat.reduceEqDiff, Nat.reduceAdd, ↓reduceIte, Try.vcT, gets]
        exact ⟨by simp [hv, e1, e2], F4.done⟩
      | true =>
        simp -dsimp only [↓vcA, vcB, vcD, ↓pureT_lenS, ↓iteT, ↓iteF, cond_true, cond_false, eq_self, argE, Env.get, Env.push, ev, evs, evo, retV, Value.cells, Value.oneCell', setR, overR, fillL, zl, places, allSizes, heldC, ne_eq, Int.reduceLE, Int.reduceLT, Int.reduceEq, Int.reduceNe, Int.reduceToNat, Int.cast_ofNat_Int, Nat.reduceMul, Nat.reduceLeDiff, reduceIte, Nat.reduceEqDiff, Nat.reduceAdd, ↓reduceIte, Try.vcT, gets]
        exact ⟨_, by decide, F4.done, 3, by omega, rfl, rfl, fun _ => e1, fun _ => e2, fun _ => trivial⟩
    · have e1 := h1 (by omega)
      have e2 := h2 (by omega)
      have e3 := h3 (by omega)
      simp -dsimp only [↓vcA, vcB, vcD, ↓pureT_lenS, ↓iteT, ↓iteF, cond_true, cond_false, eq_self, argE, Env.get, Env.push, ev, evs, evo, retV, Value.cells, Value.oneCell', setR, overR, fillL, zl, places, allSizes, heldC, ne_eq, Int.reduceLE, Int.reduceLT, Int.reduceEq, Int.reduceNe, Int.reduceToNat, Int.cast_ofNat_Int, Nat.reduceMul, Nat.reduceLeDiff, reduceIte, Nat.reduceEqDiff, Nat.reduceAdd, ↓reduceIte, Try.vcT, gets]
      exact ⟨by simp [e1, e2, e3], cc⟩
end Go.Proofs.Ytnhgjgoglmadnaa
namespace Go.Proofs.Ytnhgjgoglmadnaa
open Go.RowKit
set_option maxRecDepth 100000
set_option linter.unusedSimpArgs false
set_option linter.unusedVariables false
set_option pp.maxSteps 1500
set_option pp.deepTerms.threshold 8

def orientI (ax ay bx by' cx cy : Int) : Int := if vpt ax ay && vpt bx by' && vpt cx cy then cmpI ((bx - ax) * (cy - ay)) ((by' - ay) * (cx - ax)) else 0
theorem vpt_iff (x y : Int) : vpt x y = true ↔ 0 ≤ x ∧ x < 16777216 ∧ 0 ≤ y ∧ y < 16777216 := by simp [vpt]
theorem mul_bound {a b : Int} (ha : -16777216 < a ∧ a < 16777216) (hb : -16777216 < b ∧ b < 16777216) : -281474976710656 ≤ a * b ∧ a * b ≤ 281474976710656 := by
  have h : (a * b).natAbs ≤ 16777216 * 16777216 := by
    rw [Int.natAbs_mul]; exact Nat.mul_le_mul (by omega) (by omega)
  omega

theorem orient142 (ax ay bx by' cx cy : Int) (w : World) : Calls Try.prog 142 [.agg #[.int .i64 ax, .int .i64 ay], .agg #[.int .i64 bx, .int .i64 by'], .agg #[.int .i64 cx, .int .i64 cy]].toArray w (RetP (.int .i64 (orientI ax ay bx by' cx cy)) w) := by
  refine walk Try.func142 rfl (by kernel_rfl) (by rw [Try.nt142]; simp) ?_
  simp -dsimp only [↓vcA, vcB, vcD, ↓pureT_lenS, ↓iteT, ↓iteF, cond_true, cond_false, eq_self, argE, Env.get, Env.push, ev, evs, evo, retV, Value.cells, Value.oneCell', setR, overR, fillL, zl, places, allSizes, heldC, ne_eq, Int.reduceLE, Int.reduceLT, Int.reduceEq, Int.reduceNe, Int.reduceToNat, Int.cast_ofNat_Int, Nat.reduceMul, Nat.reduceLeDiff, reduceIte, Nat.reduceEqDiff, Nat.reduceAdd, ↓reduceIte, Try.vcT]
  intro w1 b1 n1 w2 b2 n2 w3 b3 n3
  have h1 := chg_blk n3.chg (chg_blk n2.chg n1.blkOf)
  have h2 := chg_blk n3.chg n2.blkOf
  have c13 := (n1.chg.seq n2.chg).seq n3.chg
  simp -dsimp only [↓vcA, vcB, vcD, ↓pureT_lenS, ↓iteT, ↓iteF, cond_true, cond_false, eq_self, argE, Env.get, Env.push, ev, evs, evo, retV, Value.cells, Value.oneCell', setR, overR, fillL, zl, places, allSizes, heldC, ne_eq, Int.reduceLE, Int.reduceLT, Int.reduceEq, Int.reduceNe, Int.reduceToNat, Int.cast_ofNat_Int, Nat.reduceMul, Nat.reduceLeDiff, reduceIte, Nat.reduceEqDiff, Nat.reduceAdd, ↓reduceIte, Try.vcT, cell_of_blkOf h1, cell_of_blkOf h2, n3.cell, cellsAt]
  intro w4 b4 n4
  refine callsK_new (all147 ax ay bx by' cx cy b4 w4 n4.blkOf) ?_
  intro w5 c5
  have g1 := chg_blk c5 (chg_blk n4.chg h1)
  have g2 := chg_blk c5 (chg_blk n4.chg h2)
  have g3 := chg_blk c5 (chg_blk n4.chg n3.blkOf)
  have c15 := (c13.seq n4.chg).seq c5
  cases hv : (vpt ax ay && vpt bx by' && vpt cx cy) with
  | false =>
    have e : orientI ax ay bx by' cx cy = 0 := by simp [orientI, hv]
    simp -dsimp only [↓vcA, vcB, vcD, ↓pureT_lenS, ↓iteT, ↓iteF, cond_true, cond_false, eq_self, argE, Env.get, Env.push, ev, evs, evo, retV, Value.cells, Value.oneCell', setR, overR, fillL, zl, places, allSizes, heldC, ne_eq, Int.reduceLE, Int.reduceLT, Int.reduceEq, Int.reduceNe, Int.reduceToNat, Int.cast_ofNat_Int, Nat.reduceMul, Nat.reduceLeDiff, reduceIte, Nat.reduceEqDiff, Nat.reduceAdd, ↓reduceIte, Try.vcT, e]
    exact c15
  | true =>
    have e : orientI ax ay bx by' cx cy = cmpI ((bx - ax) * (cy - ay)) ((by' - ay) * (cx - ax)) := by simp only [orientI, hv, if_true]
    simp only [Bool.and_eq_true, vpt_iff] at hv
    obtain ⟨⟨⟨a1, a2, a3, a4⟩, b1', b2', b3', b4'⟩, d1, d2, d3, d4⟩ := hv
    have m1 := mul_bound (a := bx - ax) (b := cy - ay) (by omega) (by omega)
    have m2 := mul_bound (a := by' - ay) (b := cx - ax) (by omega) (by omega)
    have e1 : IntKind.i64.wrap (bx - ax) = bx - ax := i64w _ (by omega) (by omega)
    have e2 : IntKind.i64.wrap (cy - ay) = cy - ay := i64w _ (by omega) (by omega)
    have e3 : IntKind.i64.wrap (by' - ay) = by' - ay := i64w _ (by omega) (by omega)
    have e4 : IntKind.i64.wrap (cx - ax) = cx - ax := i64w _ (by omega) (by omega)
    have e5 : IntKind.i64.wrap ((bx - ax) * (cy - ay)) = (bx - ax) * (cy - ay) := i64w _ (by omega) (by omega)
    have e6 : IntKind.i64.wrap ((by' - ay) * (cx - ax)) = (by' - ay) * (cx - ax) := i64w _ (by omega) (by omega)
    simp -dsimp only [↓vcA, vcB, vcD, ↓pureT_lenS, ↓iteT, ↓iteF, cond_true, cond_false, eq_self, argE, Env.get, Env.push, ev, evs, evo, retV, Value.cells, Value.oneCell', setR, overR, fillL, zl, places, allSizes, heldC, ne_eq, Int.reduceLE, Int.reduceLT, Int.reduceEq, Int.reduceNe, Int.reduceToNat, Int.cast_ofNat_Int, Nat.reduceMul, Nat.reduceLeDiff, reduceIte, Nat.reduceEqDiff, Nat.reduceAdd, ↓reduceIte, Try.vcT, cell_of_blkOf g1, cell_of_blkOf g2, cell_of_blkOf g3, cellsAt, e1, e2, e3, e4, e5, e6]
    refine callsK_pure (compare _ _ w5) ?_
    simp -dsimp only [↓vcA, vcB, vcD, ↓pureT_lenS, ↓iteT, ↓iteF, cond_true, cond_false, eq_self, argE, Env.get, Env.push, ev, evs, evo, retV, Value.cells, Value.oneCell', setR, overR, fillL, zl, places, allSizes, heldC, ne_eq, Int.reduceLE, Int.reduceLT, Int.reduceEq, Int.reduceNe, Int.reduceToNat, Int.cast_ofNat_Int, Nat.reduceMul, Nat.reduceLeDiff, reduceIte, Nat.reduceEqDiff, Nat.reduceAdd, ↓reduceIte, Try.vcT, e]
    exact c15

end Go.Proofs.Ytnhgjgoglmadnaa
namespace Go.Proofs.Ytnhgjgoglmadnaa
open Go.RowKit
set_option maxRecDepth 100000
set_option linter.unusedSimpArgs false
set_option linter.unusedVariables false
set_option pp.maxSteps 1500
set_option pp.deepTerms.threshold 8

theorem Rd.old {w w1 : World} {v : Value} {xs : List Int} (h : Rd w v xs) (f : Fr w.heap.size w w1) : Rd w1 v xs := by
  obtain ⟨a, c, rfl, h1, h2, h3, h4⟩ := h
  refine ⟨a, c, rfl, h1, h2, h3, fun hp => ?_⟩
  obtain ⟨b, o, rfl, hc⟩ := h4 hp
  refine ⟨b, o, rfl, fun j hj => f.done.cell (hc j hj) id⟩

def WrU (t p : Nat) (w : World) (v : Value) (s' : W8) (r : Value) (w' : World) : Prop := r = .tuple #[] ∧ ∃ v', WrS t w' p v' s' ∧ WrStep p w v w' v'

theorem Wr.mark' {t p : Nat} {w w1 : World} {v : Value} {xs : List Int} {bad : Bool} (h : Wr t w p v xs bad) (ht : t ≠ 5) (hp : Put w w1 p [v, .bool true] t) : Wr t w1 p v xs true ∧ WrStep p w v w1 v :=
  ⟨⟨hp.blk, h.own.chg hp.chg fun k hk e => h.own.ne h.blk ht (e ▸ hk)⟩, hp.chg.mono fun k hk => .inl hk, fun k hk => .inl hk⟩

set_option maxHeartbeats 1000000 in
theorem refNum (p : Nat) (v : Value) (s : W8) (n size : Int) (w : World) (hw : WrS 35 w p v s) (hlen : s.l.length ≤ 1000000) (hn : -9223372036854775808 ≤ n) (hn1 : n ≤ 9223372036854775807) :
    Calls Try.prog 24 [.pointer (some ⟨p, 0, none⟩), .int .i64 n, .int .i64 size].toArray w (RetK (WrU 35 p w v (s.num n size))) := by
  refine walk Try.func24 rfl (by kernel_rfl) (by rw [Try.nt24]; simp) ?_
  by_cases hg : fits n size = true
  case neg =>
    have hbad : s.num n size = ⟨s.l, true⟩ := by simp [W8.num, hg]
    rw [hbad]
    have hcs : size < 1 ∨ (¬ size < 1 ∧ 8 < size) ∨ (¬ size < 1 ∧ ¬ 8 < size ∧ n < 0) ∨ (¬ size < 1 ∧ ¬ 8 < size ∧ ¬ n < 0 ∧ size < 8 ∧ ¬ n / 2 ^ (8 * size).toNat = 0) := by
      simp only [fits, decide_eq_true_eq] at hg
      omega
    rcases hcs with a1 | ⟨a1, a2⟩ | ⟨a1, a2, a3⟩ | ⟨a1, a2, a3, a4, a5⟩
    case' inl => simp -dsimp only [↓vcA, vcB, vcD, ↓pureT_lenS, ↓iteT, ↓iteF, cond_true, cond_false, eq_self, argE, Env.get, Env.push, ev, evs, evo, retV, Value.cells, Value.oneCell', setR, overR, fillL, zl, places, allSizes, heldC, ne_eq, Int.reduceLE, Int.reduceLT, Int.reduceEq, Int.reduceNe, Int.reduceToNat, Int.cast_ofNat_Int, Nat.reduceMul, Nat.reduceLeDiff, reduceIte, Nat.reduceEqDiff, Nat.reduceAdd, ↓reduceIte, Try.vcT, decide_eq_true a1, hw.bk]
    case' inr.inl => simp -dsimp only [↓vcA, vcB, vcD, ↓pureT_lenS, ↓iteT, ↓iteF, cond_true, cond_false, eq_self, argE, Env.get, Env.push, ev, evs, evo, retV, Value.cells, Value.oneCell', setR, overR, fillL, zl, places, allSizes, heldC, ne_eq, Int.reduceLE, Int.reduceLT, Int.reduceEq, Int.reduceNe, Int.reduceToNat, Int.cast_ofNat_Int, Nat.reduceMul, Nat.reduceLeDiff, reduceIte, Nat.reduceEqDiff, Nat.reduceAdd, ↓reduceIte, Try.vcT, decide_eq_false a1, decide_eq_true a2, hw.bk]
    case' inr.inr.inl => simp -dsimp only [↓vcA, vcB, vcD, ↓pureT_lenS, ↓iteT, ↓iteF, cond_true, cond_false, eq_self, argE, Env.get, Env.push, ev, evs, evo, retV, Value.cells, Value.oneCell', setR, overR, fillL, zl, places, allSizes, heldC, ne_eq, Int.reduceLE, Int.reduceLT, Int.reduceEq, Int.reduceNe, Int.reduceToNat, Int.cast_ofNat_Int, Nat.reduceMul, Nat.reduceLeDiff, reduceIte, Nat.reduceEqDiff, Nat.reduceAdd, ↓reduceIte, Try.vcT, decide_eq_false a1, decide_eq_false a2, decide_eq_true a3, hw.bk]
    case' inr.inr.inr =>
      have e1 : IntKind.i64.wrap (8 * size) = 8 * size := i64w _ (by omega) (by omega)
      have e2 : min (8 * size).toNat IntKind.i64.bits = (8 * size).toNat := by simp [IntKind.bits]; omega
      have e3 : IntKind.u64.wrap (8 * size) = 8 * size := by rw [u64wrap, Int.emod_eq_of_lt (by omega) (by omega)]
      simp -dsimp only [↓vcA, vcB, vcD, ↓pureT_lenS, ↓iteT, ↓iteF, cond_true, cond_false, eq_self, argE, Env.get, Env.push, ev, evs, evo, retV, Value.cells, Value.oneCell', setR, overR, fillL, zl, places, allSizes, heldC, ne_eq, Int.reduceLE, Int.reduceLT, Int.reduceEq, Int.reduceNe, Int.reduceToNat, Int.cast_ofNat_Int, Nat.reduceMul, Nat.reduceLeDiff, reduceIte, Nat.reduceEqDiff, Nat.reduceAdd, ↓reduceIte, Try.vcT, decide_eq_false a1, decide_eq_false a2, decide_eq_false a3, decide_eq_true a4, e1, e2, e3, decide_eq_false a5, hw.bk]
      refine ⟨by omega, ?_⟩
    all_goals
      intro w1 p1
      obtain ⟨q1, q2⟩ := hw.mark' (by decide) p1
      exact ⟨rfl, v, q1, q2⟩
  case pos =>
    have hg' : 1 ≤ size ∧ size ≤ 8 ∧ 0 ≤ n ∧ (size < 8 → n / 2 ^ (8 * size).toNat = 0) := of_decide_eq_true hg
    obtain ⟨k, rfl⟩ := Int.eq_ofNat_of_zero_le (show 0 ≤ size by omega)
    obtain ⟨a1, a2, a3, a4⟩ := hg'
    have a1' : ¬ (k : Int) < 1 := by omega
    have a2' : ¬ (8 : Int) < k := by omega
    have a3' : ¬ n < 0 := by omega
    have hgood : s.num n k = ⟨s.l ++ be n k, s.bad⟩ := by simp [W8.num, hg]
    rw [hgood]
    have e5 : IntKind.i64.wrap ((k : Int) - 1) = (k : Int) - 1 := i64w _ (by omega) (by omega)
    by_cases h8 : (k : Int) < 8
    case' neg => simp -dsimp only [↓vcA, vcB, vcD, ↓pureT_lenS, ↓iteT, ↓iteF, cond_true, cond_false, eq_self, argE, Env.get, Env.push, ev, evs, evo, retV, Value.cells, Value.oneCell', setR, overR, fillL, zl, places, allSizes, heldC, ne_eq, Int.reduceLE, Int.reduceLT, Int.reduceEq, Int.reduceNe, Int.reduceToNat, Int.cast_ofNat_Int, Nat.reduceMul, Nat.reduceLeDiff, reduceIte, Nat.reduceEqDiff, Nat.reduceAdd, ↓reduceIte, Try.vcT, decide_eq_false a1', decide_eq_false a2', decide_eq_false a3', decide_eq_false h8, e5]
    case' pos =>
      have e1 : IntKind.i64.wrap (8 * (k : Int)) = 8 * k := i64w _ (by omega) (by omega)
      have e2 : min (8 * (k : Int)).toNat IntKind.i64.bits = (8 * (k : Int)).toNat := by simp [IntKind.bits]; omega
      have e3 : IntKind.u64.wrap (8 * (k : Int)) = 8 * k := by rw [u64wrap, Int.emod_eq_of_lt (by omega) (by omega)]
      simp -dsimp only [↓vcA, vcB, vcD, ↓pureT_lenS, ↓iteT, ↓iteF, cond_true, cond_false, eq_self, argE, Env.get, Env.push, ev, evs, evo, retV, Value.cells, Value.oneCell', setR, overR, fillL, zl, places, allSizes, heldC, ne_eq, Int.reduceLE, Int.reduceLT, Int.reduceEq, Int.reduceNe, Int.reduceToNat, Int.cast_ofNat_Int, Nat.reduceMul, Nat.reduceLeDiff, reduceIte, Nat.reduceEqDiff, Nat.reduceAdd, ↓reduceIte, Try.vcT, decide_eq_false a1', decide_eq_false a2', decide_eq_false a3', decide_eq_true h8, e1, e2, e3, decide_eq_true (a4 h8), e5]
      refine ⟨by omega, ?_⟩
    all_goals
      refine walkLoop [0, 1] [6] (fun q vs w' => ∃ i : Nat, i ≤ k ∧ q = k - i ∧ vs = [.int .i64 ((k : Int) - 1 - i)] ∧ ∃ v', WrS 35 w' p v' ⟨s.l ++ (be n k).take i, s.bad⟩ ∧ WrStep p w v w' v') (by kernel_rfl) ?_ ?_
      · simp -dsimp only [↓vcA, vcB, vcD, ↓pureT_lenS, ↓iteT, ↓iteF, cond_true, cond_false, eq_self, argE, Env.get, Env.push, ev, evs, evo, retV, Value.cells, Value.oneCell', setR, overR, fillL, zl, places, allSizes, heldC, ne_eq, Int.reduceLE, Int.reduceLT, Int.reduceEq, Int.reduceNe, Int.reduceToNat, Int.cast_ofNat_Int, Nat.reduceMul, Nat.reduceLeDiff, reduceIte, Nat.reduceEqDiff, Nat.reduceAdd, ↓reduceIte, Try.vcT, gets]
        exact ⟨_, 0, Nat.zero_le _, rfl, by simp, v, by simpa using hw, WrStep.refl _ _ _⟩
      · intro ks hk q vs w1 hi
        obtain ⟨i, hi, rfl, rfl, v1, h1, k1⟩ := hi
        simp -dsimp only [gets, argE, List.zip_cons_cons, List.zip_nil_left, List.cons_append, List.nil_append, Env.get, Env.push, Option.bind_some, Option.map_some, Option.some.injEq, reduceIte, Nat.reduceEqDiff, Nat.reduceAdd, ↓reduceIte] at hk; subst hk
        by_cases hlt : (0 : Int) ≤ (k : Int) - 1 - i
        · have e1 : IntKind.i64.wrap (8 * ((k : Int) - 1 - i)) = 8 * ((k : Int) - 1 - i) := i64w _ (by omega) (by omega)
          have e2 : min (8 * ((k : Int) - 1 - i)).toNat IntKind.i64.bits = 8 * (k - 1 - i) := by simp [IntKind.bits]; omega
          have e3 : IntKind.u64.wrap (8 * ((k : Int) - 1 - i)) = 8 * ((k : Int) - 1 - i) := by rw [u64wrap, Int.emod_eq_of_lt (by omega) (by omega)]
          have e4 : IntKind.i64.wrap ((k : Int) - 1 - i - 1) = (k : Int) - 1 - (i + 1 : Nat) := by rw [i64w _ (by omega) (by omega)]; omega
          simp -dsimp only [↓vcA, vcB, vcD, ↓pureT_lenS, ↓iteT, ↓iteF, cond_true, cond_false, eq_self, argE, Env.get, Env.push, ev, evs, evo, retV, Value.cells, Value.oneCell', setR, overR, fillL, zl, places, allSizes, heldC, ne_eq, Int.reduceLE, Int.reduceLT, Int.reduceEq, Int.reduceNe, Int.reduceToNat, Int.cast_ofNat_Int, Nat.reduceMul, Nat.reduceLeDiff, reduceIte, Nat.reduceEqDiff, Nat.reduceAdd, ↓reduceIte, Try.vcT, gets, decide_eq_true hlt, e1, e2, e3, e4, h1.c0]
          refine ⟨by omega, ?_⟩
          intro w2 b2 n2
          have h2 : WrS 35 w2 p v1 ⟨s.l ++ (be n k).take i, s.bad⟩ := h1.chg n2.chg id (fun _ _ => id)
          have hr : Rd w2 (.slice (some ⟨b2, 0, none⟩) 1 1) [IntKind.u8.wrap (n / 2 ^ (8 * (k - 1 - i)))] := Own.rd (n2.owns (by simp [u8s]) (by simp [maxLen]))
          refine app h2.own hr (by simp [be_length]; omega) ?_
          intro a c w3 o3 g3 t3
          have hb3 : blkOf w3 p = some ([v1, .bool s.bad], 35) := (Chg.ofGrown g3).blkOf h2.bk (h2.own.ne h2.blk (by decide))
          simp -dsimp only [↓vcA, vcB, vcD, ↓pureT_lenS, ↓iteT, ↓iteF, cond_true, cond_false, eq_self, argE, Env.get, Env.push, ev, evs, evo, retV, Value.cells, Value.oneCell', setR, overR, fillL, zl, places, allSizes, heldC, ne_eq, Int.reduceLE, Int.reduceLT, Int.reduceEq, Int.reduceNe, Int.reduceToNat, Int.cast_ofNat_Int, Nat.reduceMul, Nat.reduceLeDiff, reduceIte, Nat.reduceEqDiff, Nat.reduceAdd, ↓reduceIte, Try.vcT, gets, hb3, e4]
          intro w4 p4
          obtain ⟨q1, q2⟩ := h2.put (by decide) o3 g3 t3 p4
          refine ⟨_, ?_, i + 1, by omega, rfl, rfl, _, ?_, (k1.trans (WrStep.pre n2.chg q2))⟩
          · omega
          · have : (be n k).take (i + 1) = (be n k).take i ++ [IntKind.u8.wrap (n / 2 ^ (8 * (k - 1 - i)))] := by rw [be_take n k i (by omega), u8wrap]
            rw [this, ← List.append_assoc]
            exact q1
        · simp -dsimp only [↓vcA, vcB, vcD, ↓pureT_lenS, ↓iteT, ↓iteF, cond_true, cond_false, eq_self, argE, Env.get, Env.push, ev, evs, evo, retV, Value.cells, Value.oneCell', setR, overR, fillL, zl, places, allSizes, heldC, ne_eq, Int.reduceLE, Int.reduceLT, Int.reduceEq, Int.reduceNe, Int.reduceToNat, Int.cast_ofNat_Int, Nat.reduceMul, Nat.reduceLeDiff, reduceIte, Nat.reduceEqDiff, Nat.reduceAdd, ↓reduceIte, Try.vcT, gets, decide_eq_false hlt]
          have hik : i = k := by omega
          subst hik
          rw [List.take_of_length_le (by rw [be_length]; exact Nat.le_refl _)] at h1
          exact ⟨rfl, v1, h1, k1⟩
end Go.Proofs.Ytnhgjgoglmadnaa
namespace Go.Proofs.Ytnhgjgoglmadnaa
open Go.RowKit
set_option maxRecDepth 100000
set_option linter.unusedSimpArgs false
set_option linter.unusedVariables false
set_option pp.maxSteps 1500
set_option pp.deepTerms.threshold 8

theorem cmp2_pos (x y x' y' : Int) : 0 < cmp2 x y x' y' ↔ (x' < x ∨ x = x' ∧ y' < y) := by
  unfold cmp2 cmpI
  split <;> split <;> (try split) <;> (try split) <;> omega
def later (ax ay bx by' cx cy : Int) : Prop := (bx < ax ∨ ax = bx ∧ by' < ay) ∨ (cx < ax ∨ ax = cx ∧ cy < ay)
instance (ax ay bx by' cx cy : Int) : Decidable (later ax ay bx by' cx cy) := by unfold later; infer_instance
theorem later3 {ax ay bx by' cx cy : Int} (h1 : later ax ay bx by' cx cy) (h2 : later bx by' cx cy ax ay) (h3 : later cx cy ax ay bx by') : False := by
  unfold later at *
  omega
structure T3 where
  ax : Int
  ay : Int
  bx : Int
  by' : Int
  cx : Int
  cy : Int
def T3.turn (t : T3) : T3 := ⟨t.bx, t.by', t.cx, t.cy, t.ax, t.ay⟩
def T3.swap (t : T3) : T3 := ⟨t.ax, t.ay, t.cx, t.cy, t.bx, t.by'⟩
def T3.late (t : T3) : Prop := later t.ax t.ay t.bx t.by' t.cx t.cy
instance (t : T3) : Decidable t.late := by unfold T3.late; infer_instance
def T3.rot (t : T3) : T3 := if t.late then t.turn else t
def T3.cells (t : T3) : List Value := [.int .i64 t.ax, .int .i64 t.ay, .int .i64 t.bx, .int .i64 t.by', .int .i64 t.cx, .int .i64 t.cy]
def T3.or (t : T3) : Int := orientI t.ax t.ay t.bx t.by' t.cx t.cy
def T3.first (t : T3) : T3 := if t.or = -1 then t.swap else t
def T3.mk' (t : T3) : T3 := if t.or = 0 then ⟨0, 0, 0, 0, 0, 0⟩ else t.first.rot.rot
def T3.ok (t : T3) : Bool := !decide (t.or = 0)
theorem T3.rot_of (t : T3) (j : Nat) (u : T3) (hj : (j = 0 ∧ u = t) ∨ (j = 1 ∧ u = t.turn ∧ t.late) ∨ (j = 2 ∧ u = t.turn.turn ∧ t.late ∧ t.turn.late)) (hu : ¬ u.late) : t.rot.rot = u := by
  rcases hj with ⟨_, rfl⟩ | ⟨_, rfl, h1⟩ | ⟨_, rfl, h1, h2⟩
  · simp [T3.rot, hu]
  · simp [T3.rot, hu, h1]
  · simp [T3.rot, h1, h2]
theorem T3.last (t : T3) (h1 : t.late) (h2 : t.turn.late) : ¬ t.turn.turn.late := fun h3 => later3 h1 h2 h3

theorem make136 (t : T3) (w : World) : Calls Try.prog 136 [.agg #[.int .i64 t.ax, .int .i64 t.ay], .agg #[.int .i64 t.bx, .int .i64 t.by'], .agg #[.int .i64 t.cx, .int .i64 t.cy]].toArray w
    (RetP (.tuple #[.agg t.mk'.cells.toArray, .bool t.ok]) w) := by
  refine walk Try.func136 rfl (by kernel_rfl) (by rw [Try.nt136]; simp) ?_
  simp -dsimp only [↓vcA, vcB, vcD, ↓pureT_lenS, ↓iteT, ↓iteF, cond_true, cond_false, eq_self, argE, Env.get, Env.push, ev, evs, evo, retV, Value.cells, Value.oneCell', setR, overR, fillL, zl, places, allSizes, heldC, ne_eq, Int.reduceLE, Int.reduceLT, Int.reduceEq, Int.reduceNe, Int.reduceToNat, Int.cast_ofNat_Int, Nat.reduceMul, Nat.reduceLeDiff, reduceIte, Nat.reduceEqDiff, Nat.reduceAdd, ↓reduceIte, Try.vcT]
  intro w1 b3 n1 w2 b4 n2 w3 b5 n3 w4 b6 n4
  have h3 := chg_blk n4.chg (chg_blk n3.chg (chg_blk n2.chg n1.blkOf))
  have h4 := chg_blk n4.chg (chg_blk n3.chg n2.blkOf)
  have h5 := chg_blk n4.chg n3.blkOf
  have c14 := ((n1.chg.seq n2.chg).seq n3.chg).seq n4.chg
  have F4 : Fr w.heap.size w w4 := ⟨Nat.le_refl _, c14.mono fun _ f => f.elim⟩
  have q1 := n1.eq; have q2 := n2.eq; have q3 := n3.eq; have q4 := n4.eq
  have z1 := n1.size; have z2 := n2.size; have z3 := n3.size
  have m34 : b3 < b4 := by omega
  have m45 : b4 < b5 := by omega
  have m56 : b5 < b6 := by omega
  have m3 : w.heap.size ≤ b3 := by omega
  clear q1 q2 q3 q4 z1 z2 z3
  simp -dsimp only [↓vcA, vcB, vcD, ↓pureT_lenS, ↓iteT, ↓iteF, cond_true, cond_false, eq_self, argE, Env.get, Env.push, ev, evs, evo, retV, Value.cells, Value.oneCell', setR, overR, fillL, zl, places, allSizes, heldC, ne_eq, Int.reduceLE, Int.reduceLT, Int.reduceEq, Int.reduceNe, Int.reduceToNat, Int.cast_ofNat_Int, Nat.reduceMul, Nat.reduceLeDiff, reduceIte, Nat.reduceEqDiff, Nat.reduceAdd, ↓reduceIte, Try.vcT, cell_of_blkOf h3, cell_of_blkOf h4, cell_of_blkOf h5, cellsAt]
  refine callsK_new (orient142 _ _ _ _ _ _ w4) ?_
  intro w5 c5
  have F5 := F4.nil c5
  have k3 := chg_blk c5 h3
  have k4 := chg_blk c5 h4
  have k5 := chg_blk c5 h5
  have k6 := chg_blk c5 n4.blkOf
  have er : orientI t.ax t.ay t.bx t.by' t.cx t.cy = t.or := rfl
  rw [er]
  by_cases ho : t.or = 0
  · simp -dsimp only [↓vcA, vcB, vcD, ↓pureT_lenS, ↓iteT, ↓iteF, cond_true, cond_false, eq_self, argE, Env.get, Env.push, ev, evs, evo, retV, Value.cells, Value.oneCell', setR, overR, fillL, zl, places, allSizes, heldC, ne_eq, Int.reduceLE, Int.reduceLT, Int.reduceEq, Int.reduceNe, Int.reduceToNat, Int.cast_ofNat_Int, Nat.reduceMul, Nat.reduceLeDiff, reduceIte, Nat.reduceEqDiff, Nat.reduceAdd, ↓reduceIte, Try.vcT, decide_eq_true ho, k6]
    intro w6 p6
    simp -dsimp only [↓vcA, vcB, vcD, ↓pureT_lenS, ↓iteT, ↓iteF, cond_true, cond_false, eq_self, argE, Env.get, Env.push, ev, evs, evo, retV, Value.cells, Value.oneCell', setR, overR, fillL, zl, places, allSizes, heldC, ne_eq, Int.reduceLE, Int.reduceLT, Int.reduceEq, Int.reduceNe, Int.reduceToNat, Int.cast_ofNat_Int, Nat.reduceMul, Nat.reduceLeDiff, reduceIte, Nat.reduceEqDiff, Nat.reduceAdd, ↓reduceIte, Try.vcT, p6.cell, cellsAt]
    exact ⟨by simp [T3.mk', T3.cells, T3.ok, ho], (F5.one p6.chg (by omega)).done⟩
  have hmk : t.mk' = t.first.rot.rot := by simp [T3.mk', ho]
  have hok : t.ok = true := by simp [T3.ok, ho]
  rw [hmk, hok]
  generalize hs : t.first = s
  by_cases h1 : t.or = -1
  case' pos =>
    simp -dsimp only [↓vcA, vcB, vcD, ↓pureT_lenS, ↓iteT, ↓iteF, cond_true, cond_false, eq_self, argE, Env.get, Env.push, ev, evs, evo, retV, Value.cells, Value.oneCell', setR, overR, fillL, zl, places, allSizes, heldC, ne_eq, Int.reduceLE, Int.reduceLT, Int.reduceEq, Int.reduceNe, Int.reduceToNat, Int.cast_ofNat_Int, Nat.reduceMul, Nat.reduceLeDiff, reduceIte, Nat.reduceEqDiff, Nat.reduceAdd, ↓reduceIte, Try.vcT, decide_eq_false ho, decide_eq_true h1, cell_of_blkOf k4, cell_of_blkOf k5, cellsAt, k4, k5]
    intro w6 p6
    have f5 := p6.chg.blkOf k5 (by omega)
    simp -dsimp only [↓vcA, vcB, vcD, ↓pureT_lenS, ↓iteT, ↓iteF, cond_true, cond_false, eq_self, argE, Env.get, Env.push, ev, evs, evo, retV, Value.cells, Value.oneCell', setR, overR, fillL, zl, places, allSizes, heldC, ne_eq, Int.reduceLE, Int.reduceLT, Int.reduceEq, Int.reduceNe, Int.reduceToNat, Int.cast_ofNat_Int, Nat.reduceMul, Nat.reduceLeDiff, reduceIte, Nat.reduceEqDiff, Nat.reduceAdd, ↓reduceIte, Try.vcT, f5]
    intro w7 p7
    have hs' : s = t.swap := by rw [← hs]; simp [T3.first, h1]
    have FL : Fr w.heap.size w w7 := (F5.one p6.chg (by omega)).one p7.chg (by omega)
    have K3 : blkOf w7 b3 = some ([.int .i64 s.ax, .int .i64 s.ay], 37) := by rw [hs']; exact p7.chg.blkOf (p6.chg.blkOf k3 (by omega)) (by omega)
    have K4 : blkOf w7 b4 = some ([.int .i64 s.bx, .int .i64 s.by'], 37) := by rw [hs']; exact p7.chg.blkOf p6.blkOf (by omega)
    have K5 : blkOf w7 b5 = some ([.int .i64 s.cx, .int .i64 s.cy], 37) := by rw [hs']; exact p7.blkOf
    have K6 := p7.chg.blkOf (p6.chg.blkOf k6 (by omega)) (by omega)
  case' neg =>
    simp -dsimp only [↓vcA, vcB, vcD, ↓pureT_lenS, ↓iteT, ↓iteF, cond_true, cond_false, eq_self, argE, Env.get, Env.push, ev, evs, evo, retV, Value.cells, Value.oneCell', setR, overR, fillL, zl, places, allSizes, heldC, ne_eq, Int.reduceLE, Int.reduceLT, Int.reduceEq, Int.reduceNe, Int.reduceToNat, Int.cast_ofNat_Int, Nat.reduceMul, Nat.reduceLeDiff, reduceIte, Nat.reduceEqDiff, Nat.reduceAdd, ↓reduceIte, Try.vcT, decide_eq_false ho, decide_eq_false h1]
    have hs' : s = t := by rw [← hs]; simp [T3.first, h1]
    have FL := F5
    have K3 : blkOf w5 b3 = some ([.int .i64 s.ax, .int .i64 s.ay], 37) := by rw [hs']; exact k3
    have K4 : blkOf w5 b4 = some ([.int .i64 s.bx, .int .i64 s.by'], 37) := by rw [hs']; exact k4
    have K5 : blkOf w5 b5 = some ([.int .i64 s.cx, .int .i64 s.cy], 37) := by rw [hs']; exact k5
    have K6 := k6
  all_goals
    clear k3 k4 k5 k6 h3 h4 h5 hs'
    refine walkLoop [3, 4, 5, 6] [] (fun q vs w' => vs = [] ∧ ∃ j u, ((j = 0 ∧ u = s) ∨ (j = 1 ∧ u = s.turn ∧ s.late) ∨ (j = 2 ∧ u = s.turn.turn ∧ s.late ∧ s.turn.late)) ∧ q = 3 - j ∧ Fr w.heap.size w w' ∧
      blkOf w' b3 = some ([.int .i64 u.ax, .int .i64 u.ay], 37) ∧ blkOf w' b4 = some ([.int .i64 u.bx, .int .i64 u.by'], 37) ∧ blkOf w' b5 = some ([.int .i64 u.cx, .int .i64 u.cy], 37) ∧
      ∃ z0 z1 z2 z3 z4 z5, blkOf w' b6 = some ([z0, z1, z2, z3, z4, z5], 39)) (by kernel_rfl) ?_ ?_
    · simp -dsimp only [↓vcA, vcB, vcD, ↓pureT_lenS, ↓iteT, ↓iteF, cond_true, cond_false, eq_self, argE, Env.get, Env.push, ev, evs, evo, retV, Value.cells, Value.oneCell', setR, overR, fillL, zl, places, allSizes, heldC, ne_eq, Int.reduceLE, Int.reduceLT, Int.reduceEq, Int.reduceNe, Int.reduceToNat, Int.cast_ofNat_Int, Nat.reduceMul, Nat.reduceLeDiff, reduceIte, Nat.reduceEqDiff, Nat.reduceAdd, ↓reduceIte, Try.vcT, gets]
      exact ⟨_, 0, s, .inl ⟨rfl, rfl⟩, rfl, FL, K3, K4, K5, _, _, _, _, _, _, K6⟩
    · intro ks hk q vs wr hi
      obtain ⟨rfl, j, u, hju, rfl, Fu, U3, U4, U5, z0, z1, z2, z3, z4, z5, U6⟩ := hi
      simp -dsimp only [gets, argE, List.zip_cons_cons, List.zip_nil_left, List.cons_append, List.nil_append, Env.get, Env.push, Option.bind_some, Option.map_some, Option.some.injEq, reduceIte, Nat.reduceEqDiff, Nat.reduceAdd, ↓reduceIte] at hk; subst hk
      simp -dsimp only [↓vcA, vcB, vcD, ↓pureT_lenS, ↓iteT, ↓iteF, cond_true, cond_false, eq_self, argE, Env.get, Env.push, ev, evs, evo, retV, Value.cells, Value.oneCell', setR, overR, fillL, zl, places, allSizes, heldC, ne_eq, Int.reduceLE, Int.reduceLT, Int.reduceEq, Int.reduceNe, Int.reduceToNat, Int.cast_ofNat_Int, Nat.reduceMul, Nat.reduceLeDiff, reduceIte, Nat.reduceEqDiff, Nat.reduceAdd, ↓reduceIte, Try.vcT, gets, cell_of_blkOf U3, cell_of_blkOf U4, cellsAt]
      refine callsK_new (cmp143 u.ax u.ay u.bx u.by' wr) ?_
      intro wc cc
      have Fc := Fu.nil cc
      have V3 := chg_blk cc U3
      have V4 := chg_blk cc U4
      have V5 := chg_blk cc U5
      have V6 := chg_blk cc U6
      have key : u.late → ∃ j', 3 - j' < 3 - j ∧ ((j' = 0 ∧ u.turn = s) ∨ (j' = 1 ∧ u.turn = s.turn ∧ s.late) ∨ (j' = 2 ∧ u.turn = s.turn.turn ∧ s.late ∧ s.turn.late)) := fun hl => by
        rcases hju with ⟨rfl, rfl⟩ | ⟨rfl, rfl, g1⟩ | ⟨rfl, rfl, g1, g2⟩
        · exact ⟨1, by decide, .inr (.inl ⟨rfl, rfl, hl⟩)⟩
        · exact ⟨2, by decide, .inr (.inr ⟨rfl, rfl, g1, hl⟩)⟩
        · exact absurd hl (T3.last s g1 g2)
      by_cases e1 : 0 < cmp2 u.ax u.ay u.bx u.by'
      case' pos =>
        have hl : u.late := by unfold T3.late later; have := (cmp2_pos _ _ _ _).1 e1; omega
        simp -dsimp only [↓vcA, vcB, vcD, ↓pureT_lenS, ↓iteT, ↓iteF, cond_true, cond_false, eq_self, argE, Env.get, Env.push, ev, evs, evo, retV, Value.cells, Value.oneCell', setR, overR, fillL, zl, places, allSizes, heldC, ne_eq, Int.reduceLE, Int.reduceLT, Int.reduceEq, Int.reduceNe, Int.reduceToNat, Int.cast_ofNat_Int, Nat.reduceMul, Nat.reduceLeDiff, reduceIte, Nat.reduceEqDiff, Nat.reduceAdd, ↓reduceIte, Try.vcT, gets, decide_eq_true e1]
      case' neg =>
        simp -dsimp only [↓vcA, vcB, vcD, ↓pureT_lenS, ↓iteT, ↓iteF, cond_true, cond_false, eq_self, argE, Env.get, Env.push, ev, evs, evo, retV, Value.cells, Value.oneCell', setR, overR, fillL, zl, places, allSizes, heldC, ne_eq, Int.reduceLE, Int.reduceLT, Int.reduceEq, Int.reduceNe, Int.reduceToNat, Int.cast_ofNat_Int, Nat.reduceMul, Nat.reduceLeDiff, reduceIte, Nat.reduceEqDiff, Nat.reduceAdd, ↓reduceIte, Try.vcT, gets, decide_eq_false e1, cell_of_blkOf V3, cell_of_blkOf V5, cellsAt]
        refine callsK_new (cmp143 u.ax u.ay u.cx u.cy wc) ?_
        intro wd cd
        have W3 := chg_blk cd V3
        have W4 := chg_blk cd V4
        have W5 := chg_blk cd V5
        have W6 := chg_blk cd V6
        have Fd := Fc.nil cd
        clear V3 V4 V5 V6 Fc
        by_cases e2 : 0 < cmp2 u.ax u.ay u.cx u.cy
        case' neg =>
          have hnl : ¬ u.late := by
            unfold T3.late later
            have g1 := mt (cmp2_pos _ _ _ _).2 e1
            have g2 := mt (cmp2_pos _ _ _ _).2 e2
            omega
          have hrr := T3.rot_of s j u hju hnl
          simp -dsimp only [↓vcA, vcB, vcD, ↓pureT_lenS, ↓iteT, ↓iteF, cond_true, cond_false, eq_self, argE, Env.get, Env.push, ev, evs, evo, retV, Value.cells, Value.oneCell', setR, overR, fillL, zl, places, allSizes, heldC, ne_eq, Int.reduceLE, Int.reduceLT, Int.reduceEq, Int.reduceNe, Int.reduceToNat, Int.cast_ofNat_Int, Nat.reduceMul, Nat.reduceLeDiff, reduceIte, Nat.reduceEqDiff, Nat.reduceAdd, ↓reduceIte, Try.vcT, gets, decide_eq_false e2, cell_of_blkOf W3, cell_of_blkOf W4, cell_of_blkOf W5, cellsAt, W6]
          intro we pe
          try simp -dsimp only [↓vcA, vcB, vcD, ↓pureT_lenS, ↓iteT, ↓iteF, cond_true, cond_false, eq_self, argE, Env.get, Env.push, ev, evs, evo, retV, Value.cells, Value.oneCell', setR, overR, fillL, zl, places, allSizes, heldC, ne_eq, Int.reduceLE, Int.reduceLT, Int.reduceEq, Int.reduceNe, Int.reduceToNat, Int.cast_ofNat_Int, Nat.reduceMul, Nat.reduceLeDiff, reduceIte, Nat.reduceEqDiff, Nat.reduceAdd, ↓reduceIte, Try.vcT, gets, pe.cell, cellsAt]
          rw [hrr]
          exact ⟨rfl, (Fd.one pe.chg (by omega)).done⟩
        case' pos =>
          have hl : u.late := by unfold T3.late later; have := (cmp2_pos _ _ _ _).1 e2; omega
          have V3 := W3
          have V4 := W4
          have V5 := W5
          have V6 := W6
          have Fc := Fd
          clear W3 W4 W5 W6 Fd
          simp -dsimp only [↓vcA, vcB, vcD, ↓pureT_lenS, ↓iteT, ↓iteF, cond_true, cond_false, eq_self, argE, Env.get, Env.push, ev, evs, evo, retV, Value.cells, Value.oneCell', setR, overR, fillL, zl, places, allSizes, heldC, ne_eq, Int.reduceLE, Int.reduceLT, Int.reduceEq, Int.reduceNe, Int.reduceToNat, Int.cast_ofNat_Int, Nat.reduceMul, Nat.reduceLeDiff, reduceIte, Nat.reduceEqDiff, Nat.reduceAdd, ↓reduceIte, Try.vcT, gets, decide_eq_true e2]
          clear cc cd
          revert V3 V4 V5 V6 Fc
          generalize wd = wc
          intro V3 V4 V5 V6 Fc
      all_goals
        obtain ⟨j', hj', hju'⟩ := key hl
        clear key e1
        refine walkDraw (.lll 0 (.ll 1 (.l 2 (.l 3 (.l 4 (.l 5 .fin)))) 2 (.ll 1 (.l 3 (.l 4 (.l 5 .fin))) 3 (.l 1 (.l 4 (.l 5 .fin))))) 1 (.ll 0 (.l 2 (.l 3 (.l 4 (.l 5 .fin)))) 2 (.l 0 (.l 3 (.l 4 (.l 5 .fin))))) 2 (.ll 0 (.ll 1 (.l 3 (.l 4 (.l 5 .fin))) 3 (.l 1 (.l 4 (.l 5 .fin)))) 1 (.l 0 (.l 3 (.l 4 (.l 5 .fin)))))) [] (by kernel_rfl) (by simp [Holds_nil]) ?_
        intro wx ex cx
        have X3 := chg_blk cx V3
        have X4 := chg_blk cx V4
        have X5 := chg_blk cx V5
        have X6 := chg_blk cx V6
        have Fx := Fc.nil cx
        simp -dsimp only [↓vcA, vcB, vcD, ↓pureT_lenS, ↓iteT, ↓iteF, cond_true, cond_false, eq_self, argE, Env.get, Env.push, ev, evs, evo, retV, Value.cells, Value.oneCell', setR, overR, fillL, zl, places, allSizes, heldC, ne_eq, Int.reduceLE, Int.reduceLT, Int.reduceEq, Int.reduceNe, Int.reduceToNat, Int.cast_ofNat_Int, Nat.reduceMul, Nat.reduceLeDiff, reduceIte, Nat.reduceEqDiff, Nat.reduceAdd, ↓reduceIte, Try.vcT, Holds_nil, cell_of_blkOf X3, cell_of_blkOf X4, cell_of_blkOf X5, cellsAt, X3]
        repeat' apply And.intro
        all_goals
          intro wy py
          have Y3 := py.blkOf
          have Y4 := py.chg.blkOf X4 (by omega)
          have Y5 := py.chg.blkOf X5 (by omega)
          have Y6 := py.chg.blkOf X6 (by omega)
          try simp -dsimp only [↓vcA, vcB, vcD, ↓pureT_lenS, ↓iteT, ↓iteF, cond_true, cond_false, eq_self, argE, Env.get, Env.push, ev, evs, evo, retV, Value.cells, Value.oneCell', setR, overR, fillL, zl, places, allSizes, heldC, ne_eq, Int.reduceLE, Int.reduceLT, Int.reduceEq, Int.reduceNe, Int.reduceToNat, Int.cast_ofNat_Int, Nat.reduceMul, Nat.reduceLeDiff, reduceIte, Nat.reduceEqDiff, Nat.reduceAdd, ↓reduceIte, Try.vcT, Holds_nil, cell_of_blkOf Y5, cellsAt, Y4]
          intro wz pz
          have Z3 := pz.chg.blkOf Y3 (by omega)
          have Z4 := pz.blkOf
          have Z5 := pz.chg.blkOf Y5 (by omega)
          have Z6 := pz.chg.blkOf Y6 (by omega)
          try simp -dsimp only [↓vcA, vcB, vcD, ↓pureT_lenS, ↓iteT, ↓iteF, cond_true, cond_false, eq_self, argE, Env.get, Env.push, ev, evs, evo, retV, Value.cells, Value.oneCell', setR, overR, fillL, zl, places, allSizes, heldC, ne_eq, Int.reduceLE, Int.reduceLT, Int.reduceEq, Int.reduceNe, Int.reduceToNat, Int.cast_ofNat_Int, Nat.reduceMul, Nat.reduceLeDiff, reduceIte, Nat.reduceEqDiff, Nat.reduceAdd, ↓reduceIte, Try.vcT, Holds_nil, Z5]
          intro wq pq
          try simp -dsimp only [↓vcA, vcB, vcD, ↓pureT_lenS, ↓iteT, ↓iteF, cond_true, cond_false, eq_self, argE, Env.get, Env.push, ev, evs, evo, retV, Value.cells, Value.oneCell', setR, overR, fillL, zl, places, allSizes, heldC, ne_eq, Int.reduceLE, Int.reduceLT, Int.reduceEq, Int.reduceNe, Int.reduceToNat, Int.cast_ofNat_Int, Nat.reduceMul, Nat.reduceLeDiff, reduceIte, Nat.reduceEqDiff, Nat.reduceAdd, ↓reduceIte, Try.vcT, gets, Holds_nil]
          exact ⟨_, hj', j', u.turn, hju', rfl, ((Fx.one py.chg (by omega)).one pz.chg (by omega)).one pq.chg (by omega), pq.chg.blkOf Z3 (by omega), pq.chg.blkOf Z4 (by omega), pq.blkOf, _, _, _, _, _, _, pq.chg.blkOf Z6 (by omega)⟩
def T3.valid (t : T3) : Bool := t.ok && decide (t.mk'.ax = t.ax ∧ t.mk'.ay = t.ay ∧ t.mk'.bx = t.bx ∧ t.mk'.by' = t.by' ∧ t.mk'.cx = t.cx ∧ t.mk'.cy = t.cy)
theorem valid79 (t : T3) (w : World) : Calls Try.prog 79 [.agg #[.int .i64 t.ax, .int .i64 t.ay, .int .i64 t.bx, .int .i64 t.by', .int .i64 t.cx, .int .i64 t.cy]].toArray w (RetP (.bool t.valid) w) := by
  refine walk Try.func79 rfl (by kernel_rfl) (by rw [Try.nt79]; simp) ?_
  simp -dsimp only [↓vcA, vcB, vcD, ↓pureT_lenS, ↓iteT, ↓iteF, cond_true, cond_false, eq_self, argE, Env.get, Env.push, ev, evs, evo, retV, Value.cells, Value.oneCell', setR, overR, fillL, zl, places, allSizes, heldC, ne_eq, Int.reduceLE, Int.reduceLT, Int.reduceEq, Int.reduceNe, Int.reduceToNat, Int.cast_ofNat_Int, Nat.reduceMul, Nat.reduceLeDiff, reduceIte, Nat.reduceEqDiff, Nat.reduceAdd, ↓reduceIte, Try.vcT]
  intro w1 b1 n1
  try simp -dsimp only [↓vcA, vcB, vcD, ↓pureT_lenS, ↓iteT, ↓iteF, cond_true, cond_false, eq_self, argE, Env.get, Env.push, ev, evs, evo, retV, Value.cells, Value.oneCell', setR, overR, fillL, zl, places, allSizes, heldC, ne_eq, Int.reduceLE, Int.reduceLT, Int.reduceEq, Int.reduceNe, Int.reduceToNat, Int.cast_ofNat_Int, Nat.reduceMul, Nat.reduceLeDiff, reduceIte, Nat.reduceEqDiff, Nat.reduceAdd, ↓reduceIte, Try.vcT, n1.cell, cellsAt]
  refine callsK_new (make136 t w1) ?_
  intro w2 c2
  have h2 := chg_blk c2 n1.blkOf
  simp -dsimp only [↓vcA, vcB, vcD, ↓pureT_lenS, ↓iteT, ↓iteF, cond_true, cond_false, eq_self, argE, Env.get, Env.push, ev, evs, evo, retV, Value.cells, Value.oneCell', setR, overR, fillL, zl, places, allSizes, heldC, ne_eq, Int.reduceLE, Int.reduceLT, Int.reduceEq, Int.reduceNe, Int.reduceToNat, Int.cast_ofNat_Int, Nat.reduceMul, Nat.reduceLeDiff, reduceIte, Nat.reduceEqDiff, Nat.reduceAdd, ↓reduceIte, Try.vcT, tupK_mk]
  intro w3 b3 n3
  have h3 := chg_blk n3.chg h2
  simp -dsimp only [↓vcA, vcB, vcD, ↓pureT_lenS, ↓iteT, ↓iteF, cond_true, cond_false, eq_self, argE, Env.get, Env.push, ev, evs, evo, retV, Value.cells, Value.oneCell', setR, overR, fillL, zl, places, allSizes, heldC, ne_eq, Int.reduceLE, Int.reduceLT, Int.reduceEq, Int.reduceNe, Int.reduceToNat, Int.cast_ofNat_Int, Nat.reduceMul, Nat.reduceLeDiff, reduceIte, Nat.reduceEqDiff, Nat.reduceAdd, ↓reduceIte, Try.vcT, n3.blkOf, T3.cells]
  intro w4 p4
  have h4 := p4.chg.blkOf h3 (by have := n3.eq; have := lt_of_blkOf h2; omega)
  have F : Fr w.heap.size w w4 := (((Fr.refl w).new n1).nil c2 |>.new n3).one p4.chg ((((Fr.refl w).new n1).nil c2).newUp n3)
  cases hk : t.ok with
  | false =>
    have e : t.valid = false := by simp [T3.valid, hk]
    simp -dsimp only [↓vcA, vcB, vcD, ↓pureT_lenS, ↓iteT, ↓iteF, cond_true, cond_false, eq_self, argE, Env.get, Env.push, ev, evs, evo, retV, Value.cells, Value.oneCell', setR, overR, fillL, zl, places, allSizes, heldC, ne_eq, Int.reduceLE, Int.reduceLT, Int.reduceEq, Int.reduceNe, Int.reduceToNat, Int.cast_ofNat_Int, Nat.reduceMul, Nat.reduceLeDiff, reduceIte, Nat.reduceEqDiff, Nat.reduceAdd, ↓reduceIte, Try.vcT, e]
    exact F.done
  | true =>
    have e : t.valid = decide (t.mk'.ax = t.ax ∧ t.mk'.ay = t.ay ∧ t.mk'.bx = t.bx ∧ t.mk'.by' = t.by' ∧ t.mk'.cx = t.cx ∧ t.mk'.cy = t.cy) := by simp [T3.valid, hk]
    simp -dsimp only [↓vcA, vcB, vcD, ↓pureT_lenS, ↓iteT, ↓iteF, cond_true, cond_false, eq_self, argE, Env.get, Env.push, ev, evs, evo, retV, Value.cells, Value.oneCell', setR, overR, fillL, zl, places, allSizes, heldC, ne_eq, Int.reduceLE, Int.reduceLT, Int.reduceEq, Int.reduceNe, Int.reduceToNat, Int.cast_ofNat_Int, Nat.reduceMul, Nat.reduceLeDiff, reduceIte, Nat.reduceEqDiff, Nat.reduceAdd, ↓reduceIte, Try.vcT, p4.cell, cell_of_blkOf h4, cellsAt, eql_tri]
    exact ⟨by rw [e], F.done⟩
end Go.Proofs.Ytnhgjgoglmadnaa
namespace Go.Proofs.Ytnhgjgoglmadnaa
open Go.RowKit
set_option maxRecDepth 100000
set_option linter.unusedSimpArgs false
set_option linter.unusedVariables false
set_option pp.maxSteps 1500
set_option pp.deepTerms.threshold 8

theorem WrStep.blkOf {p b : Nat} {w w' : World} {v v' : Value} {x : List Value × TypeId} (k : WrStep p w v w' v') (hb : blkOf w b = some x) (hs : Safe p v b) : blkOf w' b = some x :=
  k.chg.blkOf hb fun e => e.elim hs.1 hs.2

theorem refPoint (p : Nat) (v : Value) (s : W8) (x y : Int) (w : World) (hw : WrS 35 w p v s) (hlen : s.l.length ≤ 900000) (hx : -9223372036854775808 ≤ x) (hx1 : x ≤ 9223372036854775807) (hy : -9223372036854775808 ≤ y) (hy1 : y ≤ 9223372036854775807) :
    Calls Try.prog 26 [.pointer (some ⟨p, 0, none⟩), .agg #[.int .i64 x, .int .i64 y]].toArray w (RetK (WrU 35 p w v (s.pt x y))) := by
  refine walk Try.func26 rfl (by kernel_rfl) (by rw [Try.nt26]; simp) ?_
  simp -dsimp only [↓vcA, vcB, vcD, ↓pureT_lenS, ↓iteT, ↓iteF, cond_true, cond_false, eq_self, argE, Env.get, Env.push, ev, evs, evo, retV, Value.cells, Value.oneCell', setR, overR, fillL, zl, places, allSizes, heldC, ne_eq, Int.reduceLE, Int.reduceLT, Int.reduceEq, Int.reduceNe, Int.reduceToNat, Int.cast_ofNat_Int, Nat.reduceMul, Nat.reduceLeDiff, reduceIte, Nat.reduceEqDiff, Nat.reduceAdd, ↓reduceIte, Try.vcT]
  intro w1 b hb
  have h1 : WrS 35 w1 p v s := hw.chg hb.chg id fun _ _ => id
  have hsf : Safe p v b := Safe.new hw.lt hw.own (by rw [hb.eq]; omega)
  try simp -dsimp only [↓vcA, vcB, vcD, ↓pureT_lenS, ↓iteT, ↓iteF, cond_true, cond_false, eq_self, argE, Env.get, Env.push, ev, evs, evo, retV, Value.cells, Value.oneCell', setR, overR, fillL, zl, places, allSizes, heldC, ne_eq, Int.reduceLE, Int.reduceLT, Int.reduceEq, Int.reduceNe, Int.reduceToNat, Int.cast_ofNat_Int, Nat.reduceMul, Nat.reduceLeDiff, reduceIte, Nat.reduceEqDiff, Nat.reduceAdd, ↓reduceIte, Try.vcT, hb.cell]
  refine callsK_use (refNum p v s x 3 w1 h1 (by omega) hx hx1) ?_
  rintro _ w2 ⟨rfl, v2, h2, k2⟩
  have hb2 := k2.blkOf hb.blkOf hsf
  simp -dsimp only [↓vcA, vcB, vcD, ↓pureT_lenS, ↓iteT, ↓iteF, cond_true, cond_false, eq_self, argE, Env.get, Env.push, ev, evs, evo, retV, Value.cells, Value.oneCell', setR, overR, fillL, zl, places, allSizes, heldC, ne_eq, Int.reduceLE, Int.reduceLT, Int.reduceEq, Int.reduceNe, Int.reduceToNat, Int.cast_ofNat_Int, Nat.reduceMul, Nat.reduceLeDiff, reduceIte, Nat.reduceEqDiff, Nat.reduceAdd, ↓reduceIte, Try.vcT, cell_of_blkOf hb2]
  have hl := s.num_len x 3
  refine callsK_use (refNum p v2 (s.num x 3) y 3 w2 h2 (by omega) hy hy1) ?_
  rintro _ w3 ⟨rfl, v3, h3, k3⟩
  simp -dsimp only [↓vcA, vcB, vcD, ↓pureT_lenS, ↓iteT, ↓iteF, cond_true, cond_false, eq_self, argE, Env.get, Env.push, ev, evs, evo, retV, Value.cells, Value.oneCell', setR, overR, fillL, zl, places, allSizes, heldC, ne_eq, Int.reduceLE, Int.reduceLT, Int.reduceEq, Int.reduceNe, Int.reduceToNat, Int.cast_ofNat_Int, Nat.reduceMul, Nat.reduceLeDiff, reduceIte, Nat.reduceEqDiff, Nat.reduceAdd, ↓reduceIte, Try.vcT]
  exact ⟨rfl, v3, h3, WrStep.pre hb.chg (k2.trans k3)⟩

theorem refTri (p : Nat) (v : Value) (s : W8) (ax ay bx by' cx cy : Int) (w : World) (hw : WrS 35 w p v s) (hlen : s.l.length ≤ 800000) (ho : Ok64 [ax, ay, bx, by', cx, cy]) :
    Calls Try.prog 28 [.pointer (some ⟨p, 0, none⟩), .agg #[.int .i64 ax, .int .i64 ay, .int .i64 bx, .int .i64 by', .int .i64 cx, .int .i64 cy]].toArray w (RetK (WrU 35 p w v (s.tri ax ay bx by' cx cy))) := by
  simp only [Ok64, List.forall_mem_cons, List.not_mem_nil, false_implies, implies_true, and_true] at ho
  obtain ⟨⟨ax0, ax1⟩, ⟨ay0, ay1⟩, ⟨bx0, bx1⟩, ⟨by0, by1⟩, ⟨cx0, cx1⟩, cy0, cy1⟩ := ho
  refine walk Try.func28 rfl (by kernel_rfl) (by rw [Try.nt28]; simp) ?_
  simp -dsimp only [↓vcA, vcB, vcD, ↓pureT_lenS, ↓iteT, ↓iteF, cond_true, cond_false, eq_self, argE, Env.get, Env.push, ev, evs, evo, retV, Value.cells, Value.oneCell', setR, overR, fillL, zl, places, allSizes, heldC, ne_eq, Int.reduceLE, Int.reduceLT, Int.reduceEq, Int.reduceNe, Int.reduceToNat, Int.cast_ofNat_Int, Nat.reduceMul, Nat.reduceLeDiff, reduceIte, Nat.reduceEqDiff, Nat.reduceAdd, ↓reduceIte, Try.vcT]
  intro w1 b hb
  have h1 : WrS 35 w1 p v s := hw.chg hb.chg id fun _ _ => id
  have hsf : Safe p v b := Safe.new hw.lt hw.own (by rw [hb.eq]; omega)
  have hl1 := s.pt_len ax ay
  have hl2 := (s.pt ax ay).pt_len bx by'
  try simp -dsimp only [↓vcA, vcB, vcD, ↓pureT_lenS, ↓iteT, ↓iteF, cond_true, cond_false, eq_self, argE, Env.get, Env.push, ev, evs, evo, retV, Value.cells, Value.oneCell', setR, overR, fillL, zl, places, allSizes, heldC, ne_eq, Int.reduceLE, Int.reduceLT, Int.reduceEq, Int.reduceNe, Int.reduceToNat, Int.cast_ofNat_Int, Nat.reduceMul, Nat.reduceLeDiff, reduceIte, Nat.reduceEqDiff, Nat.reduceAdd, ↓reduceIte, Try.vcT, hb.cell, cellsAt]
  refine callsK_use (refPoint p v s ax ay w1 h1 (by omega) ax0 ax1 ay0 ay1) ?_
  rintro _ w2 ⟨rfl, v2, h2, k2⟩
  have hb2 := k2.blkOf hb.blkOf hsf
  have s2 := k2.safe hb.lt hsf
  simp -dsimp only [↓vcA, vcB, vcD, ↓pureT_lenS, ↓iteT, ↓iteF, cond_true, cond_false, eq_self, argE, Env.get, Env.push, ev, evs, evo, retV, Value.cells, Value.oneCell', setR, overR, fillL, zl, places, allSizes, heldC, ne_eq, Int.reduceLE, Int.reduceLT, Int.reduceEq, Int.reduceNe, Int.reduceToNat, Int.cast_ofNat_Int, Nat.reduceMul, Nat.reduceLeDiff, reduceIte, Nat.reduceEqDiff, Nat.reduceAdd, ↓reduceIte, Try.vcT, cell_of_blkOf hb2, cellsAt]
  refine callsK_use (refPoint p v2 _ bx by' w2 h2 (by omega) bx0 bx1 by0 by1) ?_
  rintro _ w3 ⟨rfl, v3, h3, k3⟩
  have hb3 := k3.blkOf hb2 s2
  simp -dsimp only [↓vcA, vcB, vcD, ↓pureT_lenS, ↓iteT, ↓iteF, cond_true, cond_false, eq_self, argE, Env.get, Env.push, ev, evs, evo, retV, Value.cells, Value.oneCell', setR, overR, fillL, zl, places, allSizes, heldC, ne_eq, Int.reduceLE, Int.reduceLT, Int.reduceEq, Int.reduceNe, Int.reduceToNat, Int.cast_ofNat_Int, Nat.reduceMul, Nat.reduceLeDiff, reduceIte, Nat.reduceEqDiff, Nat.reduceAdd, ↓reduceIte, Try.vcT, cell_of_blkOf hb3, cellsAt]
  refine callsK_use (refPoint p v3 _ cx cy w3 h3 (by omega) cx0 cx1 cy0 cy1) ?_
  rintro _ w4 ⟨rfl, v4, h4, k4⟩
  simp -dsimp only [↓vcA, vcB, vcD, ↓pureT_lenS, ↓iteT, ↓iteF, cond_true, cond_false, eq_self, argE, Env.get, Env.push, ev, evs, evo, retV, Value.cells, Value.oneCell', setR, overR, fillL, zl, places, allSizes, heldC, ne_eq, Int.reduceLE, Int.reduceLT, Int.reduceEq, Int.reduceNe, Int.reduceToNat, Int.cast_ofNat_Int, Nat.reduceMul, Nat.reduceLeDiff, reduceIte, Nat.reduceEqDiff, Nat.reduceAdd, ↓reduceIte, Try.vcT]
  exact ⟨rfl, v4, h4, WrStep.pre hb.chg ((k2.trans k3).trans k4)⟩

structure Prt where
  kind : Int
  n : Int
  size : Int
  px : Int
  py : Int
  ax : Int
  ay : Int
  bx : Int
  by' : Int
  cx : Int
  cy : Int
  b : List Int
def Prt.cells (p : Prt) (vb : Value) : List Value :=
  [.int .i64 p.kind, .int .i64 p.n, .int .i64 p.size, .int .i64 p.px, .int .i64 p.py, .int .i64 p.ax, .int .i64 p.ay, .int .i64 p.bx, .int .i64 p.by', .int .i64 p.cx, .int .i64 p.cy, vb]
def Prt.ints (p : Prt) : List Int := [p.kind, p.n, p.size, p.px, p.py, p.ax, p.ay, p.bx, p.by', p.cx, p.cy]
structure Parts (w : World) (v : Value) (ps : List (Prt × Value)) : Prop where
  shape : ∃ a c, v = .slice a ps.length c ∧ ps.length ≤ maxLen ∧ (0 < ps.length → ∃ b o, a = some ⟨b, o, none⟩ ∧ ∀ i (h : i < ps.length) j u, (ps[i].1.cells ps[i].2)[j]? = some u → w.cell? ⟨b, o + i * 12 + j, none⟩ = some u)
  each : ∀ x ∈ ps, Rd w x.2 x.1.b ∧ Byt x.1.b ∧ Ok64 x.1.ints
theorem Parts.old {w w1 : World} {v : Value} {ps : List (Prt × Value)} (h : Parts w v ps) (f : Fr w.heap.size w w1) : Parts w1 v ps := by
  obtain ⟨a, c, rfl, h2, h1⟩ := h.shape
  refine ⟨⟨a, c, rfl, h2, fun hp => ?_⟩, fun x hx => ⟨(h.each x hx).1.old f, (h.each x hx).2⟩⟩
  obtain ⟨b, o, rfl, hc⟩ := h1 hp
  exact ⟨b, o, rfl, fun i hi j u hj => f.done.cell (hc i hi j u hj) id⟩
theorem cellsAt_of {w : World} {b : Nat} : ∀ {o : Nat} (cs : List Value), (∀ j u, cs[j]? = some u → w.cell? ⟨b, o + j, none⟩ = some u) → cellsAt w b o cs.length = some cs
  | o, [], _ => rfl
  | o, x :: cs, h => by
    have h0 := h 0 x rfl
    rw [Nat.add_zero] at h0
    have := cellsAt_of (o := o + 1) cs fun j u hj => by
      have := h (j + 1) u (by simpa using hj)
      rw [show o + 1 + j = o + (j + 1) by omega]; exact this
    simp [cellsAt, h0, this]

theorem Parts.at {w : World} {a : Option Addr} {n c : Nat} {ps : List (Prt × Value)} (h : Parts w (.slice a n c) ps) {i : Nat} (hi : i < ps.length) :
    ∃ b o, a = some ⟨b, o, none⟩ ∧ cellsAt w b (o + i * 12) 12 = some (ps[i].1.cells ps[i].2) := by
  obtain ⟨a', c', e, hm, h1⟩ := h.shape
  injection e with e1 e2 e3
  obtain ⟨b, o, h2, hc⟩ := h1 (by omega)
  exact ⟨b, o, by rw [e1, h2], cellsAt_of _ (hc i hi)⟩

theorem few (v : Value) (ps : List (Prt × Value)) (w : World) (h : Parts w v ps) :
    Calls Try.prog 22 [v].toArray w (RetK fun r w' => ∃ f : Bool, r = .bool f ∧ w' = w ∧ (f = true → ps.length ≤ 30 ∧ ∀ x ∈ ps, x.1.b.length ≤ 60)) := by
  obtain ⟨a, c, rfl, hm, h1⟩ := h.shape
  refine walk Try.func22 rfl (by kernel_rfl) (by rw [Try.nt22]; simp) ?_
  simp -dsimp only [↓vcA, vcB, vcD, ↓pureT_lenS, ↓iteT, ↓iteF, cond_true, cond_false, eq_self, argE, Env.get, Env.push, ev, evs, evo, retV, Value.cells, Value.oneCell', setR, overR, fillL, zl, places, allSizes, heldC, ne_eq, Int.reduceLE, Int.reduceLT, Int.reduceEq, Int.reduceNe, Int.reduceToNat, Int.cast_ofNat_Int, Nat.reduceMul, Nat.reduceLeDiff, reduceIte, Nat.reduceEqDiff, Nat.reduceAdd, ↓reduceIte, Try.vcT]
  refine walkLoop [0] [3] (fun m vs w1 => w1 = w ∧ ∃ i, i ≤ ps.length ∧ i ≤ 40 ∧ m = ps.length - i ∧ vs = [.int .i64 i] ∧ ∀ j (hj : j < ps.length), j < i → ps[j].1.b.length ≤ 60) (by kernel_rfl) ?_ ?_
  · simp -dsimp only [↓vcA, vcB, vcD, ↓pureT_lenS, ↓iteT, ↓iteF, cond_true, cond_false, eq_self, argE, Env.get, Env.push, ev, evs, evo, retV, Value.cells, Value.oneCell', setR, overR, fillL, zl, places, allSizes, heldC, ne_eq, Int.reduceLE, Int.reduceLT, Int.reduceEq, Int.reduceNe, Int.reduceToNat, Int.cast_ofNat_Int, Nat.reduceMul, Nat.reduceLeDiff, reduceIte, Nat.reduceEqDiff, Nat.reduceAdd, ↓reduceIte, Try.vcT, gets]
    exact ⟨_, 0, Nat.zero_le _, Nat.zero_le _, rfl, by simp, fun j _ hj => by omega⟩
  · intro ks hk m vs w1 hi
    obtain ⟨rfl, i, hi, hi4, rfl, rfl, hall⟩ := hi
    simp -dsimp only [gets, argE, List.zip_cons_cons, List.zip_nil_left, List.cons_append, List.nil_append, Env.get, Env.push, Option.bind_some, Option.map_some, Option.some.injEq, reduceIte, Nat.reduceEqDiff, Nat.reduceAdd, ↓reduceIte] at hk; subst hk
    by_cases hlt : (i : Int) < ps.length
    · by_cases h40 : (i : Int) < 40
      · have hil : i < ps.length := by omega
        obtain ⟨b, o, rfl, hc⟩ := h1 (by omega)
        obtain ⟨r1, r2, r3⟩ := h.each _ (List.getElem_mem hil)
        obtain ⟨a2, c2, e2, _⟩ := r1
        have hcell := hc i hil 11 _ rfl
        rw [e2] at hcell
        have e : IntKind.i64.wrap ((i : Int) + 1) = ((i + 1 : Nat) : Int) := by rw [i64w _ (by omega) (by omega)]; omega
        simp -dsimp only [↓vcA, vcB, vcD, ↓pureT_lenS, ↓iteT, ↓iteF, cond_true, cond_false, eq_self, argE, Env.get, Env.push, ev, evs, evo, retV, Value.cells, Value.oneCell', setR, overR, fillL, zl, places, allSizes, heldC, ne_eq, Int.reduceLE, Int.reduceLT, Int.reduceEq, Int.reduceNe, Int.reduceToNat, Int.cast_ofNat_Int, Nat.reduceMul, Nat.reduceLeDiff, reduceIte, Nat.reduceEqDiff, Nat.reduceAdd, ↓reduceIte, Try.vcT, gets, decide_eq_true hlt, decide_eq_true h40, hcell]
        refine ⟨⟨by omega, by omega⟩, ?_⟩
        refine ifK_dec (fun h60 => ?_) (fun h60 => ?_)
        · simp -dsimp only [↓vcA, vcB, vcD, ↓pureT_lenS, ↓iteT, ↓iteF, cond_true, cond_false, eq_self, argE, Env.get, Env.push, ev, evs, evo, retV, Value.cells, Value.oneCell', setR, overR, fillL, zl, places, allSizes, heldC, ne_eq, Int.reduceLE, Int.reduceLT, Int.reduceEq, Int.reduceNe, Int.reduceToNat, Int.cast_ofNat_Int, Nat.reduceMul, Nat.reduceLeDiff, reduceIte, Nat.reduceEqDiff, Nat.reduceAdd, ↓reduceIte, Try.vcT]
          exact ⟨false, rfl, fun e => by cases e⟩
        · simp -dsimp only [↓vcA, vcB, vcD, ↓pureT_lenS, ↓iteT, ↓iteF, cond_true, cond_false, eq_self, argE, Env.get, Env.push, ev, evs, evo, retV, Value.cells, Value.oneCell', setR, overR, fillL, zl, places, allSizes, heldC, ne_eq, Int.reduceLE, Int.reduceLT, Int.reduceEq, Int.reduceNe, Int.reduceToNat, Int.cast_ofNat_Int, Nat.reduceMul, Nat.reduceLeDiff, reduceIte, Nat.reduceEqDiff, Nat.reduceAdd, ↓reduceIte, Try.vcT, gets, e]
          refine ⟨_, ?_, i + 1, by omega, by omega, rfl, rfl, fun j hj hj2 => ?_⟩
          · omega
          · by_cases hji : j = i
            · subst hji; omega
            · exact hall j hj (by omega)
      · simp -dsimp only [↓vcA, vcB, vcD, ↓pureT_lenS, ↓iteT, ↓iteF, cond_true, cond_false, eq_self, argE, Env.get, Env.push, ev, evs, evo, retV, Value.cells, Value.oneCell', setR, overR, fillL, zl, places, allSizes, heldC, ne_eq, Int.reduceLE, Int.reduceLT, Int.reduceEq, Int.reduceNe, Int.reduceToNat, Int.cast_ofNat_Int, Nat.reduceMul, Nat.reduceLeDiff, reduceIte, Nat.reduceEqDiff, Nat.reduceAdd, ↓reduceIte, Try.vcT, gets, decide_eq_true hlt, decide_eq_false h40]
        refine ⟨_, rfl, fun h30 => ?_⟩
        have := of_decide_eq_true h30
        omega
    · simp -dsimp only [↓vcA, vcB, vcD, ↓pureT_lenS, ↓iteT, ↓iteF, cond_true, cond_false, eq_self, argE, Env.get, Env.push, ev, evs, evo, retV, Value.cells, Value.oneCell', setR, overR, fillL, zl, places, allSizes, heldC, ne_eq, Int.reduceLE, Int.reduceLT, Int.reduceEq, Int.reduceNe, Int.reduceToNat, Int.cast_ofNat_Int, Nat.reduceMul, Nat.reduceLeDiff, reduceIte, Nat.reduceEqDiff, Nat.reduceAdd, ↓reduceIte, Try.vcT, gets, decide_eq_false hlt]
      refine ⟨_, rfl, fun h30 => ?_⟩
      have := of_decide_eq_true h30
      refine ⟨by omega, fun x hx => ?_⟩
      obtain ⟨j, hj, rfl⟩ := List.mem_iff_getElem.1 hx
      exact hall j hj (by omega)
end Go.Proofs.Ytnhgjgoglmadnaa
