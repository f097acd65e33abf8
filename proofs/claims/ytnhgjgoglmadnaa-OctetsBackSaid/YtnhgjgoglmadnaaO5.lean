/- The contracts of the reference's writer, and of the sums. -/
import Derived.Test.YtnhgjgoglmadnaaK5
namespace Go.Proofs.Ytnhgjgoglmadnaa
open Go.RowKit
set_option maxRecDepth 100000
set_option linter.unusedSimpArgs false
set_option linter.unusedVariables false
set_option pp.maxSteps 1500
set_option pp.deepTerms.threshold 8

theorem Rd.old {w w1 : World} {v : Value} {xs : List Int} (h : Rd w v xs) (f : Fr w.heap.size w w1) : Rd w1 v xs := by
  obtain ⟨a, c, rfl, h1, h2, h3, h4⟩ := h
  refine ⟨a, c, rfl, h1, h2, h3, fun hp => ?_⟩
  obtain ⟨b, o, rfl, hc⟩ := h4 hp
  refine ⟨b, o, rfl, fun j hj => f.done.cell (hc j hj) id⟩

def WrU (t p : Nat) (w : World) (v : Value) (s' : W8) (r : Value) (w' : World) : Prop := r = .tuple #[] ∧ ∃ v', WrS t w' p v' s' ∧ WrStep p w v w' v'

/-- The writer's own mark is set. -/
theorem Wr.mark' {t p : Nat} {w w1 : World} {v : Value} {xs : List Int} {bad : Bool} (h : Wr t w p v xs bad) (ht : t ≠ 5) (hp : Put w w1 p [v, .bool true] t) : Wr t w1 p v xs true ∧ WrStep p w v w1 v :=
  ⟨⟨hp.blk, h.own.chg hp.chg fun k hk e => h.own.ne h.blk ht (e ▸ hk)⟩, hp.chg.mono fun k hk => .inl hk, fun k hk => .inl hk⟩

set_option maxHeartbeats 1000000 in
theorem refNum (p : Nat) (v : Value) (s : W8) (n size : Int) (w : World) (hw : WrS 35 w p v s) (hlen : s.l.length ≤ 1000000) (hn : -9223372036854775808 ≤ n) (hn1 : n ≤ 9223372036854775807) :
    Calls Try.prog 24 [.pointer (some ⟨p, 0, none⟩), .int .i64 n, .int .i64 size].toArray w (RetK (WrU 35 p w v (s.num n size))) := by
  refine walk Try.func24 rfl (by kernel_rfl) (by rw [Try.nt24]; simp) ?_
  by_cases hg : fits n size = true
  case neg =>
    have hbad : s.num n size = ⟨s.l, true⟩ := by simp [W8.num, hg]
    rw [hbad]
    have hcs : size < 1 ∨ (¬ size < 1 ∧ 8 < size) ∨ (¬ size < 1 ∧ ¬ 8 < size ∧ n < 0) ∨ (¬ size < 1 ∧ ¬ 8 < size ∧ ¬ n < 0 ∧ size < 8 ∧ ¬ n / 2 ^ (8 * size).toNat = 0) := by
      simp only [fits, decide_eq_true_eq] at hg
      omega
    rcases hcs with a1 | ⟨a1, a2⟩ | ⟨a1, a2, a3⟩ | ⟨a1, a2, a3, a4, a5⟩
    case' inl => simp -dsimp only [↓vcA, vcB, vcD, ↓pureT_lenS, ↓iteT, ↓iteF, cond_true, cond_false, eq_self, argE, Env.get, Env.push, ev, evs, evo, retV, Value.cells, Value.oneCell', setR, overR, fillL, zl, places, allSizes, heldC, ne_eq, Int.reduceLE, Int.reduceLT, Int.reduceEq, Int.reduceNe, Int.reduceToNat, Int.cast_ofNat_Int, Nat.reduceMul, Nat.reduceLeDiff, reduceIte, Nat.reduceEqDiff, Nat.reduceAdd, ↓reduceIte, Try.vcT, decide_eq_true a1, hw.bk]
    case' inr.inl => simp -dsimp only [↓vcA, vcB, vcD, ↓pureT_lenS, ↓iteT, ↓iteF, cond_true, cond_false, eq_self, argE, Env.get, Env.push, ev, evs, evo, retV, Value.cells, Value.oneCell', setR, overR, fillL, zl, places, allSizes, heldC, ne_eq, Int.reduceLE, Int.reduceLT, Int.reduceEq, Int.reduceNe, Int.reduceToNat, Int.cast_ofNat_Int, Nat.reduceMul, Nat.reduceLeDiff, reduceIte, Nat.reduceEqDiff, Nat.reduceAdd, ↓reduceIte, Try.vcT, decide_eq_false a1, decide_eq_true a2, hw.bk]
    case' inr.inr.inl => simp -dsimp only [↓vcA, vcB, vcD, ↓pureT_lenS, ↓iteT, ↓iteF, cond_true, cond_false, eq_self, argE, Env.get, Env.push, ev, evs, evo, retV, Value.cells, Value.oneCell', setR, overR, fillL, zl, places, allSizes, heldC, ne_eq, Int.reduceLE, Int.reduceLT, Int.reduceEq, Int.reduceNe, Int.reduceToNat, Int.cast_ofNat_Int, Nat.reduceMul, Nat.reduceLeDiff, reduceIte, Nat.reduceEqDiff, Nat.reduceAdd, ↓reduceIte, Try.vcT, decide_eq_false a1, decide_eq_false a2, decide_eq_true a3, hw.bk]
    case' inr.inr.inr =>
      have e1 : IntKind.i64.wrap (8 * size) = 8 * size := i64w _ (by omega) (by omega)
      have e2 : min (8 * size).toNat IntKind.i64.bits = (8 * size).toNat := by simp [IntKind.bits]; omega
      have e3 : IntKind.u64.wrap (8 * size) = 8 * size := by rw [u64wrap, Int.emod_eq_of_lt (by omega) (by omega)]
      simp -dsimp only [↓vcA, vcB, vcD, ↓pureT_lenS, ↓iteT, ↓iteF, cond_true, cond_false, eq_self, argE, Env.get, Env.push, ev, evs, evo, retV, Value.cells, Value.oneCell', setR, overR, fillL, zl, places, allSizes, heldC, ne_eq, Int.reduceLE, Int.reduceLT, Int.reduceEq, Int.reduceNe, Int.reduceToNat, Int.cast_ofNat_Int, Nat.reduceMul, Nat.reduceLeDiff, reduceIte, Nat.reduceEqDiff, Nat.reduceAdd, ↓reduceIte, Try.vcT, decide_eq_false a1, decide_eq_false a2, decide_eq_false a3, decide_eq_true a4, e1, e2, e3, decide_eq_false a5, hw.bk]
      refine ⟨by omega, ?_⟩
    all_goals
      intro w1 p1
      obtain ⟨q1, q2⟩ := hw.mark' (by decide) p1
      exact ⟨rfl, v, q1, q2⟩
  case pos =>
    have hg' : 1 ≤ size ∧ size ≤ 8 ∧ 0 ≤ n ∧ (size < 8 → n / 2 ^ (8 * size).toNat = 0) := of_decide_eq_true hg
    obtain ⟨k, rfl⟩ := Int.eq_ofNat_of_zero_le (show 0 ≤ size by omega)
    obtain ⟨a1, a2, a3, a4⟩ := hg'
    have a1' : ¬ (k : Int) < 1 := by omega
    have a2' : ¬ (8 : Int) < k := by omega
    have a3' : ¬ n < 0 := by omega
    have hgood : s.num n k = ⟨s.l ++ be n k, s.bad⟩ := by simp [W8.num, hg]
    rw [hgood]
    have e5 : IntKind.i64.wrap ((k : Int) - 1) = (k : Int) - 1 := i64w _ (by omega) (by omega)
    by_cases h8 : (k : Int) < 8
    case' neg => simp -dsimp only [↓vcA, vcB, vcD, ↓pureT_lenS, ↓iteT, ↓iteF, cond_true, cond_false, eq_self, argE, Env.get, Env.push, ev, evs, evo, retV, Value.cells, Value.oneCell', setR, overR, fillL, zl, places, allSizes, heldC, ne_eq, Int.reduceLE, Int.reduceLT, Int.reduceEq, Int.reduceNe, Int.reduceToNat, Int.cast_ofNat_Int, Nat.reduceMul, Nat.reduceLeDiff, reduceIte, Nat.reduceEqDiff, Nat.reduceAdd, ↓reduceIte, Try.vcT, decide_eq_false a1', decide_eq_false a2', decide_eq_false a3', decide_eq_false h8, e5]
    case' pos =>
      have e1 : IntKind.i64.wrap (8 * (k : Int)) = 8 * k := i64w _ (by omega) (by omega)
      have e2 : min (8 * (k : Int)).toNat IntKind.i64.bits = (8 * (k : Int)).toNat := by simp [IntKind.bits]; omega
      have e3 : IntKind.u64.wrap (8 * (k : Int)) = 8 * k := by rw [u64wrap, Int.emod_eq_of_lt (by omega) (by omega)]
      simp -dsimp only [↓vcA, vcB, vcD, ↓pureT_lenS, ↓iteT, ↓iteF, cond_true, cond_false, eq_self, argE, Env.get, Env.push, ev, evs, evo, retV, Value.cells, Value.oneCell', setR, overR, fillL, zl, places, allSizes, heldC, ne_eq, Int.reduceLE, Int.reduceLT, Int.reduceEq, Int.reduceNe, Int.reduceToNat, Int.cast_ofNat_Int, Nat.reduceMul, Nat.reduceLeDiff, reduceIte, Nat.reduceEqDiff, Nat.reduceAdd, ↓reduceIte, Try.vcT, decide_eq_false a1', decide_eq_false a2', decide_eq_false a3', decide_eq_true h8, e1, e2, e3, decide_eq_true (a4 h8), e5]
      refine ⟨by omega, ?_⟩
    all_goals
      refine walkLoop [0, 1] [6] (fun q vs w' => ∃ i : Nat, i ≤ k ∧ q = k - i ∧ vs = [.int .i64 ((k : Int) - 1 - i)] ∧ ∃ v', WrS 35 w' p v' ⟨s.l ++ (be n k).take i, s.bad⟩ ∧ WrStep p w v w' v') (by kernel_rfl) ?_ ?_
      · simp -dsimp only [↓vcA, vcB, vcD, ↓pureT_lenS, ↓iteT, ↓iteF, cond_true, cond_false, eq_self, argE, Env.get, Env.push, ev, evs, evo, retV, Value.cells, Value.oneCell', setR, overR, fillL, zl, places, allSizes, heldC, ne_eq, Int.reduceLE, Int.reduceLT, Int.reduceEq, Int.reduceNe, Int.reduceToNat, Int.cast_ofNat_Int, Nat.reduceMul, Nat.reduceLeDiff, reduceIte, Nat.reduceEqDiff, Nat.reduceAdd, ↓reduceIte, Try.vcT, gets]
        exact ⟨_, 0, Nat.zero_le _, rfl, by simp, v, by simpa using hw, WrStep.refl _ _ _⟩
      · intro ks hk q vs w1 hi
        obtain ⟨i, hi, rfl, rfl, v1, h1, k1⟩ := hi
        simp -dsimp only [gets, argE, List.zip_cons_cons, List.zip_nil_left, List.cons_append, List.nil_append, Env.get, Env.push, Option.bind_some, Option.map_some, Option.some.injEq, reduceIte, Nat.reduceEqDiff, Nat.reduceAdd, ↓reduceIte] at hk; subst hk
        by_cases hlt : (0 : Int) ≤ (k : Int) - 1 - i
        · have e1 : IntKind.i64.wrap (8 * ((k : Int) - 1 - i)) = 8 * ((k : Int) - 1 - i) := i64w _ (by omega) (by omega)
          have e2 : min (8 * ((k : Int) - 1 - i)).toNat IntKind.i64.bits = 8 * (k - 1 - i) := by simp [IntKind.bits]; omega
          have e3 : IntKind.u64.wrap (8 * ((k : Int) - 1 - i)) = 8 * ((k : Int) - 1 - i) := by rw [u64wrap, Int.emod_eq_of_lt (by omega) (by omega)]
          have e4 : IntKind.i64.wrap ((k : Int) - 1 - i - 1) = (k : Int) - 1 - (i + 1 : Nat) := by rw [i64w _ (by omega) (by omega)]; omega
          simp -dsimp only [↓vcA, vcB, vcD, ↓pureT_lenS, ↓iteT, ↓iteF, cond_true, cond_false, eq_self, argE, Env.get, Env.push, ev, evs, evo, retV, Value.cells, Value.oneCell', setR, overR, fillL, zl, places, allSizes, heldC, ne_eq, Int.reduceLE, Int.reduceLT, Int.reduceEq, Int.reduceNe, Int.reduceToNat, Int.cast_ofNat_Int, Nat.reduceMul, Nat.reduceLeDiff, reduceIte, Nat.reduceEqDiff, Nat.reduceAdd, ↓reduceIte, Try.vcT, gets, decide_eq_true hlt, e1, e2, e3, e4, h1.c0]
          refine ⟨by omega, ?_⟩
          intro w2 b2 n2
          have h2 : WrS 35 w2 p v1 ⟨s.l ++ (be n k).take i, s.bad⟩ := h1.chg n2.chg id (fun _ _ => id)
          have hr : Rd w2 (.slice (some ⟨b2, 0, none⟩) 1 1) [IntKind.u8.wrap (n / 2 ^ (8 * (k - 1 - i)))] := Own.rd (n2.owns (by simp [u8s]) (by simp [maxLen]))
          refine app h2.own hr (by simp [be_length]; omega) ?_
          intro a c w3 o3 g3 t3
          have hb3 : blkOf w3 p = some ([v1, .bool s.bad], 35) := (Chg.ofGrown g3).blkOf h2.bk (h2.own.ne h2.blk (by decide))
          simp -dsimp only [↓vcA, vcB, vcD, ↓pureT_lenS, ↓iteT, ↓iteF, cond_true, cond_false, eq_self, argE, Env.get, Env.push, ev, evs, evo, retV, Value.cells, Value.oneCell', setR, overR, fillL, zl, places, allSizes, heldC, ne_eq, Int.reduceLE, Int.reduceLT, Int.reduceEq, Int.reduceNe, Int.reduceToNat, Int.cast_ofNat_Int, Nat.reduceMul, Nat.reduceLeDiff, reduceIte, Nat.reduceEqDiff, Nat.reduceAdd, ↓reduceIte, Try.vcT, gets, hb3, e4]
          intro w4 p4
          obtain ⟨q1, q2⟩ := h2.put (by decide) o3 g3 t3 p4
          refine ⟨_, ?_, i + 1, by omega, rfl, rfl, _, ?_, (k1.trans (WrStep.pre n2.chg q2))⟩
          · omega
          · have : (be n k).take (i + 1) = (be n k).take i ++ [IntKind.u8.wrap (n / 2 ^ (8 * (k - 1 - i)))] := by rw [be_take n k i (by omega), u8wrap]
            rw [this, ← List.append_assoc]
            exact q1
        · simp -dsimp only [↓vcA, vcB, vcD, ↓pureT_lenS, ↓iteT, ↓iteF, cond_true, cond_false, eq_self, argE, Env.get, Env.push, ev, evs, evo, retV, Value.cells, Value.oneCell', setR, overR, fillL, zl, places, allSizes, heldC, ne_eq, Int.reduceLE, Int.reduceLT, Int.reduceEq, Int.reduceNe, Int.reduceToNat, Int.cast_ofNat_Int, Nat.reduceMul, Nat.reduceLeDiff, reduceIte, Nat.reduceEqDiff, Nat.reduceAdd, ↓reduceIte, Try.vcT, gets, decide_eq_false hlt]
          have hik : i = k := by omega
          subst hik
          rw [List.take_of_length_le (by rw [be_length]; exact Nat.le_refl _)] at h1
          exact ⟨rfl, v1, h1, k1⟩
end Go.Proofs.Ytnhgjgoglmadnaa
