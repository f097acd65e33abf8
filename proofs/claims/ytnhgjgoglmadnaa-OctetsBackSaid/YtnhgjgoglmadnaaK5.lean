/- The walk of OctetsNums. -/
import Derived.Test.YtnhgjgoglmadnaaK3
import Derived.Test.YtnhgjgoglmadnaaL2
namespace Go.Proofs.Ytnhgjgoglmadnaa
open Go.RowKit
set_option maxRecDepth 100000
set_option linter.unusedSimpArgs false
set_option linter.unusedVariables false
set_option pp.maxSteps 1500
set_option pp.deepTerms.threshold 8

theorem one_byte (m : Int) (h : 0 ≤ m ∧ m ≤ 255) : (⟨[], true⟩ : W8).num m 1 = ⟨[m], true⟩ ∧ ∀ s : W8, s.num m 1 = ⟨s.l ++ [m], s.bad⟩ := by
  have e : fits m 1 = true := by
    simp only [fits, decide_eq_true_eq]
    refine ⟨by decide, by decide, h.1, fun _ => ?_⟩
    have : ((8 : Int) * 1).toNat = 8 := by decide
    rw [this]; omega
  have e2 : be m 1 = [m] := by
    simp [be]; omega
  have e3 : (1 : Int).toNat = 1 := by decide
  refine ⟨by simp [W8.num, e, e3, e2], fun s => by simp [W8.num, e, e3, e2]⟩

set_option maxHeartbeats 1000000 in
theorem walk5 (n size more : Int) (w : World) (hn : -9223372036854775808 ≤ n) (hn1 : n ≤ 9223372036854775807) :
    Calls Try.prog 5 [.int .i64 n, .int .i64 size, .int .i64 more].toArray w (RetK fun r w' => r = .bool true ∧ Chg (fun _ => False) w w') := by
  refine walk Try.func5 rfl (by kernel_rfl) (by rw [Try.nt5]; simp) ?_
  simp -dsimp only [↓vcA, vcB, vcD, ↓pureT_lenS, ↓iteT, ↓iteF, cond_true, cond_false, eq_self, argE, Env.get, Env.push, ev, evs, evo, retV, Value.cells, Value.oneCell', setR, overR, fillL, zl, places, allSizes, heldC, ne_eq, Int.reduceLE, Int.reduceLT, Int.reduceEq, Int.reduceNe, Int.reduceToNat, Int.cast_ofNat_Int, Nat.reduceMul, Nat.reduceLeDiff, reduceIte, Nat.reduceEqDiff, Nat.reduceAdd, ↓reduceIte, Try.vcT]
  intro w1 p hp
  have F1 := (Fr.refl w).new hp
  have Hp := (Fr.refl w).newUp hp
  refine callsK_use (num p _ ⟨[], false⟩ n size w1 (Wr.fresh hp) (by simp) hn hn1) ?_
  rintro _ w2 ⟨rfl, v2, h2, k2⟩
  have U2 := F1.wrUp k2 (Up.nil _)
  have F2 := F1.wr k2 Hp (Up.nil _)
  simp -dsimp only [↓vcA, vcB, vcD, ↓pureT_lenS, ↓iteT, ↓iteF, cond_true, cond_false, eq_self, argE, Env.get, Env.push, ev, evs, evo, retV, Value.cells, Value.oneCell', setR, overR, fillL, zl, places, allSizes, heldC, ne_eq, Int.reduceLE, Int.reduceLT, Int.reduceEq, Int.reduceNe, Int.reduceToNat, Int.cast_ofNat_Int, Nat.reduceMul, Nat.reduceLeDiff, reduceIte, Nat.reduceEqDiff, Nat.reduceAdd, ↓reduceIte, Try.vcT]
  refine callsK_pure (round more 256 w2 (by decide) (by decide)) ?_
  have m0 := Int.emod_nonneg more (show (256 : Int) ≠ 0 by decide)
  have m1 := Int.emod_lt_of_pos more (show (0 : Int) < 256 by decide)
  generalize hm : more % 256 = m at *
  have hob := one_byte m ⟨m0, by omega⟩
  have hl2 := (⟨[], false⟩ : W8).num_len n size
  simp -dsimp only [↓vcA, vcB, vcD, ↓pureT_lenS, ↓iteT, ↓iteF, cond_true, cond_false, eq_self, argE, Env.get, Env.push, ev, evs, evo, retV, Value.cells, Value.oneCell', setR, overR, fillL, zl, places, allSizes, heldC, ne_eq, Int.reduceLE, Int.reduceLT, Int.reduceEq, Int.reduceNe, Int.reduceToNat, Int.cast_ofNat_Int, Nat.reduceMul, Nat.reduceLeDiff, reduceIte, Nat.reduceEqDiff, Nat.reduceAdd, ↓reduceIte, Try.vcT]
  refine callsK_use (num p v2 _ m 1 w2 h2 (by simp at hl2; omega) (by omega) (by omega)) ?_
  rintro _ w3 ⟨rfl, v3, h3, k3⟩
  have F3 := F2.wr k3 Hp U2
  rw [hob.2] at h3
  simp -dsimp only [↓vcA, vcB, vcD, ↓pureT_lenS, ↓iteT, ↓iteF, cond_true, cond_false, eq_self, argE, Env.get, Env.push, ev, evs, evo, retV, Value.cells, Value.oneCell', setR, overR, fillL, zl, places, allSizes, heldC, ne_eq, Int.reduceLE, Int.reduceLT, Int.reduceEq, Int.reduceNe, Int.reduceToNat, Int.cast_ofNat_Int, Nat.reduceMul, Nat.reduceLeDiff, reduceIte, Nat.reduceEqDiff, Nat.reduceAdd, ↓reduceIte, Try.vcT]
  refine callsK_use (bytes p v3 _ w3 h3 (by simp at hl2 ⊢; omega)) ?_
  rintro _ w4 ⟨v4, rfl, c4⟩
  have F4 := F3.nil c4.chg
  obtain ⟨a, c, rfl⟩ := owns_shape c4.own
  by_cases hg : fits n size = true
  case neg =>
    have hbad : (⟨[], false⟩ : W8).num n size = ⟨[], true⟩ := by simp [W8.num, hg]
    rw [hbad] at c4
    simp only [if_true] at c4
    have hcs : ¬ 1 ≤ size ∨ (1 ≤ size ∧ ¬ size ≤ 8) ∨ (1 ≤ size ∧ size ≤ 8 ∧ ¬ 0 ≤ n) ∨ (1 ≤ size ∧ size ≤ 8 ∧ 0 ≤ n ∧ size ≠ 8 ∧ ¬ n / 2 ^ (8 * size).toNat = 0) := by
      simp only [fits, decide_eq_true_eq] at hg
      omega
    rcases hcs with a1 | ⟨a1, a2⟩ | ⟨a1, a2, a3⟩ | ⟨a1, a2, a3, a4, a5⟩
    case' inl => simp -dsimp only [↓vcA, vcB, vcD, ↓pureT_lenS, ↓iteT, ↓iteF, cond_true, cond_false, eq_self, argE, Env.get, Env.push, ev, evs, evo, retV, Value.cells, Value.oneCell', setR, overR, fillL, zl, places, allSizes, heldC, ne_eq, Int.reduceLE, Int.reduceLT, Int.reduceEq, Int.reduceNe, Int.reduceToNat, Int.cast_ofNat_Int, Nat.reduceMul, Nat.reduceLeDiff, reduceIte, Nat.reduceEqDiff, Nat.reduceAdd, ↓reduceIte, Try.vcT, tupK_mk, hbad, decide_eq_false a1, if_true]
    case' inr.inl => simp -dsimp only [↓vcA, vcB, vcD, ↓pureT_lenS, ↓iteT, ↓iteF, cond_true, cond_false, eq_self, argE, Env.get, Env.push, ev, evs, evo, retV, Value.cells, Value.oneCell', setR, overR, fillL, zl, places, allSizes, heldC, ne_eq, Int.reduceLE, Int.reduceLT, Int.reduceEq, Int.reduceNe, Int.reduceToNat, Int.cast_ofNat_Int, Nat.reduceMul, Nat.reduceLeDiff, reduceIte, Nat.reduceEqDiff, Nat.reduceAdd, ↓reduceIte, Try.vcT, tupK_mk, hbad, decide_eq_true a1, decide_eq_false a2, if_true]
    case' inr.inr.inl => simp -dsimp only [↓vcA, vcB, vcD, ↓pureT_lenS, ↓iteT, ↓iteF, cond_true, cond_false, eq_self, argE, Env.get, Env.push, ev, evs, evo, retV, Value.cells, Value.oneCell', setR, overR, fillL, zl, places, allSizes, heldC, ne_eq, Int.reduceLE, Int.reduceLT, Int.reduceEq, Int.reduceNe, Int.reduceToNat, Int.cast_ofNat_Int, Nat.reduceMul, Nat.reduceLeDiff, reduceIte, Nat.reduceEqDiff, Nat.reduceAdd, ↓reduceIte, Try.vcT, tupK_mk, hbad, decide_eq_true a1, decide_eq_true a2, decide_eq_false a3, if_true]
    case' inr.inr.inr =>
      have e1 : IntKind.i64.wrap (8 * size) = 8 * size := i64w _ (by omega) (by omega)
      have e2 : min (8 * size).toNat IntKind.i64.bits = (8 * size).toNat := by simp [IntKind.bits]; omega
      simp -dsimp only [↓vcA, vcB, vcD, ↓pureT_lenS, ↓iteT, ↓iteF, cond_true, cond_false, eq_self, argE, Env.get, Env.push, ev, evs, evo, retV, Value.cells, Value.oneCell', setR, overR, fillL, zl, places, allSizes, heldC, ne_eq, Int.reduceLE, Int.reduceLT, Int.reduceEq, Int.reduceNe, Int.reduceToNat, Int.cast_ofNat_Int, Nat.reduceMul, Nat.reduceLeDiff, reduceIte, Nat.reduceEqDiff, Nat.reduceAdd, ↓reduceIte, Try.vcT, tupK_mk, hbad, decide_eq_true a1, decide_eq_true a2, decide_eq_true a3, decide_eq_false a4, e1, e2, decide_eq_false a5, if_true]
      refine ⟨by omega, ?_⟩
    all_goals
      refine callsK_use (awake18 w4) ?_
      rintro _ w5 ⟨rfl, c5⟩
      simp -dsimp only [↓vcA, vcB, vcD, ↓pureT_lenS, ↓iteT, ↓iteF, cond_true, cond_false, eq_self, argE, Env.get, Env.push, ev, evs, evo, retV, Value.cells, Value.oneCell', setR, overR, fillL, zl, places, allSizes, heldC, ne_eq, Int.reduceLE, Int.reduceLT, Int.reduceEq, Int.reduceNe, Int.reduceToNat, Int.cast_ofNat_Int, Nat.reduceMul, Nat.reduceLeDiff, reduceIte, Nat.reduceEqDiff, Nat.reduceAdd, ↓reduceIte, Try.vcT]
      exact (F4.nil c5).done
  case pos =>
    have hg' : 1 ≤ size ∧ size ≤ 8 ∧ 0 ≤ n ∧ (size < 8 → n / 2 ^ (8 * size).toNat = 0) := of_decide_eq_true hg
    obtain ⟨k, rfl⟩ := Int.eq_ofNat_of_zero_le (show 0 ≤ size by omega)
    obtain ⟨a1, a2, a3, a4⟩ := hg'
    have hfit : n / 2 ^ (8 * k) = 0 := by
      by_cases h8 : (k : Int) < 8
      · have := a4 h8
        rwa [show (8 * (k : Int)).toNat = 8 * k by omega] at this
      · have : k = 8 := by omega
        subst this
        exact Int.ediv_eq_zero_of_lt a3 (by have : (2 : Int) ^ (8 * 8) = 18446744073709551616 := by decide
                                            omega)
    have hgood : (⟨[], false⟩ : W8).num n k = ⟨be n k, false⟩ := by simp [W8.num, hg]
    rw [hgood] at c4
    simp only [Bool.false_eq_true, if_false] at c4
    have hlen : (be n k ++ [m]).length = k + 1 := by simp [be_length]
    have R4 := c4.own.rd
    obtain ⟨g, cap, cur, e2, hbk, hcap, hmax, hcur, htake⟩ := c4.own.form (by rw [hlen]; omega)
    have hga : a = some ⟨g, 0, none⟩ := by injection e2
    subst hga
    have hcell := R4.cell k (by rw [hlen]; omega)
    have hm1 : (be n k ++ [m]).getD k 0 = m := by simp [List.getD, be_length]
    rw [hm1, Nat.zero_add] at hcell
    have L4 : Holds [(g, k, .int .u8 m)] w4 := by simp [Holds_nil, Holds_cons, hcell]
    have Lt4 : ∀ j, (Value.slice (some ⟨g, 0, none⟩) (be n k ++ [m]).length c).ownBlock = some j → j < w4.heap.size := fun j hj => c4.own.lt hj
    by_cases h8 : (k : Int) = 8
    case' pos => simp -dsimp only [↓vcA, vcB, vcD, ↓pureT_lenS, ↓iteT, ↓iteF, cond_true, cond_false, eq_self, argE, Env.get, Env.push, ev, evs, evo, retV, Value.cells, Value.oneCell', setR, overR, fillL, zl, places, allSizes, heldC, ne_eq, Int.reduceLE, Int.reduceLT, Int.reduceEq, Int.reduceNe, Int.reduceToNat, Int.cast_ofNat_Int, Nat.reduceMul, Nat.reduceLeDiff, reduceIte, Nat.reduceEqDiff, Nat.reduceAdd, ↓reduceIte, Try.vcT, tupK_mk, hgood, decide_eq_true a1, decide_eq_true a2, decide_eq_true a3, decide_eq_true h8, if_false, Bool.false_eq_true]
    case' neg =>
      have e1 : IntKind.i64.wrap (8 * (k : Int)) = 8 * k := i64w _ (by omega) (by omega)
      have e2 : min (8 * (k : Int)).toNat IntKind.i64.bits = 8 * k := by simp [IntKind.bits]; omega
      have e3 : decide (n / 2 ^ (8 * k) = 0) = true := decide_eq_true hfit
      simp -dsimp only [↓vcA, vcB, vcD, ↓pureT_lenS, ↓iteT, ↓iteF, cond_true, cond_false, eq_self, argE, Env.get, Env.push, ev, evs, evo, retV, Value.cells, Value.oneCell', setR, overR, fillL, zl, places, allSizes, heldC, ne_eq, Int.reduceLE, Int.reduceLT, Int.reduceEq, Int.reduceNe, Int.reduceToNat, Int.cast_ofNat_Int, Nat.reduceMul, Nat.reduceLeDiff, reduceIte, Nat.reduceEqDiff, Nat.reduceAdd, ↓reduceIte, Try.vcT, tupK_mk, hgood, decide_eq_true a1, decide_eq_true a2, decide_eq_true a3, decide_eq_false h8, e1, e2, e3, if_false, Bool.false_eq_true]
      refine ⟨by omega, ?_⟩
    all_goals
      refine walkDraw (.q 0 (.q 1 (.q 2 (.q 3 (.q 4 (.q 5 (.q 6 (.q 7 (.q 8 (.q 9 (.q 10 (.q 11 (.q 12 (.q 15 (.h 13 0 (.q 14 (.l 16 (.q 17 (.q 18 .fin))))))))))))))))))) [(g, k, .int .u8 m)] (by kernel_rfl) L4 ?_
      intro w5 e5 c5
      have F5 := F4.nil c5
      have L5 := c5.holds L4
      have ek : IntKind.i64.wrap ((k : Int) + 1) = ((k + 1 : Nat) : Int) := by rw [i64w _ (by omega) (by omega)]; omega
      have eb : IntKind.i64.wrap m = m := i64w _ (by omega) (by omega)
      simp -dsimp only [↓vcA, vcB, vcD, ↓pureT_lenS, ↓iteT, ↓iteF, cond_true, cond_false, eq_self, argE, Env.get, Env.push, ev, evs, evo, retV, Value.cells, Value.oneCell', setR, overR, fillL, zl, places, allSizes, heldC, ne_eq, Int.reduceLE, Int.reduceLT, Int.reduceEq, Int.reduceNe, Int.reduceToNat, Int.cast_ofNat_Int, Nat.reduceMul, Nat.reduceLeDiff, reduceIte, Nat.reduceEqDiff, Nat.reduceAdd, ↓reduceIte, Try.vcT, hlen, ek]
      refine ⟨by omega, ?_⟩
      refine callsK_pure (round more 256 w5 (by decide) (by decide)) ?_
      have R5 := R4.chg c5 (fun _ _ => id)
      simp -dsimp only [↓vcA, vcB, vcD, ↓pureT_lenS, ↓iteT, ↓iteF, cond_true, cond_false, eq_self, argE, Env.get, Env.push, ev, evs, evo, retV, Value.cells, Value.oneCell', setR, overR, fillL, zl, places, allSizes, heldC, ne_eq, Int.reduceLE, Int.reduceLT, Int.reduceEq, Int.reduceNe, Int.reduceToNat, Int.cast_ofNat_Int, Nat.reduceMul, Nat.reduceLeDiff, reduceIte, Nat.reduceEqDiff, Nat.reduceAdd, ↓reduceIte, Try.vcT, L5, eb, hm]
      refine walkLoop [0, 1, 8] [12, 11] (fun q vs w' => w' = w5 ∧ ∃ i, i ≤ k ∧ q = k - i ∧ vs = [.int .i64 i, .int .i64 (((be n k).take i).foldl rstep 0)]) (by kernel_rfl) ?_ ?_
      · simp -dsimp only [↓vcA, vcB, vcD, ↓pureT_lenS, ↓iteT, ↓iteF, cond_true, cond_false, eq_self, argE, Env.get, Env.push, ev, evs, evo, retV, Value.cells, Value.oneCell', setR, overR, fillL, zl, places, allSizes, heldC, ne_eq, Int.reduceLE, Int.reduceLT, Int.reduceEq, Int.reduceNe, Int.reduceToNat, Int.cast_ofNat_Int, Nat.reduceMul, Nat.reduceLeDiff, reduceIte, Nat.reduceEqDiff, Nat.reduceAdd, ↓reduceIte, Try.vcT, gets]
        exact ⟨_, 0, Nat.zero_le _, rfl, by simp⟩
      · intro ks hk q vs w6 hi
        obtain ⟨rfl, i, hi, rfl, rfl⟩ := hi
        simp -dsimp only [gets, argE, List.zip_cons_cons, List.zip_nil_left, List.cons_append, List.nil_append, Env.get, Env.push, Option.bind_some, Option.map_some, Option.some.injEq, reduceIte, Nat.reduceEqDiff, Nat.reduceAdd, ↓reduceIte] at hk; subst hk
        simp -dsimp only [↓vcA, vcB, vcD, ↓pureT_lenS, ↓iteT, ↓iteF, cond_true, cond_false, eq_self, argE, Env.get, Env.push, ev, evs, evo, retV, Value.cells, Value.oneCell', setR, overR, fillL, zl, places, allSizes, heldC, ne_eq, Int.reduceLE, Int.reduceLT, Int.reduceEq, Int.reduceNe, Int.reduceToNat, Int.cast_ofNat_Int, Nat.reduceMul, Nat.reduceLeDiff, reduceIte, Nat.reduceEqDiff, Nat.reduceAdd, ↓reduceIte, Try.vcT, gets]
        refine ifK_dec (fun hlt => ?_) (fun hge => ?_)
        · have e : IntKind.i64.wrap ((i : Int) + 1) = ((i + 1 : Nat) : Int) := by rw [i64w _ (by omega) (by omega)]; omega
          have hci := R5.cell i (by rw [hlen]; omega)
          have hgi : (be n k ++ [m]).getD i 0 = (be n k).getD i 0 := by simp [List.getD, be_length, List.getElem?_append_left (show i < (be n k).length by rw [be_length]; omega)]
          rw [hgi, Nat.zero_add] at hci
          simp -dsimp only [↓vcA, vcB, vcD, ↓pureT_lenS, ↓iteT, ↓iteF, cond_true, cond_false, eq_self, argE, Env.get, Env.push, ev, evs, evo, retV, Value.cells, Value.oneCell', setR, overR, fillL, zl, places, allSizes, heldC, ne_eq, Int.reduceLE, Int.reduceLT, Int.reduceEq, Int.reduceNe, Int.reduceToNat, Int.cast_ofNat_Int, Nat.reduceMul, Nat.reduceLeDiff, reduceIte, Nat.reduceEqDiff, Nat.reduceAdd, ↓reduceIte, Try.vcT, gets]
          refine ⟨⟨by omega, by rw [hlen]; omega⟩, ?_⟩
          simp -dsimp only [↓vcA, vcB, vcD, ↓pureT_lenS, ↓iteT, ↓iteF, cond_true, cond_false, eq_self, argE, Env.get, Env.push, ev, evs, evo, retV, Value.cells, Value.oneCell', setR, overR, fillL, zl, places, allSizes, heldC, ne_eq, Int.reduceLE, Int.reduceLT, Int.reduceEq, Int.reduceNe, Int.reduceToNat, Int.cast_ofNat_Int, Nat.reduceMul, Nat.reduceLeDiff, reduceIte, Nat.reduceEqDiff, Nat.reduceAdd, ↓reduceIte, Try.vcT, gets, hci, e]
          refine ⟨_, ?_, i + 1, by omega, rfl, ?_⟩
          · omega
          · have hli : i < (be n k).length := by rw [be_length]; omega
            rw [List.take_succ_eq_append_getElem hli, List.foldl_append]
            simp [rstep, List.getD, hli]
        · have hik : i = k := by omega
          subst hik
          have hv : ((be n i).take i).foldl rstep 0 = n := by
            have := be_part n i a3 hn1 hfit i (Nat.le_refl _)
            rw [this]; simp
          simp -dsimp only [↓vcA, vcB, vcD, ↓pureT_lenS, ↓iteT, ↓iteF, cond_true, cond_false, eq_self, argE, Env.get, Env.push, ev, evs, evo, retV, Value.cells, Value.oneCell', setR, overR, fillL, zl, places, allSizes, heldC, ne_eq, Int.reduceLE, Int.reduceLT, Int.reduceEq, Int.reduceNe, Int.reduceToNat, Int.cast_ofNat_Int, Nat.reduceMul, Nat.reduceLeDiff, reduceIte, Nat.reduceEqDiff, Nat.reduceAdd, ↓reduceIte, Try.vcT, gets, hv]
          refine callsK_use (read _ _ w6 R5 (by rw [hlen]; omega)) ?_
          rintro _ w7 ⟨p7, v7, rfl, h7, c7, n7, u7⟩
          have F7 := F5.nil c7
          have H7 : w.heap.size ≤ p7 := Nat.le_trans F5.at n7
          simp -dsimp only [↓vcA, vcB, vcD, ↓pureT_lenS, ↓iteT, ↓iteF, cond_true, cond_false, eq_self, argE, Env.get, Env.push, ev, evs, evo, retV, Value.cells, Value.oneCell', setR, overR, fillL, zl, places, allSizes, heldC, ne_eq, Int.reduceLE, Int.reduceLT, Int.reduceEq, Int.reduceNe, Int.reduceToNat, Int.cast_ofNat_Int, Nat.reduceMul, Nat.reduceLeDiff, reduceIte, Nat.reduceEqDiff, Nat.reduceAdd, ↓reduceIte, Try.vcT]
          refine callsK_use (rnum p7 v7 _ i w7 h7 (by rw [hlen]; omega)) ?_
          rintro _ w8 ⟨rfl, v8, h8', c8, b8⟩
          have F8 := F7.one c8 H7
          by_cases h9 : (i : Int) = 8
          · have e1 : (R8.mk (be n i ++ [m]) false).numV i = 0 := by simp [R8.numV, R8.sz, R8.rawV, R8.no, h9, rval]
            have e2 : (R8.mk (be n i ++ [m]) false).numS i = ⟨be n i ++ [m], true⟩ := by simp [R8.numS, R8.sz, R8.rawS, R8.no, h9]
            rw [e2] at h8'
            simp -dsimp only [↓vcA, vcB, vcD, ↓pureT_lenS, ↓iteT, ↓iteF, cond_true, cond_false, eq_self, argE, Env.get, Env.push, ev, evs, evo, retV, Value.cells, Value.oneCell', setR, overR, fillL, zl, places, allSizes, heldC, ne_eq, Int.reduceLE, Int.reduceLT, Int.reduceEq, Int.reduceNe, Int.reduceToNat, Int.cast_ofNat_Int, Nat.reduceMul, Nat.reduceLeDiff, reduceIte, Nat.reduceEqDiff, Nat.reduceAdd, ↓reduceIte, Try.vcT, e1, decide_eq_true h9]
            refine callsK_pure (rdone p7 v8 _ w8 h8') ?_
            have e3 : (R8.mk (be n i ++ [m]) true).done = false := rfl
            simp -dsimp only [↓vcA, vcB, vcD, ↓pureT_lenS, ↓iteT, ↓iteF, cond_true, cond_false, eq_self, argE, Env.get, Env.push, ev, evs, evo, retV, Value.cells, Value.oneCell', setR, overR, fillL, zl, places, allSizes, heldC, ne_eq, Int.reduceLE, Int.reduceLT, Int.reduceEq, Int.reduceNe, Int.reduceToNat, Int.cast_ofNat_Int, Nat.reduceMul, Nat.reduceLeDiff, reduceIte, Nat.reduceEqDiff, Nat.reduceAdd, ↓reduceIte, Try.vcT, e3]
            refine callsK_pure (rleft p7 v8 _ w8 h8') ?_
            have e4 : (R8.mk (be n i ++ [m]) true).left = 0 := rfl
            simp -dsimp only [↓vcA, vcB, vcD, ↓pureT_lenS, ↓iteT, ↓iteF, cond_true, cond_false, eq_self, argE, Env.get, Env.push, ev, evs, evo, retV, Value.cells, Value.oneCell', setR, overR, fillL, zl, places, allSizes, heldC, ne_eq, Int.reduceLE, Int.reduceLT, Int.reduceEq, Int.reduceNe, Int.reduceToNat, Int.cast_ofNat_Int, Nat.reduceMul, Nat.reduceLeDiff, reduceIte, Nat.reduceEqDiff, Nat.reduceAdd, ↓reduceIte, Try.vcT, e4]
            refine callsK_use (awake18 w8) ?_
            rintro _ w9 ⟨rfl, c9⟩
            simp -dsimp only [↓vcA, vcB, vcD, ↓pureT_lenS, ↓iteT, ↓iteF, cond_true, cond_false, eq_self, argE, Env.get, Env.push, ev, evs, evo, retV, Value.cells, Value.oneCell', setR, overR, fillL, zl, places, allSizes, heldC, ne_eq, Int.reduceLE, Int.reduceLT, Int.reduceEq, Int.reduceNe, Int.reduceToNat, Int.cast_ofNat_Int, Nat.reduceMul, Nat.reduceLeDiff, reduceIte, Nat.reduceEqDiff, Nat.reduceAdd, ↓reduceIte, Try.vcT]
            exact (F8.nil c9).done
          · have hi7 : ¬ ((i : Int) < 1 ∨ 7 < (i : Int)) := by omega
            have hno : ¬ (R8.mk (be n i ++ [m]) false).no i := by simp [R8.no, be_length]; omega
            have ht : (be n i ++ [m]).take i = be n i := by rw [List.take_append_of_le_length (by rw [be_length]; exact Nat.le_refl _), List.take_of_length_le (by rw [be_length]; exact Nat.le_refl _)]
            have hd : (be n i ++ [m]).drop i = [m] := by
              have : i = (be n i).length := (be_length n i).symm
              conv => lhs; rw [show (be n i ++ [m]).drop i = (be n i ++ [m]).drop (be n i).length by rw [be_length]]
              simp
            have e1 : (R8.mk (be n i ++ [m]) false).numV i = n := by
              simp only [R8.numV, R8.sz, if_neg hi7, R8.rawV, if_neg hno, Int.toNat_natCast, ht]
              exact rval_be n i a3 hn1 hfit
            have e2 : (R8.mk (be n i ++ [m]) false).numS i = ⟨[m], false⟩ := by
              simp only [R8.numS, R8.sz, if_neg hi7, R8.rawS, if_neg hno, Int.toNat_natCast, hd]
            rw [e2] at h8'
            simp -dsimp only [↓vcA, vcB, vcD, ↓pureT_lenS, ↓iteT, ↓iteF, cond_true, cond_false, eq_self, argE, Env.get, Env.push, ev, evs, evo, retV, Value.cells, Value.oneCell', setR, overR, fillL, zl, places, allSizes, heldC, ne_eq, Int.reduceLE, Int.reduceLT, Int.reduceEq, Int.reduceNe, Int.reduceToNat, Int.cast_ofNat_Int, Nat.reduceMul, Nat.reduceLeDiff, reduceIte, Nat.reduceEqDiff, Nat.reduceAdd, ↓reduceIte, Try.vcT, e1, decide_eq_false h9]
            refine callsK_pure (rleft p7 v8 _ w8 h8') ?_
            have e4 : (R8.mk [m] false).left = 1 := rfl
            simp -dsimp only [↓vcA, vcB, vcD, ↓pureT_lenS, ↓iteT, ↓iteF, cond_true, cond_false, eq_self, argE, Env.get, Env.push, ev, evs, evo, retV, Value.cells, Value.oneCell', setR, overR, fillL, zl, places, allSizes, heldC, ne_eq, Int.reduceLE, Int.reduceLT, Int.reduceEq, Int.reduceNe, Int.reduceToNat, Int.cast_ofNat_Int, Nat.reduceMul, Nat.reduceLeDiff, reduceIte, Nat.reduceEqDiff, Nat.reduceAdd, ↓reduceIte, Try.vcT, e4]
            refine callsK_use (rnum p7 v8 _ 2 w8 h8' (by simp)) ?_
            rintro _ w9 ⟨rfl, v9, h9', c9, b9⟩
            have F9 := F8.one c9 H7
            have e5 : (R8.mk [m] false).numV 2 = 0 ∧ (R8.mk [m] false).numS 2 = ⟨[m], true⟩ := ⟨rfl, rfl⟩
            rw [e5.2] at h9'
            simp -dsimp only [↓vcA, vcB, vcD, ↓pureT_lenS, ↓iteT, ↓iteF, cond_true, cond_false, eq_self, argE, Env.get, Env.push, ev, evs, evo, retV, Value.cells, Value.oneCell', setR, overR, fillL, zl, places, allSizes, heldC, ne_eq, Int.reduceLE, Int.reduceLT, Int.reduceEq, Int.reduceNe, Int.reduceToNat, Int.cast_ofNat_Int, Nat.reduceMul, Nat.reduceLeDiff, reduceIte, Nat.reduceEqDiff, Nat.reduceAdd, ↓reduceIte, Try.vcT, e5.1]
            refine callsK_use (rnum p7 v9 _ 1 w9 h9' (by simp)) ?_
            rintro _ w10 ⟨rfl, v10, h10', c10, b10⟩
            have F10 := F9.one c10 H7
            have e6 : (R8.mk [m] true).numV 1 = 0 ∧ (R8.mk [m] true).numS 1 = ⟨[m], true⟩ := ⟨rfl, rfl⟩
            rw [e6.2] at h10'
            simp -dsimp only [↓vcA, vcB, vcD, ↓pureT_lenS, ↓iteT, ↓iteF, cond_true, cond_false, eq_self, argE, Env.get, Env.push, ev, evs, evo, retV, Value.cells, Value.oneCell', setR, overR, fillL, zl, places, allSizes, heldC, ne_eq, Int.reduceLE, Int.reduceLT, Int.reduceEq, Int.reduceNe, Int.reduceToNat, Int.cast_ofNat_Int, Nat.reduceMul, Nat.reduceLeDiff, reduceIte, Nat.reduceEqDiff, Nat.reduceAdd, ↓reduceIte, Try.vcT, e6.1]
            refine callsK_pure (rdone p7 v10 _ w10 h10') ?_
            have e3 : (R8.mk [m] true).done = false := rfl
            simp -dsimp only [↓vcA, vcB, vcD, ↓pureT_lenS, ↓iteT, ↓iteF, cond_true, cond_false, eq_self, argE, Env.get, Env.push, ev, evs, evo, retV, Value.cells, Value.oneCell', setR, overR, fillL, zl, places, allSizes, heldC, ne_eq, Int.reduceLE, Int.reduceLT, Int.reduceEq, Int.reduceNe, Int.reduceToNat, Int.cast_ofNat_Int, Nat.reduceMul, Nat.reduceLeDiff, reduceIte, Nat.reduceEqDiff, Nat.reduceAdd, ↓reduceIte, Try.vcT, e3]
            refine callsK_use (awake18 w10) ?_
            rintro _ w11 ⟨rfl, c11⟩
            simp -dsimp only [↓vcA, vcB, vcD, ↓pureT_lenS, ↓iteT, ↓iteF, cond_true, cond_false, eq_self, argE, Env.get, Env.push, ev, evs, evo, retV, Value.cells, Value.oneCell', setR, overR, fillL, zl, places, allSizes, heldC, ne_eq, Int.reduceLE, Int.reduceLT, Int.reduceEq, Int.reduceNe, Int.reduceToNat, Int.cast_ofNat_Int, Nat.reduceMul, Nat.reduceLeDiff, reduceIte, Nat.reduceEqDiff, Nat.reduceAdd, ↓reduceIte, Try.vcT]
            exact (F10.nil c11).done
end Go.Proofs.Ytnhgjgoglmadnaa
