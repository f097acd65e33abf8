/- The contracts of the reference's reader. -/
import Derived.Test.YtnhgjgoglmadnaaG4
namespace Go.Proofs.Ytnhgjgoglmadnaa
open Go.RowKit
set_option maxRecDepth 100000
set_option linter.unusedSimpArgs false
set_option linter.unusedVariables false
set_option pp.maxSteps 1500
set_option pp.deepTerms.threshold 8

theorem R8.num_no (s : R8) (n : Int) (h : s.bad = true ∨ n < 1 ∨ 7 < n ∨ (s.l.length : Int) < n) : s.numV n = 0 ∧ s.numS n = ⟨s.l, true⟩ := by
  have hl : (s.sz n).l = s.l := by unfold R8.sz; split <;> rfl
  have hno : (s.sz n).no n := by
    rcases h with h | h | h | h
    · left; unfold R8.sz; split <;> simp [h]
    · left; simp [R8.sz, h]
    · left; simp [R8.sz, h]
    · right; right; rw [hl]; exact h
  constructor
  · unfold R8.numV R8.rawV; rw [if_pos hno]; rfl
  · unfold R8.numS R8.rawS; rw [if_pos hno, hl]
theorem R8.num_yes (s : R8) (k : Nat) (hb : s.bad = false) (h1 : 1 ≤ k) (h7 : k ≤ 7) (hl : k ≤ s.l.length) : s.numV k = rval (s.l.take k) ∧ s.numS k = ⟨s.l.drop k, false⟩ := by
  have hz : s.sz k = s := by unfold R8.sz; rw [if_neg (by omega)]
  have hno : ¬ s.no k := by
    intro h
    rcases h with h | h | h
    · simp [hb] at h
    · omega
    · omega
  constructor
  · unfold R8.numV R8.rawV; rw [hz, if_neg hno]; simp
  · unfold R8.numS R8.rawS; rw [hz, if_neg hno, hb]; simp

theorem refRnum (p : Nat) (v : Value) (s : R8) (n : Int) (w : World) (hw : Rdr 85 w p v s) (hlen : s.l.length ≤ 10000000) :
    Calls Try.prog 52 [.pointer (some ⟨p, 0, none⟩), .int .i64 n].toArray w (RetK fun r w' => r = .int .i64 (s.numV n) ∧ RdQ 85 p w v (s.numS n) w') := by
  obtain ⟨a, c, rfl, e1, e2, e3, e4⟩ := hw.rd
  have hc1 := hw.c1
  refine walk Try.func52 rfl (by kernel_rfl) (by rw [Try.nt52]; simp) ?_
  have hcs : s.bad = true ∨ (s.bad = false ∧ n < 1) ∨ (s.bad = false ∧ ¬ n < 1 ∧ 7 < n) ∨ (s.bad = false ∧ ¬ n < 1 ∧ ¬ 7 < n ∧ (s.l.length : Int) < n) ∨ (s.bad = false ∧ ¬ n < 1 ∧ ¬ 7 < n ∧ ¬ (s.l.length : Int) < n) := by
    cases s.bad <;> simp <;> omega
  by_cases hno : s.bad = true ∨ n < 1 ∨ 7 < n ∨ (s.l.length : Int) < n
  case pos =>
    obtain ⟨f1, f2⟩ := s.num_no n hno
    rw [f1, f2]
    rcases hcs with h | ⟨h, a1⟩ | ⟨h, a1, a2⟩ | ⟨h, a1, a2, a3⟩ | ⟨h, a1, a2, a3⟩
    case' inl =>
      rw [h] at hc1
      simp -dsimp only [↓vcA, vcB, vcD, ↓pureT_lenS, ↓iteT, ↓iteF, cond_true, cond_false, eq_self, argE, Env.get, Env.push, ev, evs, evo, retV, Value.cells, Value.oneCell', setR, overR, fillL, zl, places, allSizes, heldC, ne_eq, Int.reduceLE, Int.reduceLT, Int.reduceEq, Int.reduceNe, Int.reduceToNat, Int.cast_ofNat_Int, Nat.reduceMul, Nat.reduceLeDiff, reduceIte, Nat.reduceEqDiff, Nat.reduceAdd, ↓reduceIte, Try.vcT, hc1, hw.bk]
    case' inr.inl =>
      rw [h] at hc1
      simp -dsimp only [↓vcA, vcB, vcD, ↓pureT_lenS, ↓iteT, ↓iteF, cond_true, cond_false, eq_self, argE, Env.get, Env.push, ev, evs, evo, retV, Value.cells, Value.oneCell', setR, overR, fillL, zl, places, allSizes, heldC, ne_eq, Int.reduceLE, Int.reduceLT, Int.reduceEq, Int.reduceNe, Int.reduceToNat, Int.cast_ofNat_Int, Nat.reduceMul, Nat.reduceLeDiff, reduceIte, Nat.reduceEqDiff, Nat.reduceAdd, ↓reduceIte, Try.vcT, hc1, decide_eq_true a1, hw.bk]
    case' inr.inr.inl =>
      rw [h] at hc1
      simp -dsimp only [↓vcA, vcB, vcD, ↓pureT_lenS, ↓iteT, ↓iteF, cond_true, cond_false, eq_self, argE, Env.get, Env.push, ev, evs, evo, retV, Value.cells, Value.oneCell', setR, overR, fillL, zl, places, allSizes, heldC, ne_eq, Int.reduceLE, Int.reduceLT, Int.reduceEq, Int.reduceNe, Int.reduceToNat, Int.cast_ofNat_Int, Nat.reduceMul, Nat.reduceLeDiff, reduceIte, Nat.reduceEqDiff, Nat.reduceAdd, ↓reduceIte, Try.vcT, hc1, decide_eq_false a1, decide_eq_true a2, hw.bk]
    case' inr.inr.inr.inl =>
      rw [h] at hc1
      simp -dsimp only [↓vcA, vcB, vcD, ↓pureT_lenS, ↓iteT, ↓iteF, cond_true, cond_false, eq_self, argE, Env.get, Env.push, ev, evs, evo, retV, Value.cells, Value.oneCell', setR, overR, fillL, zl, places, allSizes, heldC, ne_eq, Int.reduceLE, Int.reduceLT, Int.reduceEq, Int.reduceNe, Int.reduceToNat, Int.cast_ofNat_Int, Nat.reduceMul, Nat.reduceLeDiff, reduceIte, Nat.reduceEqDiff, Nat.reduceAdd, ↓reduceIte, Try.vcT, hc1, decide_eq_false a1, decide_eq_false a2, decide_eq_true a3, hw.c0, hw.bk]
    case' inr.inr.inr.inr =>
      exfalso
      rcases hno with h' | h' | h' | h'
      · rw [h] at h'; cases h'
      · omega
      · omega
      · omega
    all_goals
      intro w1 p1
      obtain ⟨q1, q2⟩ := hw.put (s' := ⟨s.l, true⟩) (Chg.refl _ _) p1 hw.rd (fun _ => id) (Nat.le_refl _)
      exact ⟨_, q1, q2, fun _ => id⟩
  case neg =>
    have hb : s.bad = false := by cases h : s.bad <;> simp [h] at hno ⊢
    have a1 : ¬ n < 1 := fun h => hno (.inr (.inl h))
    have a2 : ¬ 7 < n := fun h => hno (.inr (.inr (.inl h)))
    have a3 : ¬ (s.l.length : Int) < n := fun h => hno (.inr (.inr (.inr h)))
    obtain ⟨k, rfl⟩ := Int.eq_ofNat_of_zero_le (show 0 ≤ n by omega)
    obtain ⟨f1, f2⟩ := s.num_yes k hb (by omega) (by omega) (by omega)
    rw [f1, f2]
    rw [hb] at hc1
    simp -dsimp only [↓vcA, vcB, vcD, ↓pureT_lenS, ↓iteT, ↓iteF, cond_true, cond_false, eq_self, argE, Env.get, Env.push, ev, evs, evo, retV, Value.cells, Value.oneCell', setR, overR, fillL, zl, places, allSizes, heldC, ne_eq, Int.reduceLE, Int.reduceLT, Int.reduceEq, Int.reduceNe, Int.reduceToNat, Int.cast_ofNat_Int, Nat.reduceMul, Nat.reduceLeDiff, reduceIte, Nat.reduceEqDiff, Nat.reduceAdd, ↓reduceIte, Try.vcT, hc1, decide_eq_false a1, decide_eq_false a2, decide_eq_false a3, hw.c0]
    refine walkLoop [0, 1] [6, 5] (fun q vs w' => w' = w ∧ ∃ i, i ≤ k ∧ q = k - i ∧ vs = [.int .i64 i, .int .i64 ((s.l.take i).foldl rstep 0)]) (by kernel_rfl) ?_ ?_
    · simp -dsimp only [↓vcA, vcB, vcD, ↓pureT_lenS, ↓iteT, ↓iteF, cond_true, cond_false, eq_self, argE, Env.get, Env.push, ev, evs, evo, retV, Value.cells, Value.oneCell', setR, overR, fillL, zl, places, allSizes, heldC, ne_eq, Int.reduceLE, Int.reduceLT, Int.reduceEq, Int.reduceNe, Int.reduceToNat, Int.cast_ofNat_Int, Nat.reduceMul, Nat.reduceLeDiff, reduceIte, Nat.reduceEqDiff, Nat.reduceAdd, ↓reduceIte, Try.vcT, gets]
      exact ⟨_, 0, Nat.zero_le _, rfl, by simp⟩
    · intro ks hk q vs w3 hi
      obtain ⟨rfl, i, hi, rfl, rfl⟩ := hi
      simp -dsimp only [gets, argE, List.zip_cons_cons, List.zip_nil_left, List.cons_append, List.nil_append, Env.get, Env.push, Option.bind_some, Option.map_some, Option.some.injEq, reduceIte, Nat.reduceEqDiff, Nat.reduceAdd, ↓reduceIte] at hk; subst hk
      simp -dsimp only [↓vcA, vcB, vcD, ↓pureT_lenS, ↓iteT, ↓iteF, cond_true, cond_false, eq_self, argE, Env.get, Env.push, ev, evs, evo, retV, Value.cells, Value.oneCell', setR, overR, fillL, zl, places, allSizes, heldC, ne_eq, Int.reduceLE, Int.reduceLT, Int.reduceEq, Int.reduceNe, Int.reduceToNat, Int.cast_ofNat_Int, Nat.reduceMul, Nat.reduceLeDiff, reduceIte, Nat.reduceEqDiff, Nat.reduceAdd, ↓reduceIte, Try.vcT, gets]
      refine ifK_dec (fun hlt => ?_) (fun hge => ?_)
      · obtain ⟨b, o, rfl, hcl⟩ := e4 (by omega)
        have e : IntKind.i64.wrap ((i : Int) + 1) = ((i + 1 : Nat) : Int) := by rw [i64w _ (by omega) (by omega)]; omega
        simp -dsimp only [↓vcA, vcB, vcD, ↓pureT_lenS, ↓iteT, ↓iteF, cond_true, cond_false, eq_self, argE, Env.get, Env.push, ev, evs, evo, retV, Value.cells, Value.oneCell', setR, overR, fillL, zl, places, allSizes, heldC, ne_eq, Int.reduceLE, Int.reduceLT, Int.reduceEq, Int.reduceNe, Int.reduceToNat, Int.cast_ofNat_Int, Nat.reduceMul, Nat.reduceLeDiff, reduceIte, Nat.reduceEqDiff, Nat.reduceAdd, ↓reduceIte, Try.vcT, gets, hw.c0]
        refine ⟨⟨by omega, by omega⟩, ?_⟩
        simp -dsimp only [↓vcA, vcB, vcD, ↓pureT_lenS, ↓iteT, ↓iteF, cond_true, cond_false, eq_self, argE, Env.get, Env.push, ev, evs, evo, retV, Value.cells, Value.oneCell', setR, overR, fillL, zl, places, allSizes, heldC, ne_eq, Int.reduceLE, Int.reduceLT, Int.reduceEq, Int.reduceNe, Int.reduceToNat, Int.cast_ofNat_Int, Nat.reduceMul, Nat.reduceLeDiff, reduceIte, Nat.reduceEqDiff, Nat.reduceAdd, ↓reduceIte, Try.vcT, gets, hcl i (by omega), e]
        refine ⟨_, ?_, i + 1, by omega, rfl, ?_⟩
        · omega
        · have hli : i < s.l.length := by omega
          rw [List.take_succ_eq_append_getElem hli, List.foldl_append]
          simp [rstep, List.getD, hli]
      · have hik : i = k := by omega
        subst hik
        simp -dsimp only [↓vcA, vcB, vcD, ↓pureT_lenS, ↓iteT, ↓iteF, cond_true, cond_false, eq_self, argE, Env.get, Env.push, ev, evs, evo, retV, Value.cells, Value.oneCell', setR, overR, fillL, zl, places, allSizes, heldC, ne_eq, Int.reduceLE, Int.reduceLT, Int.reduceEq, Int.reduceNe, Int.reduceToNat, Int.cast_ofNat_Int, Nat.reduceMul, Nat.reduceLeDiff, reduceIte, Nat.reduceEqDiff, Nat.reduceAdd, ↓reduceIte, Try.vcT, gets, hw.c0]
        refine ⟨⟨by omega, by omega⟩, ?_⟩
        simp -dsimp only [↓vcA, vcB, vcD, ↓pureT_lenS, ↓iteT, ↓iteF, cond_true, cond_false, eq_self, argE, Env.get, Env.push, ev, evs, evo, retV, Value.cells, Value.oneCell', setR, overR, fillL, zl, places, allSizes, heldC, ne_eq, Int.reduceLE, Int.reduceLT, Int.reduceEq, Int.reduceNe, Int.reduceToNat, Int.cast_ofNat_Int, Nat.reduceMul, Nat.reduceLeDiff, reduceIte, Nat.reduceEqDiff, Nat.reduceAdd, ↓reduceIte, Try.vcT, gets, hw.bk]
        intro w4 p4
        have hcut := hw.rd.cut (l := i) (m := s.l.length) (by omega) (Nat.le_refl _)
        rw [List.take_of_length_le (Nat.le_refl _)] at hcut
        rw [hb] at p4
        obtain ⟨q1, q2⟩ := hw.put (s' := ⟨s.l.drop i, false⟩) (Chg.refl _ _) p4 hcut (fun k hk => cutA_block hk) (by simp)
        exact ⟨rfl, _, q1, q2, fun k hk => cutA_block hk⟩

theorem refRraw (p : Nat) (v : Value) (s : R8) (n : Int) (w : World) (hw : Rdr 85 w p v s) (hlen : s.l.length ≤ 10000000) :
    Calls Try.prog 55 [.pointer (some ⟨p, 0, none⟩), .int .i64 n].toArray w (RetK fun r w' => RdQ 85 p w v (s.rawS n) w' ∧ Own w' r (s.rawV n) ∧ ∀ k, r.ownBlock = some k → w.heap.size ≤ k) := by
  obtain ⟨a, c, rfl, e1, e2, e3, e4⟩ := hw.rd
  have hc1 := hw.c1
  refine walk Try.func55 rfl (by kernel_rfl) (by rw [Try.nt55]; simp) ?_
  have hcs : s.bad = true ∨ (s.bad = false ∧ n < 0) ∨ (s.bad = false ∧ ¬ n < 0 ∧ (s.l.length : Int) < n) ∨ (s.bad = false ∧ ¬ n < 0 ∧ ¬ (s.l.length : Int) < n) := by
    cases s.bad <;> simp <;> omega
  by_cases hno : s.no n
  case pos =>
    have f1 : s.rawV n = [] := by unfold R8.rawV; rw [if_pos hno]
    have f2 : s.rawS n = ⟨s.l, true⟩ := by unfold R8.rawS; rw [if_pos hno]
    rw [f1, f2]
    rcases hcs with h | ⟨h, a1⟩ | ⟨h, a1, a2⟩ | ⟨h, a1, a2⟩
    case' inl =>
      rw [h] at hc1
      simp -dsimp only [↓vcA, vcB, vcD, ↓pureT_lenS, ↓iteT, ↓iteF, cond_true, cond_false, eq_self, argE, Env.get, Env.push, ev, evs, evo, retV, Value.cells, Value.oneCell', setR, overR, fillL, zl, places, allSizes, heldC, ne_eq, Int.reduceLE, Int.reduceLT, Int.reduceEq, Int.reduceNe, Int.reduceToNat, Int.cast_ofNat_Int, Nat.reduceMul, Nat.reduceLeDiff, reduceIte, Nat.reduceEqDiff, Nat.reduceAdd, ↓reduceIte, Try.vcT, hc1, hw.bk]
    case' inr.inl =>
      rw [h] at hc1
      simp -dsimp only [↓vcA, vcB, vcD, ↓pureT_lenS, ↓iteT, ↓iteF, cond_true, cond_false, eq_self, argE, Env.get, Env.push, ev, evs, evo, retV, Value.cells, Value.oneCell', setR, overR, fillL, zl, places, allSizes, heldC, ne_eq, Int.reduceLE, Int.reduceLT, Int.reduceEq, Int.reduceNe, Int.reduceToNat, Int.cast_ofNat_Int, Nat.reduceMul, Nat.reduceLeDiff, reduceIte, Nat.reduceEqDiff, Nat.reduceAdd, ↓reduceIte, Try.vcT, hc1, decide_eq_true a1, hw.bk]
    case' inr.inr.inl =>
      rw [h] at hc1
      simp -dsimp only [↓vcA, vcB, vcD, ↓pureT_lenS, ↓iteT, ↓iteF, cond_true, cond_false, eq_self, argE, Env.get, Env.push, ev, evs, evo, retV, Value.cells, Value.oneCell', setR, overR, fillL, zl, places, allSizes, heldC, ne_eq, Int.reduceLE, Int.reduceLT, Int.reduceEq, Int.reduceNe, Int.reduceToNat, Int.cast_ofNat_Int, Nat.reduceMul, Nat.reduceLeDiff, reduceIte, Nat.reduceEqDiff, Nat.reduceAdd, ↓reduceIte, Try.vcT, hc1, decide_eq_false a1, decide_eq_true a2, hw.c0, hw.bk]
    case' inr.inr.inr =>
      exfalso
      rcases hno with h' | h' | h'
      · rw [h] at h'; cases h'
      · omega
      · omega
    all_goals
      intro w1 p1
      obtain ⟨q1, q2⟩ := hw.put (s' := ⟨s.l, true⟩) (Chg.refl _ _) p1 hw.rd (fun _ => id) (Nat.le_refl _)
      exact ⟨⟨_, q1, q2, fun _ => id⟩, Own.nil w1, fun k hk => by simp [Value.ownBlock] at hk⟩
  case neg =>
    have hb : s.bad = false := by
      cases h : s.bad with
      | false => rfl
      | true => exact absurd (.inl h) hno
    have a1 : ¬ n < 0 := fun h => hno (.inr (.inl h))
    have a2 : ¬ (s.l.length : Int) < n := fun h => hno (.inr (.inr h))
    obtain ⟨m, rfl⟩ := Int.eq_ofNat_of_zero_le (Int.not_lt.1 a1)
    have f1 : s.rawV m = s.l.take m := by unfold R8.rawV; rw [if_neg hno]; simp
    have f2 : s.rawS m = ⟨s.l.drop m, false⟩ := by unfold R8.rawS; rw [if_neg hno, hb]; simp
    rw [f1, f2]
    rw [hb] at hc1
    have hlt := lt_of_block hw.blk
    simp -dsimp only [↓vcA, vcB, vcD, ↓pureT_lenS, ↓iteT, ↓iteF, cond_true, cond_false, eq_self, argE, Env.get, Env.push, ev, evs, evo, retV, Value.cells, Value.oneCell', setR, overR, fillL, zl, places, allSizes, heldC, ne_eq, Int.reduceLE, Int.reduceLT, Int.reduceEq, Int.reduceNe, Int.reduceToNat, Int.cast_ofNat_Int, Nat.reduceMul, Nat.reduceLeDiff, reduceIte, Nat.reduceEqDiff, Nat.reduceAdd, ↓reduceIte, Try.vcT, hc1, decide_eq_false a1, decide_eq_false a2, hw.c0]
    intro w1 b1 n1
    have hw1 : Rdr 85 w1 p (.slice a s.l.length c) s := hw.chg n1.chg id (fun _ _ _ => id)
    simp -dsimp only [↓vcA, vcB, vcD, ↓pureT_lenS, ↓iteT, ↓iteF, cond_true, cond_false, eq_self, argE, Env.get, Env.push, ev, evs, evo, retV, Value.cells, Value.oneCell', setR, overR, fillL, zl, places, allSizes, heldC, ne_eq, Int.reduceLE, Int.reduceLT, Int.reduceEq, Int.reduceNe, Int.reduceToNat, Int.cast_ofNat_Int, Nat.reduceMul, Nat.reduceLeDiff, reduceIte, Nat.reduceEqDiff, Nat.reduceAdd, ↓reduceIte, Try.vcT, hw1.c0]
    refine ⟨⟨by omega, by omega⟩, ?_⟩
    have hcut := hw1.rd.cut (Nat.zero_le m) (show m ≤ s.l.length by omega)
    simp only [Nat.sub_zero, List.drop_zero] at hcut
    have ho : Own w1 (.slice (some ⟨b1, 0, none⟩) 0 0) [] := n1.owns (by simp) (by simp [maxLen])
    try simp -dsimp only [↓vcA, vcB, vcD, ↓pureT_lenS, ↓iteT, ↓iteF, cond_true, cond_false, eq_self, argE, Env.get, Env.push, ev, evs, evo, retV, Value.cells, Value.oneCell', setR, overR, fillL, zl, places, allSizes, heldC, ne_eq, Int.reduceLE, Int.reduceLT, Int.reduceEq, Int.reduceNe, Int.reduceToNat, Int.cast_ofNat_Int, Nat.reduceMul, Nat.reduceLeDiff, reduceIte, Nat.reduceEqDiff, Nat.reduceAdd, ↓reduceIte, Try.vcT, hw1.c0]
    refine app ho hcut (by simp; omega) ?_
    intro a2' c2' w2 o2 g2 at2
    simp only [List.nil_append, List.length_nil, Nat.zero_add] at o2 at2
    have q1 := n1.eq
    have q2 := n1.size
    have cg : Chg (fun k => k = b1) w1 w2 := (Chg.ofGrown g2).mono fun k hk => by simpa [Value.ownBlock, eq_comm] using hk
    have c02 : Chg (fun _ => False) w w2 := by
      have := n1.chg.trans (T := fun k => k = b1) cg fun x hx => .inr (by omega)
      exact this
    have hw2 : Rdr 85 w2 p (.slice a s.l.length c) s := hw.chg c02 id (fun _ _ _ => id)
    simp -dsimp only [↓vcA, vcB, vcD, ↓pureT_lenS, ↓iteT, ↓iteF, cond_true, cond_false, eq_self, argE, Env.get, Env.push, ev, evs, evo, retV, Value.cells, Value.oneCell', setR, overR, fillL, zl, places, allSizes, heldC, ne_eq, Int.reduceLE, Int.reduceLT, Int.reduceEq, Int.reduceNe, Int.reduceToNat, Int.cast_ofNat_Int, Nat.reduceMul, Nat.reduceLeDiff, reduceIte, Nat.reduceEqDiff, Nat.reduceAdd, ↓reduceIte, Try.vcT, List.length_nil, hw2.c0]
    refine ⟨⟨by omega, by omega⟩, ?_⟩
    simp -dsimp only [↓vcA, vcB, vcD, ↓pureT_lenS, ↓iteT, ↓iteF, cond_true, cond_false, eq_self, argE, Env.get, Env.push, ev, evs, evo, retV, Value.cells, Value.oneCell', setR, overR, fillL, zl, places, allSizes, heldC, ne_eq, Int.reduceLE, Int.reduceLT, Int.reduceEq, Int.reduceNe, Int.reduceToNat, Int.cast_ofNat_Int, Nat.reduceMul, Nat.reduceLeDiff, reduceIte, Nat.reduceEqDiff, Nat.reduceAdd, ↓reduceIte, Try.vcT, hw2.bk]
    intro w3 p3
    rw [hb] at p3
    have hcut2 := hw2.rd.cut (l := m) (m := s.l.length) (by omega) (Nat.le_refl _)
    rw [List.take_of_length_le (Nat.le_refl _)] at hcut2
    obtain ⟨r1, r2⟩ := hw2.put (s' := ⟨s.l.drop m, false⟩) (Chg.refl _ _) p3 hcut2 (fun k hk => cutA_block hk) (by simp)
    have hnew : ∀ k, (Value.slice a2' (s.l.take m).length c2').ownBlock = some k → w.heap.size ≤ k := fun k hk => by
      rcases at2 with e | e <;> rw [e] at hk <;> simp [Value.ownBlock] at hk <;> omega
    refine ⟨⟨_, r1, c02.seq r2, fun k hk => cutA_block hk⟩, ?_, hnew⟩
    exact o2.chg p3.chg fun k hk e => by have := hnew k hk; omega
end Go.Proofs.Ytnhgjgoglmadnaa
