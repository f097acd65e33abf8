/- Joined texts of this claim (part 14), printed by a program of this work. The last part holds the claimed theorem: the law answers true at every input of its row. -/
import Derived.Test.YtnhgjgoglmadnaaSP14m
namespace Go.Proofs.Ytnhgjgoglmadnaa
open Go.RowKit
set_option maxRecDepth 100000
set_option linter.unusedSimpArgs false
set_option linter.unusedVariables false
set_option pp.maxSteps 1500
set_option pp.deepTerms.threshold 8

theorem Sep.untwo (i : Nat) {w0 w : World} {S : Nat → Prop} {M : List Res} {r q : Res} (h : Sep w0 S M w) (hi : M[i]? = some (Go.Proofs.Ytnhgjgoglmadnaa.two r q)) : Sep w0 S (M.set i r ++ [q]) w := by
  obtain ⟨A, ⟨B, C, h1, h2, h3, rfl⟩, k⟩ := h.split i hi
  exact k r q B C h1 h2 (fun x hx => .inl hx) (fun x hx => ⟨.inr hx, fun hb => h3 x hb hx⟩) (fun x hx => .inl hx) (fun x hx => .inr hx)
theorem get1_k (q : Rq) (s : R8) (z : Int) (c : Nat) : get1 ({q with k := z}, s) c = ({(get1 (q, s) c).1 with k := z}, (get1 (q, s) c).2) := by
  unfold get1
  by_cases e0 : c = 112
  · subst e0; simp only [Nat.reduceEqDiff, reduceIte, ↓reduceIte]
  by_cases e1 : c = 113
  · subst e1; simp only [Nat.reduceEqDiff, reduceIte, ↓reduceIte]
  by_cases e2 : c = 116
  · subst e2; simp only [Nat.reduceEqDiff, reduceIte, ↓reduceIte]
  by_cases e3 : c = 101
  · subst e3; simp only [Nat.reduceEqDiff, reduceIte, ↓reduceIte]
  by_cases e4 : c = 99
  · subst e4; simp only [Nat.reduceEqDiff, reduceIte, ↓reduceIte]
  by_cases e5 : c = 108
  · subst e5; simp only [Nat.reduceEqDiff, reduceIte, ↓reduceIte]
  by_cases e6 : c = 111
  · subst e6; simp only [Nat.reduceEqDiff, reduceIte, ↓reduceIte]
  by_cases e7 : c = 114
  · subst e7; simp only [Nat.reduceEqDiff, reduceIte, ↓reduceIte]
  by_cases e8 : c = 102
  · subst e8; simp only [Nat.reduceEqDiff, reduceIte, ↓reduceIte]
  by_cases e9 : c = 109
  · subst e9; simp only [Nat.reduceEqDiff, reduceIte, ↓reduceIte]
  by_cases e10 : c = 105
  · subst e10; simp only [Nat.reduceEqDiff, reduceIte, ↓reduceIte]
  by_cases e11 : c = 110
  · subst e11; simp only [Nat.reduceEqDiff, reduceIte, ↓reduceIte]
  by_cases e12 : c = 104
  · subst e12; simp only [Nat.reduceEqDiff, reduceIte, ↓reduceIte]
  by_cases e13 : c = 98
  · subst e13; simp only [Nat.reduceEqDiff, reduceIte, ↓reduceIte]
  by_cases e14 : c = 117
  · subst e14; simp only [Nat.reduceEqDiff, reduceIte, ↓reduceIte]
  simp only [if_neg e0, if_neg e1, if_neg e2, if_neg e3, if_neg e4, if_neg e5, if_neg e6, if_neg e7, if_neg e8, if_neg e9, if_neg e10, if_neg e11, if_neg e12, if_neg e13, if_neg e14]
theorem fold_k (z : Int) : ∀ (l : List Nat) (q : Rq) (s : R8), l.foldl get1 ({q with k := z}, s) = ({(l.foldl get1 (q, s)).1 with k := z}, (l.foldl get1 (q, s)).2)
  | [], _, _ => rfl
  | c :: l, q, s => by
    simp only [List.foldl_cons, get1_k]
    exact fold_k z l _ _
theorem get1_ok {q : Rq} {s : R8} (hb : Byt s.l) (ho : Ok64 q.vals) (c : Nat) : Byt (get1 (q, s) c).2.l ∧ Ok64 (get1 (q, s) c).1.vals := by
  have n1 := num1_rng s hb
  have n2 := num2_rng s hb
  have n4 := num4_rng s hb
  have a1 := num3_rng s hb
  have b1 := numS_byt s 3 hb
  have a2 := num3_rng _ b1
  have b2 := numS_byt _ 3 b1
  have a3 := num3_rng _ b2
  have b3 := numS_byt _ 3 b2
  have a4 := num3_rng _ b3
  have b4 := numS_byt _ 3 b3
  have pr := ptV_rng s hb
  have tr := triV_rng s hb
  unfold T3.rng at tr
  simp only [Rq.vals, Ok64, List.forall_mem_cons, List.not_mem_nil, false_implies, implies_true, and_true] at ho ⊢
  unfold get1
  by_cases e0 : c = 112
  · subst e0; simp only [Nat.reduceEqDiff, reduceIte, ↓reduceIte]; exact ⟨ptS_byt s hb, by omega⟩
  by_cases e1 : c = 113
  · subst e1; simp only [Nat.reduceEqDiff, reduceIte, ↓reduceIte]; exact ⟨ptS_byt s hb, by omega⟩
  by_cases e2 : c = 116
  · subst e2; simp only [Nat.reduceEqDiff, reduceIte, ↓reduceIte]; exact ⟨triS_byt s hb, by omega⟩
  by_cases e3 : c = 101
  · subst e3; simp only [Nat.reduceEqDiff, reduceIte, ↓reduceIte]; exact ⟨numS_byt s 1 hb, by omega⟩
  by_cases e4 : c = 99
  · subst e4; simp only [Nat.reduceEqDiff, reduceIte, ↓reduceIte]; exact ⟨numS_byt s 1 hb, by omega⟩
  by_cases e5 : c = 108
  · subst e5; simp only [Nat.reduceEqDiff, reduceIte, ↓reduceIte]; exact ⟨numS_byt s 2 hb, by omega⟩
  by_cases e6 : c = 111
  · subst e6; simp only [Nat.reduceEqDiff, reduceIte, ↓reduceIte]; exact ⟨numS_byt s 2 hb, by omega⟩
  by_cases e7 : c = 114
  · subst e7; simp only [Nat.reduceEqDiff, reduceIte, ↓reduceIte]; exact ⟨b4, by omega⟩
  by_cases e8 : c = 102
  · subst e8; simp only [Nat.reduceEqDiff, reduceIte, ↓reduceIte]; exact ⟨numS_byt s 2 hb, by omega⟩
  by_cases e9 : c = 109
  · subst e9; simp only [Nat.reduceEqDiff, reduceIte, ↓reduceIte]; exact ⟨numS_byt s 1 hb, by omega⟩
  by_cases e10 : c = 105
  · subst e10; simp only [Nat.reduceEqDiff, reduceIte, ↓reduceIte]; exact ⟨numS_byt s 1 hb, by omega⟩
  by_cases e11 : c = 110
  · subst e11; simp only [Nat.reduceEqDiff, reduceIte, ↓reduceIte]; exact ⟨numS_byt s 1 hb, by omega⟩
  by_cases e12 : c = 104
  · subst e12; simp only [Nat.reduceEqDiff, reduceIte, ↓reduceIte]; exact ⟨numS_byt s 1 hb, by omega⟩
  by_cases e13 : c = 98
  · subst e13; simp only [Nat.reduceEqDiff, reduceIte, ↓reduceIte]; exact ⟨numS_byt s 1 hb, by omega⟩
  by_cases e14 : c = 117
  · subst e14; simp only [Nat.reduceEqDiff, reduceIte, ↓reduceIte]; exact ⟨numS_byt s 4 hb, by omega⟩
  simp only [if_neg e0, if_neg e1, if_neg e2, if_neg e3, if_neg e4, if_neg e5, if_neg e6, if_neg e7, if_neg e8, if_neg e9, if_neg e10, if_neg e11, if_neg e12, if_neg e13, if_neg e14]
  exact ⟨hb, ho⟩
theorem fold_ok : ∀ (l : List Nat) {q : Rq} {s : R8}, Byt s.l → Ok64 q.vals → Byt (l.foldl get1 (q, s)).2.l ∧ Ok64 (l.foldl get1 (q, s)).1.vals
  | [], _, _, hb, ho => ⟨hb, ho⟩
  | c :: l, q, s, hb, ho => by
    obtain ⟨h1, h2⟩ := get1_ok hb ho c
    exact fold_ok l h1 h2
theorem zero_ok : Ok64 Rq.zero.vals := by
  simp only [Rq.zero, Rq.vals, Ok64, List.forall_mem_cons, List.not_mem_nil, false_implies, implies_true, and_true]; omega
theorem askR_eq (s : R8) : askR s = ({askedV (s.numS 1) (s.numV 1) with k := s.numV 1}, askedS (s.numS 1) (s.numV 1)) := fold_k (s.numV 1) (formL (s.numV 1)) Rq.zero (s.numS 1)
set_option maxHeartbeats 4000000 in
theorem ask68 (v : Value) (b : List Int) (w : World) (hr : Rd w v b) (hb : Byt b) (hl : b.length ≤ 99000) :
    Calls Try.prog 68 [v].toArray w (RetK fun r w' => r = .tuple #[.agg (askRV b).cells.toArray, .int .i64 (if askROk b then 0 else 2)] ∧ Chg (fun _ => False) w w') := by
  have hr' := hr
  obtain ⟨a, cc, rfl, _⟩ := hr'
  have h := Sep.nil w
  refine walk Try.func68 rfl (by kernel_rfl) (by rw [Try.nt68]; simp) ?_
  (try simp only [nfD] at h); have F := h.facts; (try simp only [nfF, emp_fact, rds_fact, frm_fact, tab_fact, two_fact] at F)
  simp -dsimp only [↓vcA, vcB, vcD, ↓pureT_lenS, ↓iteT, ↓iteF, cond_true, cond_false, eq_self, argE, Env.get, Env.push, ev, evs, evo, retV, Value.cells, Value.oneCell', setR, overR, fillL, zl, places, allSizes, heldC, ne_eq, Int.reduceLE, Int.reduceLT, Int.reduceEq, Int.reduceNe, Int.reduceToNat, Int.cast_ofNat_Int, Nat.reduceMul, Nat.reduceLeDiff, reduceIte, Nat.reduceEqDiff, Nat.reduceAdd, ↓reduceIte, Try.vcT]
  refine h.new ?_
  clear h F
  intro w1 b1 h
  (try simp only [nfD] at h); have F := h.facts; (try simp only [nfF, emp_fact, rds_fact, frm_fact, tab_fact, two_fact] at F); try simp -dsimp only [↓vcA, vcB, vcD, ↓pureT_lenS, ↓iteT, ↓iteF, cond_true, cond_false, eq_self, argE, Env.get, Env.push, ev, evs, evo, retV, Value.cells, Value.oneCell', setR, overR, fillL, zl, places, allSizes, heldC, ne_eq, Int.reduceLE, Int.reduceLT, Int.reduceEq, Int.reduceNe, Int.reduceToNat, Int.cast_ofNat_Int, Nat.reduceMul, Nat.reduceLeDiff, reduceIte, Nat.reduceEqDiff, Nat.reduceAdd, ↓reduceIte, Try.vcT, F, h.cell0, gets, vsD, if_true, if_false, Bool.false_eq_true]
  refine Sep.read b h (hr.sep h fun _ _ => id) (by omega) ?_
  clear h F
  intro r w2 h
  (try simp only [nfD] at h); have F := h.facts; (try simp only [nfF, emp_fact, rds_fact, frm_fact, tab_fact, two_fact] at F); try simp -dsimp only [↓vcA, vcB, vcD, ↓pureT_lenS, ↓iteT, ↓iteF, cond_true, cond_false, eq_self, argE, Env.get, Env.push, ev, evs, evo, retV, Value.cells, Value.oneCell', setR, overR, fillL, zl, places, allSizes, heldC, ne_eq, Int.reduceLE, Int.reduceLT, Int.reduceEq, Int.reduceNe, Int.reduceToNat, Int.cast_ofNat_Int, Nat.reduceMul, Nat.reduceLeDiff, reduceIte, Nat.reduceEqDiff, Nat.reduceAdd, ↓reduceIte, Try.vcT, F, h.cell0, gets, vsD, if_true, if_false, Bool.false_eq_true]
  have hok0 : askROk b = ((form ((⟨b, false⟩ : R8).numV 1)).isSome && (askR ⟨b, false⟩).2.done) := rfl
  have hv0 : askRV b = if askROk b then (askR ⟨b, false⟩).1 else Rq.zero := rfl
  rw [askR_eq] at hok0 hv0
  generalize hS : (R8.mk b false) = S at *
  have hSb : Byt S.l := by rw [← hS]; exact hb
  have hz := num1_rng S hSb
  have ho := fold_ok (formL (S.numV 1)) (q := Rq.zero) (numS_byt S 1 hSb) zero_ok
  refine Sep.rdNum 1 h rfl ?_
  clear h F
  intro w3 h
  (try simp only [nfD] at h); have F := h.facts; (try simp only [nfF, emp_fact, rds_fact, frm_fact, tab_fact, two_fact] at F); try simp -dsimp only [↓vcA, vcB, vcD, ↓pureT_lenS, ↓iteT, ↓iteF, cond_true, cond_false, eq_self, argE, Env.get, Env.push, ev, evs, evo, retV, Value.cells, Value.oneCell', setR, overR, fillL, zl, places, allSizes, heldC, ne_eq, Int.reduceLE, Int.reduceLT, Int.reduceEq, Int.reduceNe, Int.reduceToNat, Int.cast_ofNat_Int, Nat.reduceMul, Nat.reduceLeDiff, reduceIte, Nat.reduceEqDiff, Nat.reduceAdd, ↓reduceIte, Try.vcT, F, h.cell0, gets, vsD, if_true, if_false, Bool.false_eq_true]
  refine asked127 h ?_
  clear h F
  intro w4 h
  have ho' : Byt (askedS (S.numS 1) (S.numV 1)).l ∧ Ok64 (askedV (S.numS 1) (S.numV 1)).vals := ho
  clear ho
  generalize askedS (S.numS 1) (S.numV 1) = t at *
  generalize askedV (S.numS 1) (S.numV 1) = q at *
  generalize S.numV 1 = z at *
  obtain ⟨hbt, ho⟩ := ho'
  have fin : ∀ {w' : World} {M : List Res}, askROk b = false → Sep w (fun _ => False) M w' → (Value.tuple #[.agg #[.int .i64 0, .int .i64 0, .int .i64 0, .int .i64 0, .int .i64 0, .int .i64 0, .int .i64 0, .int .i64 0, .int .i64 0, .int .i64 0, .int .i64 0, .int .i64 0, .int .i64 0, .int .i64 0, .int .i64 0, .int .i64 0, .int .i64 0, .int .i64 0, .int .i64 0, .int .i64 0, .int .i64 0, .int .i64 0, .int .i64 0, .int .i64 0, .int .i64 0, .int .i64 0], .int .i64 2] = .tuple #[.agg (askRV b).cells.toArray, .int .i64 (if askROk b then 0 else 2)]) ∧ Chg (fun _ => False) w w' := fun hf h => by
    refine ⟨?_, h.done⟩
    have e : askRV b = Rq.zero := by rw [hv0, hf]; rfl
    rw [e, hf]; rfl
  have yes : askROk b = true → askRV b = {q with k := z} := fun e => by rw [hv0, e]; rfl
  have ho2 : Ok64 ({q with k := z} : Rq).vals := by
    simp only [Rq.vals, Ok64, List.forall_mem_cons, List.not_mem_nil, false_implies, implies_true, and_true] at ho ⊢
    omega
  obtain ⟨z0, z1, z2, z3, z4, z5, z6, z7, z8, z9, z10, z11, z12, z13, z14, z15, z16, z17, z18, z19, z20, z21, z22, z23, z24, z25⟩ := q
  (try simp only [nfD] at h); have F := h.facts; (try simp only [nfF, emp_fact, rds_fact, frm_fact, tab_fact, two_fact] at F); try simp -dsimp only [↓vcA, vcB, vcD, ↓pureT_lenS, ↓iteT, ↓iteF, cond_true, cond_false, eq_self, argE, Env.get, Env.push, ev, evs, evo, retV, Value.cells, Value.oneCell', setR, overR, fillL, zl, places, allSizes, heldC, ne_eq, Int.reduceLE, Int.reduceLT, Int.reduceEq, Int.reduceNe, Int.reduceToNat, Int.cast_ofNat_Int, Nat.reduceMul, Nat.reduceLeDiff, reduceIte, Nat.reduceEqDiff, Nat.reduceAdd, ↓reduceIte, Try.vcT, F, h.cell0, gets, vsD, if_true, if_false, Bool.false_eq_true,  Rq.cells]
  refine h.new ?_
  clear h F
  intro w5 b6 h
  (try simp only [nfD] at h); have F := h.facts; (try simp only [nfF, emp_fact, rds_fact, frm_fact, tab_fact, two_fact] at F); try simp -dsimp only [↓vcA, vcB, vcD, ↓pureT_lenS, ↓iteT, ↓iteF, cond_true, cond_false, eq_self, argE, Env.get, Env.push, ev, evs, evo, retV, Value.cells, Value.oneCell', setR, overR, fillL, zl, places, allSizes, heldC, ne_eq, Int.reduceLE, Int.reduceLT, Int.reduceEq, Int.reduceNe, Int.reduceToNat, Int.cast_ofNat_Int, Nat.reduceMul, Nat.reduceLeDiff, reduceIte, Nat.reduceEqDiff, Nat.reduceAdd, ↓reduceIte, Try.vcT, F, h.cell0, gets, vsD, if_true, if_false, Bool.false_eq_true,  Rq.cells]
  refine Sep.put 2 h rfl ?_
  clear h F
  intro w6 h
  (try simp only [nfD] at h); have F := h.facts; (try simp only [nfF, emp_fact, rds_fact, frm_fact, tab_fact, two_fact] at F); try simp -dsimp only [↓vcA, vcB, vcD, ↓pureT_lenS, ↓iteT, ↓iteF, cond_true, cond_false, eq_self, argE, Env.get, Env.push, ev, evs, evo, retV, Value.cells, Value.oneCell', setR, overR, fillL, zl, places, allSizes, heldC, ne_eq, Int.reduceLE, Int.reduceLT, Int.reduceEq, Int.reduceNe, Int.reduceToNat, Int.cast_ofNat_Int, Nat.reduceMul, Nat.reduceLeDiff, reduceIte, Nat.reduceEqDiff, Nat.reduceAdd, ↓reduceIte, Try.vcT, F, h.cell0, gets, vsD, if_true, if_false, Bool.false_eq_true,  Rq.cells]
  refine Sep.put 2 h rfl ?_
  clear h F
  intro w7 h
  (try simp only [nfD] at h); have F := h.facts; (try simp only [nfF, emp_fact, rds_fact, frm_fact, tab_fact, two_fact] at F); try simp -dsimp only [↓vcA, vcB, vcD, ↓pureT_lenS, ↓iteT, ↓iteF, cond_true, cond_false, eq_self, argE, Env.get, Env.push, ev, evs, evo, retV, Value.cells, Value.oneCell', setR, overR, fillL, zl, places, allSizes, heldC, ne_eq, Int.reduceLE, Int.reduceLT, Int.reduceEq, Int.reduceNe, Int.reduceToNat, Int.cast_ofNat_Int, Nat.reduceMul, Nat.reduceLeDiff, reduceIte, Nat.reduceEqDiff, Nat.reduceAdd, ↓reduceIte, Try.vcT, F, h.cell0, gets, vsD, if_true, if_false, Bool.false_eq_true,  Rq.cells]
  refine Sep.rdDone 1 h rfl ?_
  cases hd : t.done with
  | false =>
    (try simp only [nfD] at h); have F := h.facts; (try simp only [nfF, emp_fact, rds_fact, frm_fact, tab_fact, two_fact] at F); try simp -dsimp only [↓vcA, vcB, vcD, ↓pureT_lenS, ↓iteT, ↓iteF, cond_true, cond_false, eq_self, argE, Env.get, Env.push, ev, evs, evo, retV, Value.cells, Value.oneCell', setR, overR, fillL, zl, places, allSizes, heldC, ne_eq, Int.reduceLE, Int.reduceLT, Int.reduceEq, Int.reduceNe, Int.reduceToNat, Int.cast_ofNat_Int, Nat.reduceMul, Nat.reduceLeDiff, reduceIte, Nat.reduceEqDiff, Nat.reduceAdd, ↓reduceIte, Try.vcT, F, h.cell0, gets, vsD, if_true, if_false, Bool.false_eq_true,  hd, Bool.not_true, Bool.not_false, if_false, Bool.false_eq_true]
    refine Sep.put 0 h rfl ?_
    clear h F
    intro w8 h
    (try simp only [nfD] at h); have F := h.facts; (try simp only [nfF, emp_fact, rds_fact, frm_fact, tab_fact, two_fact] at F); try simp -dsimp only [↓vcA, vcB, vcD, ↓pureT_lenS, ↓iteT, ↓iteF, cond_true, cond_false, eq_self, argE, Env.get, Env.push, ev, evs, evo, retV, Value.cells, Value.oneCell', setR, overR, fillL, zl, places, allSizes, heldC, ne_eq, Int.reduceLE, Int.reduceLT, Int.reduceEq, Int.reduceNe, Int.reduceToNat, Int.cast_ofNat_Int, Nat.reduceMul, Nat.reduceLeDiff, reduceIte, Nat.reduceEqDiff, Nat.reduceAdd, ↓reduceIte, Try.vcT, F, h.cell0, gets, vsD, if_true, if_false, Bool.false_eq_true,  cellsAt]
    exact fin (by rw [hok0, hd]; simp) h
  | true =>
  (try simp only [nfD] at h); have F := h.facts; (try simp only [nfF, emp_fact, rds_fact, frm_fact, tab_fact, two_fact] at F); try simp -dsimp only [↓vcA, vcB, vcD, ↓pureT_lenS, ↓iteT, ↓iteF, cond_true, cond_false, eq_self, argE, Env.get, Env.push, ev, evs, evo, retV, Value.cells, Value.oneCell', setR, overR, fillL, zl, places, allSizes, heldC, ne_eq, Int.reduceLE, Int.reduceLT, Int.reduceEq, Int.reduceNe, Int.reduceToNat, Int.cast_ofNat_Int, Nat.reduceMul, Nat.reduceLeDiff, reduceIte, Nat.reduceEqDiff, Nat.reduceAdd, ↓reduceIte, Try.vcT, F, h.cell0, gets, vsD, if_true, if_false, Bool.false_eq_true,  hd, Bool.not_true, Bool.not_false, if_true]
  refine h.new ?_
  clear h F
  intro w8 p h
  have h := h.wrNew 3 rfl (by decide)
  (try simp only [nfD] at h); have F := h.facts; (try simp only [nfF, emp_fact, rds_fact, frm_fact, tab_fact, two_fact] at F); try simp -dsimp only [↓vcA, vcB, vcD, ↓pureT_lenS, ↓iteT, ↓iteF, cond_true, cond_false, eq_self, argE, Env.get, Env.push, ev, evs, evo, retV, Value.cells, Value.oneCell', setR, overR, fillL, zl, places, allSizes, heldC, ne_eq, Int.reduceLE, Int.reduceLT, Int.reduceEq, Int.reduceNe, Int.reduceToNat, Int.cast_ofNat_Int, Nat.reduceMul, Nat.reduceLeDiff, reduceIte, Nat.reduceEqDiff, Nat.reduceAdd, ↓reduceIte, Try.vcT, F, h.cell0, gets, vsD, if_true, if_false, Bool.false_eq_true,  cellsAt]
  have h := ((h.two 0 1 rfl rfl).erase 1)
  (try simp only [nfD] at h); have F := h.facts; (try simp only [nfF, emp_fact, rds_fact, frm_fact, tab_fact, two_fact] at F)
  have h := ((h.two 0 1 rfl rfl).erase 1)
  (try simp only [nfD] at h); have F := h.facts; (try simp only [nfF, emp_fact, rds_fact, frm_fact, tab_fact, two_fact] at F)
  clear F
  refine asks125 (r := {k := z, px := z1, py := z2, qx := z3, qy := z4, ax := z5, ay := z6, bx := z7, by' := z8, cx := z9, cy := z10, e := z11, c := z12, l := z13, o := z14, x0 := z15, y0 := z16, x1 := z17, y1 := z18, f := z19, m := z20, i := z21, n := z22, h := z23, b := z24, u := z25}) h ho2 (by omega) ?_
  clear h
  try clear F
  intro w9 h
  have h := ((h.untwo 0 rfl).untwo 0 rfl)
  simp only [List.set_cons_zero, List.cons_append, List.nil_append] at h
  dsimp only
  cases hf : (form z).isSome with
  | false =>
    (try simp only [nfD] at h); have F := h.facts; (try simp only [nfF, emp_fact, rds_fact, frm_fact, tab_fact, two_fact] at F); try simp -dsimp only [↓vcA, vcB, vcD, ↓pureT_lenS, ↓iteT, ↓iteF, cond_true, cond_false, eq_self, argE, Env.get, Env.push, ev, evs, evo, retV, Value.cells, Value.oneCell', setR, overR, fillL, zl, places, allSizes, heldC, ne_eq, Int.reduceLE, Int.reduceLT, Int.reduceEq, Int.reduceNe, Int.reduceToNat, Int.cast_ofNat_Int, Nat.reduceMul, Nat.reduceLeDiff, reduceIte, Nat.reduceEqDiff, Nat.reduceAdd, ↓reduceIte, Try.vcT, F, h.cell0, gets, vsD, if_true, if_false, Bool.false_eq_true,  Bool.not_true, Bool.not_false]
    refine Sep.put 0 h rfl ?_
    clear h F
    intro w8 h
    (try simp only [nfD] at h); have F := h.facts; (try simp only [nfF, emp_fact, rds_fact, frm_fact, tab_fact, two_fact] at F); try simp -dsimp only [↓vcA, vcB, vcD, ↓pureT_lenS, ↓iteT, ↓iteF, cond_true, cond_false, eq_self, argE, Env.get, Env.push, ev, evs, evo, retV, Value.cells, Value.oneCell', setR, overR, fillL, zl, places, allSizes, heldC, ne_eq, Int.reduceLE, Int.reduceLT, Int.reduceEq, Int.reduceNe, Int.reduceToNat, Int.cast_ofNat_Int, Nat.reduceMul, Nat.reduceLeDiff, reduceIte, Nat.reduceEqDiff, Nat.reduceAdd, ↓reduceIte, Try.vcT, F, h.cell0, gets, vsD, if_true, if_false, Bool.false_eq_true,  cellsAt]
    exact fin (by rw [hok0, hf]; rfl) h
  | true =>
  have ok : askROk b = true := by rw [hok0, hf, hd]; rfl
  (try simp only [nfD] at h); have F := h.facts; (try simp only [nfF, emp_fact, rds_fact, frm_fact, tab_fact, two_fact] at F); try simp -dsimp only [↓vcA, vcB, vcD, ↓pureT_lenS, ↓iteT, ↓iteF, cond_true, cond_false, eq_self, argE, Env.get, Env.push, ev, evs, evo, retV, Value.cells, Value.oneCell', setR, overR, fillL, zl, places, allSizes, heldC, ne_eq, Int.reduceLE, Int.reduceLT, Int.reduceEq, Int.reduceNe, Int.reduceToNat, Int.cast_ofNat_Int, Nat.reduceMul, Nat.reduceLeDiff, reduceIte, Nat.reduceEqDiff, Nat.reduceAdd, ↓reduceIte, Try.vcT, F, h.cell0, gets, vsD, if_true, if_false, Bool.false_eq_true,  Bool.not_true, Bool.not_false, cellsAt]
  refine Sep.put 0 h rfl ?_
  clear h F
  intro w10 h
  (try simp only [nfD] at h); have F := h.facts; (try simp only [nfF, emp_fact, rds_fact, frm_fact, tab_fact, two_fact] at F); try simp -dsimp only [↓vcA, vcB, vcD, ↓pureT_lenS, ↓iteT, ↓iteF, cond_true, cond_false, eq_self, argE, Env.get, Env.push, ev, evs, evo, retV, Value.cells, Value.oneCell', setR, overR, fillL, zl, places, allSizes, heldC, ne_eq, Int.reduceLE, Int.reduceLT, Int.reduceEq, Int.reduceNe, Int.reduceToNat, Int.cast_ofNat_Int, Nat.reduceMul, Nat.reduceLeDiff, reduceIte, Nat.reduceEqDiff, Nat.reduceAdd, ↓reduceIte, Try.vcT, F, h.cell0, gets, vsD, if_true, if_false, Bool.false_eq_true,  cellsAt]
  refine ⟨?_, h.done⟩
  rw [yes ok, ok]; rfl

def rqP (r : Rq) : W8 := asksW ((⟨[], false⟩ : W8).num r.k 1) r
def rqPOk (r : Rq) : Bool := (form r.k).isSome && (!(rqP r).bad && askROk (rqP r).l)
def rqPB (r : Rq) : List Int := if rqPOk r then (rqP r).l else []
set_option maxHeartbeats 4000000 in
theorem request66 (r : Rq) (w : World) (hO : Ok64 r.vals) (hby : Byt (rqP r).l) :
    Calls Try.prog 66 [.agg r.cells.toArray].toArray w (RetK fun v w' => ∃ N, Sep w (fun _ => False) N w' ∧ (∀ q ∈ N, ∀ x, ¬ q.rd x) ∧
      ∃ a c, v = .tuple #[.slice a (rqPB r).length c, .int .i64 (if rqPOk r then 0 else 2)] ∧ N = [byt (.slice a (rqPB r).length c) (rqPB r)]) := by
  have fin : ∀ {w' : World} {M : List Res}, rqPOk r = false → Sep w (fun _ => False) M w' → ∃ N, Sep w (fun _ => False) N w' ∧ (∀ q ∈ N, ∀ x, ¬ q.rd x) ∧
      ∃ a c, Value.tuple #[.slice none 0 0, .int .i64 2] = .tuple #[.slice a (rqPB r).length c, .int .i64 (if rqPOk r then 0 else 2)] ∧ N = [byt (.slice a (rqPB r).length c) (rqPB r)] := fun hf h => by
    have e1 : rqPB r = [] := by simp [rqPB, hf]
    rw [e1, hf]
    exact ⟨_, h.none.bytNone, (fun q hq x hx => by simp at hq; subst hq; exact hx), none, 0, rfl, rfl⟩
  have hok : rqPOk r = ((form r.k).isSome && (!(rqP r).bad && askROk (rqP r).l)) := rfl
  have hB : rqPOk r = true → rqPB r = (rqP r).l := fun e => by simp [rqPB, e]
  have hk : -9223372036854775808 ≤ r.k ∧ r.k ≤ 9223372036854775807 := hO _ (by simp [Rq.vals])
  have h := Sep.nil w
  refine walk Try.func66 rfl (by kernel_rfl) (by rw [Try.nt66]; simp) ?_
  (try simp only [nfD] at h); have F := h.facts; (try simp only [nfF, emp_fact, rds_fact, frm_fact, tab_fact, two_fact] at F)
  simp -dsimp only [↓vcA, vcB, vcD, ↓pureT_lenS, ↓iteT, ↓iteF, cond_true, cond_false, eq_self, argE, Env.get, Env.push, ev, evs, evo, retV, Value.cells, Value.oneCell', setR, overR, fillL, zl, places, allSizes, heldC, ne_eq, Int.reduceLE, Int.reduceLT, Int.reduceEq, Int.reduceNe, Int.reduceToNat, Int.cast_ofNat_Int, Nat.reduceMul, Nat.reduceLeDiff, reduceIte, Nat.reduceEqDiff, Nat.reduceAdd, ↓reduceIte, Try.vcT, Rq.cells]
  refine h.new ?_
  clear h F
  intro w1 b1 h
  (try simp only [nfD] at h); have F := h.facts; (try simp only [nfF, emp_fact, rds_fact, frm_fact, tab_fact, two_fact] at F); try simp -dsimp only [↓vcA, vcB, vcD, ↓pureT_lenS, ↓iteT, ↓iteF, cond_true, cond_false, eq_self, argE, Env.get, Env.push, ev, evs, evo, retV, Value.cells, Value.oneCell', setR, overR, fillL, zl, places, allSizes, heldC, ne_eq, Int.reduceLE, Int.reduceLT, Int.reduceEq, Int.reduceNe, Int.reduceToNat, Int.cast_ofNat_Int, Nat.reduceMul, Nat.reduceLeDiff, reduceIte, Nat.reduceEqDiff, Nat.reduceAdd, ↓reduceIte, Try.vcT, F, h.cell0, gets, vsD, if_true, if_false, Bool.false_eq_true]
  refine h.new ?_
  clear h F
  intro w2 p h
  have h := h.wrNew 1 rfl (by decide)
  (try simp only [nfD] at h); have F := h.facts; (try simp only [nfF, emp_fact, rds_fact, frm_fact, tab_fact, two_fact] at F); try simp -dsimp only [↓vcA, vcB, vcD, ↓pureT_lenS, ↓iteT, ↓iteF, cond_true, cond_false, eq_self, argE, Env.get, Env.push, ev, evs, evo, retV, Value.cells, Value.oneCell', setR, overR, fillL, zl, places, allSizes, heldC, ne_eq, Int.reduceLE, Int.reduceLT, Int.reduceEq, Int.reduceNe, Int.reduceToNat, Int.cast_ofNat_Int, Nat.reduceMul, Nat.reduceLeDiff, reduceIte, Nat.reduceEqDiff, Nat.reduceAdd, ↓reduceIte, Try.vcT, F, h.cell0, gets, vsD, if_true, if_false, Bool.false_eq_true,  cellsAt]
  refine Sep.num 1 h rfl (by omega) hk.1 hk.2 ?_
  clear h F
  intro w3 h
  (try simp only [nfD] at h); have F := h.facts; (try simp only [nfF, emp_fact, rds_fact, frm_fact, tab_fact, two_fact] at F); try simp -dsimp only [↓vcA, vcB, vcD, ↓pureT_lenS, ↓iteT, ↓iteF, cond_true, cond_false, eq_self, argE, Env.get, Env.push, ev, evs, evo, retV, Value.cells, Value.oneCell', setR, overR, fillL, zl, places, allSizes, heldC, ne_eq, Int.reduceLE, Int.reduceLT, Int.reduceEq, Int.reduceNe, Int.reduceToNat, Int.cast_ofNat_Int, Nat.reduceMul, Nat.reduceLeDiff, reduceIte, Nat.reduceEqDiff, Nat.reduceAdd, ↓reduceIte, Try.vcT, F, h.cell0, gets, vsD, if_true, if_false, Bool.false_eq_true,  cellsAt]
  refine asks125 (r := r) h hO (by omega) ?_
  clear h F
  intro w4 h
  change Sep w _ [_, wr _ p (rqP r) _] _ at h
  cases hf : (form r.k).isSome with
  | false =>
    (try simp only [nfD] at h); have F := h.facts; (try simp only [nfF, emp_fact, rds_fact, frm_fact, tab_fact, two_fact] at F); try simp -dsimp only [↓vcA, vcB, vcD, ↓pureT_lenS, ↓iteT, ↓iteF, cond_true, cond_false, eq_self, argE, Env.get, Env.push, ev, evs, evo, retV, Value.cells, Value.oneCell', setR, overR, fillL, zl, places, allSizes, heldC, ne_eq, Int.reduceLE, Int.reduceLT, Int.reduceEq, Int.reduceNe, Int.reduceToNat, Int.cast_ofNat_Int, Nat.reduceMul, Nat.reduceLeDiff, reduceIte, Nat.reduceEqDiff, Nat.reduceAdd, ↓reduceIte, Try.vcT, F, h.cell0, gets, vsD, if_true, if_false, Bool.false_eq_true,  Bool.not_true, Bool.not_false]
    exact fin (by rw [hok, hf]; rfl) h
  | true =>
  (try simp only [nfD] at h); have F := h.facts; (try simp only [nfF, emp_fact, rds_fact, frm_fact, tab_fact, two_fact] at F); try simp -dsimp only [↓vcA, vcB, vcD, ↓pureT_lenS, ↓iteT, ↓iteF, cond_true, cond_false, eq_self, argE, Env.get, Env.push, ev, evs, evo, retV, Value.cells, Value.oneCell', setR, overR, fillL, zl, places, allSizes, heldC, ne_eq, Int.reduceLE, Int.reduceLT, Int.reduceEq, Int.reduceNe, Int.reduceToNat, Int.cast_ofNat_Int, Nat.reduceMul, Nat.reduceLeDiff, reduceIte, Nat.reduceEqDiff, Nat.reduceAdd, ↓reduceIte, Try.vcT, F, h.cell0, gets, vsD, if_true, if_false, Bool.false_eq_true,  Bool.not_true, Bool.not_false]
  have hlen : (rqP r).l.length ≤ 108 := by have := F.2.1; omega
  refine Sep.bytes 1 h rfl (by omega) ?_
  clear h F
  intro a c w5 h
  generalize hE : rqP r = E at *
  obtain ⟨El, Eb⟩ := E
  cases Eb with
  | true =>
    (try simp only [nfD] at h); have F := h.facts; (try simp only [nfF, emp_fact, rds_fact, frm_fact, tab_fact, two_fact] at F); try simp -dsimp only [↓vcA, vcB, vcD, ↓pureT_lenS, ↓iteT, ↓iteF, cond_true, cond_false, eq_self, argE, Env.get, Env.push, ev, evs, evo, retV, Value.cells, Value.oneCell', setR, overR, fillL, zl, places, allSizes, heldC, ne_eq, Int.reduceLE, Int.reduceLT, Int.reduceEq, Int.reduceNe, Int.reduceToNat, Int.cast_ofNat_Int, Nat.reduceMul, Nat.reduceLeDiff, reduceIte, Nat.reduceEqDiff, Nat.reduceAdd, ↓reduceIte, Try.vcT, F, h.cell0, gets, vsD, if_true, if_false, Bool.false_eq_true,  Bool.not_true, Bool.not_false, if_true]
    exact fin (by rw [hok, hf]; rfl) h
  | false =>
  dsimp only at h hby hlen hok
  simp only [Bool.false_eq_true, if_false] at h
  (try simp only [nfD] at h); have F := h.facts; (try simp only [nfF, emp_fact, rds_fact, frm_fact, tab_fact, two_fact] at F); try simp -dsimp only [↓vcA, vcB, vcD, ↓pureT_lenS, ↓iteT, ↓iteF, cond_true, cond_false, eq_self, argE, Env.get, Env.push, ev, evs, evo, retV, Value.cells, Value.oneCell', setR, overR, fillL, zl, places, allSizes, heldC, ne_eq, Int.reduceLE, Int.reduceLT, Int.reduceEq, Int.reduceNe, Int.reduceToNat, Int.cast_ofNat_Int, Nat.reduceMul, Nat.reduceLeDiff, reduceIte, Nat.reduceEqDiff, Nat.reduceAdd, ↓reduceIte, Try.vcT, F, h.cell0, gets, vsD, if_true, if_false, Bool.false_eq_true,  Bool.not_true, Bool.not_false, if_false, Bool.false_eq_true]
  refine Sep.callp h (ask68 _ El _ F.2.2.1 hby (by omega)) ?_
  clear h F
  intro w6 h
  (try simp only [nfD] at h); have F := h.facts; (try simp only [nfF, emp_fact, rds_fact, frm_fact, tab_fact, two_fact] at F); try simp -dsimp only [↓vcA, vcB, vcD, ↓pureT_lenS, ↓iteT, ↓iteF, cond_true, cond_false, eq_self, argE, Env.get, Env.push, ev, evs, evo, retV, Value.cells, Value.oneCell', setR, overR, fillL, zl, places, allSizes, heldC, ne_eq, Int.reduceLE, Int.reduceLT, Int.reduceEq, Int.reduceNe, Int.reduceToNat, Int.cast_ofNat_Int, Nat.reduceMul, Nat.reduceLeDiff, reduceIte, Nat.reduceEqDiff, Nat.reduceAdd, ↓reduceIte, Try.vcT, F, h.cell0, gets, vsD, if_true, if_false, Bool.false_eq_true,  Rq.cells]
  refine h.new ?_
  clear h F
  intro w7 b7 h
  (try simp only [nfD] at h); have F := h.facts; (try simp only [nfF, emp_fact, rds_fact, frm_fact, tab_fact, two_fact] at F); try simp -dsimp only [↓vcA, vcB, vcD, ↓pureT_lenS, ↓iteT, ↓iteF, cond_true, cond_false, eq_self, argE, Env.get, Env.push, ev, evs, evo, retV, Value.cells, Value.oneCell', setR, overR, fillL, zl, places, allSizes, heldC, ne_eq, Int.reduceLE, Int.reduceLT, Int.reduceEq, Int.reduceNe, Int.reduceToNat, Int.cast_ofNat_Int, Nat.reduceMul, Nat.reduceLeDiff, reduceIte, Nat.reduceEqDiff, Nat.reduceAdd, ↓reduceIte, Try.vcT, F, h.cell0, gets, vsD, if_true, if_false, Bool.false_eq_true,  Rq.cells]
  refine Sep.put 3 h rfl ?_
  clear h F
  intro w8 h
  cases ha : askROk El with
  | false =>
    (try simp only [nfD] at h); have F := h.facts; (try simp only [nfF, emp_fact, rds_fact, frm_fact, tab_fact, two_fact] at F); try simp -dsimp only [↓vcA, vcB, vcD, ↓pureT_lenS, ↓iteT, ↓iteF, cond_true, cond_false, eq_self, argE, Env.get, Env.push, ev, evs, evo, retV, Value.cells, Value.oneCell', setR, overR, fillL, zl, places, allSizes, heldC, ne_eq, Int.reduceLE, Int.reduceLT, Int.reduceEq, Int.reduceNe, Int.reduceToNat, Int.cast_ofNat_Int, Nat.reduceMul, Nat.reduceLeDiff, reduceIte, Nat.reduceEqDiff, Nat.reduceAdd, ↓reduceIte, Try.vcT, F, h.cell0, gets, vsD, if_true, if_false, Bool.false_eq_true,  ha, Bool.not_true, Bool.not_false, if_false, Bool.false_eq_true]
    exact fin (by rw [hok, ha]; simp) h
  | true =>
    have ok : rqPOk r = true := by rw [hok, hf, ha]; rfl
    (try simp only [nfD] at h); have F := h.facts; (try simp only [nfF, emp_fact, rds_fact, frm_fact, tab_fact, two_fact] at F); try simp -dsimp only [↓vcA, vcB, vcD, ↓pureT_lenS, ↓iteT, ↓iteF, cond_true, cond_false, eq_self, argE, Env.get, Env.push, ev, evs, evo, retV, Value.cells, Value.oneCell', setR, overR, fillL, zl, places, allSizes, heldC, ne_eq, Int.reduceLE, Int.reduceLT, Int.reduceEq, Int.reduceNe, Int.reduceToNat, Int.cast_ofNat_Int, Nat.reduceMul, Nat.reduceLeDiff, reduceIte, Nat.reduceEqDiff, Nat.reduceAdd, ↓reduceIte, Try.vcT, F, h.cell0, gets, vsD, if_true, if_false, Bool.false_eq_true,  ha, Bool.not_true, Bool.not_false, if_true]
    have e2 : rqPB r = El := by rw [hB ok]
    rw [e2, ok]
    exact ⟨_, ((h.erase 3).erase 0).erase 0, (fun q hq x hx => by simp at hq; subst hq; exact hx), _, _, rfl, rfl⟩
end Go.Proofs.Ytnhgjgoglmadnaa
namespace Go.Proofs.Ytnhgjgoglmadnaa
open Go.RowKit
set_option linter.unusedVariables false

theorem i64wrap (n : Int) : IntKind.i64.wrap n = (n + 9223372036854775808) % 18446744073709551616 - 9223372036854775808 := by
  simp only [IntKind.wrap, IntKind.signed, IntKind.bits]
  have e1 : (2 : Int) ^ 64 = 18446744073709551616 := by decide
  have e2 : (2 : Int) ^ (64 - 1) = 9223372036854775808 := by decide
  simp only [e1, e2]; first | omega | (simp; omega)
theorem wrap_back {a : Int} (h : -9223372036854775808 ≤ a ∧ a ≤ 9223372036854775807) : IntKind.i64.wrap (IntKind.i64.wrap (a + 1) - 1) = a := by
  rw [i64wrap, i64wrap]; omega

theorem Bk.and' {α β : Type} {s s' s'' : W8} {f : R8 → α} {f' : R8 → β} {g g' g'' : R8 → R8} {a : α} {b : β} (h : Bk s s' f g a) (h' : Bk s' s'' f' g' b) (hg : ∀ r, g'' r = g' (g r)) : Bk s s'' (fun r => (f r, f' (g r))) g'' (a, b) := by
  have e : g'' = fun r => g' (g r) := funext hg
  rw [e]; exact h.and h'
theorem Bk.map' {α β : Type} {s s' : W8} {f : R8 → α} {f' : R8 → β} {g : R8 → R8} {a : α} {b : β} (h : Bk s s' f g a) (p : α → β) (hf : ∀ r, f' r = p (f r)) (hb : b = p a) : Bk s s' f' g b := by
  have e : f' = fun r => p (f r) := funext hf
  rw [e, hb]; exact h.map p
theorem Fw.and' {g g' g'' : R8 → R8} {W W' W'' : R8 → W8 → W8} (h : Fw g W) (h' : Fw g' W') (hg : ∀ r, g'' r = g' (g r)) (hW : ∀ r s, W'' r s = W' (g r) (W r s)) : Fw g'' W'' := by
  have e : g'' = fun r => g' (g r) := funext hg
  have e' : W'' = fun r s => W' (g r) (W r s) := funext fun r => funext (hW r)
  rw [e, e']; exact h.and h'
theorem Bk.P (s : W8) {x : List Int} (hl : x.length = 2) : Bk s (wP s x) rP sP x := by
  match x, hl with
  | [a0, a1], _ =>
    exact (Bk.pt s).map fun p => [p.1, p.2]
theorem Bk.W (s : W8) {x : List Int} (hl : x.length = 5) : Bk s (wW s x) rW sW x := by
  match x, hl with
  | [a0, a1, a2, a3, a4], _ =>
    exact (((Bk.pt s).and (Bk.pt _)).and (Bk.n1 _)).map fun p => [p.1.1.1, p.1.1.2, p.1.2.1, p.1.2.2, p.2]
theorem Bk.Pa (s : W8) {x : List Int} (hl : x.length = 2) : Bk s (wPa s x) rPa sPa x := by
  match x, hl with
  | [a0, a1], _ =>
    exact ((Bk.n1 s).and (Bk.n1 _)).map fun p => [p.1, p.2]
theorem Bk.Re (s : W8) {x : List Int} (hl : x.length = 10) (hv : badRe x = false) : Bk s (wRe s x) rRe sRe x := by
  match x, hl with
  | [a0, a1, a2, a3, a4, a5, a6, a7, a8, a9], _ =>
    have hv' : T3.valid ⟨a4, a5, a6, a7, a8, a9⟩ = true := by simpa [badRe] using hv
    exact (((((Bk.n1 s).and (Bk.n2 _)).and (Bk.n1 _)).and (Bk.n1 _)).and (Bk.tri _ hv')).map fun p => [p.1.1.1.1, p.1.1.1.2, p.1.1.2, p.1.2, p.2.ax, p.2.ay, p.2.bx, p.2.by', p.2.cx, p.2.cy]
theorem Bk.Ca (s : W8) {x : List Int} (hl : x.length = 9) (ho : Ok64 x) : Bk s (wCa s x) rCa sCa x := by
  match x, hl with
  | [a0, a1, a2, a3, a4, a5, a6, a7, a8], _ =>
    simp only [Ok64, List.forall_mem_cons, List.not_mem_nil, false_implies, implies_true, and_true] at ho
    obtain ⟨h0, h1, h2, h3, h4, h5, h6, h7, h8⟩ := ho
    have k := (((((((((Bk.n1 s (n := a0)).and (Bk.n1 _ (n := a1))).and (Bk.n1 _ (n := a2))).and (Bk.n1 _ (n := a3))).and (Bk.n2 _ (n := a4))).and (Bk.n1 _ (n := a5))).and (Bk.n4 _ (n := a6))).and (Bk.n2 _ (n := IntKind.i64.wrap (a7 + 1)))).and (Bk.n1 _ (n := a8))).map fun p => [p.1.1.1.1.1.1.1.1, p.1.1.1.1.1.1.1.2, p.1.1.1.1.1.1.2, p.1.1.1.1.1.2, p.1.1.1.1.2, p.1.1.1.2, p.1.1.2, IntKind.i64.wrap (p.1.2 - 1), p.2]
    dsimp only at k
    rw [wrap_back h7] at k
    exact k
theorem Bk.Is (s : W8) {x : List Int} (hl : x.length = 3) : Bk s (wIs s x) rIs sIs x := by
  match x, hl with
  | [a0, a1, a2], _ =>
    exact (((Bk.n1 s).and (Bk.n1 _)).and (Bk.n1 _)).map fun p => [p.1.1, p.1.2, p.2]
theorem Bk.Co (s : W8) {x : List Int} (hl : x.length = 3) : Bk s (wCo s x) rCo sCo x := by
  match x, hl with
  | [a0, a1, a2], _ =>
    exact (((Bk.n1 s).and (Bk.n2 _)).and (Bk.n2 _)).map fun p => [p.1.1, p.1.2, p.2]
theorem bit_one (d : Bool) : decide (bit d = 1) = d := by cases d <;> rfl
theorem bit_le (d : Bool) : bit d ≤ 1 := by cases d <;> decide
theorem Bk.chn (s : W8) {c : Ch} : Bk s (wCh s c) rCh sCh c := by
  have k := (((Bk.n1 s (n := c.t)).and (Bk.n1 _ (n := bit c.d))).and (Bk.len _ c.b)).map fun p => Ch.mk p.1.1 (decide (p.1.2 = 1)) p.2
  dsimp only at k
  rw [bit_one] at k
  exact k
theorem Bk.chnB (s : W8) {c : Ch} : Bk s (wCh s c) rChB sChB c := fun hb => by
  obtain ⟨b1, u1, e1, p1, r1⟩ := Bk.len (((s.num c.t 1).num (bit c.d) 1)) c.b hb
  obtain ⟨b0, u0, e0, p0, r0⟩ := ((Bk.n1 s (n := c.t)).and (Bk.n1 _ (n := bit c.d))) b1
  refine ⟨b0, u0 ++ u1, ?_, by simp; omega, fun rest => ?_⟩
  · rw [show (wCh s c).l = _ from e1, e0, List.append_assoc]
  obtain ⟨q1, q2⟩ := r0 (u1 ++ rest)
  obtain ⟨q3, q4⟩ := r1 rest
  simp only [Prod.mk.injEq] at q1
  have em : chMark ⟨u0 ++ (u1 ++ rest), false⟩ = ⟨u1 ++ rest, false⟩ := by
    unfold chMark
    rw [if_neg (by rw [q1.2]; have := bit_le c.d; omega)]
    exact q2
  rw [List.append_assoc]
  unfold rChB sChB
  rw [em, q1.1, q1.2, bit_one]
  dsimp only at q3 q4
  exact ⟨by rw [q3], q4⟩

structure MapV.Wid (m : MapV) : Prop where
  p : ∀ x ∈ m.p, x.length = 2
  wa : ∀ x ∈ m.wa, x.length = 5
  pa : ∀ x ∈ m.pa, x.length = 2
  re : ∀ x ∈ m.re, x.length = 10
  ca : ∀ x ∈ m.ca, x.length = 9
  is : ∀ x ∈ m.is, x.length = 3
  co : ∀ x ∈ m.co, x.length = 3
theorem MapR.wid {w : World} {m : MapV} {s : MapS} (R : MapR w m s) : m.Wid := ⟨R.p.wid, R.wa.wid, R.pa.wid, R.re.wid, R.ca.wid, R.is.wid, R.co.wid⟩
section
variable {m : MapV} (O : ∀ x ∈ m.ca, Ok64 x) (D : m.Wid) (hv : m.re.any badRe = false)
include O D hv
theorem enc_bk : Bk ⟨[], false⟩ m.enc dV dE m := by
  have n0 := (((((((Bk.n3 ⟨[], false⟩ (n := m.w)).and (Bk.n3 _ (n := m.h))).and (Bk.n1 _ (n := m.te))).and (Bk.n2 _ (n := m.wi))).and (Bk.n2 _ (n := m.mr))).and (Bk.n2 _ (n := m.mb))).and' (Bk.n4 _ (n := m.ti)) (g'' := dN) (fun r => by rw [dN]))
  have k1 := Bk.list (f := rP) (g := sP) m.p m.nums (fun x hx s => Bk.P s (D.p x hx) )
  have k2 := Bk.list (f := rW) (g := sW) m.wa (encL wP m.nums m.p) (fun x hx s => Bk.W s (D.wa x hx) )
  have k3 := Bk.list (f := rPa) (g := sPa) m.pa (encL wW (encL wP m.nums m.p) m.wa) (fun x hx s => Bk.Pa s (D.pa x hx) )
  have k4 := Bk.list (f := rRe) (g := sRe) m.re (encL wPa (encL wW (encL wP m.nums m.p) m.wa) m.pa) (fun x hx s => Bk.Re s (D.re x hx)  (by simpa using fun h => List.any_eq_false.1 hv x hx h))
  have k5 := Bk.list (f := rCa) (g := sCa) m.ca (encL wRe (encL wPa (encL wW (encL wP m.nums m.p) m.wa) m.pa) m.re) (fun x hx s => Bk.Ca s (D.ca x hx) (O x hx))
  have k6 := Bk.list (f := rIs) (g := sIs) m.is (encL wCa (encL wRe (encL wPa (encL wW (encL wP m.nums m.p) m.wa) m.pa) m.re) m.ca) (fun x hx s => Bk.Is s (D.is x hx) )
  have k7 := Bk.list (f := rCo) (g := sCo) m.co (encL wIs (encL wCa (encL wRe (encL wPa (encL wW (encL wP m.nums m.p) m.wa) m.pa) m.re) m.ca) m.is) (fun x hx s => Bk.Co s (D.co x hx) )
  have k8 := Bk.list (f := rCh) (g := sCh) m.ch (encL wCo (encL wIs (encL wCa (encL wRe (encL wPa (encL wW (encL wP m.nums m.p) m.wa) m.pa) m.re) m.ca) m.is) m.co) (fun x hx s => Bk.chn s)
  have c1 := n0.and' k1 (g'' := d1) (fun r => by rw [d1])
  have c2 := c1.and' k2 (g'' := d2) (fun r => by rw [d2])
  have c3 := c2.and' k3 (g'' := d3) (fun r => by rw [d3])
  have c4 := c3.and' k4 (g'' := d4) (fun r => by rw [d4])
  have c5 := c4.and' k5 (g'' := d5) (fun r => by rw [d5])
  have c6 := c5.and' k6 (g'' := d6) (fun r => by rw [d6])
  have c7 := c6.and' k7 (g'' := d7) (fun r => by rw [d7])
  have c8 := c7.and' k8 (g'' := dE) (fun r => by rw [dE])
  exact c8.map' (fun p => MapV.mk p.1.1.1.1.1.1.1.1.1.1.1.1.1.1 p.1.1.1.1.1.1.1.1.1.1.1.1.1.2 p.1.1.1.1.1.1.1.1.1.1.1.1.2 p.1.1.1.1.1.1.1.1.1.1.1.2 p.1.1.1.1.1.1.1.1.1.1.2 p.1.1.1.1.1.1.1.1.1.2 p.1.1.1.1.1.1.1.1.2 p.1.1.1.1.1.1.1.2 p.1.1.1.1.1.1.2 p.1.1.1.1.1.2 p.1.1.1.1.2 p.1.1.1.2 p.1.1.2 p.1.2 p.2) (fun r => by rw [dV]) rfl
theorem enc_bkB : Bk ⟨[], false⟩ m.enc eV eE m := by
  have n0 := (((((((Bk.n3 ⟨[], false⟩ (n := m.w)).and (Bk.n3 _ (n := m.h))).and (Bk.n1 _ (n := m.te))).and (Bk.n2 _ (n := m.wi))).and (Bk.n2 _ (n := m.mr))).and (Bk.n2 _ (n := m.mb))).and' (Bk.n4 _ (n := m.ti)) (g'' := dN) (fun r => by rw [dN]))
  have k1 := Bk.listB (f := rP) (g := sP) m.p m.nums (fun x hx s => Bk.P s (D.p x hx) )
  have k2 := Bk.listB (f := rW) (g := sW) m.wa (encL wP m.nums m.p) (fun x hx s => Bk.W s (D.wa x hx) )
  have k3 := Bk.listB (f := rPa) (g := sPa) m.pa (encL wW (encL wP m.nums m.p) m.wa) (fun x hx s => Bk.Pa s (D.pa x hx) )
  have k4 := Bk.listB (f := rRe) (g := sRe) m.re (encL wPa (encL wW (encL wP m.nums m.p) m.wa) m.pa) (fun x hx s => Bk.Re s (D.re x hx)  (by simpa using fun h => List.any_eq_false.1 hv x hx h))
  have k5 := Bk.listB (f := rCa) (g := sCa) m.ca (encL wRe (encL wPa (encL wW (encL wP m.nums m.p) m.wa) m.pa) m.re) (fun x hx s => Bk.Ca s (D.ca x hx) (O x hx))
  have k6 := Bk.listB (f := rIs) (g := sIs) m.is (encL wCa (encL wRe (encL wPa (encL wW (encL wP m.nums m.p) m.wa) m.pa) m.re) m.ca) (fun x hx s => Bk.Is s (D.is x hx) )
  have k7 := Bk.listB (f := rCo) (g := sCo) m.co (encL wIs (encL wCa (encL wRe (encL wPa (encL wW (encL wP m.nums m.p) m.wa) m.pa) m.re) m.ca) m.is) (fun x hx s => Bk.Co s (D.co x hx) )
  have k8 := Bk.listB (f := rChB) (g := sChB) m.ch (encL wCo (encL wIs (encL wCa (encL wRe (encL wPa (encL wW (encL wP m.nums m.p) m.wa) m.pa) m.re) m.ca) m.is) m.co) (fun x hx s => Bk.chnB s)
  have c1 := n0.and' k1 (g'' := e1) (fun r => by rw [e1])
  have c2 := c1.and' k2 (g'' := e2) (fun r => by rw [e2])
  have c3 := c2.and' k3 (g'' := e3) (fun r => by rw [e3])
  have c4 := c3.and' k4 (g'' := e4) (fun r => by rw [e4])
  have c5 := c4.and' k5 (g'' := e5) (fun r => by rw [e5])
  have c6 := c5.and' k6 (g'' := e6) (fun r => by rw [e6])
  have c7 := c6.and' k7 (g'' := e7) (fun r => by rw [e7])
  have c8 := c7.and' k8 (g'' := eE) (fun r => by rw [eE])
  exact c8.map' (fun p => MapV.mk p.1.1.1.1.1.1.1.1.1.1.1.1.1.1 p.1.1.1.1.1.1.1.1.1.1.1.1.1.2 p.1.1.1.1.1.1.1.1.1.1.1.1.2 p.1.1.1.1.1.1.1.1.1.1.1.2 p.1.1.1.1.1.1.1.1.1.1.2 p.1.1.1.1.1.1.1.1.1.2 p.1.1.1.1.1.1.1.1.2 p.1.1.1.1.1.1.1.2 p.1.1.1.1.1.1.2 p.1.1.1.1.1.2 p.1.1.1.1.2 p.1.1.1.2 p.1.1.2 p.1.2 p.2) (fun r => by rw [eV]) rfl
end

theorem Fw.P : Fw sP (fun r s => wP s (rP r)) := Fw.pt
theorem Fw.W : Fw sW (fun r s => wW s (rW r)) := (Fw.pt.and Fw.pt).and Fw.n1
theorem Fw.Pa : Fw sPa (fun r s => wPa s (rPa r)) := Fw.n1.and Fw.n1
theorem Fw.Re : Fw sRe (fun r s => wRe s (rRe r)) := (((Fw.n1.and Fw.n2).and Fw.n1).and Fw.n1).and Fw.tri
theorem Fw.Is : Fw sIs (fun r s => wIs s (rIs r)) := (Fw.n1.and Fw.n1).and Fw.n1
theorem Fw.Co : Fw sCo (fun r s => wCo s (rCo r)) := (Fw.n1.and Fw.n2).and Fw.n2
theorem Fw.Ca : Fw sCa (fun r s => wCa s (rCa r)) := fun r hb => by
  have k := ((((((((Fw.n1.and Fw.n1).and Fw.n1).and Fw.n1).and Fw.n2).and Fw.n1).and Fw.n4).and Fw.n2).and Fw.n1) r hb
  refine ⟨k.1, fun hg => ?_⟩
  obtain ⟨c, u, e, w⟩ := k.2 hg
  refine ⟨c, u, e, fun s => ?_⟩
  have b6 := numS_byt _ 4 (numS_byt _ 1 (numS_byt _ 2 (numS_byt _ 1 (numS_byt _ 1 (numS_byt _ 1 (numS_byt _ 1 hb))))))
  have h7 := num2_rng _ b6
  have := w s
  dsimp only at this ⊢
  unfold wCa rCa
  dsimp only
  rw [← this]
  have e7 : ∀ n : Int, 0 ≤ n ∧ n ≤ 65535 → IntKind.i64.wrap (IntKind.i64.wrap (n - 1) + 1) = n := fun n hn => by rw [i64wrap, i64wrap]; omega
  rw [e7 _ h7]
theorem Fw.chn : Fw sChB (fun r s => wCh s (rChB r)) := fun r hb => by
  have b1 := numS_byt r 1 hb
  have b2 := numS_byt _ 1 b1
  have bm := chMark_byt hb
  obtain ⟨c1, k1⟩ := Fw.len (chMark r) bm
  refine ⟨c1, fun hg => ?_⟩
  obtain ⟨d1, u1, e1, w1⟩ := k1 hg
  have hm : ¬ 1 < (r.numS 1).numV 1 := fun h => by
    unfold chMark at d1; rw [if_pos h] at d1; cases d1
  have em : chMark r = (r.numS 1).numS 1 := by unfold chMark; rw [if_neg hm]
  rw [em] at d1 e1
  obtain ⟨_, k0⟩ := (Fw.n1.and Fw.n1) r hb
  obtain ⟨d0, u0, e0, w0⟩ := k0 d1
  refine ⟨d0, u0 ++ u1, ?_, fun s => ?_⟩
  · unfold sChB; rw [em]; dsimp only at e0 e1; rw [e0, e1, List.append_assoc]
  have hn := num1_rng _ b1
  have ebit : bit (decide ((r.numS 1).numV 1 = 1)) = (r.numS 1).numV 1 := by
    by_cases h1 : (r.numS 1).numV 1 = 1
    · rw [h1]; rfl
    · have : (r.numS 1).numV 1 = 0 := by omega
      rw [this]; rfl
  have k2 := w1 ((s.num (r.numV 1) 1).num ((r.numS 1).numV 1) 1)
  have k3 := w0 s
  dsimp only at k2 k3 ⊢
  unfold wCh rChB
  dsimp only
  rw [ebit, k2, k3, List.append_assoc]
theorem Fw.nums : Fw dN (fun r s => ((((((s.num (r.numV 3) 3).num ((r.numS 3).numV 3) 3).num (((r.numS 3).numS 3).numV 1) 1).num ((((r.numS 3).numS 3).numS 1).numV 2) 2).num (((((r.numS 3).numS 3).numS 1).numS 2).numV 2) 2).num ((((((r.numS 3).numS 3).numS 1).numS 2).numS 2).numV 2) 2).num (((((((r.numS 3).numS 3).numS 1).numS 2).numS 2).numS 2).numV 4) 4) :=
  (((((Fw.n3.and Fw.n3).and Fw.n1).and Fw.n2).and Fw.n2).and Fw.n2).and Fw.n4
def E0 (r : R8) (s : W8) : W8 := (((((((s.num (r.numV 3) 3).num ((r.numS 3).numV 3) 3).num (((r.numS 3).numS 3).numV 1) 1).num ((((r.numS 3).numS 3).numS 1).numV 2) 2).num (((((r.numS 3).numS 3).numS 1).numS 2).numV 2) 2).num ((((((r.numS 3).numS 3).numS 1).numS 2).numS 2).numV 2) 2).num (((((((r.numS 3).numS 3).numS 1).numS 2).numS 2).numS 2).numV 4) 4)
def E1 (r : R8) (s : W8) : W8 := encL wP (E0 r s) (BV rP sP (dN r))
structure MapV.Fine (m : MapV) : Prop where
  wid : m.Wid
  ca : ∀ x ∈ m.ca, Ok64 x
  ok : m.fails = false
theorem MapV.fails_no {m : MapV} (h : m.fails = false) : m.re.any badRe = false ∧ m.enc.bad = false ∧ m.enc.l.length ≤ 1048576 := by
  simp only [MapV.fails, Bool.or_eq_false_iff, decide_eq_false_iff_not] at h
  exact ⟨h.1, h.2.1, by omega⟩
theorem MapV.bytes_of {m : MapV} (h : m.fails = false) : m.bytes = m.enc.l := by simp [MapV.bytes, h]
theorem MapV.Fine.read {m : MapV} (h : m.Fine) (rest : List Int) : (dV ⟨m.bytes ++ rest, false⟩ = m ∧ dE ⟨m.bytes ++ rest, false⟩ = ⟨rest, false⟩) ∧ eV ⟨m.bytes ++ rest, false⟩ = m ∧ eE ⟨m.bytes ++ rest, false⟩ = ⟨rest, false⟩ := by
  obtain ⟨h1, h2, _⟩ := m.fails_no h.ok
  obtain ⟨_, u, e, _, r⟩ := enc_bk h.ca h.wid h1 h2
  obtain ⟨_, u', e', _, r'⟩ := enc_bkB h.ca h.wid h1 h2
  rw [MapV.bytes_of h.ok]
  rw [List.nil_append] at e e'
  refine ⟨?_, ?_⟩
  · rw [e]; exact r rest
  · rw [e']; exact r' rest
theorem itemsF_wid {f : R8 → List Int} {g : R8 → R8} {n : Nat} (hf : ∀ s, (f s).length = n) : ∀ k s, ∀ x ∈ (itemsF f g k s).1, x.length = n
  | 0, s, x, hx => by cases hx
  | k + 1, s, x, hx => by
    unfold itemsF at hx
    split at hx
    · rcases List.mem_cons.1 hx with rfl | hx
      · exact hf s
      · exact itemsF_wid hf k _ x hx
    · cases hx
theorem rP_len (s : R8) : (rP s).length = 2 := by simp [rP]
theorem rW_len (s : R8) : (rW s).length = 5 := by simp [rW]
theorem rPa_len (s : R8) : (rPa s).length = 2 := by simp [rPa]
theorem rRe_len (s : R8) : (rRe s).length = 10 := by simp [rRe]
theorem rCa_len (s : R8) : (rCa s).length = 9 := by simp [rCa]
theorem rIs_len (s : R8) : (rIs s).length = 3 := by simp [rIs]
theorem rCo_len (s : R8) : (rCo s).length = 3 := by simp [rCo]
theorem itemsV_wid {f : R8 → List Int} {g : R8 → R8} {n : Nat} (hf : ∀ s, (f s).length = n) (s : R8) : ∀ x ∈ itemsV f g s, x.length = n := by
  unfold itemsV; exact itemsF_wid hf _ _
theorem dV_wid (s : R8) : (dV s).Wid := by
  rw [dV]
  constructor <;> dsimp only
  · exact itemsV_wid (f := rP) (g := sP) rP_len (dN s)
  · exact itemsV_wid (f := rW) (g := sW) rW_len (d1 s)
  · exact itemsV_wid (f := rPa) (g := sPa) rPa_len (d2 s)
  · exact itemsV_wid (f := rRe) (g := sRe) rRe_len (d3 s)
  · exact itemsV_wid (f := rCa) (g := sCa) rCa_len (d4 s)
  · exact itemsV_wid (f := rIs) (g := sIs) rIs_len (d5 s)
  · exact itemsV_wid (f := rCo) (g := sCo) rCo_len (d6 s)
theorem decOk_fine {b : List Int} (hb : Byt b) (h : decOk b = true) : (dV ⟨b, false⟩).Fine ∧ (dV ⟨b, false⟩).bytes = b := by
  simp only [decOk, Bool.and_eq_true, Bool.not_eq_true', decide_eq_true_eq] at h
  exact ⟨⟨dV_wid _, (dV_ok (s := ⟨b, false⟩) hb).ca, h.2.1⟩, h.2.2⟩
theorem MapV.Fine.cut {m : MapV} (h : m.Fine) (hb : Byt m.bytes) {k : Nat} (hk : k < m.bytes.length) : decOk (m.bytes.take k) = false := by
  cases hd : decOk (m.bytes.take k) with
  | false => rfl
  | true =>
    obtain ⟨f, e⟩ := decOk_fine (fun x hx => hb x (List.mem_of_mem_take hx)) hd
    obtain ⟨⟨_, a⟩, _⟩ := f.read (m.bytes.drop k)
    rw [e, List.take_append_drop] at a
    obtain ⟨⟨_, c⟩, _⟩ := h.read []
    rw [List.append_nil, a] at c
    have c := congrArg R8.l c
    dsimp only at c
    have := congrArg List.length c
    simp at this; omega
theorem MapV.Fine.more {m : MapV} (h : m.Fine) (hb : Byt m.bytes) {x : Int} (hx : 0 ≤ x ∧ x ≤ 255) : decOk (m.bytes ++ [x]) = false := by
  cases hd : decOk (m.bytes ++ [x]) with
  | false => rfl
  | true =>
    obtain ⟨f, e⟩ := decOk_fine (hb.append fun y hy => by simp at hy; subst hy; exact hx) hd
    obtain ⟨⟨_, a⟩, _⟩ := f.read []
    rw [e, List.append_nil] at a
    obtain ⟨⟨_, c⟩, _⟩ := h.read [x]
    rw [a] at c
    have c := congrArg R8.l c
    dsimp only at c
    cases c
end Go.Proofs.Ytnhgjgoglmadnaa
namespace Go.Proofs.Ytnhgjgoglmadnaa
open Go.RowKit
set_option maxRecDepth 100000
set_option linter.unusedSimpArgs false
set_option linter.unusedVariables false
set_option pp.maxSteps 1500
set_option pp.deepTerms.threshold 8

def wPc (s : W8) : List Int → W8
  | [ax, ay, bx, by', cx, cy, pa, la, wa] => (((s.tri ax ay bx by' cx cy).num pa 1).num la 2).num wa 1
  | _ => s
theorem piece144 {A : Nat → Prop} (p k : Nat) (s : W8) (ax ay bx by' cx cy pa la wa : Int) (w : World) (h : Sep w A [wr 32 p s k] w) (hO : Ok64 [ax, ay, bx, by', cx, cy, pa, la, wa]) (hl : k ≤ 700000) :
    Calls Try.prog 144 [.pointer (some ⟨p, 0, none⟩), .agg #[.int .i64 ax, .int .i64 ay, .int .i64 bx, .int .i64 by', .int .i64 cx, .int .i64 cy, .int .i64 pa, .int .i64 la, .int .i64 wa]].toArray w
      (RetK fun v w' => ∃ r' N, Sep w A (r' :: N) w' ∧ (∀ x, r'.rd x → (wr 32 p s k).rd x) ∧ (∀ q ∈ N, ∀ x, ¬ q.rd x) ∧ (v = .tuple #[] ∧ r' = wr 32 p (wPc s [ax, ay, bx, by', cx, cy, pa, la, wa]) (k + 72) ∧ N = [])) := by
  simp only [Ok64, List.forall_mem_cons, List.not_mem_nil, false_implies, implies_true, and_true] at hO
  refine walk Try.func144 rfl (by kernel_rfl) (by rw [Try.nt144]; simp) ?_
  (try simp only [nfD] at h); have F := h.facts; (try simp only [nfF, emp_fact, rds_fact, frm_fact, tab_fact] at F)
  simp -dsimp only [↓vcA, vcB, vcD, ↓pureT_lenS, ↓iteT, ↓iteF, cond_true, cond_false, eq_self, argE, Env.get, Env.push, ev, evs, evo, retV, Value.cells, Value.oneCell', setR, overR, fillL, zl, places, allSizes, heldC, ne_eq, Int.reduceLE, Int.reduceLT, Int.reduceEq, Int.reduceNe, Int.reduceToNat, Int.cast_ofNat_Int, Nat.reduceMul, Nat.reduceLeDiff, reduceIte, Nat.reduceEqDiff, Nat.reduceAdd, ↓reduceIte, Try.vcT]
  refine h.new ?_
  clear h F
  intro w1 b1 h
  (try simp only [nfD] at h); have F := h.facts; (try simp only [nfF, emp_fact, rds_fact, frm_fact, tab_fact] at F); try simp -dsimp only [↓vcA, vcB, vcD, ↓pureT_lenS, ↓iteT, ↓iteF, cond_true, cond_false, eq_self, argE, Env.get, Env.push, ev, evs, evo, retV, Value.cells, Value.oneCell', setR, overR, fillL, zl, places, allSizes, heldC, ne_eq, Int.reduceLE, Int.reduceLT, Int.reduceEq, Int.reduceNe, Int.reduceToNat, Int.cast_ofNat_Int, Nat.reduceMul, Nat.reduceLeDiff, reduceIte, Nat.reduceEqDiff, Nat.reduceAdd, ↓reduceIte, Try.vcT, F, h.cell0, gets, vsD, if_true, if_false, Bool.false_eq_true]
  refine walkDraw (.q 0 (.q 1 (.q 4 (.q 7 (.q 10 (.h 2 0 (.h 5 6 (.h 8 7 (.h 11 8 (.l 3 (.l 6 (.l 9 (.l 12 .fin))))))))))))) [(b1, 0, .int .i64 ax), (b1, 1, .int .i64 ay), (b1, 2, .int .i64 bx), (b1, 3, .int .i64 by'), (b1, 4, .int .i64 cx), (b1, 5, .int .i64 cy), (b1, 6, .int .i64 pa), (b1, 7, .int .i64 la), (b1, 8, .int .i64 wa)] (by kernel_rfl) (by simp [Holds_nil, Holds_cons, F]) ?_
  refine h.draw ?_
  clear h F
  intro w2 h
  (try simp only [nfD] at h); have F := h.facts; (try simp only [nfF, emp_fact, rds_fact, frm_fact, tab_fact] at F); try simp -dsimp only [↓vcA, vcB, vcD, ↓pureT_lenS, ↓iteT, ↓iteF, cond_true, cond_false, eq_self, argE, Env.get, Env.push, ev, evs, evo, retV, Value.cells, Value.oneCell', setR, overR, fillL, zl, places, allSizes, heldC, ne_eq, Int.reduceLE, Int.reduceLT, Int.reduceEq, Int.reduceNe, Int.reduceToNat, Int.cast_ofNat_Int, Nat.reduceMul, Nat.reduceLeDiff, reduceIte, Nat.reduceEqDiff, Nat.reduceAdd, ↓reduceIte, Try.vcT, F, h.cell0, gets, vsD, if_true, if_false, Bool.false_eq_true]
  repeat ((first | refine Sep.new h ?_ | refine Sep.put 0 h rfl ?_ | refine Sep.put 1 h rfl ?_ | refine Sep.put 2 h rfl ?_ | refine Sep.put 3 h rfl ?_ | refine Sep.put 4 h rfl ?_ | refine Sep.put 5 h rfl ?_ | refine Sep.num 0 h rfl (by omega) (by omega) (by omega) ?_ | refine Sep.tri 0 h rfl (by omega) (by simp only [Ok64, List.forall_mem_cons, List.not_mem_nil, false_implies, implies_true, and_true]; omega) ?_); (clear F; (try clear h); intros; rename_i h; (try simp only [nfD] at h); have F := h.facts; (try simp only [nfF, emp_fact, rds_fact, frm_fact, tab_fact] at F); try simp -dsimp only [↓vcA, vcB, vcD, ↓pureT_lenS, ↓iteT, ↓iteF, cond_true, cond_false, eq_self, argE, Env.get, Env.push, ev, evs, evo, retV, Value.cells, Value.oneCell', setR, overR, fillL, zl, places, allSizes, heldC, ne_eq, Int.reduceLE, Int.reduceLT, Int.reduceEq, Int.reduceNe, Int.reduceToNat, Int.cast_ofNat_Int, Nat.reduceMul, Nat.reduceLeDiff, reduceIte, Nat.reduceEqDiff, Nat.reduceAdd, ↓reduceIte, Try.vcT, F, h.cell0, gets, vsD, if_true, if_false, Bool.false_eq_true]))
  exact ⟨_, [], h.erase 1, (fun _ f => f), (fun q hq => by cases hq), rfl, rfl⟩
theorem Sep.piece (i : Nat) {w0 w : World} {S : Nat → Prop} {M : List Res} {K : Value → World → Prop} {p k : Nat} {s : W8} {ax ay bx by' cx cy pa la wa : Int} (h : Sep w0 S M w) (hi : M[i]? = some (wr 32 p s k)) (hO : Ok64 [ax, ay, bx, by', cx, cy, pa, la, wa]) (hl : k ≤ 700000)
    (hk : ∀ w1, Sep w0 S (M.set i (wr 32 p (wPc s [ax, ay, bx, by', cx, cy, pa, la, wa]) (k + 72))) w1 → K (.tuple #[]) w1) :
    callsK Try.prog 144 [.pointer (some ⟨p, 0, Option.none⟩), .agg #[.int .i64 ax, .int .i64 ay, .int .i64 bx, .int .i64 by', .int .i64 cx, .int .i64 cy, .int .i64 pa, .int .i64 la, .int .i64 wa]].toArray w K := by
  refine Sep.call1 i h hi (fun A _ hA => piece144 p k s ax ay bx by' cx cy pa la wa w hA hO hl) ?_
  rintro v r' N w1 ⟨rfl, rfl, rfl⟩ h
  rw [List.append_nil] at h
  exact hk w1 h
theorem flag145 (d : Bool) (w : World) : Calls Try.prog 145 [.bool d].toArray w (RetK fun r w' => r = .int .i64 (bit d) ∧ Chg (fun _ => False) w w') := by
  refine walk Try.func145 rfl (by kernel_rfl) (by rw [Try.nt145]; simp) ?_
  cases d with
  | true => simp -dsimp only [↓vcA, vcB, vcD, ↓pureT_lenS, ↓iteT, ↓iteF, cond_true, cond_false, eq_self, argE, Env.get, Env.push, ev, evs, evo, retV, Value.cells, Value.oneCell', setR, overR, fillL, zl, places, allSizes, heldC, ne_eq, Int.reduceLE, Int.reduceLT, Int.reduceEq, Int.reduceNe, Int.reduceToNat, Int.cast_ofNat_Int, Nat.reduceMul, Nat.reduceLeDiff, reduceIte, Nat.reduceEqDiff, Nat.reduceAdd, ↓reduceIte, Try.vcT]; exact ⟨rfl, Chg.refl _ _⟩
  | false => simp -dsimp only [↓vcA, vcB, vcD, ↓pureT_lenS, ↓iteT, ↓iteF, cond_true, cond_false, eq_self, argE, Env.get, Env.push, ev, evs, evo, retV, Value.cells, Value.oneCell', setR, overR, fillL, zl, places, allSizes, heldC, ne_eq, Int.reduceLE, Int.reduceLT, Int.reduceEq, Int.reduceNe, Int.reduceToNat, Int.cast_ofNat_Int, Nat.reduceMul, Nat.reduceLeDiff, reduceIte, Nat.reduceEqDiff, Nat.reduceAdd, ↓reduceIte, Try.vcT]; exact ⟨rfl, Chg.refl _ _⟩
theorem eight146 (n : Int) (w : World) (hn : 0 ≤ n ∧ n < 18446744073709551616) : Calls Try.prog 146 [.int .u64 n].toArray w (RetK fun r w' => ∃ N, Sep w (fun _ => False) N w' ∧ (∀ q ∈ N, ∀ x, ¬ q.rd x) ∧ ∃ a c, r = .slice a 8 c ∧ N = [byt (.slice a 8 c) (be n 8)]) := by
  have h := (Sep.nil w).fresh (e := 5) (s := 1)
  refine walk Try.func146 rfl (by kernel_rfl) (by rw [Try.nt146]; simp) ?_
  (try simp only [nfD] at h); have F := h.facts; (try simp only [nfF, emp_fact, rds_fact, frm_fact, tab_fact] at F)
  simp -dsimp only [↓vcA, vcB, vcD, ↓pureT_lenS, ↓iteT, ↓iteF, cond_true, cond_false, eq_self, argE, Env.get, Env.push, ev, evs, evo, retV, Value.cells, Value.oneCell', setR, overR, fillL, zl, places, allSizes, heldC, ne_eq, Int.reduceLE, Int.reduceLT, Int.reduceEq, Int.reduceNe, Int.reduceToNat, Int.cast_ofNat_Int, Nat.reduceMul, Nat.reduceLeDiff, reduceIte, Nat.reduceEqDiff, Nat.reduceAdd, ↓reduceIte, Try.vcT]
  refine walkLoop [0] [2, 3] (fun m vs w' => ∃ j a c, j ≤ 8 ∧ m = j ∧ vs = [.slice a (8 - j) c, .int .i64 ((j : Int) - 1)] ∧ Sep w (fun _ => False) [row 5 1 (.slice a (8 - j) c) (8 - j) (u8s ((be n 8).take (8 - j)))] w') (by kernel_rfl) ?_ ?_
  · simp -dsimp only [↓vcA, vcB, vcD, ↓pureT_lenS, ↓iteT, ↓iteF, cond_true, cond_false, eq_self, argE, Env.get, Env.push, ev, evs, evo, retV, Value.cells, Value.oneCell', setR, overR, fillL, zl, places, allSizes, heldC, ne_eq, Int.reduceLE, Int.reduceLT, Int.reduceEq, Int.reduceNe, Int.reduceToNat, Int.cast_ofNat_Int, Nat.reduceMul, Nat.reduceLeDiff, reduceIte, Nat.reduceEqDiff, Nat.reduceAdd, ↓reduceIte, Try.vcT, gets]
    exact ⟨_, 8, none, 0, by omega, rfl, rfl, by simpa [u8s] using h⟩
  intro ks hk m vs w2 hi
  clear h F
  obtain ⟨j, a, c, hj, rfl, rfl, h⟩ := hi
  simp -dsimp only [gets, argE, List.zip_cons_cons, List.zip_nil_left, List.cons_append, List.nil_append, Env.get, Env.push, Option.bind_some, Option.map_some, Option.some.injEq, reduceIte, Nat.reduceEqDiff, Nat.reduceAdd, ↓reduceIte] at hk; subst hk
  match m, hj with
  | 0, _ =>
    have e0 : decide ((0 : Int) ≤ 0 - 1) = false := rfl
    (try simp only [nfD] at h); have F := h.facts; (try simp only [nfF, emp_fact, rds_fact, frm_fact, tab_fact] at F); try simp -dsimp only [↓vcA, vcB, vcD, ↓pureT_lenS, ↓iteT, ↓iteF, cond_true, cond_false, eq_self, argE, Env.get, Env.push, ev, evs, evo, retV, Value.cells, Value.oneCell', setR, overR, fillL, zl, places, allSizes, heldC, ne_eq, Int.reduceLE, Int.reduceLT, Int.reduceEq, Int.reduceNe, Int.reduceToNat, Int.cast_ofNat_Int, Nat.reduceMul, Nat.reduceLeDiff, reduceIte, Nat.reduceEqDiff, Nat.reduceAdd, ↓reduceIte, Try.vcT, F, h.cell0, gets, vsD, if_true, if_false, Bool.false_eq_true,  e0]
    have h := h.conv (r' := byt (.slice a 8 c) (be n 8)) 0 rfl (fun A hA => row_byt _ (be n 8) _ A (by
      have e1 : (be n 8).take (8 - 0) = be n 8 := List.take_of_length_le (by rw [be_length]; omega)
      rw [e1] at hA
      rw [be_length]
      exact hA)) (fun _ f => f)
    exact ⟨_, h, (fun q hq x hx => by simp at hq; subst hq; exact hx), a, c, rfl, rfl⟩
  | j + 1, hj =>
    have e1 : ((j + 1 : Nat) : Int) - 1 = (j : Int) := by omega
    have h0 : (0 : Int) ≤ j := by omega
    (try simp only [nfD] at h); have F := h.facts; (try simp only [nfF, emp_fact, rds_fact, frm_fact, tab_fact] at F); try simp -dsimp only [↓vcA, vcB, vcD, ↓pureT_lenS, ↓iteT, ↓iteF, cond_true, cond_false, eq_self, argE, Env.get, Env.push, ev, evs, evo, retV, Value.cells, Value.oneCell', setR, overR, fillL, zl, places, allSizes, heldC, ne_eq, Int.reduceLE, Int.reduceLT, Int.reduceEq, Int.reduceNe, Int.reduceToNat, Int.cast_ofNat_Int, Nat.reduceMul, Nat.reduceLeDiff, reduceIte, Nat.reduceEqDiff, Nat.reduceAdd, ↓reduceIte, Try.vcT, F, h.cell0, gets, vsD, if_true, if_false, Bool.false_eq_true,  e1, decide_eq_true h0]
    have e8 : IntKind.i64.wrap (8 * (j : Int)) = ((8 * j : Nat) : Int) := by rw [i64w _ (by omega) (by omega)]; omega
    have ej : IntKind.i64.wrap ((j : Int) - 1) = (j : Int) - 1 := by rw [i64w _ (by omega) (by omega)]
    have hm : (be n 8).take (8 - j) = (be n 8).take (8 - (j + 1)) ++ [n / 2 ^ (8 * j) % 256] := by
      have := be_take n 8 (8 - (j + 1)) (by omega)
      rw [show 8 - (j + 1) + 1 = 8 - j by omega, show 8 - 1 - (8 - (j + 1)) = j by omega] at this
      exact this
    rw [e8]
    refine ⟨by omega, ?_⟩
    refine h.new ?_
    clear h F
    intro w3 b3 h
    have h := h.toRow 1 1 1 rfl rfl (by simp [maxLen])
    have h := h.conv 1 rfl (fun A => row_byt _ [_] _ A) (fun _ f => f)
    (try simp only [nfD] at h); have F := h.facts; (try simp only [nfF, emp_fact, rds_fact, frm_fact, tab_fact] at F); try simp -dsimp only [↓vcA, vcB, vcD, ↓pureT_lenS, ↓iteT, ↓iteF, cond_true, cond_false, eq_self, argE, Env.get, Env.push, ev, evs, evo, retV, Value.cells, Value.oneCell', setR, overR, fillL, zl, places, allSizes, heldC, ne_eq, Int.reduceLE, Int.reduceLT, Int.reduceEq, Int.reduceNe, Int.reduceToNat, Int.cast_ofNat_Int, Nat.reduceMul, Nat.reduceLeDiff, reduceIte, Nat.reduceEqDiff, Nat.reduceAdd, ↓reduceIte, Try.vcT, F, h.cell0, gets, vsD, if_true, if_false, Bool.false_eq_true]
    refine Sep.app (n := 8 - (j + 1)) (m := 1) 0 Try.info5 Try.underlying22 rfl (by decide) h rfl F.2.1.row (by simp; omega) (by simp [maxLen]; omega) ?_
    clear h F
    intro a4 c4 w4 h
    (try simp only [nfD] at h); have F := h.facts; (try simp only [nfF, emp_fact, rds_fact, frm_fact, tab_fact] at F); try simp -dsimp only [↓vcA, vcB, vcD, ↓pureT_lenS, ↓iteT, ↓iteF, cond_true, cond_false, eq_self, argE, Env.get, Env.push, ev, evs, evo, retV, Value.cells, Value.oneCell', setR, overR, fillL, zl, places, allSizes, heldC, ne_eq, Int.reduceLE, Int.reduceLT, Int.reduceEq, Int.reduceNe, Int.reduceToNat, Int.cast_ofNat_Int, Nat.reduceMul, Nat.reduceLeDiff, reduceIte, Nat.reduceEqDiff, Nat.reduceAdd, ↓reduceIte, Try.vcT, F, h.cell0, gets, vsD, if_true, if_false, Bool.false_eq_true,  ej]
    refine ⟨_, ?_, j, a4, c4, by omega, rfl, ?_, ?_⟩
    · omega
    · rw [show 8 - (j + 1) + 1 = 8 - j by omega, e1, ej]
    · have h := h.erase 1
      have em : min (8 * j) IntKind.u64.bits = 8 * j := by have : IntKind.u64.bits = 64 := rfl; omega
      rw [hm]
      simp only [u8s, List.map_append, List.map_cons, List.map_nil, u8wrap, Int.toNat_natCast, em, List.set_cons_zero, List.eraseIdx_cons_succ, List.eraseIdx_cons_zero] at h ⊢
      rw [show 8 - (j + 1) + 1 = 8 - j by omega] at h
      exact h
end Go.Proofs.Ytnhgjgoglmadnaa
namespace Go.Proofs.Ytnhgjgoglmadnaa
open Go.RowKit
set_option linter.unusedVariables false
set_option linter.unusedSimpArgs false
set_option maxRecDepth 10000

def cp (r : Rq) (q : Rq) (c : Nat) : Rq :=
  if c = 112 then {q with px := r.px, py := r.py} else
  if c = 113 then {q with qx := r.qx, qy := r.qy} else
  if c = 116 then {q with ax := r.ax, ay := r.ay, bx := r.bx, by' := r.by', cx := r.cx, cy := r.cy} else
  if c = 101 then {q with e := r.e} else
  if c = 99 then {q with c := r.c} else
  if c = 108 then {q with l := r.l} else
  if c = 111 then {q with o := r.o} else
  if c = 114 then {q with x0 := r.x0, y0 := r.y0, x1 := r.x1, y1 := r.y1} else
  if c = 102 then {q with f := r.f} else
  if c = 109 then {q with m := r.m} else
  if c = 105 then {q with i := r.i} else
  if c = 110 then {q with n := r.n} else
  if c = 104 then {q with h := r.h} else
  if c = 98 then {q with b := r.b} else
  if c = 117 then {q with u := r.u} else
  q
def wid (c : Nat) : Nat :=
  if c = 112 then 6 else
  if c = 113 then 6 else
  if c = 116 then 18 else
  if c = 101 then 1 else
  if c = 99 then 1 else
  if c = 108 then 2 else
  if c = 111 then 2 else
  if c = 114 then 12 else
  if c = 102 then 2 else
  if c = 109 then 1 else
  if c = 105 then 1 else
  if c = 110 then 1 else
  if c = 104 then 1 else
  if c = 98 then 1 else
  if c = 117 then 4 else
  0
theorem get1_snd (q q' : Rq) (s : R8) (c : Nat) : (get1 (q, s) c).2 = (get1 (q', s) c).2 := by
  unfold get1
  by_cases e0 : c = 112
  · subst e0; simp only [Nat.reduceEqDiff, reduceIte, ↓reduceIte]
  by_cases e1 : c = 113
  · subst e1; simp only [Nat.reduceEqDiff, reduceIte, ↓reduceIte]
  by_cases e2 : c = 116
  · subst e2; simp only [Nat.reduceEqDiff, reduceIte, ↓reduceIte]
  by_cases e3 : c = 101
  · subst e3; simp only [Nat.reduceEqDiff, reduceIte, ↓reduceIte]
  by_cases e4 : c = 99
  · subst e4; simp only [Nat.reduceEqDiff, reduceIte, ↓reduceIte]
  by_cases e5 : c = 108
  · subst e5; simp only [Nat.reduceEqDiff, reduceIte, ↓reduceIte]
  by_cases e6 : c = 111
  · subst e6; simp only [Nat.reduceEqDiff, reduceIte, ↓reduceIte]
  by_cases e7 : c = 114
  · subst e7; simp only [Nat.reduceEqDiff, reduceIte, ↓reduceIte]
  by_cases e8 : c = 102
  · subst e8; simp only [Nat.reduceEqDiff, reduceIte, ↓reduceIte]
  by_cases e9 : c = 109
  · subst e9; simp only [Nat.reduceEqDiff, reduceIte, ↓reduceIte]
  by_cases e10 : c = 105
  · subst e10; simp only [Nat.reduceEqDiff, reduceIte, ↓reduceIte]
  by_cases e11 : c = 110
  · subst e11; simp only [Nat.reduceEqDiff, reduceIte, ↓reduceIte]
  by_cases e12 : c = 104
  · subst e12; simp only [Nat.reduceEqDiff, reduceIte, ↓reduceIte]
  by_cases e13 : c = 98
  · subst e13; simp only [Nat.reduceEqDiff, reduceIte, ↓reduceIte]
  by_cases e14 : c = 117
  · subst e14; simp only [Nat.reduceEqDiff, reduceIte, ↓reduceIte]
  simp only [if_neg e0, if_neg e1, if_neg e2, if_neg e3, if_neg e4, if_neg e5, if_neg e6, if_neg e7, if_neg e8, if_neg e9, if_neg e10, if_neg e11, if_neg e12, if_neg e13, if_neg e14]
theorem letter_bk (r : Rq) (s : W8) (c : Nat) (hc : c ∈ letters) (hv : c = 116 → r.t.valid = true) : Bk s (put1 r s c) (fun R => fun q => (get1 (q, R) c).1) (fun R => (get1 (Rq.zero, R) c).2) (fun q => cp r q c) := by
  unfold put1 get1 cp
  by_cases e0 : c = 112
  · subst e0
    simp only [Nat.reduceEqDiff, reduceIte, ↓reduceIte]
    exact (Bk.pt s).map fun p (q : Rq) => ({q with px := p.1, py := p.2} : Rq)
  by_cases e1 : c = 113
  · subst e1
    simp only [Nat.reduceEqDiff, reduceIte, ↓reduceIte]
    exact (Bk.pt s).map fun p (q : Rq) => ({q with qx := p.1, qy := p.2} : Rq)
  by_cases e2 : c = 116
  · subst e2
    simp only [Nat.reduceEqDiff, reduceIte, ↓reduceIte]
    exact (Bk.tri s (hv rfl)).map fun t (q : Rq) => ({q with ax := t.ax, ay := t.ay, bx := t.bx, by' := t.by', cx := t.cx, cy := t.cy} : Rq)
  by_cases e3 : c = 101
  · subst e3
    simp only [Nat.reduceEqDiff, reduceIte, ↓reduceIte]
    exact (Bk.n1 s).map fun n (q : Rq) => ({q with e := n} : Rq)
  by_cases e4 : c = 99
  · subst e4
    simp only [Nat.reduceEqDiff, reduceIte, ↓reduceIte]
    exact (Bk.n1 s).map fun n (q : Rq) => ({q with c := n} : Rq)
  by_cases e5 : c = 108
  · subst e5
    simp only [Nat.reduceEqDiff, reduceIte, ↓reduceIte]
    exact (Bk.n2 s).map fun n (q : Rq) => ({q with l := n} : Rq)
  by_cases e6 : c = 111
  · subst e6
    simp only [Nat.reduceEqDiff, reduceIte, ↓reduceIte]
    exact (Bk.n2 s).map fun n (q : Rq) => ({q with o := n} : Rq)
  by_cases e7 : c = 114
  · subst e7
    simp only [Nat.reduceEqDiff, reduceIte, ↓reduceIte]
    exact (((Bk.n3 s).and (Bk.n3 _)).and ((Bk.n3 _).and (Bk.n3 _))).map fun p (q : Rq) => ({q with x0 := p.1.1, y0 := p.1.2, x1 := p.2.1, y1 := p.2.2} : Rq)
  by_cases e8 : c = 102
  · subst e8
    simp only [Nat.reduceEqDiff, reduceIte, ↓reduceIte]
    exact (Bk.n2 s).map fun n (q : Rq) => ({q with f := n} : Rq)
  by_cases e9 : c = 109
  · subst e9
    simp only [Nat.reduceEqDiff, reduceIte, ↓reduceIte]
    exact (Bk.n1 s).map fun n (q : Rq) => ({q with m := n} : Rq)
  by_cases e10 : c = 105
  · subst e10
    simp only [Nat.reduceEqDiff, reduceIte, ↓reduceIte]
    exact (Bk.n1 s).map fun n (q : Rq) => ({q with i := n} : Rq)
  by_cases e11 : c = 110
  · subst e11
    simp only [Nat.reduceEqDiff, reduceIte, ↓reduceIte]
    exact (Bk.n1 s).map fun n (q : Rq) => ({q with n := n} : Rq)
  by_cases e12 : c = 104
  · subst e12
    simp only [Nat.reduceEqDiff, reduceIte, ↓reduceIte]
    exact (Bk.n1 s).map fun n (q : Rq) => ({q with h := n} : Rq)
  by_cases e13 : c = 98
  · subst e13
    simp only [Nat.reduceEqDiff, reduceIte, ↓reduceIte]
    exact (Bk.n1 s).map fun n (q : Rq) => ({q with b := n} : Rq)
  by_cases e14 : c = 117
  · subst e14
    simp only [Nat.reduceEqDiff, reduceIte, ↓reduceIte]
    exact (Bk.n4 s).map fun n (q : Rq) => ({q with u := n} : Rq)
  simp only [if_neg e0, if_neg e1, if_neg e2, if_neg e3, if_neg e4, if_neg e5, if_neg e6, if_neg e7, if_neg e8, if_neg e9, if_neg e10, if_neg e11, if_neg e12, if_neg e13, if_neg e14]
  exfalso
  simp only [letters, List.mem_cons, List.not_mem_nil, or_false] at hc
  omega
theorem rd_fold (r : Rq) : ∀ (L : List Nat) (s : W8), (∀ c ∈ L, c ∈ letters) → (116 ∈ L → r.t.valid = true) → (L.foldl (put1 r) s).bad = false →
    s.bad = false ∧ ∃ u, (L.foldl (put1 r) s).l = s.l ++ u ∧ ∀ rest q, L.foldl get1 (q, ⟨u ++ rest, false⟩) = (L.foldl (cp r) q, ⟨rest, false⟩)
  | [], s, _, _, hb => ⟨hb, [], by simp, fun rest q => rfl⟩
  | c :: L, s, hc, hv, hb => by
    obtain ⟨b1, u1, e1, r1⟩ := rd_fold r L (put1 r s c) (fun x hx => hc x (.tail _ hx)) (fun h => hv (.tail _ h)) hb
    obtain ⟨b0, u0, e0, _, r0⟩ := letter_bk r s c (hc c (.head _)) (fun h => hv (by rw [h]; exact .head _)) b1
    refine ⟨b0, u0 ++ u1, by rw [List.foldl_cons, e1, e0, List.append_assoc], fun rest q => ?_⟩
    obtain ⟨q1, q2⟩ := r0 (u1 ++ rest)
    have q1 := congrFun q1 q
    dsimp only at q1 q2
    rw [get1_snd _ q] at q2
    rw [List.append_assoc, List.foldl_cons, List.foldl_cons]
    have e : get1 (q, ⟨u0 ++ (u1 ++ rest), false⟩) c = (cp r q c, ⟨u1 ++ rest, false⟩) := Prod.ext q1 q2
    rw [e, r1 rest]
def Rq.pick (r : Rq) : Rq := (formL r.k).foldl (cp r) {Rq.zero with k := r.k}
theorem rqP_read (r : Rq) (hv : r.k = 2 → r.t.valid = true) (hb : (rqP r).bad = false) : (form r.k).isSome = true →
    askR (⟨(rqP r).l, false⟩ : R8) = (r.pick, ⟨[], false⟩) ∧ (⟨(rqP r).l, false⟩ : R8).numV 1 = r.k := fun hf => by
  have h116 : 116 ∈ formL r.k → r.t.valid = true := fun h => hv (by
    by_cases e : r.k = 2
    · exact e
    · exfalso
      revert h
      unfold formL form
      by_cases hz : 1 ≤ r.k ∧ r.k ≤ 16
      · have hz' : r.k = 1 ∨ r.k = 3 ∨ r.k = 4 ∨ r.k = 5 ∨ r.k = 6 ∨ r.k = 7 ∨ r.k = 8 ∨ r.k = 9 ∨ r.k = 10 ∨ r.k = 11 ∨ r.k = 12 ∨ r.k = 13 ∨ r.k = 14 ∨ r.k = 15 ∨ r.k = 16 := by omega
        rcases hz' with hz' | hz' | hz' | hz' | hz' | hz' | hz' | hz' | hz' | hz' | hz' | hz' | hz' | hz' | hz'
        all_goals rw [hz']; decide
      · rw [if_neg (show ¬ r.k = 1 by omega), if_neg (show ¬ r.k = 2 by omega), if_neg (show ¬ r.k = 3 by omega), if_neg (show ¬ r.k = 4 by omega), if_neg (show ¬ r.k = 5 by omega), if_neg (show ¬ r.k = 6 by omega), if_neg (show ¬ r.k = 7 by omega), if_neg (show ¬ r.k = 8 by omega), if_neg (show ¬ r.k = 9 by omega), if_neg (show ¬ r.k = 10 by omega), if_neg (show ¬ r.k = 11 by omega), if_neg (show ¬ r.k = 12 by omega), if_neg (show ¬ r.k = 13 by omega), if_neg (show ¬ r.k = 14 by omega), if_neg (show ¬ r.k = 15 by omega), if_neg (show ¬ r.k = 16 by omega)]; simp)
  obtain ⟨b1, u1, e1, r1⟩ := rd_fold r (formL r.k) _ (formL_let r.k) h116 hb
  obtain ⟨_, u0, e0, _, r0⟩ := Bk.n1 (⟨[], false⟩ : W8) (n := r.k) b1
  obtain ⟨q1, q2⟩ := r0 u1
  have el : (rqP r).l = u0 ++ u1 := by
    have : (rqP r).l = _ := e1
    rw [this, e0]; rfl
  dsimp only at q1 q2
  rw [el]
  unfold askR
  rw [q1, q2]
  have := r1 [] {Rq.zero with k := r.k}
  rw [List.append_nil] at this
  exact ⟨this, rfl⟩
theorem rqP_wrong (r : Rq) (hk : r.k = 2) (hv : r.t.valid = false) (hb : (rqP r).bad = false) : askROk (rqP r).l = false := by
  have e : rqP r = (((⟨[], false⟩ : W8).num 2 1).tri r.ax r.ay r.bx r.by' r.cx r.cy).num r.e 1 := by
    unfold rqP asksW; rw [hk]; rfl
  rw [e] at hb ⊢
  obtain ⟨b3, u3, e3, _, _⟩ := Bk.n1 _ (n := r.e) hb
  have k3 : Bk ((⟨[], false⟩ : W8).num 2 1) (((⟨[], false⟩ : W8).num 2 1).tri r.ax r.ay r.bx r.by' r.cx r.cy) (fun R => (((R.ptV, R.ptS.ptV), R.ptS.ptS.ptV) : ((Int × Int) × (Int × Int)) × (Int × Int))) (fun R => R.tS3) _ := ((Bk.pt _).and (Bk.pt _)).and (Bk.pt _)
  obtain ⟨b2, u2, e2, _, r2⟩ := k3 b3
  obtain ⟨_, u1, e1, _, r1⟩ := Bk.n1 (⟨[], false⟩ : W8) (n := 2) b2
  obtain ⟨q1, q2⟩ := r1 (u2 ++ u3)
  obtain ⟨p1, p2⟩ := r2 u3
  rw [e3, e2, e1]
  have el : ([] ++ u1 ++ u2) ++ u3 = u1 ++ (u2 ++ u3) := by simp
  rw [show (({ l := [], bad := false } : W8).l ++ u1 ++ u2) ++ u3 = u1 ++ (u2 ++ u3) from el]
  dsimp only at q1 q2 p1 p2
  simp only [Prod.mk.injEq] at p1
  obtain ⟨⟨p1, p3⟩, p4⟩ := p1
  have eT : (⟨u2 ++ u3, false⟩ : R8).tT = r.t := by unfold R8.tT; rw [p1, p3, p4]; rfl
  have eS : (⟨u2 ++ u3, false⟩ : R8).triS.bad = true := by
    unfold R8.triS
    rw [p2, eT, hv]; rfl
  unfold askROk askR
  rw [q1, q2]
  have ef : formL 2 = [116, 101] := rfl
  rw [ef]
  simp only [List.foldl_cons, List.foldl_nil]
  have g1 : ∀ q R, get1 (q, R) 116 = ({q with ax := R.triV.ax, ay := R.triV.ay, bx := R.triV.bx, by' := R.triV.by', cx := R.triV.cx, cy := R.triV.cy}, R.triS) := fun q R => rfl
  have g2 : ∀ q R, get1 (q, R) 101 = ({q with e := R.numV 1}, R.numS 1) := fun q R => rfl
  rw [g1, g2]
  have := numS_bad _ 1 eS
  simp [R8.done, this]
theorem rqR_eq (r : Rq) (hv : r.k = 2 → r.t.valid = true) : rqR r = rqP r := by
  have key : ∀ c ∈ formL r.k, ∀ s, putR r s c = put1 r s c := fun c hc s => by
    unfold putR
    by_cases e : c = 116
    · subst e
      have hk : r.k = 2 := by
        by_cases e : r.k = 2
        · exact e
        · exfalso
          revert hc
          unfold formL form
          by_cases hz : 1 ≤ r.k ∧ r.k ≤ 16
          · have hz' : r.k = 1 ∨ r.k = 3 ∨ r.k = 4 ∨ r.k = 5 ∨ r.k = 6 ∨ r.k = 7 ∨ r.k = 8 ∨ r.k = 9 ∨ r.k = 10 ∨ r.k = 11 ∨ r.k = 12 ∨ r.k = 13 ∨ r.k = 14 ∨ r.k = 15 ∨ r.k = 16 := by omega
            rcases hz' with hz' | hz' | hz' | hz' | hz' | hz' | hz' | hz' | hz' | hz' | hz' | hz' | hz' | hz' | hz'
            all_goals rw [hz']; decide
          · rw [if_neg (show ¬ r.k = 1 by omega), if_neg (show ¬ r.k = 2 by omega), if_neg (show ¬ r.k = 3 by omega), if_neg (show ¬ r.k = 4 by omega), if_neg (show ¬ r.k = 5 by omega), if_neg (show ¬ r.k = 6 by omega), if_neg (show ¬ r.k = 7 by omega), if_neg (show ¬ r.k = 8 by omega), if_neg (show ¬ r.k = 9 by omega), if_neg (show ¬ r.k = 10 by omega), if_neg (show ¬ r.k = 11 by omega), if_neg (show ¬ r.k = 12 by omega), if_neg (show ¬ r.k = 13 by omega), if_neg (show ¬ r.k = 14 by omega), if_neg (show ¬ r.k = 15 by omega), if_neg (show ¬ r.k = 16 by omega)]; simp
      rw [if_pos rfl, hv hk]
      have : put1 r s 116 = s.tri r.ax r.ay r.bx r.by' r.cx r.cy := rfl
      rw [this]
      unfold W8.spoil; simp
    · rw [if_neg e]
  have : ∀ (L : List Nat) s, (∀ c ∈ L, ∀ s, putR r s c = put1 r s c) → L.foldl (putR r) s = L.foldl (put1 r) s := fun L => by
    induction L with
    | nil => intro s _; rfl
    | cons c L ih => intro s h; rw [List.foldl_cons, List.foldl_cons, h c (.head _), ih _ fun x hx => h x (.tail _ hx)]
  exact this _ _ key
theorem num_badW {s : W8} (h : s.bad = true) (n k : Int) : (s.num n k).bad = true := by unfold W8.num; split <;> simp [h]
theorem rqR_wrong (r : Rq) (hk : r.k = 2) (hv : r.t.valid = false) : (rqR r).bad = true := by
  have e : rqR r = ((((⟨[], false⟩ : W8).num 2 1).tri r.ax r.ay r.bx r.by' r.cx r.cy).spoil (!r.t.valid)).num r.e 1 := by
    unfold rqR formL; rw [hk]; rfl
  rw [e]
  exact num_badW (by rw [hv]; simp [W8.spoil]) _ _
theorem askROk_of_read {r : Rq} (hv : r.k = 2 → r.t.valid = true) (hb : (rqP r).bad = false) (hf : (form r.k).isSome = true) : askROk (rqP r).l = true ∧ askRV (rqP r).l = r.pick := by
  obtain ⟨h1, h2⟩ := rqP_read r hv hb hf
  have ok : askROk (rqP r).l = true := by unfold askROk; rw [h1, h2, hf]; rfl
  exact ⟨ok, by unfold askRV; rw [ok, h1]; rfl⟩
theorem rq_same (r : Rq) : rqPOk r = rqROk r ∧ rqPB r = rqRB r := by
  have key : rqPOk r = rqROk r ∧ (rqPOk r = true → rqR r = rqP r) := by
    by_cases hw : r.k = 2 ∧ r.t.valid = false
    · have h2 := rqR_wrong r hw.1 hw.2
      have : rqROk r = false := by unfold rqROk; rw [h2]; simp
      have h3 : rqPOk r = false := by
        unfold rqPOk
        cases hb : (rqP r).bad with
        | true => simp
        | false => rw [rqP_wrong r hw.1 hw.2 hb]; simp
      rw [this, h3]; exact ⟨rfl, fun h => by cases h⟩
    · have hv : r.k = 2 → r.t.valid = true := fun e => by
        cases h : r.t.valid with
        | true => rfl
        | false => exact absurd ⟨e, h⟩ hw
      have e := rqR_eq r hv
      refine ⟨?_, fun _ => e⟩
      unfold rqROk rqPOk
      rw [e]
      cases hf : (form r.k).isSome with
      | false => rfl
      | true =>
        cases hb : (rqP r).bad with
        | true => rfl
        | false => rw [(askROk_of_read hv hb hf).1]; rfl
  refine ⟨key.1, ?_⟩
  unfold rqPB rqRB
  rw [← key.1]
  split
  · rename_i h; rw [key.2 h]
  · rfl
theorem one_read {x : Int} (hx : 0 ≤ x ∧ x ≤ 255) (l : List Int) : (⟨x :: l, false⟩ : R8).numV 1 = x ∧ (⟨x :: l, false⟩ : R8).numS 1 = ⟨l, false⟩ := by
  obtain ⟨h1, h2⟩ := (⟨x :: l, false⟩ : R8).num_yes 1 rfl (by omega) (by omega) (by simp)
  have e1 : ((1 : Nat) : Int) = 1 := rfl
  rw [e1] at h1 h2
  rw [h1, h2]
  refine ⟨?_, rfl⟩
  show rval [x] = x
  unfold rval
  simp only [List.foldl_cons, List.foldl_nil]
  rw [rstep_eq (by omega) hx (by omega)]; omega
theorem askROk_nil : askROk [] = false := by decide +kernel
end Go.Proofs.Ytnhgjgoglmadnaa
