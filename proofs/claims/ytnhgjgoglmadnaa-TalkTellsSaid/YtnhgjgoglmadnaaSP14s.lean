/- Joined texts of this claim (part 19), printed by a program of this work. The last part holds the claimed theorem: the law answers true at every input of its row. -/
import Derived.Test.YtnhgjgoglmadnaaSP14r
namespace Go.Proofs.Ytnhgjgoglmadnaa
open Go.RowKit
set_option maxRecDepth 100000
set_option linter.unusedSimpArgs false
set_option linter.unusedVariables false
set_option pp.maxSteps 1500
set_option pp.deepTerms.threshold 8

theorem Sep.litTab (i : Nat) {w0 w : World} {M : List Res} {b : Nat} {x : List Int} (h : Sep w0 (fun _ => False) M w) (hi : M[i]? = some (blk b 205 (cellsI x))) (hx : x.length = 9) : Sep w0 (fun _ => False) (M.set i (tab 205 9 (.slice (some ⟨b, 0, Option.none⟩) 1 1) [x])) w :=
  h.conv i hi (fun A ⟨h1, e⟩ => by
    have hf : flatT [x] = cellsI x := by simp [flatT]
    have hc : (cellsI x).length = 9 := by rw [cellsI_len, hx]
    refine ⟨fun y hy => by simp at hy; subst hy; exact hx, ?_, by rw [e]; funext y; simp [Value.ownBlock, eq_comm]⟩
    rw [hf]
    exact ⟨by rw [hc]; rfl, .inr ⟨b, 1, (cellsI x).toArray, rfl, Nat.zero_le _, h1, Nat.le_refl _, by simp [maxLen], by simpa using hc, List.take_of_length_le (by rw [hc]; exact Nat.le_refl _)⟩⟩) (fun _ f => f)
set_option maxHeartbeats 4000000 in
theorem told73 (z : Int) (v : Value) (b : List Int) (w : World) (hr : Rd w v b) (hb : Byt b) (hl : b.length ≤ 99000) :
    Calls Try.prog 73 [.int .i64 z, v].toArray w (RetK fun r w' => ∃ N, Sep w (fun _ => False) N w' ∧ (∀ q ∈ N, ∀ x, ¬ q.rd x) ∧
      ∃ t, r = .tuple #[.agg ((toldRV z b).cells t).toArray, .bool (toldROk z b)] ∧ N = [ansX (toldRV z b) t]) := by
  have hr' := hr
  obtain ⟨a, cc, rfl, _⟩ := hr'
  have h := Sep.nil w
  refine walk Try.func73 rfl (by kernel_rfl) (by rw [Try.nt73]; simp) ?_
  (try simp only [nfD] at h); have F := h.facts; (try simp only [nfF, emp_fact, rds_fact, frm_fact, tab_fact, two_fact, inr_fact, ansX_fact] at F)
  simp -dsimp only [↓vcA, vcB, vcD, ↓pureT_lenS, ↓iteT, ↓iteF, cond_true, cond_false, eq_self, argE, Env.get, Env.push, ev, evs, evo, retV, Value.cells, Value.oneCell', setR, overR, fillL, zl, places, allSizes, heldC, ne_eq, Int.reduceLE, Int.reduceLT, Int.reduceEq, Int.reduceNe, Int.reduceToNat, Int.cast_ofNat_Int, Nat.reduceMul, Nat.reduceLeDiff, reduceIte, Nat.reduceEqDiff, Nat.reduceAdd, ↓reduceIte, Try.vcT]
  refine h.new ?_
  clear h F
  intro w1 b1 h
  (try simp only [nfD] at h); have F := h.facts; (try simp only [nfF, emp_fact, rds_fact, frm_fact, tab_fact, two_fact, inr_fact, ansX_fact] at F); try simp -dsimp only [↓vcA, vcB, vcD, ↓pureT_lenS, ↓iteT, ↓iteF, cond_true, cond_false, eq_self, argE, Env.get, Env.push, ev, evs, evo, retV, Value.cells, Value.oneCell', setR, overR, fillL, zl, places, allSizes, heldC, ne_eq, Int.reduceLE, Int.reduceLT, Int.reduceEq, Int.reduceNe, Int.reduceToNat, Int.cast_ofNat_Int, Nat.reduceMul, Nat.reduceLeDiff, reduceIte, Nat.reduceEqDiff, Nat.reduceAdd, ↓reduceIte, Try.vcT, F, h.cell0, gets, vsD, if_true, if_false, Bool.false_eq_true]
  refine h.new ?_
  clear h F
  intro w2 p h
  have hp : w.heap.size ≤ p := by
    obtain ⟨A, ⟨_, rfl⟩, hA, _⟩ := h.has.focus (i := 1) rfl h.rd h.up
    exact (hA p rfl).elim (fun f => False.elim f) id
  have h := h.rrNew 1 b rfl hr (by omega) (fun _ _ f => f) hp
  generalize (fun x : Nat => 0 < b.length ∧ (Value.slice a b.length cc).ownBlock = some x) = Z at h
  have hv0 : toldRV z b = if toldROk z b then (toldRA z b).1 else AnV.zero := rfl
  have hok0 : toldROk z b = (toldRA z b).2.done := rfl
  have hd0 : toldRA z b = ({(if (⟨b, false⟩ : R8).numV 1 = 0 then toldRQ ((⟨b, false⟩ : R8).numS 1) z else (AnV.zero, (⟨b, false⟩ : R8).numS 1)).1 with code := (⟨b, false⟩ : R8).numV 1}, (if (⟨b, false⟩ : R8).numV 1 = 0 then toldRQ ((⟨b, false⟩ : R8).numS 1) z else (AnV.zero, (⟨b, false⟩ : R8).numS 1)).2) := rfl
  generalize toldRA z b = TA at *
  generalize hS : (R8.mk b false) = S at *
  have hSb : Byt S.l := by rw [← hS]; exact hb
  (try simp only [nfD] at h); have F := h.facts; (try simp only [nfF, emp_fact, rds_fact, frm_fact, tab_fact, two_fact, inr_fact, ansX_fact] at F); try simp -dsimp only [↓vcA, vcB, vcD, ↓pureT_lenS, ↓iteT, ↓iteF, cond_true, cond_false, eq_self, argE, Env.get, Env.push, ev, evs, evo, retV, Value.cells, Value.oneCell', setR, overR, fillL, zl, places, allSizes, heldC, ne_eq, Int.reduceLE, Int.reduceLT, Int.reduceEq, Int.reduceNe, Int.reduceToNat, Int.cast_ofNat_Int, Nat.reduceMul, Nat.reduceLeDiff, reduceIte, Nat.reduceEqDiff, Nat.reduceAdd, ↓reduceIte, Try.vcT, F, h.cell0, gets, vsD, if_true, if_false, Bool.false_eq_true]
  refine Sep.rrNum 1 h rfl ?_
  clear h F
  intro w3 h
  (try simp only [nfD] at h); have F := h.facts; (try simp only [nfF, emp_fact, rds_fact, frm_fact, tab_fact, two_fact, inr_fact, ansX_fact] at F); try simp -dsimp only [↓vcA, vcB, vcD, ↓pureT_lenS, ↓iteT, ↓iteF, cond_true, cond_false, eq_self, argE, Env.get, Env.push, ev, evs, evo, retV, Value.cells, Value.oneCell', setR, overR, fillL, zl, places, allSizes, heldC, ne_eq, Int.reduceLE, Int.reduceLT, Int.reduceEq, Int.reduceNe, Int.reduceToNat, Int.cast_ofNat_Int, Nat.reduceMul, Nat.reduceLeDiff, reduceIte, Nat.reduceEqDiff, Nat.reduceAdd, ↓reduceIte, Try.vcT, F, h.cell0, gets, vsD, if_true, if_false, Bool.false_eq_true]
  refine h.new ?_
  clear h F
  intro w4 b7 h
  (try simp only [nfD] at h); have F := h.facts; (try simp only [nfF, emp_fact, rds_fact, frm_fact, tab_fact, two_fact, inr_fact, ansX_fact] at F); try simp -dsimp only [↓vcA, vcB, vcD, ↓pureT_lenS, ↓iteT, ↓iteF, cond_true, cond_false, eq_self, argE, Env.get, Env.push, ev, evs, evo, retV, Value.cells, Value.oneCell', setR, overR, fillL, zl, places, allSizes, heldC, ne_eq, Int.reduceLE, Int.reduceLT, Int.reduceEq, Int.reduceNe, Int.reduceToNat, Int.cast_ofNat_Int, Nat.reduceMul, Nat.reduceLeDiff, reduceIte, Nat.reduceEqDiff, Nat.reduceAdd, ↓reduceIte, Try.vcT, F, h.cell0, gets, vsD, if_true, if_false, Bool.false_eq_true]
  refine Sep.put 2 h rfl ?_
  clear h F
  intro w5 h
  have hs1 := numS_byt S 1 hSb
  generalize S.numV 1 = code at *
  generalize S.numS 1 = s at *
  have fin : ∀ {w' : World} {M : List Res}, toldROk z b = false → Sep w (fun _ => False) M w' → ∃ N, Sep w (fun _ => False) N w' ∧ (∀ q ∈ N, ∀ x, ¬ q.rd x) ∧
      ∃ t, Value.tuple #[.agg #[.int .i64 0, .slice none 0 0, .bool false, .slice none 0 0, .slice none 0 0, .int .i64 0, .int .u64 0], .bool false] = .tuple #[.agg ((toldRV z b).cells t).toArray, .bool (toldROk z b)] ∧ N = [ansX (toldRV z b) t] := fun hf h => by
    have e : toldRV z b = AnV.zero := by rw [hv0, hf]; rfl
    rw [e, hf]
    exact ⟨_, h.ansZero, (fun q hq x => by simp at hq; subst hq; exact ansX_rd _ _ x), AnS.zero, rfl, rfl⟩
  have fin2 : ∀ {w' : World} {A : AnV} {t : AnS}, toldROk z b = true → TA.1 = A → Sep w (fun _ => False) [ansX A t] w' → ∃ N, Sep w (fun _ => False) N w' ∧ (∀ q ∈ N, ∀ x, ¬ q.rd x) ∧
      ∃ t', Value.tuple #[.agg (A.cells t).toArray, .bool true] = .tuple #[.agg ((toldRV z b).cells t').toArray, .bool (toldROk z b)] ∧ N = [ansX (toldRV z b) t'] := fun {w' A t} hf he h => by
    have e : toldRV z b = A := by rw [hv0, hf, ← he]; rfl
    rw [e, hf]
    exact ⟨_, h, (fun q hq x => by simp at hq; subst hq; exact ansX_rd _ _ x), t, rfl, rfl⟩
  have hn1 := num1_rng s hs1
  have hs2 := numS_byt s 1 hs1
  obtain ⟨N, hN⟩ := Int.eq_ofNat_of_zero_le hn1.1
  have eN : (s.numV 1).toNat = N := by omega
  by_cases h0 : code = 0
  case neg =>
    rw [if_neg h0] at hd0
    dsimp only at hd0
    have ag : Agr s s := .inl rfl
    have e1 : TA.1 = {(AnV.zero) with code := code} := by rw [hd0]
    have e2 : TA.2 = s := by rw [hd0]
    obtain ⟨tt, htt⟩ : ∃ tt, tt = s := ⟨_, rfl⟩
    have ag' : Agr tt (s) := by rw [htt]; exact ag
    rw [← htt] at e2
    clear htt ag
    have ag := ag'
    clear ag'
    generalize s = t' at h ag
    obtain ⟨_, vr, hw, _⟩ := h.rdAt (i := 1) rfl
    have hc1 := hw.c1
    have hc0 := hw.c0
    obtain ⟨ar, cr, rfl, _⟩ := hw.rd
    have ebad : tt.bad = t'.bad := ag.bad
    cases hbad : t'.bad with
    | true =>
      rw [hbad] at hc1
      (try simp only [nfD] at h); have F := h.facts; (try simp only [nfF, emp_fact, rds_fact, frm_fact, tab_fact, two_fact, inr_fact, ansX_fact] at F); try simp -dsimp only [↓vcA, vcB, vcD, ↓pureT_lenS, ↓iteT, ↓iteF, cond_true, cond_false, eq_self, argE, Env.get, Env.push, ev, evs, evo, retV, Value.cells, Value.oneCell', setR, overR, fillL, zl, places, allSizes, heldC, ne_eq, Int.reduceLE, Int.reduceLT, Int.reduceEq, Int.reduceNe, Int.reduceToNat, Int.cast_ofNat_Int, Nat.reduceMul, Nat.reduceLeDiff, reduceIte, Nat.reduceEqDiff, Nat.reduceAdd, ↓reduceIte, Try.vcT, F, h.cell0, gets, vsD, if_true, if_false, Bool.false_eq_true,  decide_eq_false h0, hc1]
      refine Sep.put 0 h rfl ?_
      clear h F
      intro w8 h
      (try simp only [nfD] at h); have F := h.facts; (try simp only [nfF, emp_fact, rds_fact, frm_fact, tab_fact, two_fact, inr_fact, ansX_fact] at F); try simp -dsimp only [↓vcA, vcB, vcD, ↓pureT_lenS, ↓iteT, ↓iteF, cond_true, cond_false, eq_self, argE, Env.get, Env.push, ev, evs, evo, retV, Value.cells, Value.oneCell', setR, overR, fillL, zl, places, allSizes, heldC, ne_eq, Int.reduceLE, Int.reduceLT, Int.reduceEq, Int.reduceNe, Int.reduceToNat, Int.cast_ofNat_Int, Nat.reduceMul, Nat.reduceLeDiff, reduceIte, Nat.reduceEqDiff, Nat.reduceAdd, ↓reduceIte, Try.vcT, F, h.cell0, gets, vsD, if_true, if_false, Bool.false_eq_true,  cellsAt]
      exact fin (hok0.trans (by rw [e2]; simp [R8.done, ebad, hbad])) h
    | false =>
    rw [hbad] at hc1
    have et : tt = t' := ag.of_ok (by rw [ebad, hbad])
    by_cases he : (0 : Int) < t'.l.length
    case pos =>
      (try simp only [nfD] at h); have F := h.facts; (try simp only [nfF, emp_fact, rds_fact, frm_fact, tab_fact, two_fact, inr_fact, ansX_fact] at F); try simp -dsimp only [↓vcA, vcB, vcD, ↓pureT_lenS, ↓iteT, ↓iteF, cond_true, cond_false, eq_self, argE, Env.get, Env.push, ev, evs, evo, retV, Value.cells, Value.oneCell', setR, overR, fillL, zl, places, allSizes, heldC, ne_eq, Int.reduceLE, Int.reduceLT, Int.reduceEq, Int.reduceNe, Int.reduceToNat, Int.cast_ofNat_Int, Nat.reduceMul, Nat.reduceLeDiff, reduceIte, Nat.reduceEqDiff, Nat.reduceAdd, ↓reduceIte, Try.vcT, F, h.cell0, gets, vsD, if_true, if_false, Bool.false_eq_true,  decide_eq_false h0, hc1, hc0, decide_eq_true he]
      refine Sep.put 0 h rfl ?_
      clear h F
      intro w8 h
      (try simp only [nfD] at h); have F := h.facts; (try simp only [nfF, emp_fact, rds_fact, frm_fact, tab_fact, two_fact, inr_fact, ansX_fact] at F); try simp -dsimp only [↓vcA, vcB, vcD, ↓pureT_lenS, ↓iteT, ↓iteF, cond_true, cond_false, eq_self, argE, Env.get, Env.push, ev, evs, evo, retV, Value.cells, Value.oneCell', setR, overR, fillL, zl, places, allSizes, heldC, ne_eq, Int.reduceLE, Int.reduceLT, Int.reduceEq, Int.reduceNe, Int.reduceToNat, Int.cast_ofNat_Int, Nat.reduceMul, Nat.reduceLeDiff, reduceIte, Nat.reduceEqDiff, Nat.reduceAdd, ↓reduceIte, Try.vcT, F, h.cell0, gets, vsD, if_true, if_false, Bool.false_eq_true,  cellsAt]
      refine fin (hok0.trans ?_) h
      rw [e2, et]
      cases hl : t'.l with
      | nil => rw [hl] at he; simp at he
      | cons x xs => simp [R8.done, hl]
    case neg =>
      have okd : TA.2.done = true := by
        rw [e2, et]
        cases hl : t'.l with
        | nil => simp [R8.done, hl, hbad]
        | cons x xs => rw [hl] at he; simp at he
      have ok := hok0.trans okd
      (try simp only [nfD] at h); have F := h.facts; (try simp only [nfF, emp_fact, rds_fact, frm_fact, tab_fact, two_fact, inr_fact, ansX_fact] at F); try simp -dsimp only [↓vcA, vcB, vcD, ↓pureT_lenS, ↓iteT, ↓iteF, cond_true, cond_false, eq_self, argE, Env.get, Env.push, ev, evs, evo, retV, Value.cells, Value.oneCell', setR, overR, fillL, zl, places, allSizes, heldC, ne_eq, Int.reduceLE, Int.reduceLT, Int.reduceEq, Int.reduceNe, Int.reduceToNat, Int.cast_ofNat_Int, Nat.reduceMul, Nat.reduceLeDiff, reduceIte, Nat.reduceEqDiff, Nat.reduceAdd, ↓reduceIte, Try.vcT, F, h.cell0, gets, vsD, if_true, if_false, Bool.false_eq_true,  decide_eq_false h0, hc1, hc0, decide_eq_false he, cellsAt]
      refine Sep.put 0 h rfl ?_
      clear h F
      intro w8 h
      (try simp only [nfD] at h); have F := h.facts; (try simp only [nfF, emp_fact, rds_fact, frm_fact, tab_fact, two_fact, inr_fact, ansX_fact] at F); try simp -dsimp only [↓vcA, vcB, vcD, ↓pureT_lenS, ↓iteT, ↓iteF, cond_true, cond_false, eq_self, argE, Env.get, Env.push, ev, evs, evo, retV, Value.cells, Value.oneCell', setR, overR, fillL, zl, places, allSizes, heldC, ne_eq, Int.reduceLE, Int.reduceLT, Int.reduceEq, Int.reduceNe, Int.reduceToNat, Int.cast_ofNat_Int, Nat.reduceMul, Nat.reduceLeDiff, reduceIte, Nat.reduceEqDiff, Nat.reduceAdd, ↓reduceIte, Try.vcT, F, h.cell0, gets, vsD, if_true, if_false, Bool.false_eq_true,  cellsAt]
      have h := h.ansN (A := {(AnV.zero) with code := code}) rfl rfl rfl
      exact fin2 ok e1 h
  rw [if_pos h0] at hd0
  by_cases h12 : z = 1 ∨ z = 2
  case pos =>
    have ht : toldRQ s z = ({AnV.zero with p := [rPc s]}, sPc s) := by unfold toldRQ; rw [if_pos h12]
    rw [ht] at hd0
    dsimp only at hd0
    obtain ⟨av, ag⟩ := agPc (s := s) (s' := s) (.inl rfl)
    rcases h12 with rfl | rfl
    all_goals
      (try simp only [nfD] at h); have F := h.facts; (try simp only [nfF, emp_fact, rds_fact, frm_fact, tab_fact, two_fact, inr_fact, ansX_fact] at F); try simp -dsimp only [↓vcA, vcB, vcD, ↓pureT_lenS, ↓iteT, ↓iteF, cond_true, cond_false, eq_self, argE, Env.get, Env.push, ev, evs, evo, retV, Value.cells, Value.oneCell', setR, overR, fillL, zl, places, allSizes, heldC, ne_eq, Int.reduceLE, Int.reduceLT, Int.reduceEq, Int.reduceNe, Int.reduceToNat, Int.cast_ofNat_Int, Nat.reduceMul, Nat.reduceLeDiff, reduceIte, Nat.reduceEqDiff, Nat.reduceAdd, ↓reduceIte, Try.vcT, F, h.cell0, gets, vsD, if_true, if_false, Bool.false_eq_true,  decide_eq_true h0, decide_true, decide_false, Bool.not_true, Bool.not_false, Int.reduceEq]
      refine Sep.onePiece 1 h rfl ?_
      clear h F
      intro w6 h
      (try simp only [nfD] at h); have F := h.facts; (try simp only [nfF, emp_fact, rds_fact, frm_fact, tab_fact, two_fact, inr_fact, ansX_fact] at F); try simp -dsimp only [↓vcA, vcB, vcD, ↓pureT_lenS, ↓iteT, ↓iteF, cond_true, cond_false, eq_self, argE, Env.get, Env.push, ev, evs, evo, retV, Value.cells, Value.oneCell', setR, overR, fillL, zl, places, allSizes, heldC, ne_eq, Int.reduceLE, Int.reduceLT, Int.reduceEq, Int.reduceNe, Int.reduceToNat, Int.cast_ofNat_Int, Nat.reduceMul, Nat.reduceLeDiff, reduceIte, Nat.reduceEqDiff, Nat.reduceAdd, ↓reduceIte, Try.vcT, F, h.cell0, gets, vsD, if_true, if_false, Bool.false_eq_true]
      refine h.new ?_
      clear h F
      intro w7 b8 h
      (try simp only [nfD] at h); have F := h.facts; (try simp only [nfF, emp_fact, rds_fact, frm_fact, tab_fact, two_fact, inr_fact, ansX_fact] at F); try simp -dsimp only [↓vcA, vcB, vcD, ↓pureT_lenS, ↓iteT, ↓iteF, cond_true, cond_false, eq_self, argE, Env.get, Env.push, ev, evs, evo, retV, Value.cells, Value.oneCell', setR, overR, fillL, zl, places, allSizes, heldC, ne_eq, Int.reduceLE, Int.reduceLT, Int.reduceEq, Int.reduceNe, Int.reduceToNat, Int.cast_ofNat_Int, Nat.reduceMul, Nat.reduceLeDiff, reduceIte, Nat.reduceEqDiff, Nat.reduceAdd, ↓reduceIte, Try.vcT, F, h.cell0, gets, vsD, if_true, if_false, Bool.false_eq_true]
      refine Sep.put 2 h rfl ?_
      clear h F
      intro w8 h
      rw [← av] at h
      have h := h.litTab (x := rPc s) 3 rfl rfl
      have e1 : TA.1 = {({AnV.zero with p := [rPc s]}) with code := code} := by rw [hd0]
      have e2 : TA.2 = sPc s := by rw [hd0]
      obtain ⟨tt, htt⟩ : ∃ tt, tt = sPc s := ⟨_, rfl⟩
      have ag' : Agr tt (sPcR s) := by rw [htt]; exact ag
      rw [← htt] at e2
      clear htt ag
      have ag := ag'
      clear ag'
      generalize sPcR s = t' at h ag
      obtain ⟨_, vr, hw, _⟩ := h.rdAt (i := 1) rfl
      have hc1 := hw.c1
      have hc0 := hw.c0
      obtain ⟨ar, cr, rfl, _⟩ := hw.rd
      have ebad : tt.bad = t'.bad := ag.bad
      cases hbad : t'.bad with
      | true =>
        rw [hbad] at hc1
        (try simp only [nfD] at h); have F := h.facts; (try simp only [nfF, emp_fact, rds_fact, frm_fact, tab_fact, two_fact, inr_fact, ansX_fact] at F); try simp -dsimp only [↓vcA, vcB, vcD, ↓pureT_lenS, ↓iteT, ↓iteF, cond_true, cond_false, eq_self, argE, Env.get, Env.push, ev, evs, evo, retV, Value.cells, Value.oneCell', setR, overR, fillL, zl, places, allSizes, heldC, ne_eq, Int.reduceLE, Int.reduceLT, Int.reduceEq, Int.reduceNe, Int.reduceToNat, Int.cast_ofNat_Int, Nat.reduceMul, Nat.reduceLeDiff, reduceIte, Nat.reduceEqDiff, Nat.reduceAdd, ↓reduceIte, Try.vcT, F, h.cell0, gets, vsD, if_true, if_false, Bool.false_eq_true,  hc1]
        refine Sep.put 0 h rfl ?_
        clear h F
        intro w8 h
        (try simp only [nfD] at h); have F := h.facts; (try simp only [nfF, emp_fact, rds_fact, frm_fact, tab_fact, two_fact, inr_fact, ansX_fact] at F); try simp -dsimp only [↓vcA, vcB, vcD, ↓pureT_lenS, ↓iteT, ↓iteF, cond_true, cond_false, eq_self, argE, Env.get, Env.push, ev, evs, evo, retV, Value.cells, Value.oneCell', setR, overR, fillL, zl, places, allSizes, heldC, ne_eq, Int.reduceLE, Int.reduceLT, Int.reduceEq, Int.reduceNe, Int.reduceToNat, Int.cast_ofNat_Int, Nat.reduceMul, Nat.reduceLeDiff, reduceIte, Nat.reduceEqDiff, Nat.reduceAdd, ↓reduceIte, Try.vcT, F, h.cell0, gets, vsD, if_true, if_false, Bool.false_eq_true,  cellsAt]
        exact fin (hok0.trans (by rw [e2]; simp [R8.done, ebad, hbad])) h
      | false =>
      rw [hbad] at hc1
      have et : tt = t' := ag.of_ok (by rw [ebad, hbad])
      by_cases he : (0 : Int) < t'.l.length
      case pos =>
        (try simp only [nfD] at h); have F := h.facts; (try simp only [nfF, emp_fact, rds_fact, frm_fact, tab_fact, two_fact, inr_fact, ansX_fact] at F); try simp -dsimp only [↓vcA, vcB, vcD, ↓pureT_lenS, ↓iteT, ↓iteF, cond_true, cond_false, eq_self, argE, Env.get, Env.push, ev, evs, evo, retV, Value.cells, Value.oneCell', setR, overR, fillL, zl, places, allSizes, heldC, ne_eq, Int.reduceLE, Int.reduceLT, Int.reduceEq, Int.reduceNe, Int.reduceToNat, Int.cast_ofNat_Int, Nat.reduceMul, Nat.reduceLeDiff, reduceIte, Nat.reduceEqDiff, Nat.reduceAdd, ↓reduceIte, Try.vcT, F, h.cell0, gets, vsD, if_true, if_false, Bool.false_eq_true,  hc1, hc0, decide_eq_true he]
        refine Sep.put 0 h rfl ?_
        clear h F
        intro w8 h
        (try simp only [nfD] at h); have F := h.facts; (try simp only [nfF, emp_fact, rds_fact, frm_fact, tab_fact, two_fact, inr_fact, ansX_fact] at F); try simp -dsimp only [↓vcA, vcB, vcD, ↓pureT_lenS, ↓iteT, ↓iteF, cond_true, cond_false, eq_self, argE, Env.get, Env.push, ev, evs, evo, retV, Value.cells, Value.oneCell', setR, overR, fillL, zl, places, allSizes, heldC, ne_eq, Int.reduceLE, Int.reduceLT, Int.reduceEq, Int.reduceNe, Int.reduceToNat, Int.cast_ofNat_Int, Nat.reduceMul, Nat.reduceLeDiff, reduceIte, Nat.reduceEqDiff, Nat.reduceAdd, ↓reduceIte, Try.vcT, F, h.cell0, gets, vsD, if_true, if_false, Bool.false_eq_true,  cellsAt]
        refine fin (hok0.trans ?_) h
        rw [e2, et]
        cases hl : t'.l with
        | nil => rw [hl] at he; simp at he
        | cons x xs => simp [R8.done, hl]
      case neg =>
        have okd : TA.2.done = true := by
          rw [e2, et]
          cases hl : t'.l with
          | nil => simp [R8.done, hl, hbad]
          | cons x xs => rw [hl] at he; simp at he
        have ok := hok0.trans okd
        (try simp only [nfD] at h); have F := h.facts; (try simp only [nfF, emp_fact, rds_fact, frm_fact, tab_fact, two_fact, inr_fact, ansX_fact] at F); try simp -dsimp only [↓vcA, vcB, vcD, ↓pureT_lenS, ↓iteT, ↓iteF, cond_true, cond_false, eq_self, argE, Env.get, Env.push, ev, evs, evo, retV, Value.cells, Value.oneCell', setR, overR, fillL, zl, places, allSizes, heldC, ne_eq, Int.reduceLE, Int.reduceLT, Int.reduceEq, Int.reduceNe, Int.reduceToNat, Int.cast_ofNat_Int, Nat.reduceMul, Nat.reduceLeDiff, reduceIte, Nat.reduceEqDiff, Nat.reduceAdd, ↓reduceIte, Try.vcT, F, h.cell0, gets, vsD, if_true, if_false, Bool.false_eq_true,  hc1, hc0, decide_eq_false he, cellsAt]
        refine Sep.put 0 h rfl ?_
        clear h F
        intro w8 h
        (try simp only [nfD] at h); have F := h.facts; (try simp only [nfF, emp_fact, rds_fact, frm_fact, tab_fact, two_fact, inr_fact, ansX_fact] at F); try simp -dsimp only [↓vcA, vcB, vcD, ↓pureT_lenS, ↓iteT, ↓iteF, cond_true, cond_false, eq_self, argE, Env.get, Env.push, ev, evs, evo, retV, Value.cells, Value.oneCell', setR, overR, fillL, zl, places, allSizes, heldC, ne_eq, Int.reduceLE, Int.reduceLT, Int.reduceEq, Int.reduceNe, Int.reduceToNat, Int.cast_ofNat_Int, Nat.reduceMul, Nat.reduceLeDiff, reduceIte, Nat.reduceEqDiff, Nat.reduceAdd, ↓reduceIte, Try.vcT, F, h.cell0, gets, vsD, if_true, if_false, Bool.false_eq_true,  cellsAt]
        have h := (((h.erase 2).erase 1).erase 0)
        have h := h.ansP (A := {({AnV.zero with p := [rPc s]}) with code := code}) rfl rfl
        exact fin2 ok e1 h
  by_cases h34 : z = 3 ∨ z = 4
  case pos =>
    have ht : toldRQ s z = ({AnV.zero with p := (itemsB rPc sPc N (s.numS 1)).1, more := decide ((itemsB rPc sPc N (s.numS 1)).2.numV 1 = 1)}, moreS (itemsB rPc sPc N (s.numS 1)).2) := by unfold toldRQ; rw [if_neg h12, if_pos h34, eN]
    rw [ht] at hd0
    dsimp only at hd0
    have h := h.tabNil 205 9
    rcases h34 with rfl | rfl
    all_goals
      (try simp only [nfD] at h); have F := h.facts; (try simp only [nfF, emp_fact, rds_fact, frm_fact, tab_fact, two_fact, inr_fact, ansX_fact] at F); try simp -dsimp only [↓vcA, vcB, vcD, ↓pureT_lenS, ↓iteT, ↓iteF, cond_true, cond_false, eq_self, argE, Env.get, Env.push, ev, evs, evo, retV, Value.cells, Value.oneCell', setR, overR, fillL, zl, places, allSizes, heldC, ne_eq, Int.reduceLE, Int.reduceLT, Int.reduceEq, Int.reduceNe, Int.reduceToNat, Int.cast_ofNat_Int, Nat.reduceMul, Nat.reduceLeDiff, reduceIte, Nat.reduceEqDiff, Nat.reduceAdd, ↓reduceIte, Try.vcT, F, h.cell0, gets, vsD, if_true, if_false, Bool.false_eq_true,  decide_eq_true h0, decide_true, decide_false, Bool.not_true, Bool.not_false, Int.reduceEq]
      refine Sep.rrNum 1 h rfl ?_
      clear h F
      intro w6 h
      (try simp only [nfD] at h); have F := h.facts; (try simp only [nfF, emp_fact, rds_fact, frm_fact, tab_fact, two_fact, inr_fact, ansX_fact] at F); try simp -dsimp only [↓vcA, vcB, vcD, ↓pureT_lenS, ↓iteT, ↓iteF, cond_true, cond_false, eq_self, argE, Env.get, Env.push, ev, evs, evo, retV, Value.cells, Value.oneCell', setR, overR, fillL, zl, places, allSizes, heldC, ne_eq, Int.reduceLE, Int.reduceLT, Int.reduceEq, Int.reduceNe, Int.reduceToNat, Int.cast_ofNat_Int, Nat.reduceMul, Nat.reduceLeDiff, reduceIte, Nat.reduceEqDiff, Nat.reduceAdd, ↓reduceIte, Try.vcT, F, h.cell0, gets, vsD, if_true, if_false, Bool.false_eq_true]
      rw [hN]
      refine walkLoop2 1 [4, 6, 7] [8] (fun m vs w' => ∃ n t t' out a cc, m = n ∧ vs = [.int .i64 (n : Nat)] ∧ Agr t t' ∧ Sep w (fun _ => False) [blk b1 114 [.int .i64 0, .slice none 0 0, .bool false, .slice none 0 0, .slice none 0 0, .int .i64 0, .int .u64 0], rdr 85 p t' Z, blk b7 114 [.int .i64 code, .slice a out.length cc, .bool false, .slice none 0 0, .slice none 0 0, .int .i64 0, .int .u64 0], tab 205 9 (.slice a out.length cc) out] w' ∧
        Byt t.l ∧ itemsB rPc sPc N (s.numS 1) = (out ++ (itemsB rPc sPc n t).1, (itemsB rPc sPc n t).2) ∧ out.length + n ≤ 300)
        (fun vs w' => ∃ n t' a cc, vs = [.int .i64 n] ∧ Agr (itemsB rPc sPc N (s.numS 1)).2 t' ∧ Sep w (fun _ => False) [blk b1 114 [.int .i64 0, .slice none 0 0, .bool false, .slice none 0 0, .slice none 0 0, .int .i64 0, .int .u64 0], rdr 85 p t' Z, blk b7 114 [.int .i64 code, .slice a (itemsB rPc sPc N (s.numS 1)).1.length cc, .bool false, .slice none 0 0, .slice none 0 0, .int .i64 0, .int .u64 0], tab 205 9 (.slice a (itemsB rPc sPc N (s.numS 1)).1.length cc) (itemsB rPc sPc N (s.numS 1)).1] w') (by kernel_rfl) ?_ ?_ ?_
      · simp -dsimp only [↓vcA, vcB, vcD, ↓pureT_lenS, ↓iteT, ↓iteF, cond_true, cond_false, eq_self, argE, Env.get, Env.push, ev, evs, evo, retV, Value.cells, Value.oneCell', setR, overR, fillL, zl, places, allSizes, heldC, ne_eq, Int.reduceLE, Int.reduceLT, Int.reduceEq, Int.reduceNe, Int.reduceToNat, Int.cast_ofNat_Int, Nat.reduceMul, Nat.reduceLeDiff, reduceIte, Nat.reduceEqDiff, Nat.reduceAdd, ↓reduceIte, Try.vcT, gets]
        exact ⟨_, N, s.numS 1, s.numS 1, [], none, 0, rfl, rfl, .inl rfl, h, hs2, by simp, by simp; omega⟩
      · intro ks hk m vs w7 hi
        clear h
        try clear F
        obtain ⟨n, t, t', out, a, cc, rfl, rfl, agt, h, hbt, hit, hlen⟩ := hi
        simp -dsimp only [gets, argE, List.zip_cons_cons, List.zip_nil_left, List.cons_append, List.nil_append, Env.get, Env.push, Option.bind_some, Option.map_some, Option.some.injEq, reduceIte, Nat.reduceEqDiff, Nat.reduceAdd, ↓reduceIte] at hk; subst hk
        have done : (itemsB rPc sPc m t).1 = [] ∧ (itemsB rPc sPc m t).2 = t → (itemsB rPc sPc N (s.numS 1)).1 = out ∧ Agr (itemsB rPc sPc N (s.numS 1)).2 t' := fun hd => by
          have x1 : (itemsB rPc sPc N (s.numS 1)).1 = out := by rw [hit, hd.1]; simp
          have x2 : (itemsB rPc sPc N (s.numS 1)).2 = t := by rw [hit, hd.2]
          rw [x1, x2]; exact ⟨rfl, agt⟩
        obtain ⟨_, vr, hw, _⟩ := h.rdAt (i := 1) rfl
        have hc1 := hw.c1
        match m, hit, hlen, done with
        | 0, hit, hlen, done =>
          have h0 : ¬ (0 : Int) < ((0 : Nat) : Int) := by omega
          obtain ⟨d1, d2⟩ := done ⟨rfl, rfl⟩
          (try simp only [nfD] at h); have F := h.facts; (try simp only [nfF, emp_fact, rds_fact, frm_fact, tab_fact, two_fact, inr_fact, ansX_fact] at F); try simp -dsimp only [↓vcA, vcB, vcD, ↓pureT_lenS, ↓iteT, ↓iteF, cond_true, cond_false, eq_self, argE, Env.get, Env.push, ev, evs, evo, retV, Value.cells, Value.oneCell', setR, overR, fillL, zl, places, allSizes, heldC, ne_eq, Int.reduceLE, Int.reduceLT, Int.reduceEq, Int.reduceNe, Int.reduceToNat, Int.cast_ofNat_Int, Nat.reduceMul, Nat.reduceLeDiff, reduceIte, Nat.reduceEqDiff, Nat.reduceAdd, ↓reduceIte, Try.vcT, F, h.cell0, gets, vsD, if_true, if_false, Bool.false_eq_true,  decide_eq_false h0, exitT_cut_exit, gets]
          refine ⟨0, t', a, cc, rfl, d2, ?_⟩
          rw [d1]; exact h
        | n + 1, hit, hlen, done =>
        have h0 : (0 : Int) < ((n + 1 : Nat) : Int) := by omega
        have en : IntKind.i64.wrap (((n + 1 : Nat) : Int) - 1) = (n : Int) := by rw [i64w _ (by omega) (by omega)]; omega
        cases hbad : t'.bad with
        | true =>
          rw [hbad] at hc1
          obtain ⟨d1, d2⟩ := done (by simp [itemsB, agt.bad, hbad])
          (try simp only [nfD] at h); have F := h.facts; (try simp only [nfF, emp_fact, rds_fact, frm_fact, tab_fact, two_fact, inr_fact, ansX_fact] at F); try simp -dsimp only [↓vcA, vcB, vcD, ↓pureT_lenS, ↓iteT, ↓iteF, cond_true, cond_false, eq_self, argE, Env.get, Env.push, ev, evs, evo, retV, Value.cells, Value.oneCell', setR, overR, fillL, zl, places, allSizes, heldC, ne_eq, Int.reduceLE, Int.reduceLT, Int.reduceEq, Int.reduceNe, Int.reduceToNat, Int.cast_ofNat_Int, Nat.reduceMul, Nat.reduceLeDiff, reduceIte, Nat.reduceEqDiff, Nat.reduceAdd, ↓reduceIte, Try.vcT, F, h.cell0, gets, vsD, if_true, if_false, Bool.false_eq_true,  decide_eq_true h0, hc1, decide_true, decide_false, Bool.not_true, Bool.not_false, exitT_cut_exit, gets]
          refine ⟨_, t', a, cc, rfl, d2, ?_⟩
          rw [d1]; exact h
        | false =>
        rw [hbad] at hc1
        have et : t = t' := agt.of_ok (by rw [agt.bad, hbad])
        subst et
        have hit2 : itemsB rPc sPc N (s.numS 1) = ((out ++ [rPc t]) ++ (itemsB rPc sPc n (sPc t)).1, (itemsB rPc sPc n (sPc t)).2) := by
          rw [hit]; simp [itemsB, hbad]
        (try simp only [nfD] at h); have F := h.facts; (try simp only [nfF, emp_fact, rds_fact, frm_fact, tab_fact, two_fact, inr_fact, ansX_fact] at F); try simp -dsimp only [↓vcA, vcB, vcD, ↓pureT_lenS, ↓iteT, ↓iteF, cond_true, cond_false, eq_self, argE, Env.get, Env.push, ev, evs, evo, retV, Value.cells, Value.oneCell', setR, overR, fillL, zl, places, allSizes, heldC, ne_eq, Int.reduceLE, Int.reduceLT, Int.reduceEq, Int.reduceNe, Int.reduceToNat, Int.cast_ofNat_Int, Nat.reduceMul, Nat.reduceLeDiff, reduceIte, Nat.reduceEqDiff, Nat.reduceAdd, ↓reduceIte, Try.vcT, F, h.cell0, gets, vsD, if_true, if_false, Bool.false_eq_true,  decide_eq_true h0, hc1, decide_true, decide_false, Bool.not_true, Bool.not_false]
        refine walkDraw (.q 0 (.q 2 (.ll 1 (.l 3 (.l 4 (.l 5 (.q 6 (.l 7 .fin))))) 3 (.ll 1 (.l 4 (.l 5 (.q 6 (.l 7 .fin)))) 4 (.l 1 (.l 5 (.q 6 (.l 7 .fin)))))))) [] (by kernel_rfl) (by simp [Holds_nil]) ?_
        refine h.draw ?_
        clear h F
        intro w8 h
        (try simp only [nfD] at h); have F := h.facts; (try simp only [nfF, emp_fact, rds_fact, frm_fact, tab_fact, two_fact, inr_fact, ansX_fact] at F); try simp -dsimp only [↓vcA, vcB, vcD, ↓pureT_lenS, ↓iteT, ↓iteF, cond_true, cond_false, eq_self, argE, Env.get, Env.push, ev, evs, evo, retV, Value.cells, Value.oneCell', setR, overR, fillL, zl, places, allSizes, heldC, ne_eq, Int.reduceLE, Int.reduceLT, Int.reduceEq, Int.reduceNe, Int.reduceToNat, Int.cast_ofNat_Int, Nat.reduceMul, Nat.reduceLeDiff, reduceIte, Nat.reduceEqDiff, Nat.reduceAdd, ↓reduceIte, Try.vcT, F, h.cell0, gets, vsD, if_true, if_false, Bool.false_eq_true]
        obtain ⟨av, ags⟩ := agPc (s := t) (s' := t) (.inl rfl)
        repeat' (first | ((first | refine Sep.new h ?_ | refine Sep.put 0 h rfl ?_ | refine Sep.put 1 h rfl ?_ | refine Sep.put 2 h rfl ?_ | refine Sep.put 3 h rfl ?_ | refine Sep.put 4 h rfl ?_ | refine Sep.put 5 h rfl ?_ | refine Sep.onePiece 1 h rfl ?_ | refine Sep.appTab 3 4 infoPc Try.underlying112 rfl (by decide) (rPcR t) h rfl rfl rfl (by omega) (by simp only [maxLen]; omega) ?_) <;> (clear F; (try clear h); intros; rename_i h; (try simp only [nfD] at h); have F := h.facts; (try simp only [nfF, emp_fact, rds_fact, frm_fact, tab_fact, two_fact, inr_fact, ansX_fact] at F); try simp -dsimp only [↓vcA, vcB, vcD, ↓pureT_lenS, ↓iteT, ↓iteF, cond_true, cond_false, eq_self, argE, Env.get, Env.push, ev, evs, evo, retV, Value.cells, Value.oneCell', setR, overR, fillL, zl, places, allSizes, heldC, ne_eq, Int.reduceLE, Int.reduceLT, Int.reduceEq, Int.reduceNe, Int.reduceToNat, Int.cast_ofNat_Int, Nat.reduceMul, Nat.reduceLeDiff, reduceIte, Nat.reduceEqDiff, Nat.reduceAdd, ↓reduceIte, Try.vcT, F, h.cell0, gets, vsD, if_true, if_false, Bool.false_eq_true, cellsAt, en])) | (apply And.intro <;> (clear F; (try simp only [nfD] at h); have F := h.facts; (try simp only [nfF, emp_fact, rds_fact, frm_fact, tab_fact, two_fact, inr_fact, ansX_fact] at F); try simp -dsimp only [↓vcA, vcB, vcD, ↓pureT_lenS, ↓iteT, ↓iteF, cond_true, cond_false, eq_self, argE, Env.get, Env.push, ev, evs, evo, retV, Value.cells, Value.oneCell', setR, overR, fillL, zl, places, allSizes, heldC, ne_eq, Int.reduceLE, Int.reduceLT, Int.reduceEq, Int.reduceNe, Int.reduceToNat, Int.cast_ofNat_Int, Nat.reduceMul, Nat.reduceLeDiff, reduceIte, Nat.reduceEqDiff, Nat.reduceAdd, ↓reduceIte, Try.vcT, F, h.cell0, gets, vsD, if_true, if_false, Bool.false_eq_true, cellsAt, en])))
        all_goals
          have h := h.erase 4
          rw [← av] at h
          refine ⟨_, ?_, n, sPc t, sPcR t, out ++ [rPc t], _, _, rfl, rfl, ags, h, sPc_byt hbt, hit2, by simp; omega⟩
          omega
      intro ks hk vs w9 hi
      clear h
      try clear F
      obtain ⟨n, t', a, cc, rfl, ag, h⟩ := hi
      simp -dsimp only [gets, argE, List.zip_cons_cons, List.zip_nil_left, List.cons_append, List.nil_append, Env.get, Env.push, Option.bind_some, Option.map_some, Option.some.injEq, reduceIte, Nat.reduceEqDiff, Nat.reduceAdd, ↓reduceIte] at hk; subst hk
      (try simp only [nfD] at h); have F := h.facts; (try simp only [nfF, emp_fact, rds_fact, frm_fact, tab_fact, two_fact, inr_fact, ansX_fact] at F); try simp -dsimp only [↓vcA, vcB, vcD, ↓pureT_lenS, ↓iteT, ↓iteF, cond_true, cond_false, eq_self, argE, Env.get, Env.push, ev, evs, evo, retV, Value.cells, Value.oneCell', setR, overR, fillL, zl, places, allSizes, heldC, ne_eq, Int.reduceLE, Int.reduceLT, Int.reduceEq, Int.reduceNe, Int.reduceToNat, Int.cast_ofNat_Int, Nat.reduceMul, Nat.reduceLeDiff, reduceIte, Nat.reduceEqDiff, Nat.reduceAdd, ↓reduceIte, Try.vcT, F, h.cell0, gets, vsD, if_true, if_false, Bool.false_eq_true]
      refine Sep.more 1 h rfl ?_
      clear h F
      intro w10 h
      (try simp only [nfD] at h); have F := h.facts; (try simp only [nfF, emp_fact, rds_fact, frm_fact, tab_fact, two_fact, inr_fact, ansX_fact] at F); try simp -dsimp only [↓vcA, vcB, vcD, ↓pureT_lenS, ↓iteT, ↓iteF, cond_true, cond_false, eq_self, argE, Env.get, Env.push, ev, evs, evo, retV, Value.cells, Value.oneCell', setR, overR, fillL, zl, places, allSizes, heldC, ne_eq, Int.reduceLE, Int.reduceLT, Int.reduceEq, Int.reduceNe, Int.reduceToNat, Int.cast_ofNat_Int, Nat.reduceMul, Nat.reduceLeDiff, reduceIte, Nat.reduceEqDiff, Nat.reduceAdd, ↓reduceIte, Try.vcT, F, h.cell0, gets, vsD, if_true, if_false, Bool.false_eq_true]
      refine Sep.put 2 h rfl ?_
      clear h F
      intro w11 h
      obtain ⟨am, ag⟩ := agMore ag
      rw [← am] at h
      have e1 : TA.1 = {({AnV.zero with p := (itemsB rPc sPc N (s.numS 1)).1, more := decide ((itemsB rPc sPc N (s.numS 1)).2.numV 1 = 1)}) with code := code} := by rw [hd0]
      have e2 : TA.2 = moreS (itemsB rPc sPc N (s.numS 1)).2 := by rw [hd0]
      obtain ⟨tt, htt⟩ : ∃ tt, tt = moreS (itemsB rPc sPc N (s.numS 1)).2 := ⟨_, rfl⟩
      have ag' : Agr tt (moreS t') := by rw [htt]; exact ag
      rw [← htt] at e2
      clear htt ag
      have ag := ag'
      clear ag'
      generalize moreS t' = t' at h ag
      obtain ⟨_, vr, hw, _⟩ := h.rdAt (i := 1) rfl
      have hc1 := hw.c1
      have hc0 := hw.c0
      obtain ⟨ar, cr, rfl, _⟩ := hw.rd
      have ebad : tt.bad = t'.bad := ag.bad
      cases hbad : t'.bad with
      | true =>
        rw [hbad] at hc1
        (try simp only [nfD] at h); have F := h.facts; (try simp only [nfF, emp_fact, rds_fact, frm_fact, tab_fact, two_fact, inr_fact, ansX_fact] at F); try simp -dsimp only [↓vcA, vcB, vcD, ↓pureT_lenS, ↓iteT, ↓iteF, cond_true, cond_false, eq_self, argE, Env.get, Env.push, ev, evs, evo, retV, Value.cells, Value.oneCell', setR, overR, fillL, zl, places, allSizes, heldC, ne_eq, Int.reduceLE, Int.reduceLT, Int.reduceEq, Int.reduceNe, Int.reduceToNat, Int.cast_ofNat_Int, Nat.reduceMul, Nat.reduceLeDiff, reduceIte, Nat.reduceEqDiff, Nat.reduceAdd, ↓reduceIte, Try.vcT, F, h.cell0, gets, vsD, if_true, if_false, Bool.false_eq_true,  hc1]
        refine Sep.put 0 h rfl ?_
        clear h F
        intro w8 h
        (try simp only [nfD] at h); have F := h.facts; (try simp only [nfF, emp_fact, rds_fact, frm_fact, tab_fact, two_fact, inr_fact, ansX_fact] at F); try simp -dsimp only [↓vcA, vcB, vcD, ↓pureT_lenS, ↓iteT, ↓iteF, cond_true, cond_false, eq_self, argE, Env.get, Env.push, ev, evs, evo, retV, Value.cells, Value.oneCell', setR, overR, fillL, zl, places, allSizes, heldC, ne_eq, Int.reduceLE, Int.reduceLT, Int.reduceEq, Int.reduceNe, Int.reduceToNat, Int.cast_ofNat_Int, Nat.reduceMul, Nat.reduceLeDiff, reduceIte, Nat.reduceEqDiff, Nat.reduceAdd, ↓reduceIte, Try.vcT, F, h.cell0, gets, vsD, if_true, if_false, Bool.false_eq_true,  cellsAt]
        exact fin (hok0.trans (by rw [e2]; simp [R8.done, ebad, hbad])) h
      | false =>
      rw [hbad] at hc1
      have et : tt = t' := ag.of_ok (by rw [ebad, hbad])
      by_cases he : (0 : Int) < t'.l.length
      case pos =>
        (try simp only [nfD] at h); have F := h.facts; (try simp only [nfF, emp_fact, rds_fact, frm_fact, tab_fact, two_fact, inr_fact, ansX_fact] at F); try simp -dsimp only [↓vcA, vcB, vcD, ↓pureT_lenS, ↓iteT, ↓iteF, cond_true, cond_false, eq_self, argE, Env.get, Env.push, ev, evs, evo, retV, Value.cells, Value.oneCell', setR, overR, fillL, zl, places, allSizes, heldC, ne_eq, Int.reduceLE, Int.reduceLT, Int.reduceEq, Int.reduceNe, Int.reduceToNat, Int.cast_ofNat_Int, Nat.reduceMul, Nat.reduceLeDiff, reduceIte, Nat.reduceEqDiff, Nat.reduceAdd, ↓reduceIte, Try.vcT, F, h.cell0, gets, vsD, if_true, if_false, Bool.false_eq_true,  hc1, hc0, decide_eq_true he]
        refine Sep.put 0 h rfl ?_
        clear h F
        intro w8 h
        (try simp only [nfD] at h); have F := h.facts; (try simp only [nfF, emp_fact, rds_fact, frm_fact, tab_fact, two_fact, inr_fact, ansX_fact] at F); try simp -dsimp only [↓vcA, vcB, vcD, ↓pureT_lenS, ↓iteT, ↓iteF, cond_true, cond_false, eq_self, argE, Env.get, Env.push, ev, evs, evo, retV, Value.cells, Value.oneCell', setR, overR, fillL, zl, places, allSizes, heldC, ne_eq, Int.reduceLE, Int.reduceLT, Int.reduceEq, Int.reduceNe, Int.reduceToNat, Int.cast_ofNat_Int, Nat.reduceMul, Nat.reduceLeDiff, reduceIte, Nat.reduceEqDiff, Nat.reduceAdd, ↓reduceIte, Try.vcT, F, h.cell0, gets, vsD, if_true, if_false, Bool.false_eq_true,  cellsAt]
        refine fin (hok0.trans ?_) h
        rw [e2, et]
        cases hl : t'.l with
        | nil => rw [hl] at he; simp at he
        | cons x xs => simp [R8.done, hl]
      case neg =>
        have okd : TA.2.done = true := by
          rw [e2, et]
          cases hl : t'.l with
          | nil => simp [R8.done, hl, hbad]
          | cons x xs => rw [hl] at he; simp at he
        have ok := hok0.trans okd
        (try simp only [nfD] at h); have F := h.facts; (try simp only [nfF, emp_fact, rds_fact, frm_fact, tab_fact, two_fact, inr_fact, ansX_fact] at F); try simp -dsimp only [↓vcA, vcB, vcD, ↓pureT_lenS, ↓iteT, ↓iteF, cond_true, cond_false, eq_self, argE, Env.get, Env.push, ev, evs, evo, retV, Value.cells, Value.oneCell', setR, overR, fillL, zl, places, allSizes, heldC, ne_eq, Int.reduceLE, Int.reduceLT, Int.reduceEq, Int.reduceNe, Int.reduceToNat, Int.cast_ofNat_Int, Nat.reduceMul, Nat.reduceLeDiff, reduceIte, Nat.reduceEqDiff, Nat.reduceAdd, ↓reduceIte, Try.vcT, F, h.cell0, gets, vsD, if_true, if_false, Bool.false_eq_true,  hc1, hc0, decide_eq_false he, cellsAt]
        refine Sep.put 0 h rfl ?_
        clear h F
        intro w8 h
        (try simp only [nfD] at h); have F := h.facts; (try simp only [nfF, emp_fact, rds_fact, frm_fact, tab_fact, two_fact, inr_fact, ansX_fact] at F); try simp -dsimp only [↓vcA, vcB, vcD, ↓pureT_lenS, ↓iteT, ↓iteF, cond_true, cond_false, eq_self, argE, Env.get, Env.push, ev, evs, evo, retV, Value.cells, Value.oneCell', setR, overR, fillL, zl, places, allSizes, heldC, ne_eq, Int.reduceLE, Int.reduceLT, Int.reduceEq, Int.reduceNe, Int.reduceToNat, Int.cast_ofNat_Int, Nat.reduceMul, Nat.reduceLeDiff, reduceIte, Nat.reduceEqDiff, Nat.reduceAdd, ↓reduceIte, Try.vcT, F, h.cell0, gets, vsD, if_true, if_false, Bool.false_eq_true,  cellsAt]
        have h := (((h.erase 2).erase 1).erase 0)
        have h := h.ansP (A := {({AnV.zero with p := (itemsB rPc sPc N (s.numS 1)).1, more := decide ((itemsB rPc sPc N (s.numS 1)).2.numV 1 = 1)}) with code := code}) rfl rfl
        exact fin2 ok e1 h
  by_cases h14 : z = 14
  case pos =>
    have ht : toldRQ s z = ({AnV.zero with ca := (itemsB rCp sCp N (s.numS 1)).1, more := decide ((itemsB rCp sCp N (s.numS 1)).2.numV 1 = 1)}, moreS (itemsB rCp sCp N (s.numS 1)).2) := by unfold toldRQ; rw [if_neg h12, if_neg h34, if_pos h14, eN]
    rw [ht] at hd0
    dsimp only at hd0
    have h := h.tabNil 159 9
    subst h14
    (try simp only [nfD] at h); have F := h.facts; (try simp only [nfF, emp_fact, rds_fact, frm_fact, tab_fact, two_fact, inr_fact, ansX_fact] at F); try simp -dsimp only [↓vcA, vcB, vcD, ↓pureT_lenS, ↓iteT, ↓iteF, cond_true, cond_false, eq_self, argE, Env.get, Env.push, ev, evs, evo, retV, Value.cells, Value.oneCell', setR, overR, fillL, zl, places, allSizes, heldC, ne_eq, Int.reduceLE, Int.reduceLT, Int.reduceEq, Int.reduceNe, Int.reduceToNat, Int.cast_ofNat_Int, Nat.reduceMul, Nat.reduceLeDiff, reduceIte, Nat.reduceEqDiff, Nat.reduceAdd, ↓reduceIte, Try.vcT, F, h.cell0, gets, vsD, if_true, if_false, Bool.false_eq_true,  decide_eq_true h0, decide_true, decide_false, Bool.not_true, Bool.not_false, Int.reduceEq]
    refine Sep.rrNum 1 h rfl ?_
    clear h F
    intro w6 h
    (try simp only [nfD] at h); have F := h.facts; (try simp only [nfF, emp_fact, rds_fact, frm_fact, tab_fact, two_fact, inr_fact, ansX_fact] at F); try simp -dsimp only [↓vcA, vcB, vcD, ↓pureT_lenS, ↓iteT, ↓iteF, cond_true, cond_false, eq_self, argE, Env.get, Env.push, ev, evs, evo, retV, Value.cells, Value.oneCell', setR, overR, fillL, zl, places, allSizes, heldC, ne_eq, Int.reduceLE, Int.reduceLT, Int.reduceEq, Int.reduceNe, Int.reduceToNat, Int.cast_ofNat_Int, Nat.reduceMul, Nat.reduceLeDiff, reduceIte, Nat.reduceEqDiff, Nat.reduceAdd, ↓reduceIte, Try.vcT, F, h.cell0, gets, vsD, if_true, if_false, Bool.false_eq_true]
    rw [hN]
    refine walkLoop2 3 [4, 6, 7] [9] (fun m vs w' => ∃ n t t' out a cc, m = n ∧ vs = [.int .i64 (n : Nat)] ∧ Agr t t' ∧ Sep w (fun _ => False) [blk b1 114 [.int .i64 0, .slice none 0 0, .bool false, .slice none 0 0, .slice none 0 0, .int .i64 0, .int .u64 0], rdr 85 p t' Z, blk b7 114 [.int .i64 code, .slice none 0 0, .bool false, .slice a out.length cc, .slice none 0 0, .int .i64 0, .int .u64 0], tab 159 9 (.slice a out.length cc) out] w' ∧
      Byt t.l ∧ itemsB rCp sCp N (s.numS 1) = (out ++ (itemsB rCp sCp n t).1, (itemsB rCp sCp n t).2) ∧ out.length + n ≤ 300)
      (fun vs w' => ∃ n t' a cc, vs = [.int .i64 n] ∧ Agr (itemsB rCp sCp N (s.numS 1)).2 t' ∧ Sep w (fun _ => False) [blk b1 114 [.int .i64 0, .slice none 0 0, .bool false, .slice none 0 0, .slice none 0 0, .int .i64 0, .int .u64 0], rdr 85 p t' Z, blk b7 114 [.int .i64 code, .slice none 0 0, .bool false, .slice a (itemsB rCp sCp N (s.numS 1)).1.length cc, .slice none 0 0, .int .i64 0, .int .u64 0], tab 159 9 (.slice a (itemsB rCp sCp N (s.numS 1)).1.length cc) (itemsB rCp sCp N (s.numS 1)).1] w') (by kernel_rfl) ?_ ?_ ?_
    · simp -dsimp only [↓vcA, vcB, vcD, ↓pureT_lenS, ↓iteT, ↓iteF, cond_true, cond_false, eq_self, argE, Env.get, Env.push, ev, evs, evo, retV, Value.cells, Value.oneCell', setR, overR, fillL, zl, places, allSizes, heldC, ne_eq, Int.reduceLE, Int.reduceLT, Int.reduceEq, Int.reduceNe, Int.reduceToNat, Int.cast_ofNat_Int, Nat.reduceMul, Nat.reduceLeDiff, reduceIte, Nat.reduceEqDiff, Nat.reduceAdd, ↓reduceIte, Try.vcT, gets]
      exact ⟨_, N, s.numS 1, s.numS 1, [], none, 0, rfl, rfl, .inl rfl, h, hs2, by simp, by simp; omega⟩
    · intro ks hk m vs w7 hi
      clear h
      try clear F
      obtain ⟨n, t, t', out, a, cc, rfl, rfl, agt, h, hbt, hit, hlen⟩ := hi
      simp -dsimp only [gets, argE, List.zip_cons_cons, List.zip_nil_left, List.cons_append, List.nil_append, Env.get, Env.push, Option.bind_some, Option.map_some, Option.some.injEq, reduceIte, Nat.reduceEqDiff, Nat.reduceAdd, ↓reduceIte] at hk; subst hk
      have done : (itemsB rCp sCp m t).1 = [] ∧ (itemsB rCp sCp m t).2 = t → (itemsB rCp sCp N (s.numS 1)).1 = out ∧ Agr (itemsB rCp sCp N (s.numS 1)).2 t' := fun hd => by
        have x1 : (itemsB rCp sCp N (s.numS 1)).1 = out := by rw [hit, hd.1]; simp
        have x2 : (itemsB rCp sCp N (s.numS 1)).2 = t := by rw [hit, hd.2]
        rw [x1, x2]; exact ⟨rfl, agt⟩
      obtain ⟨_, vr, hw, _⟩ := h.rdAt (i := 1) rfl
      have hc1 := hw.c1
      match m, hit, hlen, done with
      | 0, hit, hlen, done =>
        have h0 : ¬ (0 : Int) < ((0 : Nat) : Int) := by omega
        obtain ⟨d1, d2⟩ := done ⟨rfl, rfl⟩
        (try simp only [nfD] at h); have F := h.facts; (try simp only [nfF, emp_fact, rds_fact, frm_fact, tab_fact, two_fact, inr_fact, ansX_fact] at F); try simp -dsimp only [↓vcA, vcB, vcD, ↓pureT_lenS, ↓iteT, ↓iteF, cond_true, cond_false, eq_self, argE, Env.get, Env.push, ev, evs, evo, retV, Value.cells, Value.oneCell', setR, overR, fillL, zl, places, allSizes, heldC, ne_eq, Int.reduceLE, Int.reduceLT, Int.reduceEq, Int.reduceNe, Int.reduceToNat, Int.cast_ofNat_Int, Nat.reduceMul, Nat.reduceLeDiff, reduceIte, Nat.reduceEqDiff, Nat.reduceAdd, ↓reduceIte, Try.vcT, F, h.cell0, gets, vsD, if_true, if_false, Bool.false_eq_true,  decide_eq_false h0, exitT_cut_exit, gets]
        refine ⟨0, t', a, cc, rfl, d2, ?_⟩
        rw [d1]; exact h
      | n + 1, hit, hlen, done =>
      have h0 : (0 : Int) < ((n + 1 : Nat) : Int) := by omega
      have en : IntKind.i64.wrap (((n + 1 : Nat) : Int) - 1) = (n : Int) := by rw [i64w _ (by omega) (by omega)]; omega
      cases hbad : t'.bad with
      | true =>
        rw [hbad] at hc1
        obtain ⟨d1, d2⟩ := done (by simp [itemsB, agt.bad, hbad])
        (try simp only [nfD] at h); have F := h.facts; (try simp only [nfF, emp_fact, rds_fact, frm_fact, tab_fact, two_fact, inr_fact, ansX_fact] at F); try simp -dsimp only [↓vcA, vcB, vcD, ↓pureT_lenS, ↓iteT, ↓iteF, cond_true, cond_false, eq_self, argE, Env.get, Env.push, ev, evs, evo, retV, Value.cells, Value.oneCell', setR, overR, fillL, zl, places, allSizes, heldC, ne_eq, Int.reduceLE, Int.reduceLT, Int.reduceEq, Int.reduceNe, Int.reduceToNat, Int.cast_ofNat_Int, Nat.reduceMul, Nat.reduceLeDiff, reduceIte, Nat.reduceEqDiff, Nat.reduceAdd, ↓reduceIte, Try.vcT, F, h.cell0, gets, vsD, if_true, if_false, Bool.false_eq_true,  decide_eq_true h0, hc1, decide_true, decide_false, Bool.not_true, Bool.not_false, exitT_cut_exit, gets]
        refine ⟨_, t', a, cc, rfl, d2, ?_⟩
        rw [d1]; exact h
      | false =>
      rw [hbad] at hc1
      have et : t = t' := agt.of_ok (by rw [agt.bad, hbad])
      subst et
      have hit2 : itemsB rCp sCp N (s.numS 1) = ((out ++ [rCp t]) ++ (itemsB rCp sCp n (sCp t)).1, (itemsB rCp sCp n (sCp t)).2) := by
        rw [hit]; simp [itemsB, hbad]
      (try simp only [nfD] at h); have F := h.facts; (try simp only [nfF, emp_fact, rds_fact, frm_fact, tab_fact, two_fact, inr_fact, ansX_fact] at F); try simp -dsimp only [↓vcA, vcB, vcD, ↓pureT_lenS, ↓iteT, ↓iteF, cond_true, cond_false, eq_self, argE, Env.get, Env.push, ev, evs, evo, retV, Value.cells, Value.oneCell', setR, overR, fillL, zl, places, allSizes, heldC, ne_eq, Int.reduceLE, Int.reduceLT, Int.reduceEq, Int.reduceNe, Int.reduceToNat, Int.cast_ofNat_Int, Nat.reduceMul, Nat.reduceLeDiff, reduceIte, Nat.reduceEqDiff, Nat.reduceAdd, ↓reduceIte, Try.vcT, F, h.cell0, gets, vsD, if_true, if_false, Bool.false_eq_true,  decide_eq_true h0, hc1, decide_true, decide_false, Bool.not_true, Bool.not_false]
      repeat ((first | refine Sep.new h ?_ | refine Sep.put 0 h rfl ?_ | refine Sep.put 1 h rfl ?_ | refine Sep.put 2 h rfl ?_ | refine Sep.put 3 h rfl ?_ | refine Sep.put 4 h rfl ?_ | refine Sep.put 5 h rfl ?_ | refine Sep.rrNum 1 h rfl ?_ | refine Sep.appTab 3 5 infoCa Try.underlying91 rfl (by decide) (rCp t) h rfl rfl rfl (by omega) (by simp only [maxLen]; omega) ?_); (clear F; (try clear h); intros; rename_i h; (try simp only [nfD] at h); have F := h.facts; (try simp only [nfF, emp_fact, rds_fact, frm_fact, tab_fact, two_fact, inr_fact, ansX_fact] at F); try simp -dsimp only [↓vcA, vcB, vcD, ↓pureT_lenS, ↓iteT, ↓iteF, cond_true, cond_false, eq_self, argE, Env.get, Env.push, ev, evs, evo, retV, Value.cells, Value.oneCell', setR, overR, fillL, zl, places, allSizes, heldC, ne_eq, Int.reduceLE, Int.reduceLT, Int.reduceEq, Int.reduceNe, Int.reduceToNat, Int.cast_ofNat_Int, Nat.reduceMul, Nat.reduceLeDiff, reduceIte, Nat.reduceEqDiff, Nat.reduceAdd, ↓reduceIte, Try.vcT, F, h.cell0, gets, vsD, if_true, if_false, Bool.false_eq_true, cellsAt, en]))
      refine ⟨_, ?_, n, sCp t, sCp t, out ++ [rCp t], _, _, rfl, rfl, .inl rfl, (h.erase 5).erase 4, sCp_byt hbt, hit2, by simp; omega⟩
      omega
    intro ks hk vs w9 hi
    clear h
    try clear F
    obtain ⟨n, t', a, cc, rfl, ag, h⟩ := hi
    simp -dsimp only [gets, argE, List.zip_cons_cons, List.zip_nil_left, List.cons_append, List.nil_append, Env.get, Env.push, Option.bind_some, Option.map_some, Option.some.injEq, reduceIte, Nat.reduceEqDiff, Nat.reduceAdd, ↓reduceIte] at hk; subst hk
    (try simp only [nfD] at h); have F := h.facts; (try simp only [nfF, emp_fact, rds_fact, frm_fact, tab_fact, two_fact, inr_fact, ansX_fact] at F); try simp -dsimp only [↓vcA, vcB, vcD, ↓pureT_lenS, ↓iteT, ↓iteF, cond_true, cond_false, eq_self, argE, Env.get, Env.push, ev, evs, evo, retV, Value.cells, Value.oneCell', setR, overR, fillL, zl, places, allSizes, heldC, ne_eq, Int.reduceLE, Int.reduceLT, Int.reduceEq, Int.reduceNe, Int.reduceToNat, Int.cast_ofNat_Int, Nat.reduceMul, Nat.reduceLeDiff, reduceIte, Nat.reduceEqDiff, Nat.reduceAdd, ↓reduceIte, Try.vcT, F, h.cell0, gets, vsD, if_true, if_false, Bool.false_eq_true]
    refine Sep.more 1 h rfl ?_
    clear h F
    intro w10 h
    (try simp only [nfD] at h); have F := h.facts; (try simp only [nfF, emp_fact, rds_fact, frm_fact, tab_fact, two_fact, inr_fact, ansX_fact] at F); try simp -dsimp only [↓vcA, vcB, vcD, ↓pureT_lenS, ↓iteT, ↓iteF, cond_true, cond_false, eq_self, argE, Env.get, Env.push, ev, evs, evo, retV, Value.cells, Value.oneCell', setR, overR, fillL, zl, places, allSizes, heldC, ne_eq, Int.reduceLE, Int.reduceLT, Int.reduceEq, Int.reduceNe, Int.reduceToNat, Int.cast_ofNat_Int, Nat.reduceMul, Nat.reduceLeDiff, reduceIte, Nat.reduceEqDiff, Nat.reduceAdd, ↓reduceIte, Try.vcT, F, h.cell0, gets, vsD, if_true, if_false, Bool.false_eq_true]
    refine Sep.put 2 h rfl ?_
    clear h F
    intro w11 h
    obtain ⟨am, ag⟩ := agMore ag
    rw [← am] at h
    have e1 : TA.1 = {({AnV.zero with ca := (itemsB rCp sCp N (s.numS 1)).1, more := decide ((itemsB rCp sCp N (s.numS 1)).2.numV 1 = 1)}) with code := code} := by rw [hd0]
    have e2 : TA.2 = moreS (itemsB rCp sCp N (s.numS 1)).2 := by rw [hd0]
    obtain ⟨tt, htt⟩ : ∃ tt, tt = moreS (itemsB rCp sCp N (s.numS 1)).2 := ⟨_, rfl⟩
    have ag' : Agr tt (moreS t') := by rw [htt]; exact ag
    rw [← htt] at e2
    clear htt ag
    have ag := ag'
    clear ag'
    generalize moreS t' = t' at h ag
    obtain ⟨_, vr, hw, _⟩ := h.rdAt (i := 1) rfl
    have hc1 := hw.c1
    have hc0 := hw.c0
    obtain ⟨ar, cr, rfl, _⟩ := hw.rd
    have ebad : tt.bad = t'.bad := ag.bad
    cases hbad : t'.bad with
    | true =>
      rw [hbad] at hc1
      (try simp only [nfD] at h); have F := h.facts; (try simp only [nfF, emp_fact, rds_fact, frm_fact, tab_fact, two_fact, inr_fact, ansX_fact] at F); try simp -dsimp only [↓vcA, vcB, vcD, ↓pureT_lenS, ↓iteT, ↓iteF, cond_true, cond_false, eq_self, argE, Env.get, Env.push, ev, evs, evo, retV, Value.cells, Value.oneCell', setR, overR, fillL, zl, places, allSizes, heldC, ne_eq, Int.reduceLE, Int.reduceLT, Int.reduceEq, Int.reduceNe, Int.reduceToNat, Int.cast_ofNat_Int, Nat.reduceMul, Nat.reduceLeDiff, reduceIte, Nat.reduceEqDiff, Nat.reduceAdd, ↓reduceIte, Try.vcT, F, h.cell0, gets, vsD, if_true, if_false, Bool.false_eq_true,  hc1]
      refine Sep.put 0 h rfl ?_
      clear h F
      intro w8 h
      (try simp only [nfD] at h); have F := h.facts; (try simp only [nfF, emp_fact, rds_fact, frm_fact, tab_fact, two_fact, inr_fact, ansX_fact] at F); try simp -dsimp only [↓vcA, vcB, vcD, ↓pureT_lenS, ↓iteT, ↓iteF, cond_true, cond_false, eq_self, argE, Env.get, Env.push, ev, evs, evo, retV, Value.cells, Value.oneCell', setR, overR, fillL, zl, places, allSizes, heldC, ne_eq, Int.reduceLE, Int.reduceLT, Int.reduceEq, Int.reduceNe, Int.reduceToNat, Int.cast_ofNat_Int, Nat.reduceMul, Nat.reduceLeDiff, reduceIte, Nat.reduceEqDiff, Nat.reduceAdd, ↓reduceIte, Try.vcT, F, h.cell0, gets, vsD, if_true, if_false, Bool.false_eq_true,  cellsAt]
      exact fin (hok0.trans (by rw [e2]; simp [R8.done, ebad, hbad])) h
    | false =>
    rw [hbad] at hc1
    have et : tt = t' := ag.of_ok (by rw [ebad, hbad])
    by_cases he : (0 : Int) < t'.l.length
    case pos =>
      (try simp only [nfD] at h); have F := h.facts; (try simp only [nfF, emp_fact, rds_fact, frm_fact, tab_fact, two_fact, inr_fact, ansX_fact] at F); try simp -dsimp only [↓vcA, vcB, vcD, ↓pureT_lenS, ↓iteT, ↓iteF, cond_true, cond_false, eq_self, argE, Env.get, Env.push, ev, evs, evo, retV, Value.cells, Value.oneCell', setR, overR, fillL, zl, places, allSizes, heldC, ne_eq, Int.reduceLE, Int.reduceLT, Int.reduceEq, Int.reduceNe, Int.reduceToNat, Int.cast_ofNat_Int, Nat.reduceMul, Nat.reduceLeDiff, reduceIte, Nat.reduceEqDiff, Nat.reduceAdd, ↓reduceIte, Try.vcT, F, h.cell0, gets, vsD, if_true, if_false, Bool.false_eq_true,  hc1, hc0, decide_eq_true he]
      refine Sep.put 0 h rfl ?_
      clear h F
      intro w8 h
      (try simp only [nfD] at h); have F := h.facts; (try simp only [nfF, emp_fact, rds_fact, frm_fact, tab_fact, two_fact, inr_fact, ansX_fact] at F); try simp -dsimp only [↓vcA, vcB, vcD, ↓pureT_lenS, ↓iteT, ↓iteF, cond_true, cond_false, eq_self, argE, Env.get, Env.push, ev, evs, evo, retV, Value.cells, Value.oneCell', setR, overR, fillL, zl, places, allSizes, heldC, ne_eq, Int.reduceLE, Int.reduceLT, Int.reduceEq, Int.reduceNe, Int.reduceToNat, Int.cast_ofNat_Int, Nat.reduceMul, Nat.reduceLeDiff, reduceIte, Nat.reduceEqDiff, Nat.reduceAdd, ↓reduceIte, Try.vcT, F, h.cell0, gets, vsD, if_true, if_false, Bool.false_eq_true,  cellsAt]
      refine fin (hok0.trans ?_) h
      rw [e2, et]
      cases hl : t'.l with
      | nil => rw [hl] at he; simp at he
      | cons x xs => simp [R8.done, hl]
    case neg =>
      have okd : TA.2.done = true := by
        rw [e2, et]
        cases hl : t'.l with
        | nil => simp [R8.done, hl, hbad]
        | cons x xs => rw [hl] at he; simp at he
      have ok := hok0.trans okd
      (try simp only [nfD] at h); have F := h.facts; (try simp only [nfF, emp_fact, rds_fact, frm_fact, tab_fact, two_fact, inr_fact, ansX_fact] at F); try simp -dsimp only [↓vcA, vcB, vcD, ↓pureT_lenS, ↓iteT, ↓iteF, cond_true, cond_false, eq_self, argE, Env.get, Env.push, ev, evs, evo, retV, Value.cells, Value.oneCell', setR, overR, fillL, zl, places, allSizes, heldC, ne_eq, Int.reduceLE, Int.reduceLT, Int.reduceEq, Int.reduceNe, Int.reduceToNat, Int.cast_ofNat_Int, Nat.reduceMul, Nat.reduceLeDiff, reduceIte, Nat.reduceEqDiff, Nat.reduceAdd, ↓reduceIte, Try.vcT, F, h.cell0, gets, vsD, if_true, if_false, Bool.false_eq_true,  hc1, hc0, decide_eq_false he, cellsAt]
      refine Sep.put 0 h rfl ?_
      clear h F
      intro w8 h
      (try simp only [nfD] at h); have F := h.facts; (try simp only [nfF, emp_fact, rds_fact, frm_fact, tab_fact, two_fact, inr_fact, ansX_fact] at F); try simp -dsimp only [↓vcA, vcB, vcD, ↓pureT_lenS, ↓iteT, ↓iteF, cond_true, cond_false, eq_self, argE, Env.get, Env.push, ev, evs, evo, retV, Value.cells, Value.oneCell', setR, overR, fillL, zl, places, allSizes, heldC, ne_eq, Int.reduceLE, Int.reduceLT, Int.reduceEq, Int.reduceNe, Int.reduceToNat, Int.cast_ofNat_Int, Nat.reduceMul, Nat.reduceLeDiff, reduceIte, Nat.reduceEqDiff, Nat.reduceAdd, ↓reduceIte, Try.vcT, F, h.cell0, gets, vsD, if_true, if_false, Bool.false_eq_true,  cellsAt]
      have h := (((h.erase 2).erase 1).erase 0)
      have h := h.ansC (A := {({AnV.zero with ca := (itemsB rCp sCp N (s.numS 1)).1, more := decide ((itemsB rCp sCp N (s.numS 1)).2.numV 1 = 1)}) with code := code}) rfl rfl
      exact fin2 ok e1 h
  by_cases h15 : z = 15
  case pos =>
    have ht : toldRQ s z = ({AnV.zero with la := (itemsB rLa sLa N (s.numS 1)).1}, (itemsB rLa sLa N (s.numS 1)).2) := by unfold toldRQ; rw [if_neg h12, if_neg h34, if_neg h14, if_pos h15, eN]
    rw [ht] at hd0
    dsimp only at hd0
    have h := h.inrNil
    subst h15
    (try simp only [nfD] at h); have F := h.facts; (try simp only [nfF, emp_fact, rds_fact, frm_fact, tab_fact, two_fact, inr_fact, ansX_fact] at F); try simp -dsimp only [↓vcA, vcB, vcD, ↓pureT_lenS, ↓iteT, ↓iteF, cond_true, cond_false, eq_self, argE, Env.get, Env.push, ev, evs, evo, retV, Value.cells, Value.oneCell', setR, overR, fillL, zl, places, allSizes, heldC, ne_eq, Int.reduceLE, Int.reduceLT, Int.reduceEq, Int.reduceNe, Int.reduceToNat, Int.cast_ofNat_Int, Nat.reduceMul, Nat.reduceLeDiff, reduceIte, Nat.reduceEqDiff, Nat.reduceAdd, ↓reduceIte, Try.vcT, F, h.cell0, gets, vsD, if_true, if_false, Bool.false_eq_true,  decide_eq_true h0, decide_true, decide_false, Bool.not_true, Bool.not_false, Int.reduceEq]
    refine Sep.rrNum 1 h rfl ?_
    clear h F
    intro w6 h
    (try simp only [nfD] at h); have F := h.facts; (try simp only [nfF, emp_fact, rds_fact, frm_fact, tab_fact, two_fact, inr_fact, ansX_fact] at F); try simp -dsimp only [↓vcA, vcB, vcD, ↓pureT_lenS, ↓iteT, ↓iteF, cond_true, cond_false, eq_self, argE, Env.get, Env.push, ev, evs, evo, retV, Value.cells, Value.oneCell', setR, overR, fillL, zl, places, allSizes, heldC, ne_eq, Int.reduceLE, Int.reduceLT, Int.reduceEq, Int.reduceNe, Int.reduceToNat, Int.cast_ofNat_Int, Nat.reduceMul, Nat.reduceLeDiff, reduceIte, Nat.reduceEqDiff, Nat.reduceAdd, ↓reduceIte, Try.vcT, F, h.cell0, gets, vsD, if_true, if_false, Bool.false_eq_true]
    rw [hN]
    refine walkLoop2 5 [4, 6, 7] [11] (fun m vs w' => ∃ n t t' out a cc, m = n ∧ vs = [.int .i64 (n : Nat)] ∧ Agr t t' ∧ Sep w (fun _ => False) [blk b1 114 [.int .i64 0, .slice none 0 0, .bool false, .slice none 0 0, .slice none 0 0, .int .i64 0, .int .u64 0], rdr 85 p t' Z, blk b7 114 [.int .i64 code, .slice none 0 0, .bool false, .slice none 0 0, .slice a out.length cc, .int .i64 0, .int .u64 0], inr (.slice a out.length cc) out] w' ∧
      Byt t.l ∧ itemsB rLa sLa N (s.numS 1) = (out ++ (itemsB rLa sLa n t).1, (itemsB rLa sLa n t).2) ∧ out.length + n ≤ 300)
      (fun vs w' => ∃ n t' a cc, vs = [.int .i64 n] ∧ Agr (itemsB rLa sLa N (s.numS 1)).2 t' ∧ Sep w (fun _ => False) [blk b1 114 [.int .i64 0, .slice none 0 0, .bool false, .slice none 0 0, .slice none 0 0, .int .i64 0, .int .u64 0], rdr 85 p t' Z, blk b7 114 [.int .i64 code, .slice none 0 0, .bool false, .slice none 0 0, .slice a (itemsB rLa sLa N (s.numS 1)).1.length cc, .int .i64 0, .int .u64 0], inr (.slice a (itemsB rLa sLa N (s.numS 1)).1.length cc) (itemsB rLa sLa N (s.numS 1)).1] w') (by kernel_rfl) ?_ ?_ ?_
    · simp -dsimp only [↓vcA, vcB, vcD, ↓pureT_lenS, ↓iteT, ↓iteF, cond_true, cond_false, eq_self, argE, Env.get, Env.push, ev, evs, evo, retV, Value.cells, Value.oneCell', setR, overR, fillL, zl, places, allSizes, heldC, ne_eq, Int.reduceLE, Int.reduceLT, Int.reduceEq, Int.reduceNe, Int.reduceToNat, Int.cast_ofNat_Int, Nat.reduceMul, Nat.reduceLeDiff, reduceIte, Nat.reduceEqDiff, Nat.reduceAdd, ↓reduceIte, Try.vcT, gets]
      exact ⟨_, N, s.numS 1, s.numS 1, [], none, 0, rfl, rfl, .inl rfl, h, hs2, by simp, by simp; omega⟩
    · intro ks hk m vs w7 hi
      clear h
      try clear F
      obtain ⟨n, t, t', out, a, cc, rfl, rfl, agt, h, hbt, hit, hlen⟩ := hi
      simp -dsimp only [gets, argE, List.zip_cons_cons, List.zip_nil_left, List.cons_append, List.nil_append, Env.get, Env.push, Option.bind_some, Option.map_some, Option.some.injEq, reduceIte, Nat.reduceEqDiff, Nat.reduceAdd, ↓reduceIte] at hk; subst hk
      have done : (itemsB rLa sLa m t).1 = [] ∧ (itemsB rLa sLa m t).2 = t → (itemsB rLa sLa N (s.numS 1)).1 = out ∧ Agr (itemsB rLa sLa N (s.numS 1)).2 t' := fun hd => by
        have x1 : (itemsB rLa sLa N (s.numS 1)).1 = out := by rw [hit, hd.1]; simp
        have x2 : (itemsB rLa sLa N (s.numS 1)).2 = t := by rw [hit, hd.2]
        rw [x1, x2]; exact ⟨rfl, agt⟩
      obtain ⟨_, vr, hw, _⟩ := h.rdAt (i := 1) rfl
      have hc1 := hw.c1
      match m, hit, hlen, done with
      | 0, hit, hlen, done =>
        have h0 : ¬ (0 : Int) < ((0 : Nat) : Int) := by omega
        obtain ⟨d1, d2⟩ := done ⟨rfl, rfl⟩
        (try simp only [nfD] at h); have F := h.facts; (try simp only [nfF, emp_fact, rds_fact, frm_fact, tab_fact, two_fact, inr_fact, ansX_fact] at F); try simp -dsimp only [↓vcA, vcB, vcD, ↓pureT_lenS, ↓iteT, ↓iteF, cond_true, cond_false, eq_self, argE, Env.get, Env.push, ev, evs, evo, retV, Value.cells, Value.oneCell', setR, overR, fillL, zl, places, allSizes, heldC, ne_eq, Int.reduceLE, Int.reduceLT, Int.reduceEq, Int.reduceNe, Int.reduceToNat, Int.cast_ofNat_Int, Nat.reduceMul, Nat.reduceLeDiff, reduceIte, Nat.reduceEqDiff, Nat.reduceAdd, ↓reduceIte, Try.vcT, F, h.cell0, gets, vsD, if_true, if_false, Bool.false_eq_true,  decide_eq_false h0, exitT_cut_exit, gets]
        refine ⟨0, t', a, cc, rfl, d2, ?_⟩
        rw [d1]; exact h
      | n + 1, hit, hlen, done =>
      have h0 : (0 : Int) < ((n + 1 : Nat) : Int) := by omega
      have en : IntKind.i64.wrap (((n + 1 : Nat) : Int) - 1) = (n : Int) := by rw [i64w _ (by omega) (by omega)]; omega
      cases hbad : t'.bad with
      | true =>
        rw [hbad] at hc1
        obtain ⟨d1, d2⟩ := done (by simp [itemsB, agt.bad, hbad])
        (try simp only [nfD] at h); have F := h.facts; (try simp only [nfF, emp_fact, rds_fact, frm_fact, tab_fact, two_fact, inr_fact, ansX_fact] at F); try simp -dsimp only [↓vcA, vcB, vcD, ↓pureT_lenS, ↓iteT, ↓iteF, cond_true, cond_false, eq_self, argE, Env.get, Env.push, ev, evs, evo, retV, Value.cells, Value.oneCell', setR, overR, fillL, zl, places, allSizes, heldC, ne_eq, Int.reduceLE, Int.reduceLT, Int.reduceEq, Int.reduceNe, Int.reduceToNat, Int.cast_ofNat_Int, Nat.reduceMul, Nat.reduceLeDiff, reduceIte, Nat.reduceEqDiff, Nat.reduceAdd, ↓reduceIte, Try.vcT, F, h.cell0, gets, vsD, if_true, if_false, Bool.false_eq_true,  decide_eq_true h0, hc1, decide_true, decide_false, Bool.not_true, Bool.not_false, exitT_cut_exit, gets]
        refine ⟨_, t', a, cc, rfl, d2, ?_⟩
        rw [d1]; exact h
      | false =>
      rw [hbad] at hc1
      have et : t = t' := agt.of_ok (by rw [agt.bad, hbad])
      subst et
      have hit2 : itemsB rLa sLa N (s.numS 1) = ((out ++ [rLa t]) ++ (itemsB rLa sLa n (sLa t)).1, (itemsB rLa sLa n (sLa t)).2) := by
        rw [hit]; simp [itemsB, hbad]
      (try simp only [nfD] at h); have F := h.facts; (try simp only [nfF, emp_fact, rds_fact, frm_fact, tab_fact, two_fact, inr_fact, ansX_fact] at F); try simp -dsimp only [↓vcA, vcB, vcD, ↓pureT_lenS, ↓iteT, ↓iteF, cond_true, cond_false, eq_self, argE, Env.get, Env.push, ev, evs, evo, retV, Value.cells, Value.oneCell', setR, overR, fillL, zl, places, allSizes, heldC, ne_eq, Int.reduceLE, Int.reduceLT, Int.reduceEq, Int.reduceNe, Int.reduceToNat, Int.cast_ofNat_Int, Nat.reduceMul, Nat.reduceLeDiff, reduceIte, Nat.reduceEqDiff, Nat.reduceAdd, ↓reduceIte, Try.vcT, F, h.cell0, gets, vsD, if_true, if_false, Bool.false_eq_true,  decide_eq_true h0, hc1, decide_true, decide_false, Bool.not_true, Bool.not_false]
      refine walkDraw (.q 0 (.q 2 (.ll 1 (.l 3 (.l 4 (.l 5 (.q 6 (.l 7 .fin))))) 3 (.ll 1 (.l 4 (.l 5 (.q 6 (.l 7 .fin)))) 4 (.l 1 (.l 5 (.q 6 (.l 7 .fin)))))))) [] (by kernel_rfl) (by simp [Holds_nil]) ?_
      refine h.draw ?_
      clear h F
      intro w8 h
      (try simp only [nfD] at h); have F := h.facts; (try simp only [nfF, emp_fact, rds_fact, frm_fact, tab_fact, two_fact, inr_fact, ansX_fact] at F); try simp -dsimp only [↓vcA, vcB, vcD, ↓pureT_lenS, ↓iteT, ↓iteF, cond_true, cond_false, eq_self, argE, Env.get, Env.push, ev, evs, evo, retV, Value.cells, Value.oneCell', setR, overR, fillL, zl, places, allSizes, heldC, ne_eq, Int.reduceLE, Int.reduceLT, Int.reduceEq, Int.reduceNe, Int.reduceToNat, Int.cast_ofNat_Int, Nat.reduceMul, Nat.reduceLeDiff, reduceIte, Nat.reduceEqDiff, Nat.reduceAdd, ↓reduceIte, Try.vcT, F, h.cell0, gets, vsD, if_true, if_false, Bool.false_eq_true]
      repeat' (first | ((first | refine Sep.new h ?_ | refine Sep.put 0 h rfl ?_ | refine Sep.put 1 h rfl ?_ | refine Sep.put 2 h rfl ?_ | refine Sep.put 3 h rfl ?_ | refine Sep.put 4 h rfl ?_ | refine Sep.put 5 h rfl ?_ | refine Sep.rrNum 1 h rfl ?_ | refine Sep.appInr 3 4 (rLa t) h rfl rfl (by omega) ?_) <;> (clear F; (try clear h); intros; rename_i h; (try simp only [nfD] at h); have F := h.facts; (try simp only [nfF, emp_fact, rds_fact, frm_fact, tab_fact, two_fact, inr_fact, ansX_fact] at F); try simp -dsimp only [↓vcA, vcB, vcD, ↓pureT_lenS, ↓iteT, ↓iteF, cond_true, cond_false, eq_self, argE, Env.get, Env.push, ev, evs, evo, retV, Value.cells, Value.oneCell', setR, overR, fillL, zl, places, allSizes, heldC, ne_eq, Int.reduceLE, Int.reduceLT, Int.reduceEq, Int.reduceNe, Int.reduceToNat, Int.cast_ofNat_Int, Nat.reduceMul, Nat.reduceLeDiff, reduceIte, Nat.reduceEqDiff, Nat.reduceAdd, ↓reduceIte, Try.vcT, F, h.cell0, gets, vsD, if_true, if_false, Bool.false_eq_true, cellsAt, en])) | (apply And.intro <;> (clear F; (try simp only [nfD] at h); have F := h.facts; (try simp only [nfF, emp_fact, rds_fact, frm_fact, tab_fact, two_fact, inr_fact, ansX_fact] at F); try simp -dsimp only [↓vcA, vcB, vcD, ↓pureT_lenS, ↓iteT, ↓iteF, cond_true, cond_false, eq_self, argE, Env.get, Env.push, ev, evs, evo, retV, Value.cells, Value.oneCell', setR, overR, fillL, zl, places, allSizes, heldC, ne_eq, Int.reduceLE, Int.reduceLT, Int.reduceEq, Int.reduceNe, Int.reduceToNat, Int.cast_ofNat_Int, Nat.reduceMul, Nat.reduceLeDiff, reduceIte, Nat.reduceEqDiff, Nat.reduceAdd, ↓reduceIte, Try.vcT, F, h.cell0, gets, vsD, if_true, if_false, Bool.false_eq_true, cellsAt, en])))
      all_goals
        refine ⟨_, ?_, n, sLa t, sLa t, out ++ [rLa t], _, _, rfl, rfl, .inl rfl, h.erase 4, numS_byt _ 2 hbt, hit2, by simp; omega⟩
        omega
    intro ks hk vs w9 hi
    clear h
    try clear F
    obtain ⟨n, t', a, cc, rfl, ag, h⟩ := hi
    simp -dsimp only [gets, argE, List.zip_cons_cons, List.zip_nil_left, List.cons_append, List.nil_append, Env.get, Env.push, Option.bind_some, Option.map_some, Option.some.injEq, reduceIte, Nat.reduceEqDiff, Nat.reduceAdd, ↓reduceIte] at hk; subst hk
    have e1 : TA.1 = {({AnV.zero with la := (itemsB rLa sLa N (s.numS 1)).1}) with code := code} := by rw [hd0]
    have e2 : TA.2 = (itemsB rLa sLa N (s.numS 1)).2 := by rw [hd0]
    obtain ⟨tt, htt⟩ : ∃ tt, tt = (itemsB rLa sLa N (s.numS 1)).2 := ⟨_, rfl⟩
    have ag' : Agr tt (t') := by rw [htt]; exact ag
    rw [← htt] at e2
    clear htt ag
    have ag := ag'
    clear ag'
    generalize t' = t' at h ag
    obtain ⟨_, vr, hw, _⟩ := h.rdAt (i := 1) rfl
    have hc1 := hw.c1
    have hc0 := hw.c0
    obtain ⟨ar, cr, rfl, _⟩ := hw.rd
    have ebad : tt.bad = t'.bad := ag.bad
    cases hbad : t'.bad with
    | true =>
      rw [hbad] at hc1
      (try simp only [nfD] at h); have F := h.facts; (try simp only [nfF, emp_fact, rds_fact, frm_fact, tab_fact, two_fact, inr_fact, ansX_fact] at F); try simp -dsimp only [↓vcA, vcB, vcD, ↓pureT_lenS, ↓iteT, ↓iteF, cond_true, cond_false, eq_self, argE, Env.get, Env.push, ev, evs, evo, retV, Value.cells, Value.oneCell', setR, overR, fillL, zl, places, allSizes, heldC, ne_eq, Int.reduceLE, Int.reduceLT, Int.reduceEq, Int.reduceNe, Int.reduceToNat, Int.cast_ofNat_Int, Nat.reduceMul, Nat.reduceLeDiff, reduceIte, Nat.reduceEqDiff, Nat.reduceAdd, ↓reduceIte, Try.vcT, F, h.cell0, gets, vsD, if_true, if_false, Bool.false_eq_true,  hc1]
      refine Sep.put 0 h rfl ?_
      clear h F
      intro w8 h
      (try simp only [nfD] at h); have F := h.facts; (try simp only [nfF, emp_fact, rds_fact, frm_fact, tab_fact, two_fact, inr_fact, ansX_fact] at F); try simp -dsimp only [↓vcA, vcB, vcD, ↓pureT_lenS, ↓iteT, ↓iteF, cond_true, cond_false, eq_self, argE, Env.get, Env.push, ev, evs, evo, retV, Value.cells, Value.oneCell', setR, overR, fillL, zl, places, allSizes, heldC, ne_eq, Int.reduceLE, Int.reduceLT, Int.reduceEq, Int.reduceNe, Int.reduceToNat, Int.cast_ofNat_Int, Nat.reduceMul, Nat.reduceLeDiff, reduceIte, Nat.reduceEqDiff, Nat.reduceAdd, ↓reduceIte, Try.vcT, F, h.cell0, gets, vsD, if_true, if_false, Bool.false_eq_true,  cellsAt]
      exact fin (hok0.trans (by rw [e2]; simp [R8.done, ebad, hbad])) h
    | false =>
    rw [hbad] at hc1
    have et : tt = t' := ag.of_ok (by rw [ebad, hbad])
    by_cases he : (0 : Int) < t'.l.length
    case pos =>
      (try simp only [nfD] at h); have F := h.facts; (try simp only [nfF, emp_fact, rds_fact, frm_fact, tab_fact, two_fact, inr_fact, ansX_fact] at F); try simp -dsimp only [↓vcA, vcB, vcD, ↓pureT_lenS, ↓iteT, ↓iteF, cond_true, cond_false, eq_self, argE, Env.get, Env.push, ev, evs, evo, retV, Value.cells, Value.oneCell', setR, overR, fillL, zl, places, allSizes, heldC, ne_eq, Int.reduceLE, Int.reduceLT, Int.reduceEq, Int.reduceNe, Int.reduceToNat, Int.cast_ofNat_Int, Nat.reduceMul, Nat.reduceLeDiff, reduceIte, Nat.reduceEqDiff, Nat.reduceAdd, ↓reduceIte, Try.vcT, F, h.cell0, gets, vsD, if_true, if_false, Bool.false_eq_true,  hc1, hc0, decide_eq_true he]
      refine Sep.put 0 h rfl ?_
      clear h F
      intro w8 h
      (try simp only [nfD] at h); have F := h.facts; (try simp only [nfF, emp_fact, rds_fact, frm_fact, tab_fact, two_fact, inr_fact, ansX_fact] at F); try simp -dsimp only [↓vcA, vcB, vcD, ↓pureT_lenS, ↓iteT, ↓iteF, cond_true, cond_false, eq_self, argE, Env.get, Env.push, ev, evs, evo, retV, Value.cells, Value.oneCell', setR, overR, fillL, zl, places, allSizes, heldC, ne_eq, Int.reduceLE, Int.reduceLT, Int.reduceEq, Int.reduceNe, Int.reduceToNat, Int.cast_ofNat_Int, Nat.reduceMul, Nat.reduceLeDiff, reduceIte, Nat.reduceEqDiff, Nat.reduceAdd, ↓reduceIte, Try.vcT, F, h.cell0, gets, vsD, if_true, if_false, Bool.false_eq_true,  cellsAt]
      refine fin (hok0.trans ?_) h
      rw [e2, et]
      cases hl : t'.l with
      | nil => rw [hl] at he; simp at he
      | cons x xs => simp [R8.done, hl]
    case neg =>
      have okd : TA.2.done = true := by
        rw [e2, et]
        cases hl : t'.l with
        | nil => simp [R8.done, hl, hbad]
        | cons x xs => rw [hl] at he; simp at he
      have ok := hok0.trans okd
      (try simp only [nfD] at h); have F := h.facts; (try simp only [nfF, emp_fact, rds_fact, frm_fact, tab_fact, two_fact, inr_fact, ansX_fact] at F); try simp -dsimp only [↓vcA, vcB, vcD, ↓pureT_lenS, ↓iteT, ↓iteF, cond_true, cond_false, eq_self, argE, Env.get, Env.push, ev, evs, evo, retV, Value.cells, Value.oneCell', setR, overR, fillL, zl, places, allSizes, heldC, ne_eq, Int.reduceLE, Int.reduceLT, Int.reduceEq, Int.reduceNe, Int.reduceToNat, Int.cast_ofNat_Int, Nat.reduceMul, Nat.reduceLeDiff, reduceIte, Nat.reduceEqDiff, Nat.reduceAdd, ↓reduceIte, Try.vcT, F, h.cell0, gets, vsD, if_true, if_false, Bool.false_eq_true,  hc1, hc0, decide_eq_false he, cellsAt]
      refine Sep.put 0 h rfl ?_
      clear h F
      intro w8 h
      (try simp only [nfD] at h); have F := h.facts; (try simp only [nfF, emp_fact, rds_fact, frm_fact, tab_fact, two_fact, inr_fact, ansX_fact] at F); try simp -dsimp only [↓vcA, vcB, vcD, ↓pureT_lenS, ↓iteT, ↓iteF, cond_true, cond_false, eq_self, argE, Env.get, Env.push, ev, evs, evo, retV, Value.cells, Value.oneCell', setR, overR, fillL, zl, places, allSizes, heldC, ne_eq, Int.reduceLE, Int.reduceLT, Int.reduceEq, Int.reduceNe, Int.reduceToNat, Int.cast_ofNat_Int, Nat.reduceMul, Nat.reduceLeDiff, reduceIte, Nat.reduceEqDiff, Nat.reduceAdd, ↓reduceIte, Try.vcT, F, h.cell0, gets, vsD, if_true, if_false, Bool.false_eq_true,  cellsAt]
      have h := (((h.erase 2).erase 1).erase 0)
      have h := h.ansL (A := {({AnV.zero with la := (itemsB rLa sLa N (s.numS 1)).1}) with code := code}) rfl rfl
      exact fin2 ok e1 h
  have n1 : ¬ z = 1 := fun e => h12 (.inl e)
  have n2 : ¬ z = 2 := fun e => h12 (.inr e)
  have n3 : ¬ z = 3 := fun e => h34 (.inl e)
  have n4 : ¬ z = 4 := fun e => h34 (.inr e)
  by_cases e12 : z = 12
  case pos =>
    have ht : toldRQ s z = ({AnV.zero with n := s.numV 1}, s.numS 1) := by unfold toldRQ; rw [if_neg h12, if_neg h34, if_neg h14, if_neg h15, if_pos e12]
    rw [ht] at hd0
    dsimp only at hd0
    (try simp only [nfD] at h); have F := h.facts; (try simp only [nfF, emp_fact, rds_fact, frm_fact, tab_fact, two_fact, inr_fact, ansX_fact] at F); try simp -dsimp only [↓vcA, vcB, vcD, ↓pureT_lenS, ↓iteT, ↓iteF, cond_true, cond_false, eq_self, argE, Env.get, Env.push, ev, evs, evo, retV, Value.cells, Value.oneCell', setR, overR, fillL, zl, places, allSizes, heldC, ne_eq, Int.reduceLE, Int.reduceLT, Int.reduceEq, Int.reduceNe, Int.reduceToNat, Int.cast_ofNat_Int, Nat.reduceMul, Nat.reduceLeDiff, reduceIte, Nat.reduceEqDiff, Nat.reduceAdd, ↓reduceIte, Try.vcT, F, h.cell0, gets, vsD, if_true, if_false, Bool.false_eq_true,  decide_eq_true h0, decide_eq_false n1, decide_eq_false n2, decide_eq_false n3, decide_eq_false n4, decide_eq_false h14, decide_eq_false h15, decide_eq_true e12]
    refine Sep.rrNum 1 h rfl ?_
    clear h F
    intro w6 h
    (try simp only [nfD] at h); have F := h.facts; (try simp only [nfF, emp_fact, rds_fact, frm_fact, tab_fact, two_fact, inr_fact, ansX_fact] at F); try simp -dsimp only [↓vcA, vcB, vcD, ↓pureT_lenS, ↓iteT, ↓iteF, cond_true, cond_false, eq_self, argE, Env.get, Env.push, ev, evs, evo, retV, Value.cells, Value.oneCell', setR, overR, fillL, zl, places, allSizes, heldC, ne_eq, Int.reduceLE, Int.reduceLT, Int.reduceEq, Int.reduceNe, Int.reduceToNat, Int.cast_ofNat_Int, Nat.reduceMul, Nat.reduceLeDiff, reduceIte, Nat.reduceEqDiff, Nat.reduceAdd, ↓reduceIte, Try.vcT, F, h.cell0, gets, vsD, if_true, if_false, Bool.false_eq_true]
    refine Sep.put 2 h rfl ?_
    clear h F
    intro w7 h
    have ag : Agr (s.numS 1) (s.numS 1) := .inl rfl
    have e1 : TA.1 = {({AnV.zero with n := s.numV 1}) with code := code} := by rw [hd0]
    have e2 : TA.2 = s.numS 1 := by rw [hd0]
    obtain ⟨tt, htt⟩ : ∃ tt, tt = s.numS 1 := ⟨_, rfl⟩
    have ag' : Agr tt (s.numS 1) := by rw [htt]; exact ag
    rw [← htt] at e2
    clear htt ag
    have ag := ag'
    clear ag'
    generalize s.numS 1 = t' at h ag
    obtain ⟨_, vr, hw, _⟩ := h.rdAt (i := 1) rfl
    have hc1 := hw.c1
    have hc0 := hw.c0
    obtain ⟨ar, cr, rfl, _⟩ := hw.rd
    have ebad : tt.bad = t'.bad := ag.bad
    cases hbad : t'.bad with
    | true =>
      rw [hbad] at hc1
      (try simp only [nfD] at h); have F := h.facts; (try simp only [nfF, emp_fact, rds_fact, frm_fact, tab_fact, two_fact, inr_fact, ansX_fact] at F); try simp -dsimp only [↓vcA, vcB, vcD, ↓pureT_lenS, ↓iteT, ↓iteF, cond_true, cond_false, eq_self, argE, Env.get, Env.push, ev, evs, evo, retV, Value.cells, Value.oneCell', setR, overR, fillL, zl, places, allSizes, heldC, ne_eq, Int.reduceLE, Int.reduceLT, Int.reduceEq, Int.reduceNe, Int.reduceToNat, Int.cast_ofNat_Int, Nat.reduceMul, Nat.reduceLeDiff, reduceIte, Nat.reduceEqDiff, Nat.reduceAdd, ↓reduceIte, Try.vcT, F, h.cell0, gets, vsD, if_true, if_false, Bool.false_eq_true,  hc1]
      refine Sep.put 0 h rfl ?_
      clear h F
      intro w8 h
      (try simp only [nfD] at h); have F := h.facts; (try simp only [nfF, emp_fact, rds_fact, frm_fact, tab_fact, two_fact, inr_fact, ansX_fact] at F); try simp -dsimp only [↓vcA, vcB, vcD, ↓pureT_lenS, ↓iteT, ↓iteF, cond_true, cond_false, eq_self, argE, Env.get, Env.push, ev, evs, evo, retV, Value.cells, Value.oneCell', setR, overR, fillL, zl, places, allSizes, heldC, ne_eq, Int.reduceLE, Int.reduceLT, Int.reduceEq, Int.reduceNe, Int.reduceToNat, Int.cast_ofNat_Int, Nat.reduceMul, Nat.reduceLeDiff, reduceIte, Nat.reduceEqDiff, Nat.reduceAdd, ↓reduceIte, Try.vcT, F, h.cell0, gets, vsD, if_true, if_false, Bool.false_eq_true,  cellsAt]
      exact fin (hok0.trans (by rw [e2]; simp [R8.done, ebad, hbad])) h
    | false =>
    rw [hbad] at hc1
    have et : tt = t' := ag.of_ok (by rw [ebad, hbad])
    by_cases he : (0 : Int) < t'.l.length
    case pos =>
      (try simp only [nfD] at h); have F := h.facts; (try simp only [nfF, emp_fact, rds_fact, frm_fact, tab_fact, two_fact, inr_fact, ansX_fact] at F); try simp -dsimp only [↓vcA, vcB, vcD, ↓pureT_lenS, ↓iteT, ↓iteF, cond_true, cond_false, eq_self, argE, Env.get, Env.push, ev, evs, evo, retV, Value.cells, Value.oneCell', setR, overR, fillL, zl, places, allSizes, heldC, ne_eq, Int.reduceLE, Int.reduceLT, Int.reduceEq, Int.reduceNe, Int.reduceToNat, Int.cast_ofNat_Int, Nat.reduceMul, Nat.reduceLeDiff, reduceIte, Nat.reduceEqDiff, Nat.reduceAdd, ↓reduceIte, Try.vcT, F, h.cell0, gets, vsD, if_true, if_false, Bool.false_eq_true,  hc1, hc0, decide_eq_true he]
      refine Sep.put 0 h rfl ?_
      clear h F
      intro w8 h
      (try simp only [nfD] at h); have F := h.facts; (try simp only [nfF, emp_fact, rds_fact, frm_fact, tab_fact, two_fact, inr_fact, ansX_fact] at F); try simp -dsimp only [↓vcA, vcB, vcD, ↓pureT_lenS, ↓iteT, ↓iteF, cond_true, cond_false, eq_self, argE, Env.get, Env.push, ev, evs, evo, retV, Value.cells, Value.oneCell', setR, overR, fillL, zl, places, allSizes, heldC, ne_eq, Int.reduceLE, Int.reduceLT, Int.reduceEq, Int.reduceNe, Int.reduceToNat, Int.cast_ofNat_Int, Nat.reduceMul, Nat.reduceLeDiff, reduceIte, Nat.reduceEqDiff, Nat.reduceAdd, ↓reduceIte, Try.vcT, F, h.cell0, gets, vsD, if_true, if_false, Bool.false_eq_true,  cellsAt]
      refine fin (hok0.trans ?_) h
      rw [e2, et]
      cases hl : t'.l with
      | nil => rw [hl] at he; simp at he
      | cons x xs => simp [R8.done, hl]
    case neg =>
      have okd : TA.2.done = true := by
        rw [e2, et]
        cases hl : t'.l with
        | nil => simp [R8.done, hl, hbad]
        | cons x xs => rw [hl] at he; simp at he
      have ok := hok0.trans okd
      (try simp only [nfD] at h); have F := h.facts; (try simp only [nfF, emp_fact, rds_fact, frm_fact, tab_fact, two_fact, inr_fact, ansX_fact] at F); try simp -dsimp only [↓vcA, vcB, vcD, ↓pureT_lenS, ↓iteT, ↓iteF, cond_true, cond_false, eq_self, argE, Env.get, Env.push, ev, evs, evo, retV, Value.cells, Value.oneCell', setR, overR, fillL, zl, places, allSizes, heldC, ne_eq, Int.reduceLE, Int.reduceLT, Int.reduceEq, Int.reduceNe, Int.reduceToNat, Int.cast_ofNat_Int, Nat.reduceMul, Nat.reduceLeDiff, reduceIte, Nat.reduceEqDiff, Nat.reduceAdd, ↓reduceIte, Try.vcT, F, h.cell0, gets, vsD, if_true, if_false, Bool.false_eq_true,  hc1, hc0, decide_eq_false he, cellsAt]
      refine Sep.put 0 h rfl ?_
      clear h F
      intro w8 h
      (try simp only [nfD] at h); have F := h.facts; (try simp only [nfF, emp_fact, rds_fact, frm_fact, tab_fact, two_fact, inr_fact, ansX_fact] at F); try simp -dsimp only [↓vcA, vcB, vcD, ↓pureT_lenS, ↓iteT, ↓iteF, cond_true, cond_false, eq_self, argE, Env.get, Env.push, ev, evs, evo, retV, Value.cells, Value.oneCell', setR, overR, fillL, zl, places, allSizes, heldC, ne_eq, Int.reduceLE, Int.reduceLT, Int.reduceEq, Int.reduceNe, Int.reduceToNat, Int.cast_ofNat_Int, Nat.reduceMul, Nat.reduceLeDiff, reduceIte, Nat.reduceEqDiff, Nat.reduceAdd, ↓reduceIte, Try.vcT, F, h.cell0, gets, vsD, if_true, if_false, Bool.false_eq_true,  cellsAt]
      have h := h.ansN (A := {({AnV.zero with n := s.numV 1}) with code := code}) rfl rfl rfl
      exact fin2 ok e1 h
  by_cases e16 : z = 16
  case pos =>
    have ht : toldRQ s z = ({AnV.zero with n := s.numV 4, sum := sumR ((s.numS 4).numV 4) (((s.numS 4).numS 4).numV 4)}, ((s.numS 4).numS 4).numS 4) := by unfold toldRQ; rw [if_neg h12, if_neg h34, if_neg h14, if_neg h15, if_neg e12, if_pos e16]
    rw [ht] at hd0
    dsimp only at hd0
    (try simp only [nfD] at h); have F := h.facts; (try simp only [nfF, emp_fact, rds_fact, frm_fact, tab_fact, two_fact, inr_fact, ansX_fact] at F); try simp -dsimp only [↓vcA, vcB, vcD, ↓pureT_lenS, ↓iteT, ↓iteF, cond_true, cond_false, eq_self, argE, Env.get, Env.push, ev, evs, evo, retV, Value.cells, Value.oneCell', setR, overR, fillL, zl, places, allSizes, heldC, ne_eq, Int.reduceLE, Int.reduceLT, Int.reduceEq, Int.reduceNe, Int.reduceToNat, Int.cast_ofNat_Int, Nat.reduceMul, Nat.reduceLeDiff, reduceIte, Nat.reduceEqDiff, Nat.reduceAdd, ↓reduceIte, Try.vcT, F, h.cell0, gets, vsD, if_true, if_false, Bool.false_eq_true,  decide_eq_true h0, decide_eq_false n1, decide_eq_false n2, decide_eq_false n3, decide_eq_false n4, decide_eq_false h14, decide_eq_false h15, decide_eq_false e12, decide_eq_true e16]
    refine Sep.rrNum 1 h rfl ?_
    clear h F
    intro w6 h
    (try simp only [nfD] at h); have F := h.facts; (try simp only [nfF, emp_fact, rds_fact, frm_fact, tab_fact, two_fact, inr_fact, ansX_fact] at F); try simp -dsimp only [↓vcA, vcB, vcD, ↓pureT_lenS, ↓iteT, ↓iteF, cond_true, cond_false, eq_self, argE, Env.get, Env.push, ev, evs, evo, retV, Value.cells, Value.oneCell', setR, overR, fillL, zl, places, allSizes, heldC, ne_eq, Int.reduceLE, Int.reduceLT, Int.reduceEq, Int.reduceNe, Int.reduceToNat, Int.cast_ofNat_Int, Nat.reduceMul, Nat.reduceLeDiff, reduceIte, Nat.reduceEqDiff, Nat.reduceAdd, ↓reduceIte, Try.vcT, F, h.cell0, gets, vsD, if_true, if_false, Bool.false_eq_true]
    refine Sep.put 2 h rfl ?_
    clear h F
    intro w7 h
    (try simp only [nfD] at h); have F := h.facts; (try simp only [nfF, emp_fact, rds_fact, frm_fact, tab_fact, two_fact, inr_fact, ansX_fact] at F); try simp -dsimp only [↓vcA, vcB, vcD, ↓pureT_lenS, ↓iteT, ↓iteF, cond_true, cond_false, eq_self, argE, Env.get, Env.push, ev, evs, evo, retV, Value.cells, Value.oneCell', setR, overR, fillL, zl, places, allSizes, heldC, ne_eq, Int.reduceLE, Int.reduceLT, Int.reduceEq, Int.reduceNe, Int.reduceToNat, Int.cast_ofNat_Int, Nat.reduceMul, Nat.reduceLeDiff, reduceIte, Nat.reduceEqDiff, Nat.reduceAdd, ↓reduceIte, Try.vcT, F, h.cell0, gets, vsD, if_true, if_false, Bool.false_eq_true]
    refine Sep.rrNum 1 h rfl ?_
    clear h F
    intro w8 h
    (try simp only [nfD] at h); have F := h.facts; (try simp only [nfF, emp_fact, rds_fact, frm_fact, tab_fact, two_fact, inr_fact, ansX_fact] at F); try simp -dsimp only [↓vcA, vcB, vcD, ↓pureT_lenS, ↓iteT, ↓iteF, cond_true, cond_false, eq_self, argE, Env.get, Env.push, ev, evs, evo, retV, Value.cells, Value.oneCell', setR, overR, fillL, zl, places, allSizes, heldC, ne_eq, Int.reduceLE, Int.reduceLT, Int.reduceEq, Int.reduceNe, Int.reduceToNat, Int.cast_ofNat_Int, Nat.reduceMul, Nat.reduceLeDiff, reduceIte, Nat.reduceEqDiff, Nat.reduceAdd, ↓reduceIte, Try.vcT, F, h.cell0, gets, vsD, if_true, if_false, Bool.false_eq_true]
    refine Sep.rrNum 1 h rfl ?_
    clear h F
    intro w9 h
    (try simp only [nfD] at h); have F := h.facts; (try simp only [nfF, emp_fact, rds_fact, frm_fact, tab_fact, two_fact, inr_fact, ansX_fact] at F); try simp -dsimp only [↓vcA, vcB, vcD, ↓pureT_lenS, ↓iteT, ↓iteF, cond_true, cond_false, eq_self, argE, Env.get, Env.push, ev, evs, evo, retV, Value.cells, Value.oneCell', setR, overR, fillL, zl, places, allSizes, heldC, ne_eq, Int.reduceLE, Int.reduceLT, Int.reduceEq, Int.reduceNe, Int.reduceToNat, Int.cast_ofNat_Int, Nat.reduceMul, Nat.reduceLeDiff, reduceIte, Nat.reduceEqDiff, Nat.reduceAdd, ↓reduceIte, Try.vcT, F, h.cell0, gets, vsD, if_true, if_false, Bool.false_eq_true]
    refine Sep.put 2 h rfl ?_
    clear h F
    intro w10 h
    change Sep w _ [_, _, blk b7 114 [_, _, _, _, _, _, .int .u64 (sumR ((s.numS 4).numV 4) (((s.numS 4).numS 4).numV 4))]] _ at h
    have ag : Agr (((s.numS 4).numS 4).numS 4) (((s.numS 4).numS 4).numS 4) := .inl rfl
    have e1 : TA.1 = {({AnV.zero with n := s.numV 4, sum := sumR ((s.numS 4).numV 4) (((s.numS 4).numS 4).numV 4)}) with code := code} := by rw [hd0]
    have e2 : TA.2 = ((s.numS 4).numS 4).numS 4 := by rw [hd0]
    obtain ⟨tt, htt⟩ : ∃ tt, tt = ((s.numS 4).numS 4).numS 4 := ⟨_, rfl⟩
    have ag' : Agr tt (((s.numS 4).numS 4).numS 4) := by rw [htt]; exact ag
    rw [← htt] at e2
    clear htt ag
    have ag := ag'
    clear ag'
    generalize ((s.numS 4).numS 4).numS 4 = t' at h ag
    obtain ⟨_, vr, hw, _⟩ := h.rdAt (i := 1) rfl
    have hc1 := hw.c1
    have hc0 := hw.c0
    obtain ⟨ar, cr, rfl, _⟩ := hw.rd
    have ebad : tt.bad = t'.bad := ag.bad
    cases hbad : t'.bad with
    | true =>
      rw [hbad] at hc1
      (try simp only [nfD] at h); have F := h.facts; (try simp only [nfF, emp_fact, rds_fact, frm_fact, tab_fact, two_fact, inr_fact, ansX_fact] at F); try simp -dsimp only [↓vcA, vcB, vcD, ↓pureT_lenS, ↓iteT, ↓iteF, cond_true, cond_false, eq_self, argE, Env.get, Env.push, ev, evs, evo, retV, Value.cells, Value.oneCell', setR, overR, fillL, zl, places, allSizes, heldC, ne_eq, Int.reduceLE, Int.reduceLT, Int.reduceEq, Int.reduceNe, Int.reduceToNat, Int.cast_ofNat_Int, Nat.reduceMul, Nat.reduceLeDiff, reduceIte, Nat.reduceEqDiff, Nat.reduceAdd, ↓reduceIte, Try.vcT, F, h.cell0, gets, vsD, if_true, if_false, Bool.false_eq_true,  hc1]
      refine Sep.put 0 h rfl ?_
      clear h F
      intro w8 h
      (try simp only [nfD] at h); have F := h.facts; (try simp only [nfF, emp_fact, rds_fact, frm_fact, tab_fact, two_fact, inr_fact, ansX_fact] at F); try simp -dsimp only [↓vcA, vcB, vcD, ↓pureT_lenS, ↓iteT, ↓iteF, cond_true, cond_false, eq_self, argE, Env.get, Env.push, ev, evs, evo, retV, Value.cells, Value.oneCell', setR, overR, fillL, zl, places, allSizes, heldC, ne_eq, Int.reduceLE, Int.reduceLT, Int.reduceEq, Int.reduceNe, Int.reduceToNat, Int.cast_ofNat_Int, Nat.reduceMul, Nat.reduceLeDiff, reduceIte, Nat.reduceEqDiff, Nat.reduceAdd, ↓reduceIte, Try.vcT, F, h.cell0, gets, vsD, if_true, if_false, Bool.false_eq_true,  cellsAt]
      exact fin (hok0.trans (by rw [e2]; simp [R8.done, ebad, hbad])) h
    | false =>
    rw [hbad] at hc1
    have et : tt = t' := ag.of_ok (by rw [ebad, hbad])
    by_cases he : (0 : Int) < t'.l.length
    case pos =>
      (try simp only [nfD] at h); have F := h.facts; (try simp only [nfF, emp_fact, rds_fact, frm_fact, tab_fact, two_fact, inr_fact, ansX_fact] at F); try simp -dsimp only [↓vcA, vcB, vcD, ↓pureT_lenS, ↓iteT, ↓iteF, cond_true, cond_false, eq_self, argE, Env.get, Env.push, ev, evs, evo, retV, Value.cells, Value.oneCell', setR, overR, fillL, zl, places, allSizes, heldC, ne_eq, Int.reduceLE, Int.reduceLT, Int.reduceEq, Int.reduceNe, Int.reduceToNat, Int.cast_ofNat_Int, Nat.reduceMul, Nat.reduceLeDiff, reduceIte, Nat.reduceEqDiff, Nat.reduceAdd, ↓reduceIte, Try.vcT, F, h.cell0, gets, vsD, if_true, if_false, Bool.false_eq_true,  hc1, hc0, decide_eq_true he]
      refine Sep.put 0 h rfl ?_
      clear h F
      intro w8 h
      (try simp only [nfD] at h); have F := h.facts; (try simp only [nfF, emp_fact, rds_fact, frm_fact, tab_fact, two_fact, inr_fact, ansX_fact] at F); try simp -dsimp only [↓vcA, vcB, vcD, ↓pureT_lenS, ↓iteT, ↓iteF, cond_true, cond_false, eq_self, argE, Env.get, Env.push, ev, evs, evo, retV, Value.cells, Value.oneCell', setR, overR, fillL, zl, places, allSizes, heldC, ne_eq, Int.reduceLE, Int.reduceLT, Int.reduceEq, Int.reduceNe, Int.reduceToNat, Int.cast_ofNat_Int, Nat.reduceMul, Nat.reduceLeDiff, reduceIte, Nat.reduceEqDiff, Nat.reduceAdd, ↓reduceIte, Try.vcT, F, h.cell0, gets, vsD, if_true, if_false, Bool.false_eq_true,  cellsAt]
      refine fin (hok0.trans ?_) h
      rw [e2, et]
      cases hl : t'.l with
      | nil => rw [hl] at he; simp at he
      | cons x xs => simp [R8.done, hl]
    case neg =>
      have okd : TA.2.done = true := by
        rw [e2, et]
        cases hl : t'.l with
        | nil => simp [R8.done, hl, hbad]
        | cons x xs => rw [hl] at he; simp at he
      have ok := hok0.trans okd
      (try simp only [nfD] at h); have F := h.facts; (try simp only [nfF, emp_fact, rds_fact, frm_fact, tab_fact, two_fact, inr_fact, ansX_fact] at F); try simp -dsimp only [↓vcA, vcB, vcD, ↓pureT_lenS, ↓iteT, ↓iteF, cond_true, cond_false, eq_self, argE, Env.get, Env.push, ev, evs, evo, retV, Value.cells, Value.oneCell', setR, overR, fillL, zl, places, allSizes, heldC, ne_eq, Int.reduceLE, Int.reduceLT, Int.reduceEq, Int.reduceNe, Int.reduceToNat, Int.cast_ofNat_Int, Nat.reduceMul, Nat.reduceLeDiff, reduceIte, Nat.reduceEqDiff, Nat.reduceAdd, ↓reduceIte, Try.vcT, F, h.cell0, gets, vsD, if_true, if_false, Bool.false_eq_true,  hc1, hc0, decide_eq_false he, cellsAt]
      refine Sep.put 0 h rfl ?_
      clear h F
      intro w8 h
      (try simp only [nfD] at h); have F := h.facts; (try simp only [nfF, emp_fact, rds_fact, frm_fact, tab_fact, two_fact, inr_fact, ansX_fact] at F); try simp -dsimp only [↓vcA, vcB, vcD, ↓pureT_lenS, ↓iteT, ↓iteF, cond_true, cond_false, eq_self, argE, Env.get, Env.push, ev, evs, evo, retV, Value.cells, Value.oneCell', setR, overR, fillL, zl, places, allSizes, heldC, ne_eq, Int.reduceLE, Int.reduceLT, Int.reduceEq, Int.reduceNe, Int.reduceToNat, Int.cast_ofNat_Int, Nat.reduceMul, Nat.reduceLeDiff, reduceIte, Nat.reduceEqDiff, Nat.reduceAdd, ↓reduceIte, Try.vcT, F, h.cell0, gets, vsD, if_true, if_false, Bool.false_eq_true,  cellsAt]
      have h := h.ansN (A := {({AnV.zero with n := s.numV 4, sum := sumR ((s.numS 4).numV 4) (((s.numS 4).numS 4).numV 4)}) with code := code}) rfl rfl rfl
      exact fin2 ok e1 h
  have ht : toldRQ s z = (AnV.zero, s) := by unfold toldRQ; rw [if_neg h12, if_neg h34, if_neg h14, if_neg h15, if_neg e12, if_neg e16]
  rw [ht] at hd0
  dsimp only at hd0
  have ag : Agr s s := .inl rfl
  have e1 : TA.1 = {(AnV.zero) with code := code} := by rw [hd0]
  have e2 : TA.2 = s := by rw [hd0]
  obtain ⟨tt, htt⟩ : ∃ tt, tt = s := ⟨_, rfl⟩
  have ag' : Agr tt (s) := by rw [htt]; exact ag
  rw [← htt] at e2
  clear htt ag
  have ag := ag'
  clear ag'
  generalize s = t' at h ag
  obtain ⟨_, vr, hw, _⟩ := h.rdAt (i := 1) rfl
  have hc1 := hw.c1
  have hc0 := hw.c0
  obtain ⟨ar, cr, rfl, _⟩ := hw.rd
  have ebad : tt.bad = t'.bad := ag.bad
  cases hbad : t'.bad with
  | true =>
    rw [hbad] at hc1
    (try simp only [nfD] at h); have F := h.facts; (try simp only [nfF, emp_fact, rds_fact, frm_fact, tab_fact, two_fact, inr_fact, ansX_fact] at F); try simp -dsimp only [↓vcA, vcB, vcD, ↓pureT_lenS, ↓iteT, ↓iteF, cond_true, cond_false, eq_self, argE, Env.get, Env.push, ev, evs, evo, retV, Value.cells, Value.oneCell', setR, overR, fillL, zl, places, allSizes, heldC, ne_eq, Int.reduceLE, Int.reduceLT, Int.reduceEq, Int.reduceNe, Int.reduceToNat, Int.cast_ofNat_Int, Nat.reduceMul, Nat.reduceLeDiff, reduceIte, Nat.reduceEqDiff, Nat.reduceAdd, ↓reduceIte, Try.vcT, F, h.cell0, gets, vsD, if_true, if_false, Bool.false_eq_true,  decide_eq_true h0, decide_eq_false n1, decide_eq_false n2, decide_eq_false n3, decide_eq_false n4, decide_eq_false h14, decide_eq_false h15, decide_eq_false e12, decide_eq_false e16, hc1]
    refine Sep.put 0 h rfl ?_
    clear h F
    intro w8 h
    (try simp only [nfD] at h); have F := h.facts; (try simp only [nfF, emp_fact, rds_fact, frm_fact, tab_fact, two_fact, inr_fact, ansX_fact] at F); try simp -dsimp only [↓vcA, vcB, vcD, ↓pureT_lenS, ↓iteT, ↓iteF, cond_true, cond_false, eq_self, argE, Env.get, Env.push, ev, evs, evo, retV, Value.cells, Value.oneCell', setR, overR, fillL, zl, places, allSizes, heldC, ne_eq, Int.reduceLE, Int.reduceLT, Int.reduceEq, Int.reduceNe, Int.reduceToNat, Int.cast_ofNat_Int, Nat.reduceMul, Nat.reduceLeDiff, reduceIte, Nat.reduceEqDiff, Nat.reduceAdd, ↓reduceIte, Try.vcT, F, h.cell0, gets, vsD, if_true, if_false, Bool.false_eq_true,  cellsAt]
    exact fin (hok0.trans (by rw [e2]; simp [R8.done, ebad, hbad])) h
  | false =>
  rw [hbad] at hc1
  have et : tt = t' := ag.of_ok (by rw [ebad, hbad])
  by_cases he : (0 : Int) < t'.l.length
  case pos =>
    (try simp only [nfD] at h); have F := h.facts; (try simp only [nfF, emp_fact, rds_fact, frm_fact, tab_fact, two_fact, inr_fact, ansX_fact] at F); try simp -dsimp only [↓vcA, vcB, vcD, ↓pureT_lenS, ↓iteT, ↓iteF, cond_true, cond_false, eq_self, argE, Env.get, Env.push, ev, evs, evo, retV, Value.cells, Value.oneCell', setR, overR, fillL, zl, places, allSizes, heldC, ne_eq, Int.reduceLE, Int.reduceLT, Int.reduceEq, Int.reduceNe, Int.reduceToNat, Int.cast_ofNat_Int, Nat.reduceMul, Nat.reduceLeDiff, reduceIte, Nat.reduceEqDiff, Nat.reduceAdd, ↓reduceIte, Try.vcT, F, h.cell0, gets, vsD, if_true, if_false, Bool.false_eq_true,  decide_eq_true h0, decide_eq_false n1, decide_eq_false n2, decide_eq_false n3, decide_eq_false n4, decide_eq_false h14, decide_eq_false h15, decide_eq_false e12, decide_eq_false e16, hc1, hc0, decide_eq_true he]
    refine Sep.put 0 h rfl ?_
    clear h F
    intro w8 h
    (try simp only [nfD] at h); have F := h.facts; (try simp only [nfF, emp_fact, rds_fact, frm_fact, tab_fact, two_fact, inr_fact, ansX_fact] at F); try simp -dsimp only [↓vcA, vcB, vcD, ↓pureT_lenS, ↓iteT, ↓iteF, cond_true, cond_false, eq_self, argE, Env.get, Env.push, ev, evs, evo, retV, Value.cells, Value.oneCell', setR, overR, fillL, zl, places, allSizes, heldC, ne_eq, Int.reduceLE, Int.reduceLT, Int.reduceEq, Int.reduceNe, Int.reduceToNat, Int.cast_ofNat_Int, Nat.reduceMul, Nat.reduceLeDiff, reduceIte, Nat.reduceEqDiff, Nat.reduceAdd, ↓reduceIte, Try.vcT, F, h.cell0, gets, vsD, if_true, if_false, Bool.false_eq_true,  cellsAt]
    refine fin (hok0.trans ?_) h
    rw [e2, et]
    cases hl : t'.l with
    | nil => rw [hl] at he; simp at he
    | cons x xs => simp [R8.done, hl]
  case neg =>
    have okd : TA.2.done = true := by
      rw [e2, et]
      cases hl : t'.l with
      | nil => simp [R8.done, hl, hbad]
      | cons x xs => rw [hl] at he; simp at he
    have ok := hok0.trans okd
    (try simp only [nfD] at h); have F := h.facts; (try simp only [nfF, emp_fact, rds_fact, frm_fact, tab_fact, two_fact, inr_fact, ansX_fact] at F); try simp -dsimp only [↓vcA, vcB, vcD, ↓pureT_lenS, ↓iteT, ↓iteF, cond_true, cond_false, eq_self, argE, Env.get, Env.push, ev, evs, evo, retV, Value.cells, Value.oneCell', setR, overR, fillL, zl, places, allSizes, heldC, ne_eq, Int.reduceLE, Int.reduceLT, Int.reduceEq, Int.reduceNe, Int.reduceToNat, Int.cast_ofNat_Int, Nat.reduceMul, Nat.reduceLeDiff, reduceIte, Nat.reduceEqDiff, Nat.reduceAdd, ↓reduceIte, Try.vcT, F, h.cell0, gets, vsD, if_true, if_false, Bool.false_eq_true,  decide_eq_true h0, decide_eq_false n1, decide_eq_false n2, decide_eq_false n3, decide_eq_false n4, decide_eq_false h14, decide_eq_false h15, decide_eq_false e12, decide_eq_false e16, hc1, hc0, decide_eq_false he, cellsAt]
    refine Sep.put 0 h rfl ?_
    clear h F
    intro w8 h
    (try simp only [nfD] at h); have F := h.facts; (try simp only [nfF, emp_fact, rds_fact, frm_fact, tab_fact, two_fact, inr_fact, ansX_fact] at F); try simp -dsimp only [↓vcA, vcB, vcD, ↓pureT_lenS, ↓iteT, ↓iteF, cond_true, cond_false, eq_self, argE, Env.get, Env.push, ev, evs, evo, retV, Value.cells, Value.oneCell', setR, overR, fillL, zl, places, allSizes, heldC, ne_eq, Int.reduceLE, Int.reduceLT, Int.reduceEq, Int.reduceNe, Int.reduceToNat, Int.cast_ofNat_Int, Nat.reduceMul, Nat.reduceLeDiff, reduceIte, Nat.reduceEqDiff, Nat.reduceAdd, ↓reduceIte, Try.vcT, F, h.cell0, gets, vsD, if_true, if_false, Bool.false_eq_true,  cellsAt]
    have h := h.ansN (A := {(AnV.zero) with code := code}) rfl rfl rfl
    exact fin2 ok e1 h
end Go.Proofs.Ytnhgjgoglmadnaa
