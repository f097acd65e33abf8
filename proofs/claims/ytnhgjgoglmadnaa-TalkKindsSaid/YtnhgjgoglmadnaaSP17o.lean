/- Joined texts of this claim (part 15), printed by a program of this work. The last part holds the claimed theorem: the law answers true at every input of its row. -/
import Derived.Test.YtnhgjgoglmadnaaSP17n
namespace Go.Proofs.Ytnhgjgoglmadnaa
open Go.RowKit
set_option maxRecDepth 100000
set_option linter.unusedSimpArgs false
set_option linter.unusedVariables false
set_option pp.maxSteps 1500
set_option pp.deepTerms.threshold 8

theorem wPc_stp (s : W8) : ∀ x, Stp 80 s (wPc s x)
  | [a0, a1, a2, a3, a4, a5, a6, a7, a8] => ((((Stp.tri s a0 a1 a2 a3 a4 a5).trans (Stp.num _ _ _)).trans (Stp.num _ _ _)).trans (Stp.num _ _ _)).mono (by omega)
  | [] => (Stp.refl s).mono (by omega)
  | [_] => (Stp.refl s).mono (by omega)
  | [_, _] => (Stp.refl s).mono (by omega)
  | [_, _, _] => (Stp.refl s).mono (by omega)
  | [_, _, _, _] => (Stp.refl s).mono (by omega)
  | [_, _, _, _, _] => (Stp.refl s).mono (by omega)
  | [_, _, _, _, _, _] => (Stp.refl s).mono (by omega)
  | [_, _, _, _, _, _, _] => (Stp.refl s).mono (by omega)
  | [_, _, _, _, _, _, _, _] => (Stp.refl s).mono (by omega)
  | _ :: _ :: _ :: _ :: _ :: _ :: _ :: _ :: _ :: _ :: _ => (Stp.refl s).mono (by omega)
theorem wCp_stp (s : W8) : ∀ x, Stp 80 s (wCp s x)
  | [a0, a1, a2, a3, a4, a5, a6, a7, a8] => ((((((Stp.num s _ _).trans (Stp.num _ _ _)).trans (Stp.num _ _ _)).trans (Stp.num _ _ _)).trans (Stp.num _ _ _)).trans (Stp.num _ _ _)).mono (by omega)
  | [] => (Stp.refl s).mono (by omega)
  | [_] => (Stp.refl s).mono (by omega)
  | [_, _] => (Stp.refl s).mono (by omega)
  | [_, _, _] => (Stp.refl s).mono (by omega)
  | [_, _, _, _] => (Stp.refl s).mono (by omega)
  | [_, _, _, _, _] => (Stp.refl s).mono (by omega)
  | [_, _, _, _, _, _] => (Stp.refl s).mono (by omega)
  | [_, _, _, _, _, _, _] => (Stp.refl s).mono (by omega)
  | [_, _, _, _, _, _, _, _] => (Stp.refl s).mono (by omega)
  | _ :: _ :: _ :: _ :: _ :: _ :: _ :: _ :: _ :: _ :: _ => (Stp.refl s).mono (by omega)
theorem wLa_stp : ∀ (xs : List Int) (s : W8), Stp (xs.length * 8) s (xs.foldl wLa s)
  | [], s => (Stp.refl s).mono (by omega)
  | x :: xs, s => ((Stp.num s x 2).trans (wLa_stp xs _)).mono (by simp only [List.length_cons, Nat.succ_mul]; omega)
theorem tellsW_stp (s : W8) (z : Int) (a : AnV) : Stp (100 + a.p.length * 80 + a.ca.length * 80 + a.la.length * 8) s (tellsW s z a) := by
  unfold tellsW
  split
  · split
    · exact (Stp.list wPc_stp a.p s).mono (by omega)
    · exact (Stp.num s _ _).mono (by omega)
  split
  · exact (((Stp.num s _ _).trans (Stp.list wPc_stp a.p _)).trans (Stp.num _ _ _)).mono (by omega)
  split
  · exact (((Stp.num s _ _).trans (Stp.list wCp_stp a.ca _)).trans (Stp.num _ _ _)).mono (by omega)
  split
  · exact ((Stp.num s _ _).trans (wLa_stp a.la _)).mono (by omega)
  split
  · exact (Stp.num s _ _).mono (by omega)
  split
  · exact ((Stp.num s _ _).trans (Stp.raw _ (be_byt _ _))).mono (by rw [be_length]; omega)
  · exact (Stp.refl s).mono (by omega)
theorem writtenW_byt (z : Int) (a : AnV) : Byt (writtenW z a).l ∧ (writtenW z a).l.length ≤ a.room := by
  have h0 := Stp.num (⟨[], false⟩ : W8) a.code 1
  have h1 := h0.trans (tellsW_stp ((⟨[], false⟩ : W8).num a.code 1) z a)
  unfold writtenW AnV.room
  split
  · exact ⟨h1.1 Byt.nil, by have := h1.2.1; simp only [List.length_nil] at this; omega⟩
  · exact ⟨h0.1 Byt.nil, by have := h0.2.1; simp only [List.length_nil] at this; omega⟩
theorem writtenB_byt (z : Int) (a : AnV) : Byt (writtenB z a) := by
  unfold writtenB; split
  · exact Byt.nil
  · exact (writtenW_byt z a).1
set_option maxHeartbeats 4000000 in
theorem told72 (z : Int) (v : Value) (b : List Int) (w : World) (hr : Rd w v b) (hb : Byt b) (hl : b.length ≤ 99000) :
    Calls Try.prog 72 [.int .i64 z, v].toArray w (RetK fun r w' => ∃ N, Sep w (fun _ => False) N w' ∧ (∀ q ∈ N, ∀ x, ¬ q.rd x) ∧
      ∃ t, r = .tuple #[.agg ((toldV z b).cells t).toArray, .int .i64 (if toldOk z b then 0 else 2)] ∧ N = [ansX (toldV z b) t]) := by
  have hr' := hr
  obtain ⟨a, cc, rfl, _⟩ := hr'
  have h := Sep.nil w
  refine walk Try.func72 rfl (by kernel_rfl) (by rw [Try.nt72]; simp) ?_
  (try simp only [nfD] at h); have F := h.facts; (try simp only [nfF, emp_fact, rds_fact, frm_fact, tab_fact, two_fact, inr_fact, ansX_fact] at F)
  simp -dsimp only [↓vcA, vcB, vcD, ↓pureT_lenS, ↓iteT, ↓iteF, cond_true, cond_false, eq_self, argE, Env.get, Env.push, ev, evs, evo, retV, Value.cells, Value.oneCell', setR, overR, fillL, zl, places, allSizes, heldC, ne_eq, Int.reduceLE, Int.reduceLT, Int.reduceEq, Int.reduceNe, Int.reduceToNat, Int.cast_ofNat_Int, Nat.reduceMul, Nat.reduceLeDiff, reduceIte, Nat.reduceEqDiff, Nat.reduceAdd, ↓reduceIte, Try.vcT]
  refine h.new ?_
  clear h F
  intro w1 b1 h
  (try simp only [nfD] at h); have F := h.facts; (try simp only [nfF, emp_fact, rds_fact, frm_fact, tab_fact, two_fact, inr_fact, ansX_fact] at F); try simp -dsimp only [↓vcA, vcB, vcD, ↓pureT_lenS, ↓iteT, ↓iteF, cond_true, cond_false, eq_self, argE, Env.get, Env.push, ev, evs, evo, retV, Value.cells, Value.oneCell', setR, overR, fillL, zl, places, allSizes, heldC, ne_eq, Int.reduceLE, Int.reduceLT, Int.reduceEq, Int.reduceNe, Int.reduceToNat, Int.cast_ofNat_Int, Nat.reduceMul, Nat.reduceLeDiff, reduceIte, Nat.reduceEqDiff, Nat.reduceAdd, ↓reduceIte, Try.vcT, F, h.cell0, gets, vsD, if_true, if_false, Bool.false_eq_true]
  refine Sep.read b h (hr.sep h fun _ _ => id) (by omega) ?_
  clear h F
  intro r w2 h
  (try simp only [nfD] at h); have F := h.facts; (try simp only [nfF, emp_fact, rds_fact, frm_fact, tab_fact, two_fact, inr_fact, ansX_fact] at F); try simp -dsimp only [↓vcA, vcB, vcD, ↓pureT_lenS, ↓iteT, ↓iteF, cond_true, cond_false, eq_self, argE, Env.get, Env.push, ev, evs, evo, retV, Value.cells, Value.oneCell', setR, overR, fillL, zl, places, allSizes, heldC, ne_eq, Int.reduceLE, Int.reduceLT, Int.reduceEq, Int.reduceNe, Int.reduceToNat, Int.cast_ofNat_Int, Nat.reduceMul, Nat.reduceLeDiff, reduceIte, Nat.reduceEqDiff, Nat.reduceAdd, ↓reduceIte, Try.vcT, F, h.cell0, gets, vsD, if_true, if_false, Bool.false_eq_true]
  refine Sep.rdNum 1 h rfl ?_
  clear h F
  intro w3 h
  have hS1 := numS_byt (⟨b, false⟩ : R8) 1 hb
  have hok0 : toldOk z b = ((toldA z b).2.done && (!(writtenW z (toldA z b).1).bad && decide (writtenB z (toldA z b).1 = b))) := rfl
  have hv0 : toldV z b = if toldOk z b then (toldA z b).1 else AnV.zero := rfl
  obtain ⟨hO, hroom⟩ := toldA_ok hb z
  have hA : toldA z b = ({(if (⟨b, false⟩ : R8).numV 1 = 0 then toldQ ((⟨b, false⟩ : R8).numS 1) z else (AnV.zero, (⟨b, false⟩ : R8).numS 1)).1 with code := (⟨b, false⟩ : R8).numV 1}, (if (⟨b, false⟩ : R8).numV 1 = 0 then toldQ ((⟨b, false⟩ : R8).numS 1) z else (AnV.zero, (⟨b, false⟩ : R8).numS 1)).2) := rfl
  have fin : ∀ {w' : World} {M : List Res}, toldOk z b = false → Sep w (fun _ => False) M w' → ∃ N, Sep w (fun _ => False) N w' ∧ (∀ q ∈ N, ∀ x, ¬ q.rd x) ∧
      ∃ t, Value.tuple #[.agg #[.int .i64 0, .slice none 0 0, .bool false, .slice none 0 0, .slice none 0 0, .int .i64 0, .int .u64 0], .int .i64 2] = .tuple #[.agg ((toldV z b).cells t).toArray, .int .i64 (if toldOk z b then 0 else 2)] ∧ N = [ansX (toldV z b) t] := fun hf h => by
    have e : toldV z b = AnV.zero := by rw [hv0, hf]; rfl
    rw [e, hf]
    exact ⟨_, h.ansZero, (fun q hq x => by simp at hq; subst hq; exact ansX_rd _ _ x), AnS.zero, rfl, rfl⟩
  generalize (⟨b, false⟩ : R8).numS 1 = s1 at *
  generalize (⟨b, false⟩ : R8).numV 1 = code at *
  by_cases h0 : code = 0
  case' pos =>
    rw [if_pos h0] at hA
    (try simp only [nfD] at h); have F := h.facts; (try simp only [nfF, emp_fact, rds_fact, frm_fact, tab_fact, two_fact, inr_fact, ansX_fact] at F); try simp -dsimp only [↓vcA, vcB, vcD, ↓pureT_lenS, ↓iteT, ↓iteF, cond_true, cond_false, eq_self, argE, Env.get, Env.push, ev, evs, evo, retV, Value.cells, Value.oneCell', setR, overR, fillL, zl, places, allSizes, heldC, ne_eq, Int.reduceLE, Int.reduceLT, Int.reduceEq, Int.reduceNe, Int.reduceToNat, Int.cast_ofNat_Int, Nat.reduceMul, Nat.reduceLeDiff, reduceIte, Nat.reduceEqDiff, Nat.reduceAdd, ↓reduceIte, Try.vcT, F, h.cell0, gets, vsD, if_true, if_false, Bool.false_eq_true,  decide_eq_true h0]
    refine told131 h hS1 ?_
    clear h F
    intro t w4 h
    generalize hQ : toldQ s1 z = Q at *
    obtain ⟨A, s'⟩ := Q
    dsimp only at hA
    (try simp only [nfD] at h); have F := h.facts; (try simp only [nfF, emp_fact, rds_fact, frm_fact, tab_fact, two_fact, inr_fact, ansX_fact] at F)
    have R := F.2.2.1
    obtain ⟨tp, tca, tla⟩ := t
    obtain ⟨Ap, Cp, ep⟩ := R.p.shape
    obtain ⟨Aca, Cca, eca⟩ := R.ca.shape
    obtain ⟨Ala, Cla, ela⟩ := R.la.shape
    dsimp only at ep eca ela
    subst ep eca ela
    clear R
    (try simp only [nfD] at h); have F := h.facts; (try simp only [nfF, emp_fact, rds_fact, frm_fact, tab_fact, two_fact, inr_fact, ansX_fact] at F); try simp -dsimp only [↓vcA, vcB, vcD, ↓pureT_lenS, ↓iteT, ↓iteF, cond_true, cond_false, eq_self, argE, Env.get, Env.push, ev, evs, evo, retV, Value.cells, Value.oneCell', setR, overR, fillL, zl, places, allSizes, heldC, ne_eq, Int.reduceLE, Int.reduceLT, Int.reduceEq, Int.reduceNe, Int.reduceToNat, Int.cast_ofNat_Int, Nat.reduceMul, Nat.reduceLeDiff, reduceIte, Nat.reduceEqDiff, Nat.reduceAdd, ↓reduceIte, Try.vcT, F, h.cell0, gets, vsD, if_true, if_false, Bool.false_eq_true,  AnV.cells]
    refine Sep.put 0 h rfl ?_
    clear h F
    intro w5 h
    (try simp only [nfD] at h); have F := h.facts; (try simp only [nfF, emp_fact, rds_fact, frm_fact, tab_fact, two_fact, inr_fact, ansX_fact] at F); try simp -dsimp only [↓vcA, vcB, vcD, ↓pureT_lenS, ↓iteT, ↓iteF, cond_true, cond_false, eq_self, argE, Env.get, Env.push, ev, evs, evo, retV, Value.cells, Value.oneCell', setR, overR, fillL, zl, places, allSizes, heldC, ne_eq, Int.reduceLE, Int.reduceLT, Int.reduceEq, Int.reduceNe, Int.reduceToNat, Int.cast_ofNat_Int, Nat.reduceMul, Nat.reduceLeDiff, reduceIte, Nat.reduceEqDiff, Nat.reduceAdd, ↓reduceIte, Try.vcT, F, h.cell0, gets, vsD, if_true, if_false, Bool.false_eq_true,  AnV.cells]
  case' neg =>
    rw [if_neg h0] at hA
    dsimp only at hA
    have h := h.ansPush
    (try simp only [nfD] at h); have F := h.facts; (try simp only [nfF, emp_fact, rds_fact, frm_fact, tab_fact, two_fact, inr_fact, ansX_fact] at F); try simp -dsimp only [↓vcA, vcB, vcD, ↓pureT_lenS, ↓iteT, ↓iteF, cond_true, cond_false, eq_self, argE, Env.get, Env.push, ev, evs, evo, retV, Value.cells, Value.oneCell', setR, overR, fillL, zl, places, allSizes, heldC, ne_eq, Int.reduceLE, Int.reduceLT, Int.reduceEq, Int.reduceNe, Int.reduceToNat, Int.cast_ofNat_Int, Nat.reduceMul, Nat.reduceLeDiff, reduceIte, Nat.reduceEqDiff, Nat.reduceAdd, ↓reduceIte, Try.vcT, F, h.cell0, gets, vsD, if_true, if_false, Bool.false_eq_true,  decide_eq_false h0]
  all_goals
    refine Sep.put 0 h rfl ?_
    clear h F
    intro w6 h
    (try simp only [nfD] at h); have F := h.facts; (try simp only [nfF, emp_fact, rds_fact, frm_fact, tab_fact, two_fact, inr_fact, ansX_fact] at F); try simp -dsimp only [↓vcA, vcB, vcD, ↓pureT_lenS, ↓iteT, ↓iteF, cond_true, cond_false, eq_self, argE, Env.get, Env.push, ev, evs, evo, retV, Value.cells, Value.oneCell', setR, overR, fillL, zl, places, allSizes, heldC, ne_eq, Int.reduceLE, Int.reduceLT, Int.reduceEq, Int.reduceNe, Int.reduceToNat, Int.cast_ofNat_Int, Nat.reduceMul, Nat.reduceLeDiff, reduceIte, Nat.reduceEqDiff, Nat.reduceAdd, ↓reduceIte, Try.vcT, F, h.cell0, gets, vsD, if_true, if_false, Bool.false_eq_true,  cellsAt]
  all_goals
    have R := F.2.2.1
    have hd2 := congrArg Prod.snd hA
    dsimp only at hd2
    have k1 := written128 z (toldA z b).1 _ w6 (by rw [hA]; exact ⟨R.p, R.ca, R.la⟩) hO (by omega)
    have hbB := writtenB_byt z (toldA z b).1
    generalize writtenB z (toldA z b).1 = B at *
    generalize writtenW z (toldA z b).1 = W at *
    have hcell : ∀ t : AnS, (toldA z b).1.cells t = (toldA z b).1.cells t := fun _ => rfl
    rw [hA] at k1
    simp only [AnV.cells, AnV.zero, AnS.zero] at k1
    refine Sep.callN h k1 ?_
    clear h F k1 R
    intro e N w7 hQ h
    obtain ⟨a7, c7, rfl, rfl⟩ := hQ
    (try simp only [nfD] at h); have F := h.facts; (try simp only [nfF, emp_fact, rds_fact, frm_fact, tab_fact, two_fact, inr_fact, ansX_fact] at F); try simp -dsimp only [↓vcA, vcB, vcD, ↓pureT_lenS, ↓iteT, ↓iteF, cond_true, cond_false, eq_self, argE, Env.get, Env.push, ev, evs, evo, retV, Value.cells, Value.oneCell', setR, overR, fillL, zl, places, allSizes, heldC, ne_eq, Int.reduceLE, Int.reduceLT, Int.reduceEq, Int.reduceNe, Int.reduceToNat, Int.cast_ofNat_Int, Nat.reduceMul, Nat.reduceLeDiff, reduceIte, Nat.reduceEqDiff, Nat.reduceAdd, ↓reduceIte, Try.vcT, F, h.cell0, gets, vsD, if_true, if_false, Bool.false_eq_true]
    refine Sep.rdDone 1 h rfl ?_
    rw [← hd2]
    cases hd : (toldA z b).2.done with
    | false =>
      (try simp only [nfD] at h); have F := h.facts; (try simp only [nfF, emp_fact, rds_fact, frm_fact, tab_fact, two_fact, inr_fact, ansX_fact] at F); try simp -dsimp only [↓vcA, vcB, vcD, ↓pureT_lenS, ↓iteT, ↓iteF, cond_true, cond_false, eq_self, argE, Env.get, Env.push, ev, evs, evo, retV, Value.cells, Value.oneCell', setR, overR, fillL, zl, places, allSizes, heldC, ne_eq, Int.reduceLE, Int.reduceLT, Int.reduceEq, Int.reduceNe, Int.reduceToNat, Int.cast_ofNat_Int, Nat.reduceMul, Nat.reduceLeDiff, reduceIte, Nat.reduceEqDiff, Nat.reduceAdd, ↓reduceIte, Try.vcT, F, h.cell0, gets, vsD, if_true, if_false, Bool.false_eq_true,  hd, if_false, Bool.not_true, Bool.not_false, Bool.false_eq_true]
      refine Sep.put 0 h rfl ?_
      clear h F
      intro w8 h
      (try simp only [nfD] at h); have F := h.facts; (try simp only [nfF, emp_fact, rds_fact, frm_fact, tab_fact, two_fact, inr_fact, ansX_fact] at F); try simp -dsimp only [↓vcA, vcB, vcD, ↓pureT_lenS, ↓iteT, ↓iteF, cond_true, cond_false, eq_self, argE, Env.get, Env.push, ev, evs, evo, retV, Value.cells, Value.oneCell', setR, overR, fillL, zl, places, allSizes, heldC, ne_eq, Int.reduceLE, Int.reduceLT, Int.reduceEq, Int.reduceNe, Int.reduceToNat, Int.cast_ofNat_Int, Nat.reduceMul, Nat.reduceLeDiff, reduceIte, Nat.reduceEqDiff, Nat.reduceAdd, ↓reduceIte, Try.vcT, F, h.cell0, gets, vsD, if_true, if_false, Bool.false_eq_true,  cellsAt]
      exact fin (by rw [hok0, hd]; rfl) h
    | true =>
    cases hw : W.bad with
    | true =>
      (try simp only [nfD] at h); have F := h.facts; (try simp only [nfF, emp_fact, rds_fact, frm_fact, tab_fact, two_fact, inr_fact, ansX_fact] at F); try simp -dsimp only [↓vcA, vcB, vcD, ↓pureT_lenS, ↓iteT, ↓iteF, cond_true, cond_false, eq_self, argE, Env.get, Env.push, ev, evs, evo, retV, Value.cells, Value.oneCell', setR, overR, fillL, zl, places, allSizes, heldC, ne_eq, Int.reduceLE, Int.reduceLT, Int.reduceEq, Int.reduceNe, Int.reduceToNat, Int.cast_ofNat_Int, Nat.reduceMul, Nat.reduceLeDiff, reduceIte, Nat.reduceEqDiff, Nat.reduceAdd, ↓reduceIte, Try.vcT, F, h.cell0, gets, vsD, if_true, if_false, Bool.false_eq_true,  hd, hw, if_true, if_false, Bool.not_true, Bool.not_false, Bool.false_eq_true]
      refine Sep.put 0 h rfl ?_
      clear h F
      intro w8 h
      (try simp only [nfD] at h); have F := h.facts; (try simp only [nfF, emp_fact, rds_fact, frm_fact, tab_fact, two_fact, inr_fact, ansX_fact] at F); try simp -dsimp only [↓vcA, vcB, vcD, ↓pureT_lenS, ↓iteT, ↓iteF, cond_true, cond_false, eq_self, argE, Env.get, Env.push, ev, evs, evo, retV, Value.cells, Value.oneCell', setR, overR, fillL, zl, places, allSizes, heldC, ne_eq, Int.reduceLE, Int.reduceLT, Int.reduceEq, Int.reduceNe, Int.reduceToNat, Int.cast_ofNat_Int, Nat.reduceMul, Nat.reduceLeDiff, reduceIte, Nat.reduceEqDiff, Nat.reduceAdd, ↓reduceIte, Try.vcT, F, h.cell0, gets, vsD, if_true, if_false, Bool.false_eq_true,  cellsAt]
      exact fin (by rw [hok0, hd, hw]; rfl) h
    | false =>
    (try simp only [nfD] at h); have F := h.facts; (try simp only [nfF, emp_fact, rds_fact, frm_fact, tab_fact, two_fact, inr_fact, ansX_fact] at F); try simp -dsimp only [↓vcA, vcB, vcD, ↓pureT_lenS, ↓iteT, ↓iteF, cond_true, cond_false, eq_self, argE, Env.get, Env.push, ev, evs, evo, retV, Value.cells, Value.oneCell', setR, overR, fillL, zl, places, allSizes, heldC, ne_eq, Int.reduceLE, Int.reduceLT, Int.reduceEq, Int.reduceNe, Int.reduceToNat, Int.cast_ofNat_Int, Nat.reduceMul, Nat.reduceLeDiff, reduceIte, Nat.reduceEqDiff, Nat.reduceAdd, ↓reduceIte, Try.vcT, F, h.cell0, gets, vsD, if_true, if_false, Bool.false_eq_true,  hd, hw, if_true, if_false, Bool.not_true, Bool.not_false, Bool.false_eq_true]
    refine Sep.callp h (bytesEq _ _ _ _ _ F.2.2.2.1 (hr.sep h fun _ _ => id) hbB hb) ?_
    clear h F
    intro w8 h
    by_cases he : B = b
    case neg =>
      (try simp only [nfD] at h); have F := h.facts; (try simp only [nfF, emp_fact, rds_fact, frm_fact, tab_fact, two_fact, inr_fact, ansX_fact] at F); try simp -dsimp only [↓vcA, vcB, vcD, ↓pureT_lenS, ↓iteT, ↓iteF, cond_true, cond_false, eq_self, argE, Env.get, Env.push, ev, evs, evo, retV, Value.cells, Value.oneCell', setR, overR, fillL, zl, places, allSizes, heldC, ne_eq, Int.reduceLE, Int.reduceLT, Int.reduceEq, Int.reduceNe, Int.reduceToNat, Int.cast_ofNat_Int, Nat.reduceMul, Nat.reduceLeDiff, reduceIte, Nat.reduceEqDiff, Nat.reduceAdd, ↓reduceIte, Try.vcT, F, h.cell0, gets, vsD, if_true, if_false, Bool.false_eq_true,  decide_eq_false he, Bool.not_true, Bool.not_false]
      refine Sep.put 0 h rfl ?_
      clear h F
      intro w9 h
      (try simp only [nfD] at h); have F := h.facts; (try simp only [nfF, emp_fact, rds_fact, frm_fact, tab_fact, two_fact, inr_fact, ansX_fact] at F); try simp -dsimp only [↓vcA, vcB, vcD, ↓pureT_lenS, ↓iteT, ↓iteF, cond_true, cond_false, eq_self, argE, Env.get, Env.push, ev, evs, evo, retV, Value.cells, Value.oneCell', setR, overR, fillL, zl, places, allSizes, heldC, ne_eq, Int.reduceLE, Int.reduceLT, Int.reduceEq, Int.reduceNe, Int.reduceToNat, Int.cast_ofNat_Int, Nat.reduceMul, Nat.reduceLeDiff, reduceIte, Nat.reduceEqDiff, Nat.reduceAdd, ↓reduceIte, Try.vcT, F, h.cell0, gets, vsD, if_true, if_false, Bool.false_eq_true,  cellsAt]
      exact fin (by rw [hok0, hd, hw, decide_eq_false he]; rfl) h
    have ok : toldOk z b = true := by rw [hok0, hd, hw, decide_eq_true he]; rfl
    have etv : toldV z b = (toldA z b).1 := by rw [hv0, ok]; rfl
    (try simp only [nfD] at h); have F := h.facts; (try simp only [nfF, emp_fact, rds_fact, frm_fact, tab_fact, two_fact, inr_fact, ansX_fact] at F); try simp -dsimp only [↓vcA, vcB, vcD, ↓pureT_lenS, ↓iteT, ↓iteF, cond_true, cond_false, eq_self, argE, Env.get, Env.push, ev, evs, evo, retV, Value.cells, Value.oneCell', setR, overR, fillL, zl, places, allSizes, heldC, ne_eq, Int.reduceLE, Int.reduceLT, Int.reduceEq, Int.reduceNe, Int.reduceToNat, Int.cast_ofNat_Int, Nat.reduceMul, Nat.reduceLeDiff, reduceIte, Nat.reduceEqDiff, Nat.reduceAdd, ↓reduceIte, Try.vcT, F, h.cell0, gets, vsD, if_true, if_false, Bool.false_eq_true,  decide_eq_true he, Bool.not_true, Bool.not_false, cellsAt]
    refine Sep.put 0 h rfl ?_
    clear h F
    intro w9 h
    (try simp only [nfD] at h); have F := h.facts; (try simp only [nfF, emp_fact, rds_fact, frm_fact, tab_fact, two_fact, inr_fact, ansX_fact] at F); try simp -dsimp only [↓vcA, vcB, vcD, ↓pureT_lenS, ↓iteT, ↓iteF, cond_true, cond_false, eq_self, argE, Env.get, Env.push, ev, evs, evo, retV, Value.cells, Value.oneCell', setR, overR, fillL, zl, places, allSizes, heldC, ne_eq, Int.reduceLE, Int.reduceLT, Int.reduceEq, Int.reduceNe, Int.reduceToNat, Int.cast_ofNat_Int, Nat.reduceMul, Nat.reduceLeDiff, reduceIte, Nat.reduceEqDiff, Nat.reduceAdd, ↓reduceIte, Try.vcT, F, h.cell0, gets, vsD, if_true, if_false, Bool.false_eq_true,  cellsAt]
    rw [etv, ok, hA]
    exact ⟨_, ((h.erase 3).erase 0).erase 0, (fun q hq x hx => by simp at hq; subst hq; exact ansX_rd _ _ x hx), _, rfl, rfl⟩
def ansOk (z : Int) (a : AnV) : Bool := !(writtenW z a).bad && toldOk z (writtenW z a).l
def ansB (z : Int) (a : AnV) : List Int := if ansOk z a then (writtenW z a).l else []
set_option maxHeartbeats 4000000 in
theorem answer70 (z : Int) (a : AnV) (t : AnS) (w : World) (R : AnR w a t) (O : a.Ok) (hl : a.room ≤ 90000) :
    Calls Try.prog 70 [.int .i64 z, .agg (a.cells t).toArray].toArray w (RetK fun v w' => ∃ N, Sep w (fun _ => False) N w' ∧ (∀ q ∈ N, ∀ x, ¬ q.rd x) ∧
      ∃ b c, v = .tuple #[.slice b (ansB z a).length c, .int .i64 (if ansOk z a then 0 else 2)] ∧ N = [byt (.slice b (ansB z a).length c) (ansB z a)]) := by
  have fin : ∀ {w' : World} {M : List Res}, ansOk z a = false → Sep w (fun _ => False) M w' → ∃ N, Sep w (fun _ => False) N w' ∧ (∀ q ∈ N, ∀ x, ¬ q.rd x) ∧
      ∃ b c, Value.tuple #[.slice none 0 0, .int .i64 2] = .tuple #[.slice b (ansB z a).length c, .int .i64 (if ansOk z a then 0 else 2)] ∧ N = [byt (.slice b (ansB z a).length c) (ansB z a)] := fun hf h => by
    have e1 : ansB z a = [] := by simp [ansB, hf]
    rw [e1, hf]
    exact ⟨_, h.none.bytNone, (fun q hq x hx => by simp at hq; subst hq; exact hx), none, 0, rfl, rfl⟩
  have hok : ansOk z a = (!(writtenW z a).bad && toldOk z (writtenW z a).l) := rfl
  have hB : ansOk z a = true → ansB z a = (writtenW z a).l := fun e => by simp [ansB, e]
  obtain ⟨hby, hlen⟩ := writtenW_byt z a
  obtain ⟨ap, cp, ep⟩ := R.p.shape
  obtain ⟨aca, cca, eca⟩ := R.ca.shape
  obtain ⟨ala, cla, ela⟩ := R.la.shape
  have k1 := fun w' (R : AnR w' a t) => written128 z a t w' R O (by omega)
  have hWB : writtenB z a = if (writtenW z a).bad then [] else (writtenW z a).l := rfl
  simp only [AnV.cells, ep, eca, ela] at k1
  have h := Sep.nil w
  refine walk Try.func70 rfl (by kernel_rfl) (by rw [Try.nt70]; simp) ?_
  (try simp only [nfD] at h); have F := h.facts; (try simp only [nfF, emp_fact, rds_fact, frm_fact, tab_fact, two_fact, inr_fact, ansX_fact] at F)
  simp -dsimp only [↓vcA, vcB, vcD, ↓pureT_lenS, ↓iteT, ↓iteF, cond_true, cond_false, eq_self, argE, Env.get, Env.push, ev, evs, evo, retV, Value.cells, Value.oneCell', setR, overR, fillL, zl, places, allSizes, heldC, ne_eq, Int.reduceLE, Int.reduceLT, Int.reduceEq, Int.reduceNe, Int.reduceToNat, Int.cast_ofNat_Int, Nat.reduceMul, Nat.reduceLeDiff, reduceIte, Nat.reduceEqDiff, Nat.reduceAdd, ↓reduceIte, Try.vcT, AnV.cells, ep, eca, ela]
  refine h.new ?_
  clear h F
  intro w1 b1 h
  (try simp only [nfD] at h); have F := h.facts; (try simp only [nfF, emp_fact, rds_fact, frm_fact, tab_fact, two_fact, inr_fact, ansX_fact] at F); try simp -dsimp only [↓vcA, vcB, vcD, ↓pureT_lenS, ↓iteT, ↓iteF, cond_true, cond_false, eq_self, argE, Env.get, Env.push, ev, evs, evo, retV, Value.cells, Value.oneCell', setR, overR, fillL, zl, places, allSizes, heldC, ne_eq, Int.reduceLE, Int.reduceLT, Int.reduceEq, Int.reduceNe, Int.reduceToNat, Int.cast_ofNat_Int, Nat.reduceMul, Nat.reduceLeDiff, reduceIte, Nat.reduceEqDiff, Nat.reduceAdd, ↓reduceIte, Try.vcT, F, h.cell0, gets, vsD, if_true, if_false, Bool.false_eq_true,  cellsAt]
  refine Sep.callN h (k1 _ (R.sep h)) ?_
  clear h F k1
  intro e N w2 hQ h
  obtain ⟨a2, c2, rfl, rfl⟩ := hQ
  generalize writtenW z a = W at *
  cases hw : W.bad with
  | true =>
    (try simp only [nfD] at h); have F := h.facts; (try simp only [nfF, emp_fact, rds_fact, frm_fact, tab_fact, two_fact, inr_fact, ansX_fact] at F); try simp -dsimp only [↓vcA, vcB, vcD, ↓pureT_lenS, ↓iteT, ↓iteF, cond_true, cond_false, eq_self, argE, Env.get, Env.push, ev, evs, evo, retV, Value.cells, Value.oneCell', setR, overR, fillL, zl, places, allSizes, heldC, ne_eq, Int.reduceLE, Int.reduceLT, Int.reduceEq, Int.reduceNe, Int.reduceToNat, Int.cast_ofNat_Int, Nat.reduceMul, Nat.reduceLeDiff, reduceIte, Nat.reduceEqDiff, Nat.reduceAdd, ↓reduceIte, Try.vcT, F, h.cell0, gets, vsD, if_true, if_false, Bool.false_eq_true,  hw, if_true, if_false, Bool.not_true, Bool.not_false, Bool.false_eq_true]
    exact fin (by rw [hok, hw]; rfl) h
  | false =>
  have eB : writtenB z a = W.l := by rw [hWB, hw]; rfl
  rw [eB] at h
  rw [eB]
  (try simp only [nfD] at h); have F := h.facts; (try simp only [nfF, emp_fact, rds_fact, frm_fact, tab_fact, two_fact, inr_fact, ansX_fact] at F); try simp -dsimp only [↓vcA, vcB, vcD, ↓pureT_lenS, ↓iteT, ↓iteF, cond_true, cond_false, eq_self, argE, Env.get, Env.push, ev, evs, evo, retV, Value.cells, Value.oneCell', setR, overR, fillL, zl, places, allSizes, heldC, ne_eq, Int.reduceLE, Int.reduceLT, Int.reduceEq, Int.reduceNe, Int.reduceToNat, Int.cast_ofNat_Int, Nat.reduceMul, Nat.reduceLeDiff, reduceIte, Nat.reduceEqDiff, Nat.reduceAdd, ↓reduceIte, Try.vcT, F, h.cell0, gets, vsD, if_true, if_false, Bool.false_eq_true,  hw, if_true, if_false, Bool.not_true, Bool.not_false, Bool.false_eq_true]
  refine Sep.callN h (told72 z _ W.l _ F.2.1 hby (by omega)) ?_
  clear h F
  intro e N w3 hQ h
  obtain ⟨u, rfl, rfl⟩ := hQ
  (try simp only [nfD] at h); have F := h.facts; (try simp only [nfF, emp_fact, rds_fact, frm_fact, tab_fact, two_fact, inr_fact, ansX_fact] at F)
  have RU := F.2.2.1
  obtain ⟨up, uca, ula⟩ := u
  obtain ⟨xp, yp, qp⟩ := RU.p.shape
  obtain ⟨xca, yca, qca⟩ := RU.ca.shape
  obtain ⟨xla, yla, qla⟩ := RU.la.shape
  dsimp only at qp qca qla
  subst qp qca qla
  clear RU
  (try simp only [nfD] at h); have F := h.facts; (try simp only [nfF, emp_fact, rds_fact, frm_fact, tab_fact, two_fact, inr_fact, ansX_fact] at F); try simp -dsimp only [↓vcA, vcB, vcD, ↓pureT_lenS, ↓iteT, ↓iteF, cond_true, cond_false, eq_self, argE, Env.get, Env.push, ev, evs, evo, retV, Value.cells, Value.oneCell', setR, overR, fillL, zl, places, allSizes, heldC, ne_eq, Int.reduceLE, Int.reduceLT, Int.reduceEq, Int.reduceNe, Int.reduceToNat, Int.cast_ofNat_Int, Nat.reduceMul, Nat.reduceLeDiff, reduceIte, Nat.reduceEqDiff, Nat.reduceAdd, ↓reduceIte, Try.vcT, F, h.cell0, gets, vsD, if_true, if_false, Bool.false_eq_true,  AnV.cells]
  refine h.new ?_
  clear h F
  intro w4 b4 h
  (try simp only [nfD] at h); have F := h.facts; (try simp only [nfF, emp_fact, rds_fact, frm_fact, tab_fact, two_fact, inr_fact, ansX_fact] at F); try simp -dsimp only [↓vcA, vcB, vcD, ↓pureT_lenS, ↓iteT, ↓iteF, cond_true, cond_false, eq_self, argE, Env.get, Env.push, ev, evs, evo, retV, Value.cells, Value.oneCell', setR, overR, fillL, zl, places, allSizes, heldC, ne_eq, Int.reduceLE, Int.reduceLT, Int.reduceEq, Int.reduceNe, Int.reduceToNat, Int.cast_ofNat_Int, Nat.reduceMul, Nat.reduceLeDiff, reduceIte, Nat.reduceEqDiff, Nat.reduceAdd, ↓reduceIte, Try.vcT, F, h.cell0, gets, vsD, if_true, if_false, Bool.false_eq_true,  AnV.cells]
  refine Sep.put 3 h rfl ?_
  clear h F
  intro w5 h
  cases ht : toldOk z W.l with
  | false =>
    (try simp only [nfD] at h); have F := h.facts; (try simp only [nfF, emp_fact, rds_fact, frm_fact, tab_fact, two_fact, inr_fact, ansX_fact] at F); try simp -dsimp only [↓vcA, vcB, vcD, ↓pureT_lenS, ↓iteT, ↓iteF, cond_true, cond_false, eq_self, argE, Env.get, Env.push, ev, evs, evo, retV, Value.cells, Value.oneCell', setR, overR, fillL, zl, places, allSizes, heldC, ne_eq, Int.reduceLE, Int.reduceLT, Int.reduceEq, Int.reduceNe, Int.reduceToNat, Int.cast_ofNat_Int, Nat.reduceMul, Nat.reduceLeDiff, reduceIte, Nat.reduceEqDiff, Nat.reduceAdd, ↓reduceIte, Try.vcT, F, h.cell0, gets, vsD, if_true, if_false, Bool.false_eq_true,  ht, if_true, if_false, Bool.not_true, Bool.not_false, Bool.false_eq_true]
    exact fin (by rw [hok, ht]; simp) h
  | true =>
    have ok : ansOk z a = true := by rw [hok, hw, ht]; rfl
    (try simp only [nfD] at h); have F := h.facts; (try simp only [nfF, emp_fact, rds_fact, frm_fact, tab_fact, two_fact, inr_fact, ansX_fact] at F); try simp -dsimp only [↓vcA, vcB, vcD, ↓pureT_lenS, ↓iteT, ↓iteF, cond_true, cond_false, eq_self, argE, Env.get, Env.push, ev, evs, evo, retV, Value.cells, Value.oneCell', setR, overR, fillL, zl, places, allSizes, heldC, ne_eq, Int.reduceLE, Int.reduceLT, Int.reduceEq, Int.reduceNe, Int.reduceToNat, Int.cast_ofNat_Int, Nat.reduceMul, Nat.reduceLeDiff, reduceIte, Nat.reduceEqDiff, Nat.reduceAdd, ↓reduceIte, Try.vcT, F, h.cell0, gets, vsD, if_true, if_false, Bool.false_eq_true,  ht, if_true, if_false, Bool.not_true, Bool.not_false, Bool.false_eq_true]
    rw [hB ok, ok]
    exact ⟨_, ((h.erase 3).erase 2).erase 0, (fun q hq x hx => by simp at hq; subst hq; exact hx), _, _, rfl, rfl⟩
end Go.Proofs.Ytnhgjgoglmadnaa
namespace Go.Proofs.Ytnhgjgoglmadnaa
open Go.RowKit
set_option maxRecDepth 100000
set_option linter.unusedSimpArgs false
set_option linter.unusedVariables false
set_option pp.maxSteps 1500
set_option pp.deepTerms.threshold 8

def moreS (s : R8) : R8 := if 1 < s.numV 1 then ⟨(s.numS 1).l, true⟩ else s.numS 1
section
variable {w0 w : World}
end
theorem Sep.rdSet (i : Nat) {w0 w : World} {S : Nat → Prop} {M : List Res} {t p : Nat} {s : R8} {Z : Nat → Prop} {v : Value} {b' : Bool} {K : World → Prop} (h : Sep w0 S M w) (hi : M[i]? = some (rdr t p s Z)) (hv : w.cell? ⟨p, 0, Option.none⟩ = some v)
    (hk : ∀ w1, Sep w0 S (M.set i (rdr t p ⟨s.l, b'⟩ Z)) w1 → K w1) : ∀ w1, Put w w1 p [v, .bool b'] t → K w1 := fun w1 hp => by
  obtain ⟨h1, v', h2, h3⟩ := h.rdAt hi
  have e : v' = v := by have a := h2.c0; rw [hv] at a; injection a with a; exact a.symm
  subst e
  obtain ⟨k1, k2⟩ := h2.put (s' := ⟨s.l, b'⟩) (Chg.refl _ _) hp h2.rd (fun _ => id) (Nat.le_refl _)
  exact hk w1 (h3 ⟨s.l, b'⟩ w1 ⟨v', k1, k2, fun _ => id⟩ (Nat.le_refl _))
theorem more133 {A : Nat → Prop} (p : Nat) (s : R8) (Z : Nat → Prop) (w : World) (h : Sep w A [rdr 85 p s Z] w) :
    Calls Try.prog 133 [.pointer (some ⟨p, 0, none⟩)].toArray w
      (RetK fun v w' => ∃ r' N, Sep w A (r' :: N) w' ∧ (∀ x, r'.rd x → (rdr 85 p s Z).rd x) ∧ (∀ q ∈ N, ∀ x, ¬ q.rd x) ∧ (v = .bool (decide (s.numV 1 = 1)) ∧ r' = rdr 85 p (moreS s) Z ∧ N = [])) := by
  refine walk Try.func133 rfl (by kernel_rfl) (by rw [Try.nt133]; simp) ?_
  (try simp only [nfD] at h); have F := h.facts; (try simp only [nfF, emp_fact, rds_fact, frm_fact, tab_fact, two_fact, inr_fact, ansX_fact] at F)
  simp -dsimp only [↓vcA, vcB, vcD, ↓pureT_lenS, ↓iteT, ↓iteF, cond_true, cond_false, eq_self, argE, Env.get, Env.push, ev, evs, evo, retV, Value.cells, Value.oneCell', setR, overR, fillL, zl, places, allSizes, heldC, ne_eq, Int.reduceLE, Int.reduceLT, Int.reduceEq, Int.reduceNe, Int.reduceToNat, Int.cast_ofNat_Int, Nat.reduceMul, Nat.reduceLeDiff, reduceIte, Nat.reduceEqDiff, Nat.reduceAdd, ↓reduceIte, Try.vcT]
  refine Sep.rrNum 0 h rfl ?_
  clear h F
  intro w1 h
  obtain ⟨_, v, hw, _⟩ := h.rdAt (i := 0) rfl
  have hc1 := hw.c1
  have hc0 := hw.c0
  have hbk := hw.bk
  have close : ∀ {b' : Bool} {w' : World}, b' = ((s.numS 1).bad || decide (1 < s.numV 1)) → Sep w A [rdr 85 p ⟨(s.numS 1).l, b'⟩ Z] w' → Sep w A [rdr 85 p (moreS s) Z] w' := fun {b' w'} e h => by
    have : moreS s = ⟨(s.numS 1).l, b'⟩ := by
      unfold moreS
      by_cases hg : 1 < s.numV 1
      · rw [if_pos hg, e, decide_eq_true hg, Bool.or_true]
      · rw [if_neg hg, e, decide_eq_false hg, Bool.or_false]
    rw [this]; exact h
  cases hb : (s.numS 1).bad with
  | true =>
    rw [hb] at hc1 hbk
    (try simp only [nfD] at h); have F := h.facts; (try simp only [nfF, emp_fact, rds_fact, frm_fact, tab_fact, two_fact, inr_fact, ansX_fact] at F); try simp -dsimp only [↓vcA, vcB, vcD, ↓pureT_lenS, ↓iteT, ↓iteF, cond_true, cond_false, eq_self, argE, Env.get, Env.push, ev, evs, evo, retV, Value.cells, Value.oneCell', setR, overR, fillL, zl, places, allSizes, heldC, ne_eq, Int.reduceLE, Int.reduceLT, Int.reduceEq, Int.reduceNe, Int.reduceToNat, Int.cast_ofNat_Int, Nat.reduceMul, Nat.reduceLeDiff, reduceIte, Nat.reduceEqDiff, Nat.reduceAdd, ↓reduceIte, Try.vcT, F, h.cell0, gets, vsD, if_true, if_false, Bool.false_eq_true,  hc1, hbk]
    refine Sep.rdSet 0 h rfl hc0 ?_
    clear h F
    intro w2 h
    (try simp only [nfD] at h); have F := h.facts; (try simp only [nfF, emp_fact, rds_fact, frm_fact, tab_fact, two_fact, inr_fact, ansX_fact] at F); try simp -dsimp only [↓vcA, vcB, vcD, ↓pureT_lenS, ↓iteT, ↓iteF, cond_true, cond_false, eq_self, argE, Env.get, Env.push, ev, evs, evo, retV, Value.cells, Value.oneCell', setR, overR, fillL, zl, places, allSizes, heldC, ne_eq, Int.reduceLE, Int.reduceLT, Int.reduceEq, Int.reduceNe, Int.reduceToNat, Int.cast_ofNat_Int, Nat.reduceMul, Nat.reduceLeDiff, reduceIte, Nat.reduceEqDiff, Nat.reduceAdd, ↓reduceIte, Try.vcT, F, h.cell0, gets, vsD, if_true, if_false, Bool.false_eq_true]
    exact ⟨_, [], close (by rw [hb]; rfl) h, (fun _ f => f), (fun q hq => by cases hq), rfl, rfl⟩
  | false =>
    rw [hb] at hc1 hbk
    (try simp only [nfD] at h); have F := h.facts; (try simp only [nfF, emp_fact, rds_fact, frm_fact, tab_fact, two_fact, inr_fact, ansX_fact] at F); try simp -dsimp only [↓vcA, vcB, vcD, ↓pureT_lenS, ↓iteT, ↓iteF, cond_true, cond_false, eq_self, argE, Env.get, Env.push, ev, evs, evo, retV, Value.cells, Value.oneCell', setR, overR, fillL, zl, places, allSizes, heldC, ne_eq, Int.reduceLE, Int.reduceLT, Int.reduceEq, Int.reduceNe, Int.reduceToNat, Int.cast_ofNat_Int, Nat.reduceMul, Nat.reduceLeDiff, reduceIte, Nat.reduceEqDiff, Nat.reduceAdd, ↓reduceIte, Try.vcT, F, h.cell0, gets, vsD, if_true, if_false, Bool.false_eq_true,  hc1, hbk]
    refine Sep.rdSet 0 h rfl hc0 ?_
    clear h F
    intro w2 h
    (try simp only [nfD] at h); have F := h.facts; (try simp only [nfF, emp_fact, rds_fact, frm_fact, tab_fact, two_fact, inr_fact, ansX_fact] at F); try simp -dsimp only [↓vcA, vcB, vcD, ↓pureT_lenS, ↓iteT, ↓iteF, cond_true, cond_false, eq_self, argE, Env.get, Env.push, ev, evs, evo, retV, Value.cells, Value.oneCell', setR, overR, fillL, zl, places, allSizes, heldC, ne_eq, Int.reduceLE, Int.reduceLT, Int.reduceEq, Int.reduceNe, Int.reduceToNat, Int.cast_ofNat_Int, Nat.reduceMul, Nat.reduceLeDiff, reduceIte, Nat.reduceEqDiff, Nat.reduceAdd, ↓reduceIte, Try.vcT, F, h.cell0, gets, vsD, if_true, if_false, Bool.false_eq_true]
    exact ⟨_, [], close (by rw [hb]; rfl) h, (fun _ f => f), (fun q hq => by cases hq), rfl, rfl⟩
theorem Sep.more (i : Nat) {w0 w : World} {S : Nat → Prop} {M : List Res} {K : Value → World → Prop} {p : Nat} {s : R8} {Z : Nat → Prop} (h : Sep w0 S M w) (hi : M[i]? = some (rdr 85 p s Z))
    (hk : ∀ w1, Sep w0 S (M.set i (rdr 85 p (moreS s) Z)) w1 → K (.bool (decide (s.numV 1 = 1))) w1) :
    callsK Try.prog 133 [.pointer (some ⟨p, 0, Option.none⟩)].toArray w K := by
  refine Sep.call1 i h hi (fun A _ hA => more133 p s Z w hA) ?_
  rintro v r' N w1 ⟨rfl, rfl, rfl⟩ h
  rw [List.append_nil] at h
  exact hk w1 h
end Go.Proofs.Ytnhgjgoglmadnaa
namespace Go.Proofs.Ytnhgjgoglmadnaa
open Go.RowKit
set_option maxRecDepth 100000
set_option linter.unusedSimpArgs false
set_option linter.unusedVariables false
set_option pp.maxSteps 1500
set_option pp.deepTerms.threshold 8

theorem seqRect {d : Nat} (a0 a1 a2 a3 c0 c1 c2 c3 : Int) (w : World) : (Op.equalIn (d + 2) 109 (.agg #[.int .i64 a0, .int .i64 a1, .int .i64 a2, .int .i64 a3]) (.agg #[.int .i64 c0, .int .i64 c1, .int .i64 c2, .int .i64 c3])).run Try.prog w = .ok (decide ([a0, a1, a2, a3] = [c0, c1, c2, c3])) w := by
  have e : decide ([a0, a1, a2, a3] = [c0, c1, c2, c3]) = _ := rfl
  have h := equalIn_sig (P := Try.prog) (d := d + 1) (t := 109) (xs := #[.int .i64 a0, .int .i64 a1, .int .i64 a2, .int .i64 a3]) (ys := #[.int .i64 c0, .int .i64 c1, .int .i64 c2, .int .i64 c3]) (w := w) (by kernel_rfl) (by kernel_rfl) (l := [(true, 3, 0), (true, 3, 1), (true, 3, 2), (true, 3, 3)]) (by kernel_rfl) (eqF_int (show Try.prog.underlying 3 = some (.int .i64) by kernel_rfl) rfl rfl (eqF_int (show Try.prog.underlying 3 = some (.int .i64) by kernel_rfl) rfl rfl (eqF_int (show Try.prog.underlying 3 = some (.int .i64) by kernel_rfl) rfl rfl (eqF_int (show Try.prog.underlying 3 = some (.int .i64) by kernel_rfl) rfl rfl eqF_nil))))
  rw [h]
  simp [Bool.decide_and, Bool.and_assoc]

theorem seqRq {d : Nat} (a0 a1 a2 a3 a4 a5 a6 a7 a8 a9 a10 a11 a12 a13 a14 a15 a16 a17 a18 a19 a20 a21 a22 a23 a24 a25 c0 c1 c2 c3 c4 c5 c6 c7 c8 c9 c10 c11 c12 c13 c14 c15 c16 c17 c18 c19 c20 c21 c22 c23 c24 c25 : Int) (w : World) : (Op.equalIn (d + 4) 111 (.agg #[.int .i64 a0, .int .i64 a1, .int .i64 a2, .int .i64 a3, .int .i64 a4, .int .i64 a5, .int .i64 a6, .int .i64 a7, .int .i64 a8, .int .i64 a9, .int .i64 a10, .int .i64 a11, .int .i64 a12, .int .i64 a13, .int .i64 a14, .int .i64 a15, .int .i64 a16, .int .i64 a17, .int .i64 a18, .int .i64 a19, .int .i64 a20, .int .i64 a21, .int .i64 a22, .int .i64 a23, .int .i64 a24, .int .i64 a25]) (.agg #[.int .i64 c0, .int .i64 c1, .int .i64 c2, .int .i64 c3, .int .i64 c4, .int .i64 c5, .int .i64 c6, .int .i64 c7, .int .i64 c8, .int .i64 c9, .int .i64 c10, .int .i64 c11, .int .i64 c12, .int .i64 c13, .int .i64 c14, .int .i64 c15, .int .i64 c16, .int .i64 c17, .int .i64 c18, .int .i64 c19, .int .i64 c20, .int .i64 c21, .int .i64 c22, .int .i64 c23, .int .i64 c24, .int .i64 c25])).run Try.prog w = .ok (decide ([a0, a1, a2, a3, a4, a5, a6, a7, a8, a9, a10, a11, a12, a13, a14, a15, a16, a17, a18, a19, a20, a21, a22, a23, a24, a25] = [c0, c1, c2, c3, c4, c5, c6, c7, c8, c9, c10, c11, c12, c13, c14, c15, c16, c17, c18, c19, c20, c21, c22, c23, c24, c25])) w := by
  have e : decide ([a0, a1, a2, a3, a4, a5, a6, a7, a8, a9, a10, a11, a12, a13, a14, a15, a16, a17, a18, a19, a20, a21, a22, a23, a24, a25] = [c0, c1, c2, c3, c4, c5, c6, c7, c8, c9, c10, c11, c12, c13, c14, c15, c16, c17, c18, c19, c20, c21, c22, c23, c24, c25]) = _ := rfl
  have h := equalIn_sig (P := Try.prog) (d := d + 3) (t := 111) (xs := #[.int .i64 a0, .int .i64 a1, .int .i64 a2, .int .i64 a3, .int .i64 a4, .int .i64 a5, .int .i64 a6, .int .i64 a7, .int .i64 a8, .int .i64 a9, .int .i64 a10, .int .i64 a11, .int .i64 a12, .int .i64 a13, .int .i64 a14, .int .i64 a15, .int .i64 a16, .int .i64 a17, .int .i64 a18, .int .i64 a19, .int .i64 a20, .int .i64 a21, .int .i64 a22, .int .i64 a23, .int .i64 a24, .int .i64 a25]) (ys := #[.int .i64 c0, .int .i64 c1, .int .i64 c2, .int .i64 c3, .int .i64 c4, .int .i64 c5, .int .i64 c6, .int .i64 c7, .int .i64 c8, .int .i64 c9, .int .i64 c10, .int .i64 c11, .int .i64 c12, .int .i64 c13, .int .i64 c14, .int .i64 c15, .int .i64 c16, .int .i64 c17, .int .i64 c18, .int .i64 c19, .int .i64 c20, .int .i64 c21, .int .i64 c22, .int .i64 c23, .int .i64 c24, .int .i64 c25]) (w := w) (by kernel_rfl) (by kernel_rfl) (l := [(true, 3, 0), (true, 37, 1), (true, 37, 3), (true, 39, 5), (true, 3, 11), (true, 3, 12), (true, 3, 13), (true, 3, 14), (true, 109, 15), (true, 3, 19), (true, 3, 20), (true, 3, 21), (true, 3, 22), (true, 3, 23), (true, 3, 24), (true, 3, 25)]) (by kernel_rfl) (eqF_int (show Try.prog.underlying 3 = some (.int .i64) by kernel_rfl) rfl rfl (eqF_agg (n := 2) (by kernel_rfl) (by kernel_rfl) (seqPt (d := d + 1) a1 a2 c1 c2 w) (eqF_agg (n := 2) (by kernel_rfl) (by kernel_rfl) (seqPt (d := d + 1) a3 a4 c3 c4 w) (eqF_agg (n := 6) (by kernel_rfl) (by kernel_rfl) (seqTri (d := d) a5 a6 a7 a8 a9 a10 c5 c6 c7 c8 c9 c10 w) (eqF_int (show Try.prog.underlying 3 = some (.int .i64) by kernel_rfl) rfl rfl (eqF_int (show Try.prog.underlying 3 = some (.int .i64) by kernel_rfl) rfl rfl (eqF_int (show Try.prog.underlying 3 = some (.int .i64) by kernel_rfl) rfl rfl (eqF_int (show Try.prog.underlying 3 = some (.int .i64) by kernel_rfl) rfl rfl (eqF_agg (n := 4) (by kernel_rfl) (by kernel_rfl) (seqRect (d := d + 1) a15 a16 a17 a18 c15 c16 c17 c18 w) (eqF_int (show Try.prog.underlying 3 = some (.int .i64) by kernel_rfl) rfl rfl (eqF_int (show Try.prog.underlying 3 = some (.int .i64) by kernel_rfl) rfl rfl (eqF_int (show Try.prog.underlying 3 = some (.int .i64) by kernel_rfl) rfl rfl (eqF_int (show Try.prog.underlying 3 = some (.int .i64) by kernel_rfl) rfl rfl (eqF_int (show Try.prog.underlying 3 = some (.int .i64) by kernel_rfl) rfl rfl (eqF_int (show Try.prog.underlying 3 = some (.int .i64) by kernel_rfl) rfl rfl (eqF_int (show Try.prog.underlying 3 = some (.int .i64) by kernel_rfl) rfl rfl eqF_nil))))))))))))))))
  rw [h]
  simp [Bool.decide_and, Bool.and_assoc]

end Go.Proofs.Ytnhgjgoglmadnaa
namespace Go.Proofs.Ytnhgjgoglmadnaa
open Go.RowKit
set_option maxRecDepth 100000
set_option linter.unusedSimpArgs false
set_option linter.unusedVariables false
set_option pp.maxSteps 1500
set_option pp.deepTerms.threshold 8

theorem ite_stp {k : Nat} {s a b : W8} {p : Prop} [Decidable p] (h : Stp k s a) (g : Stp k s b) : Stp k s (if p then a else b) := by
  by_cases e : p
  · rw [if_pos e]; exact h
  · rw [if_neg e]; exact g
theorem put1_stp (r : Rq) (s : W8) (c : Nat) : Stp 48 s (put1 r s c) := by
  unfold put1
  exact (ite_stp ((Stp.pt s _ _).mono (by omega)) (ite_stp ((Stp.pt s _ _).mono (by omega)) (ite_stp (Stp.tri s _ _ _ _ _ _) (ite_stp ((Stp.num s _ _).mono (by omega)) (ite_stp ((Stp.num s _ _).mono (by omega)) (ite_stp ((Stp.num s _ _).mono (by omega)) (ite_stp ((Stp.num s _ _).mono (by omega)) (ite_stp (((((Stp.num s r.x0 3).trans (Stp.num _ r.y0 3)).trans (Stp.num _ r.x1 3)).trans (Stp.num _ r.y1 3)).mono (by omega)) (ite_stp ((Stp.num s _ _).mono (by omega)) (ite_stp ((Stp.num s _ _).mono (by omega)) (ite_stp ((Stp.num s _ _).mono (by omega)) (ite_stp ((Stp.num s _ _).mono (by omega)) (ite_stp ((Stp.num s _ _).mono (by omega)) (ite_stp ((Stp.num s _ _).mono (by omega)) (ite_stp ((Stp.num s _ _).mono (by omega)) ((Stp.refl s).mono (by omega)))))))))))))))))
theorem puts_stp (r : Rq) : ∀ (L : List Nat) (s : W8), Stp (L.length * 48) s (L.foldl (put1 r) s)
  | [], s => (Stp.refl s).mono (by omega)
  | c :: L, s => ((put1_stp r s c).trans (puts_stp r L _)).mono (by simp only [List.length_cons, Nat.succ_mul]; omega)
theorem rqP_byt (r : Rq) : Byt (rqP r).l := ((Stp.num (⟨[], false⟩ : W8) r.k 1).trans (puts_stp r _ _)).1 Byt.nil
def qW : Rq := {Rq.zero with k := 1, px := 1, py := 2}
def aW : AnV := {AnV.zero with la := [7]}
def aW1 : AnV := {AnV.zero with code := 1}
theorem qW_ok : Ok64 qW.vals := by
  simp only [qW, Rq.zero, Rq.vals, Ok64, List.forall_mem_cons, List.not_mem_nil, false_implies, implies_true, and_true]; omega
theorem qW_1 : rqPB qW = [1, 0, 0, 1, 0, 0, 2] := by decide +kernel
theorem qW_2 : rqPOk qW = true := by decide +kernel
theorem qW_3 : askRV [1, 0, 0, 1, 0, 0, 2] = qW := by decide +kernel
theorem qW_4 : askROk [1, 0, 0, 1, 0, 0, 2] = true := by decide +kernel
theorem qZ_1 : rqPB Rq.zero = [] := by decide +kernel
theorem qZ_2 : rqPOk Rq.zero = false := by decide +kernel
theorem qZ_3 : askRV [] = Rq.zero := by decide +kernel
theorem aW_1 : ansB 15 aW = [0, 1, 0, 7] := by decide +kernel
theorem aW_2 : ansOk 15 aW = true := by decide +kernel
theorem aW_3 : toldV 15 [0, 1, 0, 7] = aW := by decide +kernel
theorem aW_4 : toldOk 15 [0, 1, 0, 7] = true := by decide +kernel
theorem aW1_1 : ansB 3 aW1 = [1] := by decide +kernel
theorem aW1_2 : ansOk 3 aW1 = true := by decide +kernel
theorem aW_ok : aW.Ok := ⟨by simp [aW, AnV.zero], by simp [aW, AnV.zero], by simp [aW, AnV.zero], fun x hx => (by cases hx), fun x hx => (by cases hx), fun x hx => by
  simp only [aW, List.mem_cons, List.not_mem_nil, or_false] at hx; subst hx; omega⟩
theorem aW1_ok : aW1.Ok := ⟨by simp [aW1, AnV.zero], by simp [aW1, AnV.zero], by simp [aW1, AnV.zero], fun x hx => (by cases hx), fun x hx => (by cases hx), fun x hx => (by cases hx)⟩
theorem blk_ints {w0 w : World} {S : Nat → Prop} {M : List Res} {b : Nat} {ns : List Int} (h : Sep w0 S M w) (k : Nat) (hk : M[k]? = some (blk b 3 (ns.map (Value.int .i64)))) (hn : 0 < ns.length ∧ ns.length ≤ 1000) : IntsR w (.slice (some ⟨b, 0, none⟩) ns.length ns.length) ns := by
  obtain ⟨C, ⟨c1, _⟩, _, _⟩ := h.at hk
  exact ⟨by simp, fun u hu => (by obtain ⟨x, _, rfl⟩ := List.mem_map.1 hu; rfl), _, _, rfl, Nat.le_refl _, by simp only [maxLen]; omega, fun e => by (cases e), fun _ => ⟨b, 0, rfl, fun j u hj => by rw [cell_of_row w b _ _ _ _ c1, Nat.zero_add]; simpa using hj⟩⟩
set_option maxHeartbeats 4000000 in
theorem awake65 (w : World) : Calls Try.prog 65 [].toArray w (RetK fun r w' => r = .bool true ∧ Chg (fun _ => False) w w') := by
  have h := Sep.nil w
  refine walk Try.func65 rfl (by kernel_rfl) (by rw [Try.nt65]; simp) ?_
  (try simp only [nfD] at h); have F := h.facts; (try simp only [nfF, emp_fact, rds_fact, frm_fact, tab_fact, two_fact, inr_fact, ansX_fact] at F)
  simp -dsimp only [↓vcA, vcB, vcD, ↓pureT_lenS, ↓iteT, ↓iteF, cond_true, cond_false, eq_self, argE, Env.get, Env.push, ev, evs, evo, retV, Value.cells, Value.oneCell', setR, overR, fillL, zl, places, allSizes, heldC, ne_eq, Int.reduceLE, Int.reduceLT, Int.reduceEq, Int.reduceNe, Int.reduceToNat, Int.cast_ofNat_Int, Nat.reduceMul, Nat.reduceLeDiff, reduceIte, Nat.reduceEqDiff, Nat.reduceAdd, ↓reduceIte, Try.vcT]
  refine Sep.callN h (request66 qW w qW_ok (rqP_byt _)) ?_
  clear h F
  intro e N w1 hQ h
  rw [qW_1, qW_2] at hQ
  obtain ⟨a1, c1, rfl, rfl⟩ := hQ
  (try simp only [nfD] at h); have F := h.facts; (try simp only [nfF, emp_fact, rds_fact, frm_fact, tab_fact, two_fact, inr_fact, ansX_fact] at F); try simp -dsimp only [↓vcA, vcB, vcD, ↓pureT_lenS, ↓iteT, ↓iteF, cond_true, cond_false, eq_self, argE, Env.get, Env.push, ev, evs, evo, retV, Value.cells, Value.oneCell', setR, overR, fillL, zl, places, allSizes, heldC, ne_eq, Int.reduceLE, Int.reduceLT, Int.reduceEq, Int.reduceNe, Int.reduceToNat, Int.cast_ofNat_Int, Nat.reduceMul, Nat.reduceLeDiff, reduceIte, Nat.reduceEqDiff, Nat.reduceAdd, ↓reduceIte, Try.vcT, F, h.cell0, gets, vsD, if_true, if_false, Bool.false_eq_true]
  refine Sep.callp h (ask68 _ [1, 0, 0, 1, 0, 0, 2] _ F.1 (by simp [Byt]) (by simp)) ?_
  clear h F
  intro w2 h
  rw [qW_3, qW_4]
  (try simp only [nfD] at h); have F := h.facts; (try simp only [nfF, emp_fact, rds_fact, frm_fact, tab_fact, two_fact, inr_fact, ansX_fact] at F); try simp -dsimp only [↓vcA, vcB, vcD, ↓pureT_lenS, ↓iteT, ↓iteF, cond_true, cond_false, eq_self, argE, Env.get, Env.push, ev, evs, evo, retV, Value.cells, Value.oneCell', setR, overR, fillL, zl, places, allSizes, heldC, ne_eq, Int.reduceLE, Int.reduceLT, Int.reduceEq, Int.reduceNe, Int.reduceToNat, Int.cast_ofNat_Int, Nat.reduceMul, Nat.reduceLeDiff, reduceIte, Nat.reduceEqDiff, Nat.reduceAdd, ↓reduceIte, Try.vcT, F, h.cell0, gets, vsD, if_true, if_false, Bool.false_eq_true,  Rq.cells, qW, Rq.zero]
  refine h.new ?_
  clear h F
  intro w3 b3 h
  (try simp only [nfD] at h); have F := h.facts; (try simp only [nfF, emp_fact, rds_fact, frm_fact, tab_fact, two_fact, inr_fact, ansX_fact] at F); try simp -dsimp only [↓vcA, vcB, vcD, ↓pureT_lenS, ↓iteT, ↓iteF, cond_true, cond_false, eq_self, argE, Env.get, Env.push, ev, evs, evo, retV, Value.cells, Value.oneCell', setR, overR, fillL, zl, places, allSizes, heldC, ne_eq, Int.reduceLE, Int.reduceLT, Int.reduceEq, Int.reduceNe, Int.reduceToNat, Int.cast_ofNat_Int, Nat.reduceMul, Nat.reduceLeDiff, reduceIte, Nat.reduceEqDiff, Nat.reduceAdd, ↓reduceIte, Try.vcT, F, h.cell0, gets, vsD, if_true, if_false, Bool.false_eq_true]
  refine Sep.put 1 h rfl ?_
  clear h F
  intro w4 h
  (try simp only [nfD] at h); have F := h.facts; (try simp only [nfF, emp_fact, rds_fact, frm_fact, tab_fact, two_fact, inr_fact, ansX_fact] at F); try simp -dsimp only [↓vcA, vcB, vcD, ↓pureT_lenS, ↓iteT, ↓iteF, cond_true, cond_false, eq_self, argE, Env.get, Env.push, ev, evs, evo, retV, Value.cells, Value.oneCell', setR, overR, fillL, zl, places, allSizes, heldC, ne_eq, Int.reduceLE, Int.reduceLT, Int.reduceEq, Int.reduceNe, Int.reduceToNat, Int.cast_ofNat_Int, Nat.reduceMul, Nat.reduceLeDiff, reduceIte, Nat.reduceEqDiff, Nat.reduceAdd, ↓reduceIte, Try.vcT, F, h.cell0, gets, vsD, if_true, if_false, Bool.false_eq_true]
  refine Sep.callp h (ask68 _ [] _ (Rd.nil _) Byt.nil (by simp)) ?_
  clear h F
  intro w5 h
  rw [qZ_3, askROk_nil]
  (try simp only [nfD] at h); have F := h.facts; (try simp only [nfF, emp_fact, rds_fact, frm_fact, tab_fact, two_fact, inr_fact, ansX_fact] at F); try simp -dsimp only [↓vcA, vcB, vcD, ↓pureT_lenS, ↓iteT, ↓iteF, cond_true, cond_false, eq_self, argE, Env.get, Env.push, ev, evs, evo, retV, Value.cells, Value.oneCell', setR, overR, fillL, zl, places, allSizes, heldC, ne_eq, Int.reduceLE, Int.reduceLT, Int.reduceEq, Int.reduceNe, Int.reduceToNat, Int.cast_ofNat_Int, Nat.reduceMul, Nat.reduceLeDiff, reduceIte, Nat.reduceEqDiff, Nat.reduceAdd, ↓reduceIte, Try.vcT, F, h.cell0, gets, vsD, if_true, if_false, Bool.false_eq_true,  Rq.cells, Rq.zero]
  refine h.new ?_
  clear h F
  intro w6 b6 h
  (try simp only [nfD] at h); have F := h.facts; (try simp only [nfF, emp_fact, rds_fact, frm_fact, tab_fact, two_fact, inr_fact, ansX_fact] at F); try simp -dsimp only [↓vcA, vcB, vcD, ↓pureT_lenS, ↓iteT, ↓iteF, cond_true, cond_false, eq_self, argE, Env.get, Env.push, ev, evs, evo, retV, Value.cells, Value.oneCell', setR, overR, fillL, zl, places, allSizes, heldC, ne_eq, Int.reduceLE, Int.reduceLT, Int.reduceEq, Int.reduceNe, Int.reduceToNat, Int.cast_ofNat_Int, Nat.reduceMul, Nat.reduceLeDiff, reduceIte, Nat.reduceEqDiff, Nat.reduceAdd, ↓reduceIte, Try.vcT, F, h.cell0, gets, vsD, if_true, if_false, Bool.false_eq_true]
  refine Sep.put 2 h rfl ?_
  clear h F
  intro w7 h
  (try simp only [nfD] at h); have F := h.facts; (try simp only [nfF, emp_fact, rds_fact, frm_fact, tab_fact, two_fact, inr_fact, ansX_fact] at F); try simp -dsimp only [↓vcA, vcB, vcD, ↓pureT_lenS, ↓iteT, ↓iteF, cond_true, cond_false, eq_self, argE, Env.get, Env.push, ev, evs, evo, retV, Value.cells, Value.oneCell', setR, overR, fillL, zl, places, allSizes, heldC, ne_eq, Int.reduceLE, Int.reduceLT, Int.reduceEq, Int.reduceNe, Int.reduceToNat, Int.cast_ofNat_Int, Nat.reduceMul, Nat.reduceLeDiff, reduceIte, Nat.reduceEqDiff, Nat.reduceAdd, ↓reduceIte, Try.vcT, F, h.cell0, gets, vsD, if_true, if_false, Bool.false_eq_true]
  refine h.new ?_
  clear h F
  intro w8 b8 h
  (try simp only [nfD] at h); have F := h.facts; (try simp only [nfF, emp_fact, rds_fact, frm_fact, tab_fact, two_fact, inr_fact, ansX_fact] at F); try simp -dsimp only [↓vcA, vcB, vcD, ↓pureT_lenS, ↓iteT, ↓iteF, cond_true, cond_false, eq_self, argE, Env.get, Env.push, ev, evs, evo, retV, Value.cells, Value.oneCell', setR, overR, fillL, zl, places, allSizes, heldC, ne_eq, Int.reduceLE, Int.reduceLT, Int.reduceEq, Int.reduceNe, Int.reduceToNat, Int.cast_ofNat_Int, Nat.reduceMul, Nat.reduceLeDiff, reduceIte, Nat.reduceEqDiff, Nat.reduceAdd, ↓reduceIte, Try.vcT, F, h.cell0, gets, vsD, if_true, if_false, Bool.false_eq_true]
  refine Sep.callN h (answer70 15 aW ⟨.slice none 0 0, .slice none 0 0, .slice (some ⟨b8, 0, none⟩) 1 1⟩ _ ⟨Tab.nil 9 _, Tab.nil 9 _, blk_ints (ns := [7]) h 3 rfl (by decide)⟩ aW_ok (by decide)) ?_
  clear h F
  intro e N w9 hQ h
  rw [aW_1, aW_2] at hQ
  obtain ⟨a9, c9, rfl, rfl⟩ := hQ
  (try simp only [nfD] at h); have F := h.facts; (try simp only [nfF, emp_fact, rds_fact, frm_fact, tab_fact, two_fact, inr_fact, ansX_fact] at F); try simp -dsimp only [↓vcA, vcB, vcD, ↓pureT_lenS, ↓iteT, ↓iteF, cond_true, cond_false, eq_self, argE, Env.get, Env.push, ev, evs, evo, retV, Value.cells, Value.oneCell', setR, overR, fillL, zl, places, allSizes, heldC, ne_eq, Int.reduceLE, Int.reduceLT, Int.reduceEq, Int.reduceNe, Int.reduceToNat, Int.cast_ofNat_Int, Nat.reduceMul, Nat.reduceLeDiff, reduceIte, Nat.reduceEqDiff, Nat.reduceAdd, ↓reduceIte, Try.vcT, F, h.cell0, gets, vsD, if_true, if_false, Bool.false_eq_true]
  refine Sep.callN h (told72 15 _ [0, 1, 0, 7] _ F.2.2.2.2.1 (by simp [Byt]) (by simp)) ?_
  clear h F
  intro e N w10 hQ h
  rw [aW_3, aW_4] at hQ
  obtain ⟨t, rfl, rfl⟩ := hQ
  (try simp only [nfD] at h); have F := h.facts; (try simp only [nfF, emp_fact, rds_fact, frm_fact, tab_fact, two_fact, inr_fact, ansX_fact] at F)
  have R := F.2.2.2.2.2.1
  obtain ⟨tp, tca, tla⟩ := t
  obtain ⟨Ap, Cp, ep⟩ := R.p.shape
  obtain ⟨Aca, Cca, eca⟩ := R.ca.shape
  obtain ⟨Ala, Cla, ela⟩ := R.la.shape
  dsimp only [aW, AnV.zero, List.length_nil, List.length_cons] at ep eca ela
  subst ep eca ela
  (try simp only [nfD] at h); have F := h.facts; (try simp only [nfF, emp_fact, rds_fact, frm_fact, tab_fact, two_fact, inr_fact, ansX_fact] at F); try simp -dsimp only [↓vcA, vcB, vcD, ↓pureT_lenS, ↓iteT, ↓iteF, cond_true, cond_false, eq_self, argE, Env.get, Env.push, ev, evs, evo, retV, Value.cells, Value.oneCell', setR, overR, fillL, zl, places, allSizes, heldC, ne_eq, Int.reduceLE, Int.reduceLT, Int.reduceEq, Int.reduceNe, Int.reduceToNat, Int.cast_ofNat_Int, Nat.reduceMul, Nat.reduceLeDiff, reduceIte, Nat.reduceEqDiff, Nat.reduceAdd, ↓reduceIte, Try.vcT, F, h.cell0, gets, vsD, if_true, if_false, Bool.false_eq_true,  AnV.cells, aW, AnV.zero]
  refine h.new ?_
  clear h F
  intro w11 b11 h
  (try simp only [nfD] at h); have F := h.facts; (try simp only [nfF, emp_fact, rds_fact, frm_fact, tab_fact, two_fact, inr_fact, ansX_fact] at F); try simp -dsimp only [↓vcA, vcB, vcD, ↓pureT_lenS, ↓iteT, ↓iteF, cond_true, cond_false, eq_self, argE, Env.get, Env.push, ev, evs, evo, retV, Value.cells, Value.oneCell', setR, overR, fillL, zl, places, allSizes, heldC, ne_eq, Int.reduceLE, Int.reduceLT, Int.reduceEq, Int.reduceNe, Int.reduceToNat, Int.cast_ofNat_Int, Nat.reduceMul, Nat.reduceLeDiff, reduceIte, Nat.reduceEqDiff, Nat.reduceAdd, ↓reduceIte, Try.vcT, F, h.cell0, gets, vsD, if_true, if_false, Bool.false_eq_true]
  refine Sep.put 6 h rfl ?_
  clear h F
  intro w12 h
  (try simp only [nfD] at h); have F := h.facts; (try simp only [nfF, emp_fact, rds_fact, frm_fact, tab_fact, two_fact, inr_fact, ansX_fact] at F); try simp -dsimp only [↓vcA, vcB, vcD, ↓pureT_lenS, ↓iteT, ↓iteF, cond_true, cond_false, eq_self, argE, Env.get, Env.push, ev, evs, evo, retV, Value.cells, Value.oneCell', setR, overR, fillL, zl, places, allSizes, heldC, ne_eq, Int.reduceLE, Int.reduceLT, Int.reduceEq, Int.reduceNe, Int.reduceToNat, Int.cast_ofNat_Int, Nat.reduceMul, Nat.reduceLeDiff, reduceIte, Nat.reduceEqDiff, Nat.reduceAdd, ↓reduceIte, Try.vcT, F, h.cell0, gets, vsD, if_true, if_false, Bool.false_eq_true]
  refine Sep.callN h (answer70 3 aW1 AnS.zero _ ⟨Tab.nil 9 _, Tab.nil 9 _, (show IntsR _ (.slice none 0 0) [] from Row.nil 1 _)⟩ aW1_ok (by decide)) ?_
  clear h F
  intro e N w13 hQ h
  rw [aW1_1, aW1_2] at hQ
  obtain ⟨a13, c13, rfl, rfl⟩ := hQ
  (try simp only [nfD] at h); have F := h.facts; (try simp only [nfF, emp_fact, rds_fact, frm_fact, tab_fact, two_fact, inr_fact, ansX_fact] at F); try simp -dsimp only [↓vcA, vcB, vcD, ↓pureT_lenS, ↓iteT, ↓iteF, cond_true, cond_false, eq_self, argE, Env.get, Env.push, ev, evs, evo, retV, Value.cells, Value.oneCell', setR, overR, fillL, zl, places, allSizes, heldC, ne_eq, Int.reduceLE, Int.reduceLT, Int.reduceEq, Int.reduceNe, Int.reduceToNat, Int.cast_ofNat_Int, Nat.reduceMul, Nat.reduceLeDiff, reduceIte, Nat.reduceEqDiff, Nat.reduceAdd, ↓reduceIte, Try.vcT, F, h.cell0, gets, vsD, if_true, if_false, Bool.false_eq_true]
  refine Sep.callN h (request66 Rq.zero _ zero_ok (rqP_byt _)) ?_
  clear h F
  intro e N w14 hQ h
  rw [qZ_1, qZ_2] at hQ
  obtain ⟨a14, c14, rfl, rfl⟩ := hQ
  have s1 : ((strOfNums [1, 0, 0, 1, 0, 0, 2]).toList == (⟨#[1, 0, 0, 1, 0, 0, 2]⟩ : ByteArray).toList) = true := by rw [strLit]; decide
  have s2 : ((strOfNums [0, 1, 0, 7]).toList == (⟨#[0, 1, 0, 7]⟩ : ByteArray).toList) = true := by rw [strLit]; decide
  have s3 : ((strOfNums [1]).toList == (⟨#[1]⟩ : ByteArray).toList) = true := by rw [strLit]; decide
  (try simp only [nfD] at h); have F := h.facts; (try simp only [nfF, emp_fact, rds_fact, frm_fact, tab_fact, two_fact, inr_fact, ansX_fact] at F); try simp -dsimp only [↓vcA, vcB, vcD, ↓pureT_lenS, ↓iteT, ↓iteF, cond_true, cond_false, eq_self, argE, Env.get, Env.push, ev, evs, evo, retV, Value.cells, Value.oneCell', setR, overR, fillL, zl, places, allSizes, heldC, ne_eq, Int.reduceLE, Int.reduceLT, Int.reduceEq, Int.reduceNe, Int.reduceToNat, Int.cast_ofNat_Int, Nat.reduceMul, Nat.reduceLeDiff, reduceIte, Nat.reduceEqDiff, Nat.reduceAdd, ↓reduceIte, Try.vcT, F, h.cell0, gets, vsD, if_true, if_false, Bool.false_eq_true]
  refine str_rule F.1 ?_
  (try simp only [nfD] at h); have F := h.facts; (try simp only [nfF, emp_fact, rds_fact, frm_fact, tab_fact, two_fact, inr_fact, ansX_fact] at F); try simp -dsimp only [↓vcA, vcB, vcD, ↓pureT_lenS, ↓iteT, ↓iteF, cond_true, cond_false, eq_self, argE, Env.get, Env.push, ev, evs, evo, retV, Value.cells, Value.oneCell', setR, overR, fillL, zl, places, allSizes, heldC, ne_eq, Int.reduceLE, Int.reduceLT, Int.reduceEq, Int.reduceNe, Int.reduceToNat, Int.cast_ofNat_Int, Nat.reduceMul, Nat.reduceLeDiff, reduceIte, Nat.reduceEqDiff, Nat.reduceAdd, ↓reduceIte, Try.vcT, F, h.cell0, gets, vsD, if_true, if_false, Bool.false_eq_true,  s1, cellsAt]
  refine binK_eql_agg (by kernel_rfl) (fun w => seqRq (d := 9996) 1 1 2 0 0 0 0 0 0 0 0 0 0 0 0 0 0 0 0 0 0 0 0 0 0 0 1 1 2 0 0 0 0 0 0 0 0 0 0 0 0 0 0 0 0 0 0 0 0 0 0 0 w) ?_
  (try simp only [nfD] at h); have F := h.facts; (try simp only [nfF, emp_fact, rds_fact, frm_fact, tab_fact, two_fact, inr_fact, ansX_fact] at F); try simp -dsimp only [↓vcA, vcB, vcD, ↓pureT_lenS, ↓iteT, ↓iteF, cond_true, cond_false, eq_self, argE, Env.get, Env.push, ev, evs, evo, retV, Value.cells, Value.oneCell', setR, overR, fillL, zl, places, allSizes, heldC, ne_eq, Int.reduceLE, Int.reduceLT, Int.reduceEq, Int.reduceNe, Int.reduceToNat, Int.cast_ofNat_Int, Nat.reduceMul, Nat.reduceLeDiff, reduceIte, Nat.reduceEqDiff, Nat.reduceAdd, ↓reduceIte, Try.vcT, F, h.cell0, gets, vsD, if_true, if_false, Bool.false_eq_true,  decide_true, s2]
  refine str_rule F.2.2.2.2.1 ?_
  have R := F.2.2.2.2.2.1
  obtain ⟨b, o, rfl, hc⟩ := R.la.at (i := 0) (by decide)
  have hc : w14.cell? ⟨b, o, none⟩ = some (.int .i64 7) := hc
  (try simp only [nfD] at h); have F := h.facts; (try simp only [nfF, emp_fact, rds_fact, frm_fact, tab_fact, two_fact, inr_fact, ansX_fact] at F); try simp -dsimp only [↓vcA, vcB, vcD, ↓pureT_lenS, ↓iteT, ↓iteF, cond_true, cond_false, eq_self, argE, Env.get, Env.push, ev, evs, evo, retV, Value.cells, Value.oneCell', setR, overR, fillL, zl, places, allSizes, heldC, ne_eq, Int.reduceLE, Int.reduceLT, Int.reduceEq, Int.reduceNe, Int.reduceToNat, Int.cast_ofNat_Int, Nat.reduceMul, Nat.reduceLeDiff, reduceIte, Nat.reduceEqDiff, Nat.reduceAdd, ↓reduceIte, Try.vcT, F, h.cell0, gets, vsD, if_true, if_false, Bool.false_eq_true,  s2, hc, cellsAt]
  refine str_rule F.2.2.2.2.2.2.2.1 ?_
  (try simp only [nfD] at h); have F := h.facts; (try simp only [nfF, emp_fact, rds_fact, frm_fact, tab_fact, two_fact, inr_fact, ansX_fact] at F); try simp -dsimp only [↓vcA, vcB, vcD, ↓pureT_lenS, ↓iteT, ↓iteF, cond_true, cond_false, eq_self, argE, Env.get, Env.push, ev, evs, evo, retV, Value.cells, Value.oneCell', setR, overR, fillL, zl, places, allSizes, heldC, ne_eq, Int.reduceLE, Int.reduceLT, Int.reduceEq, Int.reduceNe, Int.reduceToNat, Int.cast_ofNat_Int, Nat.reduceMul, Nat.reduceLeDiff, reduceIte, Nat.reduceEqDiff, Nat.reduceAdd, ↓reduceIte, Try.vcT, F, h.cell0, gets, vsD, if_true, if_false, Bool.false_eq_true,  s3]
  exact h.done
end Go.Proofs.Ytnhgjgoglmadnaa
namespace Go.Proofs.Ytnhgjgoglmadnaa
open Go.RowKit
set_option maxRecDepth 100000
set_option linter.unusedSimpArgs false
set_option linter.unusedVariables false
set_option pp.maxSteps 1500
set_option pp.deepTerms.threshold 8

structure Rq.Said (r : Rq) (b : List Int) (q : Rq) : Prop where
  byt : Byt b
  ok : Ok64 q.vals
  len : 0 < b.length ∧ b.length ≤ 400
  rd : askROk b = true
  rv : askRV b = q
  k : q.k = r.k
  pok : rqPOk q = true
  pb : rqPB q = b
theorem Rq.said {r : Rq} (h : rqPOk r = true) : r.Said (rqPB r) r.pick := by
  obtain ⟨h1, h2, h3⟩ := rqPOk_parts h
  have eb : rqPB r = (rqP r).l := by simp [rqPB, h]
  obtain ⟨h4, h5⟩ := askROk_of_read h3 h2 h1
  obtain ⟨h6, h7⟩ := pick_again h1
  have hb := rqP_byt r
  have pok : rqPOk r.pick = true := by
    have := h
    unfold rqPOk at this ⊢
    rw [h6, h7]; exact this
  have hlen : (rqP r).l.length ≤ 8 + (formL r.k).length * 48 := by
    have := ((Stp.num (⟨[], false⟩ : W8) r.k 1).trans (puts_stp r (formL r.k) _)).2.1
    simp only [List.length_nil] at this
    have e : rqP r = (formL r.k).foldl (put1 r) ((⟨[], false⟩ : W8).num r.k 1) := rfl
    rw [e]; omega
  have hf := formL_len r.k
  obtain ⟨x, l, e, _⟩ := askROk_len hb h4
  rw [eb]
  exact ⟨hb, by rw [← h5]; exact askRV_ok hb, ⟨by rw [e]; simp, by omega⟩, h4, h5, h6, pok, by unfold rqPB; rw [if_pos pok, h7]⟩
end Go.Proofs.Ytnhgjgoglmadnaa
