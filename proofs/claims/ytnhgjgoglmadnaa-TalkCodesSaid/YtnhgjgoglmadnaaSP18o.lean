/- Joined texts of this claim (part 15), printed by a program of this work. The last part holds the claimed theorem: the law answers true at every input of its row. -/
import Derived.Test.YtnhgjgoglmadnaaSP18n
namespace Go.Proofs.Ytnhgjgoglmadnaa
open Go.RowKit
set_option maxRecDepth 100000
set_option linter.unusedSimpArgs false
set_option linter.unusedVariables false
set_option pp.maxSteps 1500
set_option pp.deepTerms.threshold 8

theorem wPc_stp (s : W8) : ∀ x, Stp 80 s (wPc s x)
  | [a0, a1, a2, a3, a4, a5, a6, a7, a8] => ((((Stp.tri s a0 a1 a2 a3 a4 a5).trans (Stp.num _ _ _)).trans (Stp.num _ _ _)).trans (Stp.num _ _ _)).mono (by omega)
  | [] => (Stp.refl s).mono (by omega)
  | [_] => (Stp.refl s).mono (by omega)
  | [_, _] => (Stp.refl s).mono (by omega)
  | [_, _, _] => (Stp.refl s).mono (by omega)
  | [_, _, _, _] => (Stp.refl s).mono (by omega)
  | [_, _, _, _, _] => (Stp.refl s).mono (by omega)
  | [_, _, _, _, _, _] => (Stp.refl s).mono (by omega)
  | [_, _, _, _, _, _, _] => (Stp.refl s).mono (by omega)
  | [_, _, _, _, _, _, _, _] => (Stp.refl s).mono (by omega)
  | _ :: _ :: _ :: _ :: _ :: _ :: _ :: _ :: _ :: _ :: _ => (Stp.refl s).mono (by omega)
theorem wCp_stp (s : W8) : ∀ x, Stp 80 s (wCp s x)
  | [a0, a1, a2, a3, a4, a5, a6, a7, a8] => ((((((Stp.num s _ _).trans (Stp.num _ _ _)).trans (Stp.num _ _ _)).trans (Stp.num _ _ _)).trans (Stp.num _ _ _)).trans (Stp.num _ _ _)).mono (by omega)
  | [] => (Stp.refl s).mono (by omega)
  | [_] => (Stp.refl s).mono (by omega)
  | [_, _] => (Stp.refl s).mono (by omega)
  | [_, _, _] => (Stp.refl s).mono (by omega)
  | [_, _, _, _] => (Stp.refl s).mono (by omega)
  | [_, _, _, _, _] => (Stp.refl s).mono (by omega)
  | [_, _, _, _, _, _] => (Stp.refl s).mono (by omega)
  | [_, _, _, _, _, _, _] => (Stp.refl s).mono (by omega)
  | [_, _, _, _, _, _, _, _] => (Stp.refl s).mono (by omega)
  | _ :: _ :: _ :: _ :: _ :: _ :: _ :: _ :: _ :: _ :: _ => (Stp.refl s).mono (by omega)
theorem wLa_stp : ∀ (xs : List Int) (s : W8), Stp (xs.length * 8) s (xs.foldl wLa s)
  | [], s => (Stp.refl s).mono (by omega)
  | x :: xs, s => ((Stp.num s x 2).trans (wLa_stp xs _)).mono (by simp only [List.length_cons, Nat.succ_mul]; omega)
theorem tellsW_stp (s : W8) (z : Int) (a : AnV) : Stp (100 + a.p.length * 80 + a.ca.length * 80 + a.la.length * 8) s (tellsW s z a) := by
  unfold tellsW
  split
  · split
    · exact (Stp.list wPc_stp a.p s).mono (by omega)
    · exact (Stp.num s _ _).mono (by omega)
  split
  · exact (((Stp.num s _ _).trans (Stp.list wPc_stp a.p _)).trans (Stp.num _ _ _)).mono (by omega)
  split
  · exact (((Stp.num s _ _).trans (Stp.list wCp_stp a.ca _)).trans (Stp.num _ _ _)).mono (by omega)
  split
  · exact ((Stp.num s _ _).trans (wLa_stp a.la _)).mono (by omega)
  split
  · exact (Stp.num s _ _).mono (by omega)
  split
  · exact ((Stp.num s _ _).trans (Stp.raw _ (be_byt _ _))).mono (by rw [be_length]; omega)
  · exact (Stp.refl s).mono (by omega)
theorem writtenW_byt (z : Int) (a : AnV) : Byt (writtenW z a).l ∧ (writtenW z a).l.length ≤ a.room := by
  have h0 := Stp.num (⟨[], false⟩ : W8) a.code 1
  have h1 := h0.trans (tellsW_stp ((⟨[], false⟩ : W8).num a.code 1) z a)
  unfold writtenW AnV.room
  split
  · exact ⟨h1.1 Byt.nil, by have := h1.2.1; simp only [List.length_nil] at this; omega⟩
  · exact ⟨h0.1 Byt.nil, by have := h0.2.1; simp only [List.length_nil] at this; omega⟩
theorem writtenB_byt (z : Int) (a : AnV) : Byt (writtenB z a) := by
  unfold writtenB; split
  · exact Byt.nil
  · exact (writtenW_byt z a).1
set_option maxHeartbeats 4000000 in
theorem told72 (z : Int) (v : Value) (b : List Int) (w : World) (hr : Rd w v b) (hb : Byt b) (hl : b.length ≤ 99000) :
    Calls Try.prog 72 [.int .i64 z, v].toArray w (RetK fun r w' => ∃ N, Sep w (fun _ => False) N w' ∧ (∀ q ∈ N, ∀ x, ¬ q.rd x) ∧
      ∃ t, r = .tuple #[.agg ((toldV z b).cells t).toArray, .int .i64 (if toldOk z b then 0 else 2)] ∧ N = [ansX (toldV z b) t]) := by
  have hr' := hr
  obtain ⟨a, cc, rfl, _⟩ := hr'
  have h := Sep.nil w
  refine walk Try.func72 rfl (by kernel_rfl) (by rw [Try.nt72]; simp) ?_
  (try simp only [nfD] at h); have F := h.facts; (try simp only [nfF, emp_fact, rds_fact, frm_fact, tab_fact, two_fact, inr_fact, ansX_fact] at F)
  simp -dsimp only [↓vcA, vcB, vcD, ↓pureT_lenS, ↓iteT, ↓iteF, cond_true, cond_false, eq_self, argE, Env.get, Env.push, ev, evs, evo, retV, Value.cells, Value.oneCell', setR, overR, fillL, zl, places, allSizes, heldC, ne_eq, Int.reduceLE, Int.reduceLT, Int.reduceEq, Int.reduceNe, Int.reduceToNat, Int.cast_ofNat_Int, Nat.reduceMul, Nat.reduceLeDiff, reduceIte, Nat.reduceEqDiff, Nat.reduceAdd, ↓reduceIte, Try.vcT]
  refine h.new ?_
  clear h F
  intro w1 b1 h
  (try simp only [nfD] at h); have F := h.facts; (try simp only [nfF, emp_fact, rds_fact, frm_fact, tab_fact, two_fact, inr_fact, ansX_fact] at F); try simp -dsimp only [↓vcA, vcB, vcD, ↓pureT_lenS, ↓iteT, ↓iteF, cond_true, cond_false, eq_self, argE, Env.get, Env.push, ev, evs, evo, retV, Value.cells, Value.oneCell', setR, overR, fillL, zl, places, allSizes, heldC, ne_eq, Int.reduceLE, Int.reduceLT, Int.reduceEq, Int.reduceNe, Int.reduceToNat, Int.cast_ofNat_Int, Nat.reduceMul, Nat.reduceLeDiff, reduceIte, Nat.reduceEqDiff, Nat.reduceAdd, ↓reduceIte, Try.vcT, F, h.cell0, gets, vsD, if_true, if_false, Bool.false_eq_true]
  refine Sep.read b h (hr.sep h fun _ _ => id) (by omega) ?_
  clear h F
  intro r w2 h
  (try simp only [nfD] at h); have F := h.facts; (try simp only [nfF, emp_fact, rds_fact, frm_fact, tab_fact, two_fact, inr_fact, ansX_fact] at F); try simp -dsimp only [↓vcA, vcB, vcD, ↓pureT_lenS, ↓iteT, ↓iteF, cond_true, cond_false, eq_self, argE, Env.get, Env.push, ev, evs, evo, retV, Value.cells, Value.oneCell', setR, overR, fillL, zl, places, allSizes, heldC, ne_eq, Int.reduceLE, Int.reduceLT, Int.reduceEq, Int.reduceNe, Int.reduceToNat, Int.cast_ofNat_Int, Nat.reduceMul, Nat.reduceLeDiff, reduceIte, Nat.reduceEqDiff, Nat.reduceAdd, ↓reduceIte, Try.vcT, F, h.cell0, gets, vsD, if_true, if_false, Bool.false_eq_true]
  refine Sep.rdNum 1 h rfl ?_
  clear h F
  intro w3 h
  have hS1 := numS_byt (⟨b, false⟩ : R8) 1 hb
  have hok0 : toldOk z b = ((toldA z b).2.done && (!(writtenW z (toldA z b).1).bad && decide (writtenB z (toldA z b).1 = b))) := rfl
  have hv0 : toldV z b = if toldOk z b then (toldA z b).1 else AnV.zero := rfl
  obtain ⟨hO, hroom⟩ := toldA_ok hb z
  have hA : toldA z b = ({(if (⟨b, false⟩ : R8).numV 1 = 0 then toldQ ((⟨b, false⟩ : R8).numS 1) z else (AnV.zero, (⟨b, false⟩ : R8).numS 1)).1 with code := (⟨b, false⟩ : R8).numV 1}, (if (⟨b, false⟩ : R8).numV 1 = 0 then toldQ ((⟨b, false⟩ : R8).numS 1) z else (AnV.zero, (⟨b, false⟩ : R8).numS 1)).2) := rfl
  have fin : ∀ {w' : World} {M : List Res}, toldOk z b = false → Sep w (fun _ => False) M w' → ∃ N, Sep w (fun _ => False) N w' ∧ (∀ q ∈ N, ∀ x, ¬ q.rd x) ∧
      ∃ t, Value.tuple #[.agg #[.int .i64 0, .slice none 0 0, .bool false, .slice none 0 0, .slice none 0 0, .int .i64 0, .int .u64 0], .int .i64 2] = .tuple #[.agg ((toldV z b).cells t).toArray, .int .i64 (if toldOk z b then 0 else 2)] ∧ N = [ansX (toldV z b) t] := fun hf h => by
    have e : toldV z b = AnV.zero := by rw [hv0, hf]; rfl
    rw [e, hf]
    exact ⟨_, h.ansZero, (fun q hq x => by simp at hq; subst hq; exact ansX_rd _ _ x), AnS.zero, rfl, rfl⟩
  generalize (⟨b, false⟩ : R8).numS 1 = s1 at *
  generalize (⟨b, false⟩ : R8).numV 1 = code at *
  by_cases h0 : code = 0
  case' pos =>
    rw [if_pos h0] at hA
    (try simp only [nfD] at h); have F := h.facts; (try simp only [nfF, emp_fact, rds_fact, frm_fact, tab_fact, two_fact, inr_fact, ansX_fact] at F); try simp -dsimp only [↓vcA, vcB, vcD, ↓pureT_lenS, ↓iteT, ↓iteF, cond_true, cond_false, eq_self, argE, Env.get, Env.push, ev, evs, evo, retV, Value.cells, Value.oneCell', setR, overR, fillL, zl, places, allSizes, heldC, ne_eq, Int.reduceLE, Int.reduceLT, Int.reduceEq, Int.reduceNe, Int.reduceToNat, Int.cast_ofNat_Int, Nat.reduceMul, Nat.reduceLeDiff, reduceIte, Nat.reduceEqDiff, Nat.reduceAdd, ↓reduceIte, Try.vcT, F, h.cell0, gets, vsD, if_true, if_false, Bool.false_eq_true,  decide_eq_true h0]
    refine told131 h hS1 ?_
    clear h F
    intro t w4 h
    generalize hQ : toldQ s1 z = Q at *
    obtain ⟨A, s'⟩ := Q
    dsimp only at hA
    (try simp only [nfD] at h); have F := h.facts; (try simp only [nfF, emp_fact, rds_fact, frm_fact, tab_fact, two_fact, inr_fact, ansX_fact] at F)
    have R := F.2.2.1
    obtain ⟨tp, tca, tla⟩ := t
    obtain ⟨Ap, Cp, ep⟩ := R.p.shape
    obtain ⟨Aca, Cca, eca⟩ := R.ca.shape
    obtain ⟨Ala, Cla, ela⟩ := R.la.shape
    dsimp only at ep eca ela
    subst ep eca ela
    clear R
    (try simp only [nfD] at h); have F := h.facts; (try simp only [nfF, emp_fact, rds_fact, frm_fact, tab_fact, two_fact, inr_fact, ansX_fact] at F); try simp -dsimp only [↓vcA, vcB, vcD, ↓pureT_lenS, ↓iteT, ↓iteF, cond_true, cond_false, eq_self, argE, Env.get, Env.push, ev, evs, evo, retV, Value.cells, Value.oneCell', setR, overR, fillL, zl, places, allSizes, heldC, ne_eq, Int.reduceLE, Int.reduceLT, Int.reduceEq, Int.reduceNe, Int.reduceToNat, Int.cast_ofNat_Int, Nat.reduceMul, Nat.reduceLeDiff, reduceIte, Nat.reduceEqDiff, Nat.reduceAdd, ↓reduceIte, Try.vcT, F, h.cell0, gets, vsD, if_true, if_false, Bool.false_eq_true,  AnV.cells]
    refine Sep.put 0 h rfl ?_
    clear h F
    intro w5 h
    (try simp only [nfD] at h); have F := h.facts; (try simp only [nfF, emp_fact, rds_fact, frm_fact, tab_fact, two_fact, inr_fact, ansX_fact] at F); try simp -dsimp only [↓vcA, vcB, vcD, ↓pureT_lenS, ↓iteT, ↓iteF, cond_true, cond_false, eq_self, argE, Env.get, Env.push, ev, evs, evo, retV, Value.cells, Value.oneCell', setR, overR, fillL, zl, places, allSizes, heldC, ne_eq, Int.reduceLE, Int.reduceLT, Int.reduceEq, Int.reduceNe, Int.reduceToNat, Int.cast_ofNat_Int, Nat.reduceMul, Nat.reduceLeDiff, reduceIte, Nat.reduceEqDiff, Nat.reduceAdd, ↓reduceIte, Try.vcT, F, h.cell0, gets, vsD, if_true, if_false, Bool.false_eq_true,  AnV.cells]
  case' neg =>
    rw [if_neg h0] at hA
    dsimp only at hA
    have h := h.ansPush
    (try simp only [nfD] at h); have F := h.facts; (try simp only [nfF, emp_fact, rds_fact, frm_fact, tab_fact, two_fact, inr_fact, ansX_fact] at F); try simp -dsimp only [↓vcA, vcB, vcD, ↓pureT_lenS, ↓iteT, ↓iteF, cond_true, cond_false, eq_self, argE, Env.get, Env.push, ev, evs, evo, retV, Value.cells, Value.oneCell', setR, overR, fillL, zl, places, allSizes, heldC, ne_eq, Int.reduceLE, Int.reduceLT, Int.reduceEq, Int.reduceNe, Int.reduceToNat, Int.cast_ofNat_Int, Nat.reduceMul, Nat.reduceLeDiff, reduceIte, Nat.reduceEqDiff, Nat.reduceAdd, ↓reduceIte, Try.vcT, F, h.cell0, gets, vsD, if_true, if_false, Bool.false_eq_true,  decide_eq_false h0]
  all_goals
    refine Sep.put 0 h rfl ?_
    clear h F
    intro w6 h
    (try simp only [nfD] at h); have F := h.facts; (try simp only [nfF, emp_fact, rds_fact, frm_fact, tab_fact, two_fact, inr_fact, ansX_fact] at F); try simp -dsimp only [↓vcA, vcB, vcD, ↓pureT_lenS, ↓iteT, ↓iteF, cond_true, cond_false, eq_self, argE, Env.get, Env.push, ev, evs, evo, retV, Value.cells, Value.oneCell', setR, overR, fillL, zl, places, allSizes, heldC, ne_eq, Int.reduceLE, Int.reduceLT, Int.reduceEq, Int.reduceNe, Int.reduceToNat, Int.cast_ofNat_Int, Nat.reduceMul, Nat.reduceLeDiff, reduceIte, Nat.reduceEqDiff, Nat.reduceAdd, ↓reduceIte, Try.vcT, F, h.cell0, gets, vsD, if_true, if_false, Bool.false_eq_true,  cellsAt]
  all_goals
    have R := F.2.2.1
    have hd2 := congrArg Prod.snd hA
    dsimp only at hd2
    have k1 := written128 z (toldA z b).1 _ w6 (by rw [hA]; exact ⟨R.p, R.ca, R.la⟩) hO (by omega)
    have hbB := writtenB_byt z (toldA z b).1
    generalize writtenB z (toldA z b).1 = B at *
    generalize writtenW z (toldA z b).1 = W at *
    have hcell : ∀ t : AnS, (toldA z b).1.cells t = (toldA z b).1.cells t := fun _ => rfl
    rw [hA] at k1
    simp only [AnV.cells, AnV.zero, AnS.zero] at k1
    refine Sep.callN h k1 ?_
    clear h F k1 R
    intro e N w7 hQ h
    obtain ⟨a7, c7, rfl, rfl⟩ := hQ
    (try simp only [nfD] at h); have F := h.facts; (try simp only [nfF, emp_fact, rds_fact, frm_fact, tab_fact, two_fact, inr_fact, ansX_fact] at F); try simp -dsimp only [↓vcA, vcB, vcD, ↓pureT_lenS, ↓iteT, ↓iteF, cond_true, cond_false, eq_self, argE, Env.get, Env.push, ev, evs, evo, retV, Value.cells, Value.oneCell', setR, overR, fillL, zl, places, allSizes, heldC, ne_eq, Int.reduceLE, Int.reduceLT, Int.reduceEq, Int.reduceNe, Int.reduceToNat, Int.cast_ofNat_Int, Nat.reduceMul, Nat.reduceLeDiff, reduceIte, Nat.reduceEqDiff, Nat.reduceAdd, ↓reduceIte, Try.vcT, F, h.cell0, gets, vsD, if_true, if_false, Bool.false_eq_true]
    refine Sep.rdDone 1 h rfl ?_
    rw [← hd2]
    cases hd : (toldA z b).2.done with
    | false =>
      (try simp only [nfD] at h); have F := h.facts; (try simp only [nfF, emp_fact, rds_fact, frm_fact, tab_fact, two_fact, inr_fact, ansX_fact] at F); try simp -dsimp only [↓vcA, vcB, vcD, ↓pureT_lenS, ↓iteT, ↓iteF, cond_true, cond_false, eq_self, argE, Env.get, Env.push, ev, evs, evo, retV, Value.cells, Value.oneCell', setR, overR, fillL, zl, places, allSizes, heldC, ne_eq, Int.reduceLE, Int.reduceLT, Int.reduceEq, Int.reduceNe, Int.reduceToNat, Int.cast_ofNat_Int, Nat.reduceMul, Nat.reduceLeDiff, reduceIte, Nat.reduceEqDiff, Nat.reduceAdd, ↓reduceIte, Try.vcT, F, h.cell0, gets, vsD, if_true, if_false, Bool.false_eq_true,  hd, if_false, Bool.not_true, Bool.not_false, Bool.false_eq_true]
      refine Sep.put 0 h rfl ?_
      clear h F
      intro w8 h
      (try simp only [nfD] at h); have F := h.facts; (try simp only [nfF, emp_fact, rds_fact, frm_fact, tab_fact, two_fact, inr_fact, ansX_fact] at F); try simp -dsimp only [↓vcA, vcB, vcD, ↓pureT_lenS, ↓iteT, ↓iteF, cond_true, cond_false, eq_self, argE, Env.get, Env.push, ev, evs, evo, retV, Value.cells, Value.oneCell', setR, overR, fillL, zl, places, allSizes, heldC, ne_eq, Int.reduceLE, Int.reduceLT, Int.reduceEq, Int.reduceNe, Int.reduceToNat, Int.cast_ofNat_Int, Nat.reduceMul, Nat.reduceLeDiff, reduceIte, Nat.reduceEqDiff, Nat.reduceAdd, ↓reduceIte, Try.vcT, F, h.cell0, gets, vsD, if_true, if_false, Bool.false_eq_true,  cellsAt]
      exact fin (by rw [hok0, hd]; rfl) h
    | true =>
    cases hw : W.bad with
    | true =>
      (try simp only [nfD] at h); have F := h.facts; (try simp only [nfF, emp_fact, rds_fact, frm_fact, tab_fact, two_fact, inr_fact, ansX_fact] at F); try simp -dsimp only [↓vcA, vcB, vcD, ↓pureT_lenS, ↓iteT, ↓iteF, cond_true, cond_false, eq_self, argE, Env.get, Env.push, ev, evs, evo, retV, Value.cells, Value.oneCell', setR, overR, fillL, zl, places, allSizes, heldC, ne_eq, Int.reduceLE, Int.reduceLT, Int.reduceEq, Int.reduceNe, Int.reduceToNat, Int.cast_ofNat_Int, Nat.reduceMul, Nat.reduceLeDiff, reduceIte, Nat.reduceEqDiff, Nat.reduceAdd, ↓reduceIte, Try.vcT, F, h.cell0, gets, vsD, if_true, if_false, Bool.false_eq_true,  hd, hw, if_true, if_false, Bool.not_true, Bool.not_false, Bool.false_eq_true]
      refine Sep.put 0 h rfl ?_
      clear h F
      intro w8 h
      (try simp only [nfD] at h); have F := h.facts; (try simp only [nfF, emp_fact, rds_fact, frm_fact, tab_fact, two_fact, inr_fact, ansX_fact] at F); try simp -dsimp only [↓vcA, vcB, vcD, ↓pureT_lenS, ↓iteT, ↓iteF, cond_true, cond_false, eq_self, argE, Env.get, Env.push, ev, evs, evo, retV, Value.cells, Value.oneCell', setR, overR, fillL, zl, places, allSizes, heldC, ne_eq, Int.reduceLE, Int.reduceLT, Int.reduceEq, Int.reduceNe, Int.reduceToNat, Int.cast_ofNat_Int, Nat.reduceMul, Nat.reduceLeDiff, reduceIte, Nat.reduceEqDiff, Nat.reduceAdd, ↓reduceIte, Try.vcT, F, h.cell0, gets, vsD, if_true, if_false, Bool.false_eq_true,  cellsAt]
      exact fin (by rw [hok0, hd, hw]; rfl) h
    | false =>
    (try simp only [nfD] at h); have F := h.facts; (try simp only [nfF, emp_fact, rds_fact, frm_fact, tab_fact, two_fact, inr_fact, ansX_fact] at F); try simp -dsimp only [↓vcA, vcB, vcD, ↓pureT_lenS, ↓iteT, ↓iteF, cond_true, cond_false, eq_self, argE, Env.get, Env.push, ev, evs, evo, retV, Value.cells, Value.oneCell', setR, overR, fillL, zl, places, allSizes, heldC, ne_eq, Int.reduceLE, Int.reduceLT, Int.reduceEq, Int.reduceNe, Int.reduceToNat, Int.cast_ofNat_Int, Nat.reduceMul, Nat.reduceLeDiff, reduceIte, Nat.reduceEqDiff, Nat.reduceAdd, ↓reduceIte, Try.vcT, F, h.cell0, gets, vsD, if_true, if_false, Bool.false_eq_true,  hd, hw, if_true, if_false, Bool.not_true, Bool.not_false, Bool.false_eq_true]
    refine Sep.callp h (bytesEq _ _ _ _ _ F.2.2.2.1 (hr.sep h fun _ _ => id) hbB hb) ?_
    clear h F
    intro w8 h
    by_cases he : B = b
    case neg =>
      (try simp only [nfD] at h); have F := h.facts; (try simp only [nfF, emp_fact, rds_fact, frm_fact, tab_fact, two_fact, inr_fact, ansX_fact] at F); try simp -dsimp only [↓vcA, vcB, vcD, ↓pureT_lenS, ↓iteT, ↓iteF, cond_true, cond_false, eq_self, argE, Env.get, Env.push, ev, evs, evo, retV, Value.cells, Value.oneCell', setR, overR, fillL, zl, places, allSizes, heldC, ne_eq, Int.reduceLE, Int.reduceLT, Int.reduceEq, Int.reduceNe, Int.reduceToNat, Int.cast_ofNat_Int, Nat.reduceMul, Nat.reduceLeDiff, reduceIte, Nat.reduceEqDiff, Nat.reduceAdd, ↓reduceIte, Try.vcT, F, h.cell0, gets, vsD, if_true, if_false, Bool.false_eq_true,  decide_eq_false he, Bool.not_true, Bool.not_false]
      refine Sep.put 0 h rfl ?_
      clear h F
      intro w9 h
      (try simp only [nfD] at h); have F := h.facts; (try simp only [nfF, emp_fact, rds_fact, frm_fact, tab_fact, two_fact, inr_fact, ansX_fact] at F); try simp -dsimp only [↓vcA, vcB, vcD, ↓pureT_lenS, ↓iteT, ↓iteF, cond_true, cond_false, eq_self, argE, Env.get, Env.push, ev, evs, evo, retV, Value.cells, Value.oneCell', setR, overR, fillL, zl, places, allSizes, heldC, ne_eq, Int.reduceLE, Int.reduceLT, Int.reduceEq, Int.reduceNe, Int.reduceToNat, Int.cast_ofNat_Int, Nat.reduceMul, Nat.reduceLeDiff, reduceIte, Nat.reduceEqDiff, Nat.reduceAdd, ↓reduceIte, Try.vcT, F, h.cell0, gets, vsD, if_true, if_false, Bool.false_eq_true,  cellsAt]
      exact fin (by rw [hok0, hd, hw, decide_eq_false he]; rfl) h
    have ok : toldOk z b = true := by rw [hok0, hd, hw, decide_eq_true he]; rfl
    have etv : toldV z b = (toldA z b).1 := by rw [hv0, ok]; rfl
    (try simp only [nfD] at h); have F := h.facts; (try simp only [nfF, emp_fact, rds_fact, frm_fact, tab_fact, two_fact, inr_fact, ansX_fact] at F); try simp -dsimp only [↓vcA, vcB, vcD, ↓pureT_lenS, ↓iteT, ↓iteF, cond_true, cond_false, eq_self, argE, Env.get, Env.push, ev, evs, evo, retV, Value.cells, Value.oneCell', setR, overR, fillL, zl, places, allSizes, heldC, ne_eq, Int.reduceLE, Int.reduceLT, Int.reduceEq, Int.reduceNe, Int.reduceToNat, Int.cast_ofNat_Int, Nat.reduceMul, Nat.reduceLeDiff, reduceIte, Nat.reduceEqDiff, Nat.reduceAdd, ↓reduceIte, Try.vcT, F, h.cell0, gets, vsD, if_true, if_false, Bool.false_eq_true,  decide_eq_true he, Bool.not_true, Bool.not_false, cellsAt]
    refine Sep.put 0 h rfl ?_
    clear h F
    intro w9 h
    (try simp only [nfD] at h); have F := h.facts; (try simp only [nfF, emp_fact, rds_fact, frm_fact, tab_fact, two_fact, inr_fact, ansX_fact] at F); try simp -dsimp only [↓vcA, vcB, vcD, ↓pureT_lenS, ↓iteT, ↓iteF, cond_true, cond_false, eq_self, argE, Env.get, Env.push, ev, evs, evo, retV, Value.cells, Value.oneCell', setR, overR, fillL, zl, places, allSizes, heldC, ne_eq, Int.reduceLE, Int.reduceLT, Int.reduceEq, Int.reduceNe, Int.reduceToNat, Int.cast_ofNat_Int, Nat.reduceMul, Nat.reduceLeDiff, reduceIte, Nat.reduceEqDiff, Nat.reduceAdd, ↓reduceIte, Try.vcT, F, h.cell0, gets, vsD, if_true, if_false, Bool.false_eq_true,  cellsAt]
    rw [etv, ok, hA]
    exact ⟨_, ((h.erase 3).erase 0).erase 0, (fun q hq x hx => by simp at hq; subst hq; exact ansX_rd _ _ x hx), _, rfl, rfl⟩
def ansOk (z : Int) (a : AnV) : Bool := !(writtenW z a).bad && toldOk z (writtenW z a).l
def ansB (z : Int) (a : AnV) : List Int := if ansOk z a then (writtenW z a).l else []
set_option maxHeartbeats 4000000 in
theorem answer70 (z : Int) (a : AnV) (t : AnS) (w : World) (R : AnR w a t) (O : a.Ok) (hl : a.room ≤ 90000) :
    Calls Try.prog 70 [.int .i64 z, .agg (a.cells t).toArray].toArray w (RetK fun v w' => ∃ N, Sep w (fun _ => False) N w' ∧ (∀ q ∈ N, ∀ x, ¬ q.rd x) ∧
      ∃ b c, v = .tuple #[.slice b (ansB z a).length c, .int .i64 (if ansOk z a then 0 else 2)] ∧ N = [byt (.slice b (ansB z a).length c) (ansB z a)]) := by
  have fin : ∀ {w' : World} {M : List Res}, ansOk z a = false → Sep w (fun _ => False) M w' → ∃ N, Sep w (fun _ => False) N w' ∧ (∀ q ∈ N, ∀ x, ¬ q.rd x) ∧
      ∃ b c, Value.tuple #[.slice none 0 0, .int .i64 2] = .tuple #[.slice b (ansB z a).length c, .int .i64 (if ansOk z a then 0 else 2)] ∧ N = [byt (.slice b (ansB z a).length c) (ansB z a)] := fun hf h => by
    have e1 : ansB z a = [] := by simp [ansB, hf]
    rw [e1, hf]
    exact ⟨_, h.none.bytNone, (fun q hq x hx => by simp at hq; subst hq; exact hx), none, 0, rfl, rfl⟩
  have hok : ansOk z a = (!(writtenW z a).bad && toldOk z (writtenW z a).l) := rfl
  have hB : ansOk z a = true → ansB z a = (writtenW z a).l := fun e => by simp [ansB, e]
  obtain ⟨hby, hlen⟩ := writtenW_byt z a
  obtain ⟨ap, cp, ep⟩ := R.p.shape
  obtain ⟨aca, cca, eca⟩ := R.ca.shape
  obtain ⟨ala, cla, ela⟩ := R.la.shape
  have k1 := fun w' (R : AnR w' a t) => written128 z a t w' R O (by omega)
  have hWB : writtenB z a = if (writtenW z a).bad then [] else (writtenW z a).l := rfl
  simp only [AnV.cells, ep, eca, ela] at k1
  have h := Sep.nil w
  refine walk Try.func70 rfl (by kernel_rfl) (by rw [Try.nt70]; simp) ?_
  (try simp only [nfD] at h); have F := h.facts; (try simp only [nfF, emp_fact, rds_fact, frm_fact, tab_fact, two_fact, inr_fact, ansX_fact] at F)
  simp -dsimp only [↓vcA, vcB, vcD, ↓pureT_lenS, ↓iteT, ↓iteF, cond_true, cond_false, eq_self, argE, Env.get, Env.push, ev, evs, evo, retV, Value.cells, Value.oneCell', setR, overR, fillL, zl, places, allSizes, heldC, ne_eq, Int.reduceLE, Int.reduceLT, Int.reduceEq, Int.reduceNe, Int.reduceToNat, Int.cast_ofNat_Int, Nat.reduceMul, Nat.reduceLeDiff, reduceIte, Nat.reduceEqDiff, Nat.reduceAdd, ↓reduceIte, Try.vcT, AnV.cells, ep, eca, ela]
  refine h.new ?_
  clear h F
  intro w1 b1 h
  (try simp only [nfD] at h); have F := h.facts; (try simp only [nfF, emp_fact, rds_fact, frm_fact, tab_fact, two_fact, inr_fact, ansX_fact] at F); try simp -dsimp only [↓vcA, vcB, vcD, ↓pureT_lenS, ↓iteT, ↓iteF, cond_true, cond_false, eq_self, argE, Env.get, Env.push, ev, evs, evo, retV, Value.cells, Value.oneCell', setR, overR, fillL, zl, places, allSizes, heldC, ne_eq, Int.reduceLE, Int.reduceLT, Int.reduceEq, Int.reduceNe, Int.reduceToNat, Int.cast_ofNat_Int, Nat.reduceMul, Nat.reduceLeDiff, reduceIte, Nat.reduceEqDiff, Nat.reduceAdd, ↓reduceIte, Try.vcT, F, h.cell0, gets, vsD, if_true, if_false, Bool.false_eq_true,  cellsAt]
  refine Sep.callN h (k1 _ (R.sep h)) ?_
  clear h F k1
  intro e N w2 hQ h
  obtain ⟨a2, c2, rfl, rfl⟩ := hQ
  generalize writtenW z a = W at *
  cases hw : W.bad with
  | true =>
    (try simp only [nfD] at h); have F := h.facts; (try simp only [nfF, emp_fact, rds_fact, frm_fact, tab_fact, two_fact, inr_fact, ansX_fact] at F); try simp -dsimp only [↓vcA, vcB, vcD, ↓pureT_lenS, ↓iteT, ↓iteF, cond_true, cond_false, eq_self, argE, Env.get, Env.push, ev, evs, evo, retV, Value.cells, Value.oneCell', setR, overR, fillL, zl, places, allSizes, heldC, ne_eq, Int.reduceLE, Int.reduceLT, Int.reduceEq, Int.reduceNe, Int.reduceToNat, Int.cast_ofNat_Int, Nat.reduceMul, Nat.reduceLeDiff, reduceIte, Nat.reduceEqDiff, Nat.reduceAdd, ↓reduceIte, Try.vcT, F, h.cell0, gets, vsD, if_true, if_false, Bool.false_eq_true,  hw, if_true, if_false, Bool.not_true, Bool.not_false, Bool.false_eq_true]
    exact fin (by rw [hok, hw]; rfl) h
  | false =>
  have eB : writtenB z a = W.l := by rw [hWB, hw]; rfl
  rw [eB] at h
  rw [eB]
  (try simp only [nfD] at h); have F := h.facts; (try simp only [nfF, emp_fact, rds_fact, frm_fact, tab_fact, two_fact, inr_fact, ansX_fact] at F); try simp -dsimp only [↓vcA, vcB, vcD, ↓pureT_lenS, ↓iteT, ↓iteF, cond_true, cond_false, eq_self, argE, Env.get, Env.push, ev, evs, evo, retV, Value.cells, Value.oneCell', setR, overR, fillL, zl, places, allSizes, heldC, ne_eq, Int.reduceLE, Int.reduceLT, Int.reduceEq, Int.reduceNe, Int.reduceToNat, Int.cast_ofNat_Int, Nat.reduceMul, Nat.reduceLeDiff, reduceIte, Nat.reduceEqDiff, Nat.reduceAdd, ↓reduceIte, Try.vcT, F, h.cell0, gets, vsD, if_true, if_false, Bool.false_eq_true,  hw, if_true, if_false, Bool.not_true, Bool.not_false, Bool.false_eq_true]
  refine Sep.callN h (told72 z _ W.l _ F.2.1 hby (by omega)) ?_
  clear h F
  intro e N w3 hQ h
  obtain ⟨u, rfl, rfl⟩ := hQ
  (try simp only [nfD] at h); have F := h.facts; (try simp only [nfF, emp_fact, rds_fact, frm_fact, tab_fact, two_fact, inr_fact, ansX_fact] at F)
  have RU := F.2.2.1
  obtain ⟨up, uca, ula⟩ := u
  obtain ⟨xp, yp, qp⟩ := RU.p.shape
  obtain ⟨xca, yca, qca⟩ := RU.ca.shape
  obtain ⟨xla, yla, qla⟩ := RU.la.shape
  dsimp only at qp qca qla
  subst qp qca qla
  clear RU
  (try simp only [nfD] at h); have F := h.facts; (try simp only [nfF, emp_fact, rds_fact, frm_fact, tab_fact, two_fact, inr_fact, ansX_fact] at F); try simp -dsimp only [↓vcA, vcB, vcD, ↓pureT_lenS, ↓iteT, ↓iteF, cond_true, cond_false, eq_self, argE, Env.get, Env.push, ev, evs, evo, retV, Value.cells, Value.oneCell', setR, overR, fillL, zl, places, allSizes, heldC, ne_eq, Int.reduceLE, Int.reduceLT, Int.reduceEq, Int.reduceNe, Int.reduceToNat, Int.cast_ofNat_Int, Nat.reduceMul, Nat.reduceLeDiff, reduceIte, Nat.reduceEqDiff, Nat.reduceAdd, ↓reduceIte, Try.vcT, F, h.cell0, gets, vsD, if_true, if_false, Bool.false_eq_true,  AnV.cells]
  refine h.new ?_
  clear h F
  intro w4 b4 h
  (try simp only [nfD] at h); have F := h.facts; (try simp only [nfF, emp_fact, rds_fact, frm_fact, tab_fact, two_fact, inr_fact, ansX_fact] at F); try simp -dsimp only [↓vcA, vcB, vcD, ↓pureT_lenS, ↓iteT, ↓iteF, cond_true, cond_false, eq_self, argE, Env.get, Env.push, ev, evs, evo, retV, Value.cells, Value.oneCell', setR, overR, fillL, zl, places, allSizes, heldC, ne_eq, Int.reduceLE, Int.reduceLT, Int.reduceEq, Int.reduceNe, Int.reduceToNat, Int.cast_ofNat_Int, Nat.reduceMul, Nat.reduceLeDiff, reduceIte, Nat.reduceEqDiff, Nat.reduceAdd, ↓reduceIte, Try.vcT, F, h.cell0, gets, vsD, if_true, if_false, Bool.false_eq_true,  AnV.cells]
  refine Sep.put 3 h rfl ?_
  clear h F
  intro w5 h
  cases ht : toldOk z W.l with
  | false =>
    (try simp only [nfD] at h); have F := h.facts; (try simp only [nfF, emp_fact, rds_fact, frm_fact, tab_fact, two_fact, inr_fact, ansX_fact] at F); try simp -dsimp only [↓vcA, vcB, vcD, ↓pureT_lenS, ↓iteT, ↓iteF, cond_true, cond_false, eq_self, argE, Env.get, Env.push, ev, evs, evo, retV, Value.cells, Value.oneCell', setR, overR, fillL, zl, places, allSizes, heldC, ne_eq, Int.reduceLE, Int.reduceLT, Int.reduceEq, Int.reduceNe, Int.reduceToNat, Int.cast_ofNat_Int, Nat.reduceMul, Nat.reduceLeDiff, reduceIte, Nat.reduceEqDiff, Nat.reduceAdd, ↓reduceIte, Try.vcT, F, h.cell0, gets, vsD, if_true, if_false, Bool.false_eq_true,  ht, if_true, if_false, Bool.not_true, Bool.not_false, Bool.false_eq_true]
    exact fin (by rw [hok, ht]; simp) h
  | true =>
    have ok : ansOk z a = true := by rw [hok, hw, ht]; rfl
    (try simp only [nfD] at h); have F := h.facts; (try simp only [nfF, emp_fact, rds_fact, frm_fact, tab_fact, two_fact, inr_fact, ansX_fact] at F); try simp -dsimp only [↓vcA, vcB, vcD, ↓pureT_lenS, ↓iteT, ↓iteF, cond_true, cond_false, eq_self, argE, Env.get, Env.push, ev, evs, evo, retV, Value.cells, Value.oneCell', setR, overR, fillL, zl, places, allSizes, heldC, ne_eq, Int.reduceLE, Int.reduceLT, Int.reduceEq, Int.reduceNe, Int.reduceToNat, Int.cast_ofNat_Int, Nat.reduceMul, Nat.reduceLeDiff, reduceIte, Nat.reduceEqDiff, Nat.reduceAdd, ↓reduceIte, Try.vcT, F, h.cell0, gets, vsD, if_true, if_false, Bool.false_eq_true,  ht, if_true, if_false, Bool.not_true, Bool.not_false, Bool.false_eq_true]
    rw [hB ok, ok]
    exact ⟨_, ((h.erase 3).erase 2).erase 0, (fun q hq x hx => by simp at hq; subst hq; exact hx), _, _, rfl, rfl⟩
end Go.Proofs.Ytnhgjgoglmadnaa
namespace Go.Proofs.Ytnhgjgoglmadnaa
open Go.RowKit
set_option maxRecDepth 100000
set_option linter.unusedSimpArgs false
set_option linter.unusedVariables false
set_option pp.maxSteps 1500
set_option pp.deepTerms.threshold 8

def moreS (s : R8) : R8 := if 1 < s.numV 1 then ⟨(s.numS 1).l, true⟩ else s.numS 1
section
variable {w0 w : World}
end
theorem Sep.rdSet (i : Nat) {w0 w : World} {S : Nat → Prop} {M : List Res} {t p : Nat} {s : R8} {Z : Nat → Prop} {v : Value} {b' : Bool} {K : World → Prop} (h : Sep w0 S M w) (hi : M[i]? = some (rdr t p s Z)) (hv : w.cell? ⟨p, 0, Option.none⟩ = some v)
    (hk : ∀ w1, Sep w0 S (M.set i (rdr t p ⟨s.l, b'⟩ Z)) w1 → K w1) : ∀ w1, Put w w1 p [v, .bool b'] t → K w1 := fun w1 hp => by
  obtain ⟨h1, v', h2, h3⟩ := h.rdAt hi
  have e : v' = v := by have a := h2.c0; rw [hv] at a; injection a with a; exact a.symm
  subst e
  obtain ⟨k1, k2⟩ := h2.put (s' := ⟨s.l, b'⟩) (Chg.refl _ _) hp h2.rd (fun _ => id) (Nat.le_refl _)
  exact hk w1 (h3 ⟨s.l, b'⟩ w1 ⟨v', k1, k2, fun _ => id⟩ (Nat.le_refl _))
theorem more133 {A : Nat → Prop} (p : Nat) (s : R8) (Z : Nat → Prop) (w : World) (h : Sep w A [rdr 85 p s Z] w) :
    Calls Try.prog 133 [.pointer (some ⟨p, 0, none⟩)].toArray w
      (RetK fun v w' => ∃ r' N, Sep w A (r' :: N) w' ∧ (∀ x, r'.rd x → (rdr 85 p s Z).rd x) ∧ (∀ q ∈ N, ∀ x, ¬ q.rd x) ∧ (v = .bool (decide (s.numV 1 = 1)) ∧ r' = rdr 85 p (moreS s) Z ∧ N = [])) := by
  refine walk Try.func133 rfl (by kernel_rfl) (by rw [Try.nt133]; simp) ?_
  (try simp only [nfD] at h); have F := h.facts; (try simp only [nfF, emp_fact, rds_fact, frm_fact, tab_fact, two_fact, inr_fact, ansX_fact] at F)
  simp -dsimp only [↓vcA, vcB, vcD, ↓pureT_lenS, ↓iteT, ↓iteF, cond_true, cond_false, eq_self, argE, Env.get, Env.push, ev, evs, evo, retV, Value.cells, Value.oneCell', setR, overR, fillL, zl, places, allSizes, heldC, ne_eq, Int.reduceLE, Int.reduceLT, Int.reduceEq, Int.reduceNe, Int.reduceToNat, Int.cast_ofNat_Int, Nat.reduceMul, Nat.reduceLeDiff, reduceIte, Nat.reduceEqDiff, Nat.reduceAdd, ↓reduceIte, Try.vcT]
  refine Sep.rrNum 0 h rfl ?_
  clear h F
  intro w1 h
  obtain ⟨_, v, hw, _⟩ := h.rdAt (i := 0) rfl
  have hc1 := hw.c1
  have hc0 := hw.c0
  have hbk := hw.bk
  have close : ∀ {b' : Bool} {w' : World}, b' = ((s.numS 1).bad || decide (1 < s.numV 1)) → Sep w A [rdr 85 p ⟨(s.numS 1).l, b'⟩ Z] w' → Sep w A [rdr 85 p (moreS s) Z] w' := fun {b' w'} e h => by
    have : moreS s = ⟨(s.numS 1).l, b'⟩ := by
      unfold moreS
      by_cases hg : 1 < s.numV 1
      · rw [if_pos hg, e, decide_eq_true hg, Bool.or_true]
      · rw [if_neg hg, e, decide_eq_false hg, Bool.or_false]
    rw [this]; exact h
  cases hb : (s.numS 1).bad with
  | true =>
    rw [hb] at hc1 hbk
    (try simp only [nfD] at h); have F := h.facts; (try simp only [nfF, emp_fact, rds_fact, frm_fact, tab_fact, two_fact, inr_fact, ansX_fact] at F); try simp -dsimp only [↓vcA, vcB, vcD, ↓pureT_lenS, ↓iteT, ↓iteF, cond_true, cond_false, eq_self, argE, Env.get, Env.push, ev, evs, evo, retV, Value.cells, Value.oneCell', setR, overR, fillL, zl, places, allSizes, heldC, ne_eq, Int.reduceLE, Int.reduceLT, Int.reduceEq, Int.reduceNe, Int.reduceToNat, Int.cast_ofNat_Int, Nat.reduceMul, Nat.reduceLeDiff, reduceIte, Nat.reduceEqDiff, Nat.reduceAdd, ↓reduceIte, Try.vcT, F, h.cell0, gets, vsD, if_true, if_false, Bool.false_eq_true,  hc1, hbk]
    refine Sep.rdSet 0 h rfl hc0 ?_
    clear h F
    intro w2 h
    (try simp only [nfD] at h); have F := h.facts; (try simp only [nfF, emp_fact, rds_fact, frm_fact, tab_fact, two_fact, inr_fact, ansX_fact] at F); try simp -dsimp only [↓vcA, vcB, vcD, ↓pureT_lenS, ↓iteT, ↓iteF, cond_true, cond_false, eq_self, argE, Env.get, Env.push, ev, evs, evo, retV, Value.cells, Value.oneCell', setR, overR, fillL, zl, places, allSizes, heldC, ne_eq, Int.reduceLE, Int.reduceLT, Int.reduceEq, Int.reduceNe, Int.reduceToNat, Int.cast_ofNat_Int, Nat.reduceMul, Nat.reduceLeDiff, reduceIte, Nat.reduceEqDiff, Nat.reduceAdd, ↓reduceIte, Try.vcT, F, h.cell0, gets, vsD, if_true, if_false, Bool.false_eq_true]
    exact ⟨_, [], close (by rw [hb]; rfl) h, (fun _ f => f), (fun q hq => by cases hq), rfl, rfl⟩
  | false =>
    rw [hb] at hc1 hbk
    (try simp only [nfD] at h); have F := h.facts; (try simp only [nfF, emp_fact, rds_fact, frm_fact, tab_fact, two_fact, inr_fact, ansX_fact] at F); try simp -dsimp only [↓vcA, vcB, vcD, ↓pureT_lenS, ↓iteT, ↓iteF, cond_true, cond_false, eq_self, argE, Env.get, Env.push, ev, evs, evo, retV, Value.cells, Value.oneCell', setR, overR, fillL, zl, places, allSizes, heldC, ne_eq, Int.reduceLE, Int.reduceLT, Int.reduceEq, Int.reduceNe, Int.reduceToNat, Int.cast_ofNat_Int, Nat.reduceMul, Nat.reduceLeDiff, reduceIte, Nat.reduceEqDiff, Nat.reduceAdd, ↓reduceIte, Try.vcT, F, h.cell0, gets, vsD, if_true, if_false, Bool.false_eq_true,  hc1, hbk]
    refine Sep.rdSet 0 h rfl hc0 ?_
    clear h F
    intro w2 h
    (try simp only [nfD] at h); have F := h.facts; (try simp only [nfF, emp_fact, rds_fact, frm_fact, tab_fact, two_fact, inr_fact, ansX_fact] at F); try simp -dsimp only [↓vcA, vcB, vcD, ↓pureT_lenS, ↓iteT, ↓iteF, cond_true, cond_false, eq_self, argE, Env.get, Env.push, ev, evs, evo, retV, Value.cells, Value.oneCell', setR, overR, fillL, zl, places, allSizes, heldC, ne_eq, Int.reduceLE, Int.reduceLT, Int.reduceEq, Int.reduceNe, Int.reduceToNat, Int.cast_ofNat_Int, Nat.reduceMul, Nat.reduceLeDiff, reduceIte, Nat.reduceEqDiff, Nat.reduceAdd, ↓reduceIte, Try.vcT, F, h.cell0, gets, vsD, if_true, if_false, Bool.false_eq_true]
    exact ⟨_, [], close (by rw [hb]; rfl) h, (fun _ f => f), (fun q hq => by cases hq), rfl, rfl⟩
theorem Sep.more (i : Nat) {w0 w : World} {S : Nat → Prop} {M : List Res} {K : Value → World → Prop} {p : Nat} {s : R8} {Z : Nat → Prop} (h : Sep w0 S M w) (hi : M[i]? = some (rdr 85 p s Z))
    (hk : ∀ w1, Sep w0 S (M.set i (rdr 85 p (moreS s) Z)) w1 → K (.bool (decide (s.numV 1 = 1))) w1) :
    callsK Try.prog 133 [.pointer (some ⟨p, 0, Option.none⟩)].toArray w K := by
  refine Sep.call1 i h hi (fun A _ hA => more133 p s Z w hA) ?_
  rintro v r' N w1 ⟨rfl, rfl, rfl⟩ h
  rw [List.append_nil] at h
  exact hk w1 h
end Go.Proofs.Ytnhgjgoglmadnaa
namespace Go.Proofs.Ytnhgjgoglmadnaa
open Go.RowKit
set_option maxRecDepth 100000
set_option linter.unusedSimpArgs false
set_option linter.unusedVariables false
set_option pp.maxSteps 1500
set_option pp.deepTerms.threshold 8

theorem seqPc {d : Nat} (a0 a1 a2 a3 a4 a5 a6 a7 a8 c0 c1 c2 c3 c4 c5 c6 c7 c8 : Int) (w : World) : (Op.equalIn (d + 4) 205 (.agg #[.int .i64 a0, .int .i64 a1, .int .i64 a2, .int .i64 a3, .int .i64 a4, .int .i64 a5, .int .i64 a6, .int .i64 a7, .int .i64 a8]) (.agg #[.int .i64 c0, .int .i64 c1, .int .i64 c2, .int .i64 c3, .int .i64 c4, .int .i64 c5, .int .i64 c6, .int .i64 c7, .int .i64 c8])).run Try.prog w = .ok (decide ([a0, a1, a2, a3, a4, a5, a6, a7, a8] = [c0, c1, c2, c3, c4, c5, c6, c7, c8])) w := by
  have e : decide ([a0, a1, a2, a3, a4, a5, a6, a7, a8] = [c0, c1, c2, c3, c4, c5, c6, c7, c8]) = _ := rfl
  have h := equalIn_sig (P := Try.prog) (d := d + 3) (t := 205) (xs := #[.int .i64 a0, .int .i64 a1, .int .i64 a2, .int .i64 a3, .int .i64 a4, .int .i64 a5, .int .i64 a6, .int .i64 a7, .int .i64 a8]) (ys := #[.int .i64 c0, .int .i64 c1, .int .i64 c2, .int .i64 c3, .int .i64 c4, .int .i64 c5, .int .i64 c6, .int .i64 c7, .int .i64 c8]) (w := w) (by kernel_rfl) (by kernel_rfl) (l := [(true, 39, 0), (true, 3, 6), (true, 3, 7), (true, 3, 8)]) (by kernel_rfl) (eqF_agg (n := 6) (by kernel_rfl) (by kernel_rfl) (seqTri (d := d) a0 a1 a2 a3 a4 a5 c0 c1 c2 c3 c4 c5 w) (eqF_int (show Try.prog.underlying 3 = some (.int .i64) by kernel_rfl) rfl rfl (eqF_int (show Try.prog.underlying 3 = some (.int .i64) by kernel_rfl) rfl rfl (eqF_int (show Try.prog.underlying 3 = some (.int .i64) by kernel_rfl) rfl rfl eqF_nil))))
  rw [h]
  simp [Bool.decide_and, Bool.and_assoc]

theorem seqRect {d : Nat} (a0 a1 a2 a3 c0 c1 c2 c3 : Int) (w : World) : (Op.equalIn (d + 2) 109 (.agg #[.int .i64 a0, .int .i64 a1, .int .i64 a2, .int .i64 a3]) (.agg #[.int .i64 c0, .int .i64 c1, .int .i64 c2, .int .i64 c3])).run Try.prog w = .ok (decide ([a0, a1, a2, a3] = [c0, c1, c2, c3])) w := by
  have e : decide ([a0, a1, a2, a3] = [c0, c1, c2, c3]) = _ := rfl
  have h := equalIn_sig (P := Try.prog) (d := d + 1) (t := 109) (xs := #[.int .i64 a0, .int .i64 a1, .int .i64 a2, .int .i64 a3]) (ys := #[.int .i64 c0, .int .i64 c1, .int .i64 c2, .int .i64 c3]) (w := w) (by kernel_rfl) (by kernel_rfl) (l := [(true, 3, 0), (true, 3, 1), (true, 3, 2), (true, 3, 3)]) (by kernel_rfl) (eqF_int (show Try.prog.underlying 3 = some (.int .i64) by kernel_rfl) rfl rfl (eqF_int (show Try.prog.underlying 3 = some (.int .i64) by kernel_rfl) rfl rfl (eqF_int (show Try.prog.underlying 3 = some (.int .i64) by kernel_rfl) rfl rfl (eqF_int (show Try.prog.underlying 3 = some (.int .i64) by kernel_rfl) rfl rfl eqF_nil))))
  rw [h]
  simp [Bool.decide_and, Bool.and_assoc]

theorem seqRq {d : Nat} (a0 a1 a2 a3 a4 a5 a6 a7 a8 a9 a10 a11 a12 a13 a14 a15 a16 a17 a18 a19 a20 a21 a22 a23 a24 a25 c0 c1 c2 c3 c4 c5 c6 c7 c8 c9 c10 c11 c12 c13 c14 c15 c16 c17 c18 c19 c20 c21 c22 c23 c24 c25 : Int) (w : World) : (Op.equalIn (d + 4) 111 (.agg #[.int .i64 a0, .int .i64 a1, .int .i64 a2, .int .i64 a3, .int .i64 a4, .int .i64 a5, .int .i64 a6, .int .i64 a7, .int .i64 a8, .int .i64 a9, .int .i64 a10, .int .i64 a11, .int .i64 a12, .int .i64 a13, .int .i64 a14, .int .i64 a15, .int .i64 a16, .int .i64 a17, .int .i64 a18, .int .i64 a19, .int .i64 a20, .int .i64 a21, .int .i64 a22, .int .i64 a23, .int .i64 a24, .int .i64 a25]) (.agg #[.int .i64 c0, .int .i64 c1, .int .i64 c2, .int .i64 c3, .int .i64 c4, .int .i64 c5, .int .i64 c6, .int .i64 c7, .int .i64 c8, .int .i64 c9, .int .i64 c10, .int .i64 c11, .int .i64 c12, .int .i64 c13, .int .i64 c14, .int .i64 c15, .int .i64 c16, .int .i64 c17, .int .i64 c18, .int .i64 c19, .int .i64 c20, .int .i64 c21, .int .i64 c22, .int .i64 c23, .int .i64 c24, .int .i64 c25])).run Try.prog w = .ok (decide ([a0, a1, a2, a3, a4, a5, a6, a7, a8, a9, a10, a11, a12, a13, a14, a15, a16, a17, a18, a19, a20, a21, a22, a23, a24, a25] = [c0, c1, c2, c3, c4, c5, c6, c7, c8, c9, c10, c11, c12, c13, c14, c15, c16, c17, c18, c19, c20, c21, c22, c23, c24, c25])) w := by
  have e : decide ([a0, a1, a2, a3, a4, a5, a6, a7, a8, a9, a10, a11, a12, a13, a14, a15, a16, a17, a18, a19, a20, a21, a22, a23, a24, a25] = [c0, c1, c2, c3, c4, c5, c6, c7, c8, c9, c10, c11, c12, c13, c14, c15, c16, c17, c18, c19, c20, c21, c22, c23, c24, c25]) = _ := rfl
  have h := equalIn_sig (P := Try.prog) (d := d + 3) (t := 111) (xs := #[.int .i64 a0, .int .i64 a1, .int .i64 a2, .int .i64 a3, .int .i64 a4, .int .i64 a5, .int .i64 a6, .int .i64 a7, .int .i64 a8, .int .i64 a9, .int .i64 a10, .int .i64 a11, .int .i64 a12, .int .i64 a13, .int .i64 a14, .int .i64 a15, .int .i64 a16, .int .i64 a17, .int .i64 a18, .int .i64 a19, .int .i64 a20, .int .i64 a21, .int .i64 a22, .int .i64 a23, .int .i64 a24, .int .i64 a25]) (ys := #[.int .i64 c0, .int .i64 c1, .int .i64 c2, .int .i64 c3, .int .i64 c4, .int .i64 c5, .int .i64 c6, .int .i64 c7, .int .i64 c8, .int .i64 c9, .int .i64 c10, .int .i64 c11, .int .i64 c12, .int .i64 c13, .int .i64 c14, .int .i64 c15, .int .i64 c16, .int .i64 c17, .int .i64 c18, .int .i64 c19, .int .i64 c20, .int .i64 c21, .int .i64 c22, .int .i64 c23, .int .i64 c24, .int .i64 c25]) (w := w) (by kernel_rfl) (by kernel_rfl) (l := [(true, 3, 0), (true, 37, 1), (true, 37, 3), (true, 39, 5), (true, 3, 11), (true, 3, 12), (true, 3, 13), (true, 3, 14), (true, 109, 15), (true, 3, 19), (true, 3, 20), (true, 3, 21), (true, 3, 22), (true, 3, 23), (true, 3, 24), (true, 3, 25)]) (by kernel_rfl) (eqF_int (show Try.prog.underlying 3 = some (.int .i64) by kernel_rfl) rfl rfl (eqF_agg (n := 2) (by kernel_rfl) (by kernel_rfl) (seqPt (d := d + 1) a1 a2 c1 c2 w) (eqF_agg (n := 2) (by kernel_rfl) (by kernel_rfl) (seqPt (d := d + 1) a3 a4 c3 c4 w) (eqF_agg (n := 6) (by kernel_rfl) (by kernel_rfl) (seqTri (d := d) a5 a6 a7 a8 a9 a10 c5 c6 c7 c8 c9 c10 w) (eqF_int (show Try.prog.underlying 3 = some (.int .i64) by kernel_rfl) rfl rfl (eqF_int (show Try.prog.underlying 3 = some (.int .i64) by kernel_rfl) rfl rfl (eqF_int (show Try.prog.underlying 3 = some (.int .i64) by kernel_rfl) rfl rfl (eqF_int (show Try.prog.underlying 3 = some (.int .i64) by kernel_rfl) rfl rfl (eqF_agg (n := 4) (by kernel_rfl) (by kernel_rfl) (seqRect (d := d + 1) a15 a16 a17 a18 c15 c16 c17 c18 w) (eqF_int (show Try.prog.underlying 3 = some (.int .i64) by kernel_rfl) rfl rfl (eqF_int (show Try.prog.underlying 3 = some (.int .i64) by kernel_rfl) rfl rfl (eqF_int (show Try.prog.underlying 3 = some (.int .i64) by kernel_rfl) rfl rfl (eqF_int (show Try.prog.underlying 3 = some (.int .i64) by kernel_rfl) rfl rfl (eqF_int (show Try.prog.underlying 3 = some (.int .i64) by kernel_rfl) rfl rfl (eqF_int (show Try.prog.underlying 3 = some (.int .i64) by kernel_rfl) rfl rfl (eqF_int (show Try.prog.underlying 3 = some (.int .i64) by kernel_rfl) rfl rfl eqF_nil))))))))))))))))
  rw [h]
  simp [Bool.decide_and, Bool.and_assoc]

def AnV.few (a : AnV) : Bool := decide (a.p.length ≤ 20) && (decide (a.ca.length ≤ 20) && decide (a.la.length ≤ 30))
theorem few64 (a : AnV) (t : AnS) (w : World) (R : AnR w a t) : Calls Try.prog 64 [.agg (a.cells t).toArray].toArray w (RetK fun r w' => r = .bool a.few ∧ Chg (fun _ => False) w w') := by
  obtain ⟨ap, cp, ep⟩ := R.p.shape
  obtain ⟨aca, cca, eca⟩ := R.ca.shape
  obtain ⟨ala, cla, ela⟩ := R.la.shape
  have h := Sep.nil w
  refine walk Try.func64 rfl (by kernel_rfl) (by rw [Try.nt64]; simp) ?_
  (try simp only [nfD] at h); have F := h.facts; (try simp only [nfF, emp_fact, rds_fact, frm_fact, tab_fact, two_fact, inr_fact, ansX_fact] at F)
  simp -dsimp only [↓vcA, vcB, vcD, ↓pureT_lenS, ↓iteT, ↓iteF, cond_true, cond_false, eq_self, argE, Env.get, Env.push, ev, evs, evo, retV, Value.cells, Value.oneCell', setR, overR, fillL, zl, places, allSizes, heldC, ne_eq, Int.reduceLE, Int.reduceLT, Int.reduceEq, Int.reduceNe, Int.reduceToNat, Int.cast_ofNat_Int, Nat.reduceMul, Nat.reduceLeDiff, reduceIte, Nat.reduceEqDiff, Nat.reduceAdd, ↓reduceIte, Try.vcT, AnV.cells, ep, eca, ela]
  refine h.new ?_
  clear h F
  intro w1 b1 h
  by_cases h1 : (a.p.length : Int) ≤ 20
  case neg =>
    (try simp only [nfD] at h); have F := h.facts; (try simp only [nfF, emp_fact, rds_fact, frm_fact, tab_fact, two_fact, inr_fact, ansX_fact] at F); try simp -dsimp only [↓vcA, vcB, vcD, ↓pureT_lenS, ↓iteT, ↓iteF, cond_true, cond_false, eq_self, argE, Env.get, Env.push, ev, evs, evo, retV, Value.cells, Value.oneCell', setR, overR, fillL, zl, places, allSizes, heldC, ne_eq, Int.reduceLE, Int.reduceLT, Int.reduceEq, Int.reduceNe, Int.reduceToNat, Int.cast_ofNat_Int, Nat.reduceMul, Nat.reduceLeDiff, reduceIte, Nat.reduceEqDiff, Nat.reduceAdd, ↓reduceIte, Try.vcT, F, h.cell0, gets, vsD, if_true, if_false, Bool.false_eq_true,  decide_eq_false h1]
    exact ⟨by unfold AnV.few; rw [decide_eq_false (show ¬ a.p.length ≤ 20 by omega)]; rfl, h.done⟩
  by_cases h2 : (a.ca.length : Int) ≤ 20
  case neg =>
    (try simp only [nfD] at h); have F := h.facts; (try simp only [nfF, emp_fact, rds_fact, frm_fact, tab_fact, two_fact, inr_fact, ansX_fact] at F); try simp -dsimp only [↓vcA, vcB, vcD, ↓pureT_lenS, ↓iteT, ↓iteF, cond_true, cond_false, eq_self, argE, Env.get, Env.push, ev, evs, evo, retV, Value.cells, Value.oneCell', setR, overR, fillL, zl, places, allSizes, heldC, ne_eq, Int.reduceLE, Int.reduceLT, Int.reduceEq, Int.reduceNe, Int.reduceToNat, Int.cast_ofNat_Int, Nat.reduceMul, Nat.reduceLeDiff, reduceIte, Nat.reduceEqDiff, Nat.reduceAdd, ↓reduceIte, Try.vcT, F, h.cell0, gets, vsD, if_true, if_false, Bool.false_eq_true,  decide_eq_true h1, decide_eq_false h2]
    exact ⟨by unfold AnV.few; rw [decide_eq_false (show ¬ a.ca.length ≤ 20 by omega)]; simp, h.done⟩
  by_cases h3 : (a.la.length : Int) ≤ 30
  case neg =>
    (try simp only [nfD] at h); have F := h.facts; (try simp only [nfF, emp_fact, rds_fact, frm_fact, tab_fact, two_fact, inr_fact, ansX_fact] at F); try simp -dsimp only [↓vcA, vcB, vcD, ↓pureT_lenS, ↓iteT, ↓iteF, cond_true, cond_false, eq_self, argE, Env.get, Env.push, ev, evs, evo, retV, Value.cells, Value.oneCell', setR, overR, fillL, zl, places, allSizes, heldC, ne_eq, Int.reduceLE, Int.reduceLT, Int.reduceEq, Int.reduceNe, Int.reduceToNat, Int.cast_ofNat_Int, Nat.reduceMul, Nat.reduceLeDiff, reduceIte, Nat.reduceEqDiff, Nat.reduceAdd, ↓reduceIte, Try.vcT, F, h.cell0, gets, vsD, if_true, if_false, Bool.false_eq_true,  decide_eq_true h1, decide_eq_true h2, decide_eq_false h3]
    exact ⟨by unfold AnV.few; rw [decide_eq_false (show ¬ a.la.length ≤ 30 by omega)]; simp, h.done⟩
  (try simp only [nfD] at h); have F := h.facts; (try simp only [nfF, emp_fact, rds_fact, frm_fact, tab_fact, two_fact, inr_fact, ansX_fact] at F); try simp -dsimp only [↓vcA, vcB, vcD, ↓pureT_lenS, ↓iteT, ↓iteF, cond_true, cond_false, eq_self, argE, Env.get, Env.push, ev, evs, evo, retV, Value.cells, Value.oneCell', setR, overR, fillL, zl, places, allSizes, heldC, ne_eq, Int.reduceLE, Int.reduceLT, Int.reduceEq, Int.reduceNe, Int.reduceToNat, Int.cast_ofNat_Int, Nat.reduceMul, Nat.reduceLeDiff, reduceIte, Nat.reduceEqDiff, Nat.reduceAdd, ↓reduceIte, Try.vcT, F, h.cell0, gets, vsD, if_true, if_false, Bool.false_eq_true,  decide_eq_true h1, decide_eq_true h2, decide_eq_true h3]
  exact ⟨by unfold AnV.few; rw [decide_eq_true (show a.p.length ≤ 20 by omega), decide_eq_true (show a.ca.length ≤ 20 by omega), decide_eq_true (show a.la.length ≤ 30 by omega)]; rfl, h.done⟩
set_option maxHeartbeats 4000000 in
theorem same74 (m o : AnV) (s t : AnS) (w : World) (R : AnR w m s) (Q : AnR w o t) :
    Calls Try.prog 74 [.agg (m.cells s).toArray, .agg (o.cells t).toArray].toArray w (RetK fun r w' => r = .bool (decide (m = o)) ∧ Chg (fun _ => False) w w') := by
  obtain ⟨sp, sca, sla⟩ := s
  obtain ⟨tp, tca, tla⟩ := t
  obtain ⟨ap, cp, rfl⟩ := R.p.shape
  obtain ⟨a'p, c'p, rfl⟩ := Q.p.shape
  obtain ⟨aca, cca, rfl⟩ := R.ca.shape
  obtain ⟨a'ca, c'ca, rfl⟩ := Q.ca.shape
  obtain ⟨ala, cla, rfl⟩ := R.la.shape
  obtain ⟨a'la, c'la, rfl⟩ := Q.la.shape
  have lp := R.p.len
  have l'p := Q.p.len
  have lca := R.ca.len
  have l'ca := Q.ca.len
  have lla := (Row.shape R.la)
  obtain ⟨_, _, _, la1, la2, _⟩ := lla
  simp only [maxLen] at lp l'p lca l'ca la2
  have no : ¬ m = o → decide (m = o) = false := fun e => decide_eq_false e
  have h := Sep.nil w
  refine walk Try.func74 rfl (by kernel_rfl) (by rw [Try.nt74]; simp) ?_
  (try simp only [nfD] at h); have F := h.facts; (try simp only [nfF, emp_fact, rds_fact, frm_fact, tab_fact, two_fact, inr_fact, ansX_fact] at F)
  simp -dsimp only [↓vcA, vcB, vcD, ↓pureT_lenS, ↓iteT, ↓iteF, cond_true, cond_false, eq_self, argE, Env.get, Env.push, ev, evs, evo, retV, Value.cells, Value.oneCell', setR, overR, fillL, zl, places, allSizes, heldC, ne_eq, Int.reduceLE, Int.reduceLT, Int.reduceEq, Int.reduceNe, Int.reduceToNat, Int.cast_ofNat_Int, Nat.reduceMul, Nat.reduceLeDiff, reduceIte, Nat.reduceEqDiff, Nat.reduceAdd, ↓reduceIte, Try.vcT, AnV.cells]
  refine h.new ?_
  clear h F
  intro w1 b1 h
  refine h.new ?_
  clear h
  intro w2 b2 h
  by_cases ecode : m.code = o.code
  case neg =>
    (try simp only [nfD] at h); have F := h.facts; (try simp only [nfF, emp_fact, rds_fact, frm_fact, tab_fact, two_fact, inr_fact, ansX_fact] at F); try simp -dsimp only [↓vcA, vcB, vcD, ↓pureT_lenS, ↓iteT, ↓iteF, cond_true, cond_false, eq_self, argE, Env.get, Env.push, ev, evs, evo, retV, Value.cells, Value.oneCell', setR, overR, fillL, zl, places, allSizes, heldC, ne_eq, Int.reduceLE, Int.reduceLT, Int.reduceEq, Int.reduceNe, Int.reduceToNat, Int.cast_ofNat_Int, Nat.reduceMul, Nat.reduceLeDiff, reduceIte, Nat.reduceEqDiff, Nat.reduceAdd, ↓reduceIte, Try.vcT, F, h.cell0, gets, vsD, if_true, if_false, Bool.false_eq_true,  decide_eq_false ecode, Bool.not_false, Bool.not_true]
    exact ⟨by rw [no fun e => ecode (by rw [e])], h.done⟩
  by_cases emore : m.more = o.more
  case neg =>
    have emore' : (m.more == o.more) = false := by simpa using emore
    (try simp only [nfD] at h); have F := h.facts; (try simp only [nfF, emp_fact, rds_fact, frm_fact, tab_fact, two_fact, inr_fact, ansX_fact] at F); try simp -dsimp only [↓vcA, vcB, vcD, ↓pureT_lenS, ↓iteT, ↓iteF, cond_true, cond_false, eq_self, argE, Env.get, Env.push, ev, evs, evo, retV, Value.cells, Value.oneCell', setR, overR, fillL, zl, places, allSizes, heldC, ne_eq, Int.reduceLE, Int.reduceLT, Int.reduceEq, Int.reduceNe, Int.reduceToNat, Int.cast_ofNat_Int, Nat.reduceMul, Nat.reduceLeDiff, reduceIte, Nat.reduceEqDiff, Nat.reduceAdd, ↓reduceIte, Try.vcT, F, h.cell0, gets, vsD, if_true, if_false, Bool.false_eq_true,  decide_eq_true ecode, emore', Bool.not_false, Bool.not_true]
    exact ⟨by rw [no fun e => emore (by rw [e])], h.done⟩
  have emore' : (m.more == o.more) = true := by simpa using emore
  by_cases en : m.n = o.n
  case neg =>
    (try simp only [nfD] at h); have F := h.facts; (try simp only [nfF, emp_fact, rds_fact, frm_fact, tab_fact, two_fact, inr_fact, ansX_fact] at F); try simp -dsimp only [↓vcA, vcB, vcD, ↓pureT_lenS, ↓iteT, ↓iteF, cond_true, cond_false, eq_self, argE, Env.get, Env.push, ev, evs, evo, retV, Value.cells, Value.oneCell', setR, overR, fillL, zl, places, allSizes, heldC, ne_eq, Int.reduceLE, Int.reduceLT, Int.reduceEq, Int.reduceNe, Int.reduceToNat, Int.cast_ofNat_Int, Nat.reduceMul, Nat.reduceLeDiff, reduceIte, Nat.reduceEqDiff, Nat.reduceAdd, ↓reduceIte, Try.vcT, F, h.cell0, gets, vsD, if_true, if_false, Bool.false_eq_true,  decide_eq_true ecode, emore', decide_eq_false en, Bool.not_false, Bool.not_true]
    exact ⟨by rw [no fun e => en (by rw [e])], h.done⟩
  by_cases esum : m.sum = o.sum
  case neg =>
    (try simp only [nfD] at h); have F := h.facts; (try simp only [nfF, emp_fact, rds_fact, frm_fact, tab_fact, two_fact, inr_fact, ansX_fact] at F); try simp -dsimp only [↓vcA, vcB, vcD, ↓pureT_lenS, ↓iteT, ↓iteF, cond_true, cond_false, eq_self, argE, Env.get, Env.push, ev, evs, evo, retV, Value.cells, Value.oneCell', setR, overR, fillL, zl, places, allSizes, heldC, ne_eq, Int.reduceLE, Int.reduceLT, Int.reduceEq, Int.reduceNe, Int.reduceToNat, Int.cast_ofNat_Int, Nat.reduceMul, Nat.reduceLeDiff, reduceIte, Nat.reduceEqDiff, Nat.reduceAdd, ↓reduceIte, Try.vcT, F, h.cell0, gets, vsD, if_true, if_false, Bool.false_eq_true,  decide_eq_true ecode, emore', decide_eq_true en, decide_eq_false esum, Bool.not_false, Bool.not_true]
    exact ⟨by rw [no fun e => esum (by rw [e])], h.done⟩
  by_cases np : (m.p.length : Int) = o.p.length
  case neg =>
    (try simp only [nfD] at h); have F := h.facts; (try simp only [nfF, emp_fact, rds_fact, frm_fact, tab_fact, two_fact, inr_fact, ansX_fact] at F); try simp -dsimp only [↓vcA, vcB, vcD, ↓pureT_lenS, ↓iteT, ↓iteF, cond_true, cond_false, eq_self, argE, Env.get, Env.push, ev, evs, evo, retV, Value.cells, Value.oneCell', setR, overR, fillL, zl, places, allSizes, heldC, ne_eq, Int.reduceLE, Int.reduceLT, Int.reduceEq, Int.reduceNe, Int.reduceToNat, Int.cast_ofNat_Int, Nat.reduceMul, Nat.reduceLeDiff, reduceIte, Nat.reduceEqDiff, Nat.reduceAdd, ↓reduceIte, Try.vcT, F, h.cell0, gets, vsD, if_true, if_false, Bool.false_eq_true,  decide_eq_true ecode, emore', decide_eq_true en, decide_eq_true esum, decide_eq_false np, Bool.not_false, Bool.not_true]
    exact ⟨by rw [no fun e => np (by rw [e])], h.done⟩
  by_cases nca : (m.ca.length : Int) = o.ca.length
  case neg =>
    (try simp only [nfD] at h); have F := h.facts; (try simp only [nfF, emp_fact, rds_fact, frm_fact, tab_fact, two_fact, inr_fact, ansX_fact] at F); try simp -dsimp only [↓vcA, vcB, vcD, ↓pureT_lenS, ↓iteT, ↓iteF, cond_true, cond_false, eq_self, argE, Env.get, Env.push, ev, evs, evo, retV, Value.cells, Value.oneCell', setR, overR, fillL, zl, places, allSizes, heldC, ne_eq, Int.reduceLE, Int.reduceLT, Int.reduceEq, Int.reduceNe, Int.reduceToNat, Int.cast_ofNat_Int, Nat.reduceMul, Nat.reduceLeDiff, reduceIte, Nat.reduceEqDiff, Nat.reduceAdd, ↓reduceIte, Try.vcT, F, h.cell0, gets, vsD, if_true, if_false, Bool.false_eq_true,  decide_eq_true ecode, emore', decide_eq_true en, decide_eq_true esum, decide_eq_true np, decide_eq_false nca, Bool.not_false, Bool.not_true]
    exact ⟨by rw [no fun e => nca (by rw [e])], h.done⟩
  by_cases nla : (m.la.length : Int) = o.la.length
  case neg =>
    (try simp only [nfD] at h); have F := h.facts; (try simp only [nfF, emp_fact, rds_fact, frm_fact, tab_fact, two_fact, inr_fact, ansX_fact] at F); try simp -dsimp only [↓vcA, vcB, vcD, ↓pureT_lenS, ↓iteT, ↓iteF, cond_true, cond_false, eq_self, argE, Env.get, Env.push, ev, evs, evo, retV, Value.cells, Value.oneCell', setR, overR, fillL, zl, places, allSizes, heldC, ne_eq, Int.reduceLE, Int.reduceLT, Int.reduceEq, Int.reduceNe, Int.reduceToNat, Int.cast_ofNat_Int, Nat.reduceMul, Nat.reduceLeDiff, reduceIte, Nat.reduceEqDiff, Nat.reduceAdd, ↓reduceIte, Try.vcT, F, h.cell0, gets, vsD, if_true, if_false, Bool.false_eq_true,  decide_eq_true ecode, emore', decide_eq_true en, decide_eq_true esum, decide_eq_true np, decide_eq_true nca, decide_eq_false nla, Bool.not_false, Bool.not_true]
    exact ⟨by rw [no fun e => nla (by rw [e])], h.done⟩
  (try simp only [nfD] at h); have F := h.facts; (try simp only [nfF, emp_fact, rds_fact, frm_fact, tab_fact, two_fact, inr_fact, ansX_fact] at F); try simp -dsimp only [↓vcA, vcB, vcD, ↓pureT_lenS, ↓iteT, ↓iteF, cond_true, cond_false, eq_self, argE, Env.get, Env.push, ev, evs, evo, retV, Value.cells, Value.oneCell', setR, overR, fillL, zl, places, allSizes, heldC, ne_eq, Int.reduceLE, Int.reduceLT, Int.reduceEq, Int.reduceNe, Int.reduceToNat, Int.cast_ofNat_Int, Nat.reduceMul, Nat.reduceLeDiff, reduceIte, Nat.reduceEqDiff, Nat.reduceAdd, ↓reduceIte, Try.vcT, F, h.cell0, gets, vsD, if_true, if_false, Bool.false_eq_true,  decide_eq_true ecode, emore', decide_eq_true en, decide_eq_true esum, decide_eq_true np, decide_eq_true nca, decide_eq_true nla, Bool.not_false, Bool.not_true]
  change Sep w _ [blk b1 114 [.int .i64 m.code, .slice ap m.p.length cp, .bool m.more, .slice aca m.ca.length cca, .slice ala m.la.length cla, .int .i64 m.n, .int .u64 m.sum], blk b2 114 [.int .i64 o.code, .slice a'p o.p.length c'p, .bool o.more, .slice a'ca o.ca.length c'ca, .slice a'la o.la.length c'la, .int .i64 o.n, .int .u64 o.sum]] _ at h
  refine walkLoop [2, 3] [5] (fun k vs w' => ∃ i, i ≤ m.p.length ∧ k = m.p.length - i ∧ vs = [.int .i64 i] ∧ m.p.take i = o.p.take i ∧ Sep w (fun _ => False) [blk b1 114 [.int .i64 m.code, .slice ap m.p.length cp, .bool m.more, .slice aca m.ca.length cca, .slice ala m.la.length cla, .int .i64 m.n, .int .u64 m.sum], blk b2 114 [.int .i64 o.code, .slice a'p o.p.length c'p, .bool o.more, .slice a'ca o.ca.length c'ca, .slice a'la o.la.length c'la, .int .i64 o.n, .int .u64 o.sum]] w') (by kernel_rfl) ?_ ?_
  · simp -dsimp only [↓vcA, vcB, vcD, ↓pureT_lenS, ↓iteT, ↓iteF, cond_true, cond_false, eq_self, argE, Env.get, Env.push, ev, evs, evo, retV, Value.cells, Value.oneCell', setR, overR, fillL, zl, places, allSizes, heldC, ne_eq, Int.reduceLE, Int.reduceLT, Int.reduceEq, Int.reduceNe, Int.reduceToNat, Int.cast_ofNat_Int, Nat.reduceMul, Nat.reduceLeDiff, reduceIte, Nat.reduceEqDiff, Nat.reduceAdd, ↓reduceIte, Try.vcT, gets]
    exact ⟨_, 0, Nat.zero_le _, rfl, rfl, by simp, h⟩
  intro ks hk k vs w3 hi
  clear h
  try clear F
  obtain ⟨i, hi, rfl, rfl, htk, h⟩ := hi
  simp -dsimp only [gets, argE, List.zip_cons_cons, List.zip_nil_left, List.cons_append, List.nil_append, Env.get, Env.push, Option.bind_some, Option.map_some, Option.some.injEq, reduceIte, Nat.reduceEqDiff, Nat.reduceAdd, ↓reduceIte] at hk; subst hk
  by_cases hlt : (i : Int) < m.p.length
  case pos =>
    have Rx := R.p
    have Qx := Q.p
    dsimp only at Rx Qx
    have hil : i < m.p.length := by omega
    have hil' : i < o.p.length := by omega
    obtain ⟨b, oo, eb, hcx⟩ := Rx.at hil (by decide)
    obtain ⟨b', oo', eb', hcy⟩ := Qx.at hil' (by decide)
    have wx := Rx.wid _ (List.getElem_mem hil)
    have wy := Qx.wid _ (List.getElem_mem hil')
    have htk2 : m.p[i] = o.p[i] → m.p.take (i + 1) = o.p.take (i + 1) := fun e => take_succ_eq htk hil hil' e
    have hne : m.p[i] ≠ o.p[i] → decide (m = o) = false := fun e => no fun f => e (by subst f; rfl)
    generalize m.p[i] = x at *
    generalize o.p[i] = y at *
    obtain ⟨a0, a1, a2, a3, a4, a5, a6, a7, a8, rfl⟩ := len_9 wx
    obtain ⟨c0, c1, c2, c3, c4, c5, c6, c7, c8, rfl⟩ := len_9 wy
    have k0 : w.cell? ⟨b, oo + i * 9, none⟩ = some (.int .i64 a0) := Tab.cell hcx 0 (by simp)
    have k0 := (h.cell0 (by rw [k0]; rfl) id).trans k0
    have m0 : w.cell? ⟨b', oo' + i * 9, none⟩ = some (.int .i64 c0) := Tab.cell hcy 0 (by simp)
    have m0 := (h.cell0 (by rw [m0]; rfl) id).trans m0
    have k1 : w.cell? ⟨b, oo + i * 9 + 1, none⟩ = some (.int .i64 a1) := Tab.cell hcx 1 (by simp)
    have k1 := (h.cell0 (by rw [k1]; rfl) id).trans k1
    have m1 : w.cell? ⟨b', oo' + i * 9 + 1, none⟩ = some (.int .i64 c1) := Tab.cell hcy 1 (by simp)
    have m1 := (h.cell0 (by rw [m1]; rfl) id).trans m1
    have k2 : w.cell? ⟨b, oo + i * 9 + 2, none⟩ = some (.int .i64 a2) := Tab.cell hcx 2 (by simp)
    have k2 := (h.cell0 (by rw [k2]; rfl) id).trans k2
    have m2 : w.cell? ⟨b', oo' + i * 9 + 2, none⟩ = some (.int .i64 c2) := Tab.cell hcy 2 (by simp)
    have m2 := (h.cell0 (by rw [m2]; rfl) id).trans m2
    have k3 : w.cell? ⟨b, oo + i * 9 + 3, none⟩ = some (.int .i64 a3) := Tab.cell hcx 3 (by simp)
    have k3 := (h.cell0 (by rw [k3]; rfl) id).trans k3
    have m3 : w.cell? ⟨b', oo' + i * 9 + 3, none⟩ = some (.int .i64 c3) := Tab.cell hcy 3 (by simp)
    have m3 := (h.cell0 (by rw [m3]; rfl) id).trans m3
    have k4 : w.cell? ⟨b, oo + i * 9 + 4, none⟩ = some (.int .i64 a4) := Tab.cell hcx 4 (by simp)
    have k4 := (h.cell0 (by rw [k4]; rfl) id).trans k4
    have m4 : w.cell? ⟨b', oo' + i * 9 + 4, none⟩ = some (.int .i64 c4) := Tab.cell hcy 4 (by simp)
    have m4 := (h.cell0 (by rw [m4]; rfl) id).trans m4
    have k5 : w.cell? ⟨b, oo + i * 9 + 5, none⟩ = some (.int .i64 a5) := Tab.cell hcx 5 (by simp)
    have k5 := (h.cell0 (by rw [k5]; rfl) id).trans k5
    have m5 : w.cell? ⟨b', oo' + i * 9 + 5, none⟩ = some (.int .i64 c5) := Tab.cell hcy 5 (by simp)
    have m5 := (h.cell0 (by rw [m5]; rfl) id).trans m5
    have k6 : w.cell? ⟨b, oo + i * 9 + 6, none⟩ = some (.int .i64 a6) := Tab.cell hcx 6 (by simp)
    have k6 := (h.cell0 (by rw [k6]; rfl) id).trans k6
    have m6 : w.cell? ⟨b', oo' + i * 9 + 6, none⟩ = some (.int .i64 c6) := Tab.cell hcy 6 (by simp)
    have m6 := (h.cell0 (by rw [m6]; rfl) id).trans m6
    have k7 : w.cell? ⟨b, oo + i * 9 + 7, none⟩ = some (.int .i64 a7) := Tab.cell hcx 7 (by simp)
    have k7 := (h.cell0 (by rw [k7]; rfl) id).trans k7
    have m7 : w.cell? ⟨b', oo' + i * 9 + 7, none⟩ = some (.int .i64 c7) := Tab.cell hcy 7 (by simp)
    have m7 := (h.cell0 (by rw [m7]; rfl) id).trans m7
    have k8 : w.cell? ⟨b, oo + i * 9 + 8, none⟩ = some (.int .i64 a8) := Tab.cell hcx 8 (by simp)
    have k8 := (h.cell0 (by rw [k8]; rfl) id).trans k8
    have m8 : w.cell? ⟨b', oo' + i * 9 + 8, none⟩ = some (.int .i64 c8) := Tab.cell hcy 8 (by simp)
    have m8 := (h.cell0 (by rw [m8]; rfl) id).trans m8
    have ei : IntKind.i64.wrap ((i : Int) + 1) = ((i + 1 : Nat) : Int) := by rw [i64w _ (by omega) (by omega)]; omega
    have h0i : (0 : Int) ≤ i := by omega
    have hlt' : (i : Int) < o.p.length := by omega
    (try simp only [nfD] at h); have F := h.facts; (try simp only [nfF, emp_fact, rds_fact, frm_fact, tab_fact, two_fact, inr_fact, ansX_fact] at F); try simp -dsimp only [↓vcA, vcB, vcD, ↓pureT_lenS, ↓iteT, ↓iteF, cond_true, cond_false, eq_self, argE, Env.get, Env.push, ev, evs, evo, retV, Value.cells, Value.oneCell', setR, overR, fillL, zl, places, allSizes, heldC, ne_eq, Int.reduceLE, Int.reduceLT, Int.reduceEq, Int.reduceNe, Int.reduceToNat, Int.cast_ofNat_Int, Nat.reduceMul, Nat.reduceLeDiff, reduceIte, Nat.reduceEqDiff, Nat.reduceAdd, ↓reduceIte, Try.vcT, F, h.cell0, gets, vsD, if_true, if_false, Bool.false_eq_true,  decide_eq_true hlt]
    rw [eb, eb'] at h
    (try simp only [nfD] at h); have F := h.facts; (try simp only [nfF, emp_fact, rds_fact, frm_fact, tab_fact, two_fact, inr_fact, ansX_fact] at F)
    refine walkDraw (.q 0 (.q 2 (.q 5 (.q 7 (.h 1 0 (.q 3 (.h 4 1 (.h 6 10 (.q 8 (.h 9 11 (.q 10 .fin))))))))))) [(b1, 1, .slice (some ⟨b, oo, none⟩) m.p.length cp), (b, oo + i * 9, .int .i64 a0), (b, oo + i * 9 + 1, .int .i64 a1), (b, oo + i * 9 + 2, .int .i64 a2), (b, oo + i * 9 + 3, .int .i64 a3), (b, oo + i * 9 + 4, .int .i64 a4), (b, oo + i * 9 + 5, .int .i64 a5), (b, oo + i * 9 + 6, .int .i64 a6), (b, oo + i * 9 + 7, .int .i64 a7), (b, oo + i * 9 + 8, .int .i64 a8), (b2, 1, .slice (some ⟨b', oo', none⟩) o.p.length c'p), (b', oo' + i * 9, .int .i64 c0), (b', oo' + i * 9 + 1, .int .i64 c1), (b', oo' + i * 9 + 2, .int .i64 c2), (b', oo' + i * 9 + 3, .int .i64 c3), (b', oo' + i * 9 + 4, .int .i64 c4), (b', oo' + i * 9 + 5, .int .i64 c5), (b', oo' + i * 9 + 6, .int .i64 c6), (b', oo' + i * 9 + 7, .int .i64 c7), (b', oo' + i * 9 + 8, .int .i64 c8)] (by kernel_rfl) (by simp [Holds_nil, Holds_cons, F, k0, m0, k1, m1, k2, m2, k3, m3, k4, m4, k5, m5, k6, m6, k7, m7, k8, m8]) ?_
    refine h.draw ?_
    clear h F
    intro w6 h
    (try simp only [nfD] at h); have F := h.facts; (try simp only [nfF, emp_fact, rds_fact, frm_fact, tab_fact, two_fact, inr_fact, ansX_fact] at F); try simp -dsimp only [↓vcA, vcB, vcD, ↓pureT_lenS, ↓iteT, ↓iteF, cond_true, cond_false, eq_self, argE, Env.get, Env.push, ev, evs, evo, retV, Value.cells, Value.oneCell', setR, overR, fillL, zl, places, allSizes, heldC, ne_eq, Int.reduceLE, Int.reduceLT, Int.reduceEq, Int.reduceNe, Int.reduceToNat, Int.cast_ofNat_Int, Nat.reduceMul, Nat.reduceLeDiff, reduceIte, Nat.reduceEqDiff, Nat.reduceAdd, ↓reduceIte, Try.vcT, F, h.cell0, gets, vsD, if_true, if_false, Bool.false_eq_true]
    refine ⟨⟨h0i, hlt⟩, ⟨h0i, hlt'⟩, binK_neq_agg (by kernel_rfl) (fun w => seqPc (d := 9996) a0 a1 a2 a3 a4 a5 a6 a7 a8 c0 c1 c2 c3 c4 c5 c6 c7 c8 w) ?_⟩
    by_cases he : [a0, a1, a2, a3, a4, a5, a6, a7, a8] = [c0, c1, c2, c3, c4, c5, c6, c7, c8]
    case pos =>
      (try simp only [nfD] at h); have F := h.facts; (try simp only [nfF, emp_fact, rds_fact, frm_fact, tab_fact, two_fact, inr_fact, ansX_fact] at F); try simp -dsimp only [↓vcA, vcB, vcD, ↓pureT_lenS, ↓iteT, ↓iteF, cond_true, cond_false, eq_self, argE, Env.get, Env.push, ev, evs, evo, retV, Value.cells, Value.oneCell', setR, overR, fillL, zl, places, allSizes, heldC, ne_eq, Int.reduceLE, Int.reduceLT, Int.reduceEq, Int.reduceNe, Int.reduceToNat, Int.cast_ofNat_Int, Nat.reduceMul, Nat.reduceLeDiff, reduceIte, Nat.reduceEqDiff, Nat.reduceAdd, ↓reduceIte, Try.vcT, F, h.cell0, gets, vsD, if_true, if_false, Bool.false_eq_true,  decide_eq_true he, ei]
      refine ⟨_, ?_, i + 1, by omega, rfl, rfl, htk2 he, ?_⟩
      · omega
      · rw [eb, eb']; exact h
    case neg =>
      (try simp only [nfD] at h); have F := h.facts; (try simp only [nfF, emp_fact, rds_fact, frm_fact, tab_fact, two_fact, inr_fact, ansX_fact] at F); try simp -dsimp only [↓vcA, vcB, vcD, ↓pureT_lenS, ↓iteT, ↓iteF, cond_true, cond_false, eq_self, argE, Env.get, Env.push, ev, evs, evo, retV, Value.cells, Value.oneCell', setR, overR, fillL, zl, places, allSizes, heldC, ne_eq, Int.reduceLE, Int.reduceLT, Int.reduceEq, Int.reduceNe, Int.reduceToNat, Int.cast_ofNat_Int, Nat.reduceMul, Nat.reduceLeDiff, reduceIte, Nat.reduceEqDiff, Nat.reduceAdd, ↓reduceIte, Try.vcT, F, h.cell0, gets, vsD, if_true, if_false, Bool.false_eq_true,  decide_eq_false he]
      exact ⟨by rw [hne he], h.done⟩
  have ep : m.p = o.p := by
    have h1 : m.p.take i = m.p := List.take_of_length_le (by omega)
    have h2 : o.p.take i = o.p := List.take_of_length_le (by omega)
    rw [h1, h2] at htk; exact htk
  (try simp only [nfD] at h); have F := h.facts; (try simp only [nfF, emp_fact, rds_fact, frm_fact, tab_fact, two_fact, inr_fact, ansX_fact] at F); try simp -dsimp only [↓vcA, vcB, vcD, ↓pureT_lenS, ↓iteT, ↓iteF, cond_true, cond_false, eq_self, argE, Env.get, Env.push, ev, evs, evo, retV, Value.cells, Value.oneCell', setR, overR, fillL, zl, places, allSizes, heldC, ne_eq, Int.reduceLE, Int.reduceLT, Int.reduceEq, Int.reduceNe, Int.reduceToNat, Int.cast_ofNat_Int, Nat.reduceMul, Nat.reduceLeDiff, reduceIte, Nat.reduceEqDiff, Nat.reduceAdd, ↓reduceIte, Try.vcT, F, h.cell0, gets, vsD, if_true, if_false, Bool.false_eq_true,  decide_eq_false hlt]
  clear htk hi hlt
  refine walkLoop [2, 3] [6] (fun k vs w' => ∃ i, i ≤ m.ca.length ∧ k = m.ca.length - i ∧ vs = [.int .i64 i] ∧ m.ca.take i = o.ca.take i ∧ Sep w (fun _ => False) [blk b1 114 [.int .i64 m.code, .slice ap m.p.length cp, .bool m.more, .slice aca m.ca.length cca, .slice ala m.la.length cla, .int .i64 m.n, .int .u64 m.sum], blk b2 114 [.int .i64 o.code, .slice a'p o.p.length c'p, .bool o.more, .slice a'ca o.ca.length c'ca, .slice a'la o.la.length c'la, .int .i64 o.n, .int .u64 o.sum]] w') (by kernel_rfl) ?_ ?_
  · simp -dsimp only [↓vcA, vcB, vcD, ↓pureT_lenS, ↓iteT, ↓iteF, cond_true, cond_false, eq_self, argE, Env.get, Env.push, ev, evs, evo, retV, Value.cells, Value.oneCell', setR, overR, fillL, zl, places, allSizes, heldC, ne_eq, Int.reduceLE, Int.reduceLT, Int.reduceEq, Int.reduceNe, Int.reduceToNat, Int.cast_ofNat_Int, Nat.reduceMul, Nat.reduceLeDiff, reduceIte, Nat.reduceEqDiff, Nat.reduceAdd, ↓reduceIte, Try.vcT, gets]
    exact ⟨_, 0, Nat.zero_le _, rfl, rfl, by simp, h⟩
  intro ks hk k vs w3 hi
  clear h
  try clear F
  obtain ⟨i, hi, rfl, rfl, htk, h⟩ := hi
  simp -dsimp only [gets, argE, List.zip_cons_cons, List.zip_nil_left, List.cons_append, List.nil_append, Env.get, Env.push, Option.bind_some, Option.map_some, Option.some.injEq, reduceIte, Nat.reduceEqDiff, Nat.reduceAdd, ↓reduceIte] at hk; subst hk
  by_cases hlt : (i : Int) < m.ca.length
  case pos =>
    have Rx := R.ca
    have Qx := Q.ca
    dsimp only at Rx Qx
    have hil : i < m.ca.length := by omega
    have hil' : i < o.ca.length := by omega
    obtain ⟨b, oo, eb, hcx⟩ := Rx.at hil (by decide)
    obtain ⟨b', oo', eb', hcy⟩ := Qx.at hil' (by decide)
    have wx := Rx.wid _ (List.getElem_mem hil)
    have wy := Qx.wid _ (List.getElem_mem hil')
    have htk2 : m.ca[i] = o.ca[i] → m.ca.take (i + 1) = o.ca.take (i + 1) := fun e => take_succ_eq htk hil hil' e
    have hne : m.ca[i] ≠ o.ca[i] → decide (m = o) = false := fun e => no fun f => e (by subst f; rfl)
    generalize m.ca[i] = x at *
    generalize o.ca[i] = y at *
    obtain ⟨a0, a1, a2, a3, a4, a5, a6, a7, a8, rfl⟩ := len_9 wx
    obtain ⟨c0, c1, c2, c3, c4, c5, c6, c7, c8, rfl⟩ := len_9 wy
    have k0 : w.cell? ⟨b, oo + i * 9, none⟩ = some (.int .i64 a0) := Tab.cell hcx 0 (by simp)
    have k0 := (h.cell0 (by rw [k0]; rfl) id).trans k0
    have m0 : w.cell? ⟨b', oo' + i * 9, none⟩ = some (.int .i64 c0) := Tab.cell hcy 0 (by simp)
    have m0 := (h.cell0 (by rw [m0]; rfl) id).trans m0
    have k1 : w.cell? ⟨b, oo + i * 9 + 1, none⟩ = some (.int .i64 a1) := Tab.cell hcx 1 (by simp)
    have k1 := (h.cell0 (by rw [k1]; rfl) id).trans k1
    have m1 : w.cell? ⟨b', oo' + i * 9 + 1, none⟩ = some (.int .i64 c1) := Tab.cell hcy 1 (by simp)
    have m1 := (h.cell0 (by rw [m1]; rfl) id).trans m1
    have k2 : w.cell? ⟨b, oo + i * 9 + 2, none⟩ = some (.int .i64 a2) := Tab.cell hcx 2 (by simp)
    have k2 := (h.cell0 (by rw [k2]; rfl) id).trans k2
    have m2 : w.cell? ⟨b', oo' + i * 9 + 2, none⟩ = some (.int .i64 c2) := Tab.cell hcy 2 (by simp)
    have m2 := (h.cell0 (by rw [m2]; rfl) id).trans m2
    have k3 : w.cell? ⟨b, oo + i * 9 + 3, none⟩ = some (.int .i64 a3) := Tab.cell hcx 3 (by simp)
    have k3 := (h.cell0 (by rw [k3]; rfl) id).trans k3
    have m3 : w.cell? ⟨b', oo' + i * 9 + 3, none⟩ = some (.int .i64 c3) := Tab.cell hcy 3 (by simp)
    have m3 := (h.cell0 (by rw [m3]; rfl) id).trans m3
    have k4 : w.cell? ⟨b, oo + i * 9 + 4, none⟩ = some (.int .i64 a4) := Tab.cell hcx 4 (by simp)
    have k4 := (h.cell0 (by rw [k4]; rfl) id).trans k4
    have m4 : w.cell? ⟨b', oo' + i * 9 + 4, none⟩ = some (.int .i64 c4) := Tab.cell hcy 4 (by simp)
    have m4 := (h.cell0 (by rw [m4]; rfl) id).trans m4
    have k5 : w.cell? ⟨b, oo + i * 9 + 5, none⟩ = some (.int .i64 a5) := Tab.cell hcx 5 (by simp)
    have k5 := (h.cell0 (by rw [k5]; rfl) id).trans k5
    have m5 : w.cell? ⟨b', oo' + i * 9 + 5, none⟩ = some (.int .i64 c5) := Tab.cell hcy 5 (by simp)
    have m5 := (h.cell0 (by rw [m5]; rfl) id).trans m5
    have k6 : w.cell? ⟨b, oo + i * 9 + 6, none⟩ = some (.int .i64 a6) := Tab.cell hcx 6 (by simp)
    have k6 := (h.cell0 (by rw [k6]; rfl) id).trans k6
    have m6 : w.cell? ⟨b', oo' + i * 9 + 6, none⟩ = some (.int .i64 c6) := Tab.cell hcy 6 (by simp)
    have m6 := (h.cell0 (by rw [m6]; rfl) id).trans m6
    have k7 : w.cell? ⟨b, oo + i * 9 + 7, none⟩ = some (.int .i64 a7) := Tab.cell hcx 7 (by simp)
    have k7 := (h.cell0 (by rw [k7]; rfl) id).trans k7
    have m7 : w.cell? ⟨b', oo' + i * 9 + 7, none⟩ = some (.int .i64 c7) := Tab.cell hcy 7 (by simp)
    have m7 := (h.cell0 (by rw [m7]; rfl) id).trans m7
    have k8 : w.cell? ⟨b, oo + i * 9 + 8, none⟩ = some (.int .i64 a8) := Tab.cell hcx 8 (by simp)
    have k8 := (h.cell0 (by rw [k8]; rfl) id).trans k8
    have m8 : w.cell? ⟨b', oo' + i * 9 + 8, none⟩ = some (.int .i64 c8) := Tab.cell hcy 8 (by simp)
    have m8 := (h.cell0 (by rw [m8]; rfl) id).trans m8
    have ei : IntKind.i64.wrap ((i : Int) + 1) = ((i + 1 : Nat) : Int) := by rw [i64w _ (by omega) (by omega)]; omega
    have h0i : (0 : Int) ≤ i := by omega
    have hlt' : (i : Int) < o.ca.length := by omega
    (try simp only [nfD] at h); have F := h.facts; (try simp only [nfF, emp_fact, rds_fact, frm_fact, tab_fact, two_fact, inr_fact, ansX_fact] at F); try simp -dsimp only [↓vcA, vcB, vcD, ↓pureT_lenS, ↓iteT, ↓iteF, cond_true, cond_false, eq_self, argE, Env.get, Env.push, ev, evs, evo, retV, Value.cells, Value.oneCell', setR, overR, fillL, zl, places, allSizes, heldC, ne_eq, Int.reduceLE, Int.reduceLT, Int.reduceEq, Int.reduceNe, Int.reduceToNat, Int.cast_ofNat_Int, Nat.reduceMul, Nat.reduceLeDiff, reduceIte, Nat.reduceEqDiff, Nat.reduceAdd, ↓reduceIte, Try.vcT, F, h.cell0, gets, vsD, if_true, if_false, Bool.false_eq_true,  decide_eq_true hlt]
    rw [eb, eb'] at h
    (try simp only [nfD] at h); have F := h.facts; (try simp only [nfF, emp_fact, rds_fact, frm_fact, tab_fact, two_fact, inr_fact, ansX_fact] at F)
    refine walkDraw (.q 0 (.q 2 (.q 5 (.q 7 (.h 1 0 (.q 3 (.h 4 1 (.h 6 10 (.q 8 (.h 9 11 (.q 10 .fin))))))))))) [(b1, 3, .slice (some ⟨b, oo, none⟩) m.ca.length cca), (b, oo + i * 9, .int .i64 a0), (b, oo + i * 9 + 1, .int .i64 a1), (b, oo + i * 9 + 2, .int .i64 a2), (b, oo + i * 9 + 3, .int .i64 a3), (b, oo + i * 9 + 4, .int .i64 a4), (b, oo + i * 9 + 5, .int .i64 a5), (b, oo + i * 9 + 6, .int .i64 a6), (b, oo + i * 9 + 7, .int .i64 a7), (b, oo + i * 9 + 8, .int .i64 a8), (b2, 3, .slice (some ⟨b', oo', none⟩) o.ca.length c'ca), (b', oo' + i * 9, .int .i64 c0), (b', oo' + i * 9 + 1, .int .i64 c1), (b', oo' + i * 9 + 2, .int .i64 c2), (b', oo' + i * 9 + 3, .int .i64 c3), (b', oo' + i * 9 + 4, .int .i64 c4), (b', oo' + i * 9 + 5, .int .i64 c5), (b', oo' + i * 9 + 6, .int .i64 c6), (b', oo' + i * 9 + 7, .int .i64 c7), (b', oo' + i * 9 + 8, .int .i64 c8)] (by kernel_rfl) (by simp [Holds_nil, Holds_cons, F, k0, m0, k1, m1, k2, m2, k3, m3, k4, m4, k5, m5, k6, m6, k7, m7, k8, m8]) ?_
    refine h.draw ?_
    clear h F
    intro w6 h
    (try simp only [nfD] at h); have F := h.facts; (try simp only [nfF, emp_fact, rds_fact, frm_fact, tab_fact, two_fact, inr_fact, ansX_fact] at F); try simp -dsimp only [↓vcA, vcB, vcD, ↓pureT_lenS, ↓iteT, ↓iteF, cond_true, cond_false, eq_self, argE, Env.get, Env.push, ev, evs, evo, retV, Value.cells, Value.oneCell', setR, overR, fillL, zl, places, allSizes, heldC, ne_eq, Int.reduceLE, Int.reduceLT, Int.reduceEq, Int.reduceNe, Int.reduceToNat, Int.cast_ofNat_Int, Nat.reduceMul, Nat.reduceLeDiff, reduceIte, Nat.reduceEqDiff, Nat.reduceAdd, ↓reduceIte, Try.vcT, F, h.cell0, gets, vsD, if_true, if_false, Bool.false_eq_true]
    refine ⟨⟨h0i, hlt⟩, ⟨h0i, hlt'⟩, binK_neq_agg (by kernel_rfl) (fun w => seqCa (d := 9998) a0 a1 a2 a3 a4 a5 a6 a7 a8 c0 c1 c2 c3 c4 c5 c6 c7 c8 w) ?_⟩
    by_cases he : [a0, a1, a2, a3, a4, a5, a6, a7, a8] = [c0, c1, c2, c3, c4, c5, c6, c7, c8]
    case pos =>
      (try simp only [nfD] at h); have F := h.facts; (try simp only [nfF, emp_fact, rds_fact, frm_fact, tab_fact, two_fact, inr_fact, ansX_fact] at F); try simp -dsimp only [↓vcA, vcB, vcD, ↓pureT_lenS, ↓iteT, ↓iteF, cond_true, cond_false, eq_self, argE, Env.get, Env.push, ev, evs, evo, retV, Value.cells, Value.oneCell', setR, overR, fillL, zl, places, allSizes, heldC, ne_eq, Int.reduceLE, Int.reduceLT, Int.reduceEq, Int.reduceNe, Int.reduceToNat, Int.cast_ofNat_Int, Nat.reduceMul, Nat.reduceLeDiff, reduceIte, Nat.reduceEqDiff, Nat.reduceAdd, ↓reduceIte, Try.vcT, F, h.cell0, gets, vsD, if_true, if_false, Bool.false_eq_true,  decide_eq_true he, ei]
      refine ⟨_, ?_, i + 1, by omega, rfl, rfl, htk2 he, ?_⟩
      · omega
      · rw [eb, eb']; exact h
    case neg =>
      (try simp only [nfD] at h); have F := h.facts; (try simp only [nfF, emp_fact, rds_fact, frm_fact, tab_fact, two_fact, inr_fact, ansX_fact] at F); try simp -dsimp only [↓vcA, vcB, vcD, ↓pureT_lenS, ↓iteT, ↓iteF, cond_true, cond_false, eq_self, argE, Env.get, Env.push, ev, evs, evo, retV, Value.cells, Value.oneCell', setR, overR, fillL, zl, places, allSizes, heldC, ne_eq, Int.reduceLE, Int.reduceLT, Int.reduceEq, Int.reduceNe, Int.reduceToNat, Int.cast_ofNat_Int, Nat.reduceMul, Nat.reduceLeDiff, reduceIte, Nat.reduceEqDiff, Nat.reduceAdd, ↓reduceIte, Try.vcT, F, h.cell0, gets, vsD, if_true, if_false, Bool.false_eq_true,  decide_eq_false he]
      exact ⟨by rw [hne he], h.done⟩
  have eca : m.ca = o.ca := by
    have h1 : m.ca.take i = m.ca := List.take_of_length_le (by omega)
    have h2 : o.ca.take i = o.ca := List.take_of_length_le (by omega)
    rw [h1, h2] at htk; exact htk
  (try simp only [nfD] at h); have F := h.facts; (try simp only [nfF, emp_fact, rds_fact, frm_fact, tab_fact, two_fact, inr_fact, ansX_fact] at F); try simp -dsimp only [↓vcA, vcB, vcD, ↓pureT_lenS, ↓iteT, ↓iteF, cond_true, cond_false, eq_self, argE, Env.get, Env.push, ev, evs, evo, retV, Value.cells, Value.oneCell', setR, overR, fillL, zl, places, allSizes, heldC, ne_eq, Int.reduceLE, Int.reduceLT, Int.reduceEq, Int.reduceNe, Int.reduceToNat, Int.cast_ofNat_Int, Nat.reduceMul, Nat.reduceLeDiff, reduceIte, Nat.reduceEqDiff, Nat.reduceAdd, ↓reduceIte, Try.vcT, F, h.cell0, gets, vsD, if_true, if_false, Bool.false_eq_true,  decide_eq_false hlt]
  clear htk hi hlt
  refine walkLoop [2, 3] [7] (fun k vs w' => ∃ i, i ≤ m.la.length ∧ k = m.la.length - i ∧ vs = [.int .i64 i] ∧ m.la.take i = o.la.take i ∧ Sep w (fun _ => False) [blk b1 114 [.int .i64 m.code, .slice ap m.p.length cp, .bool m.more, .slice aca m.ca.length cca, .slice ala m.la.length cla, .int .i64 m.n, .int .u64 m.sum], blk b2 114 [.int .i64 o.code, .slice a'p o.p.length c'p, .bool o.more, .slice a'ca o.ca.length c'ca, .slice a'la o.la.length c'la, .int .i64 o.n, .int .u64 o.sum]] w') (by kernel_rfl) ?_ ?_
  · simp -dsimp only [↓vcA, vcB, vcD, ↓pureT_lenS, ↓iteT, ↓iteF, cond_true, cond_false, eq_self, argE, Env.get, Env.push, ev, evs, evo, retV, Value.cells, Value.oneCell', setR, overR, fillL, zl, places, allSizes, heldC, ne_eq, Int.reduceLE, Int.reduceLT, Int.reduceEq, Int.reduceNe, Int.reduceToNat, Int.cast_ofNat_Int, Nat.reduceMul, Nat.reduceLeDiff, reduceIte, Nat.reduceEqDiff, Nat.reduceAdd, ↓reduceIte, Try.vcT, gets]
    exact ⟨_, 0, Nat.zero_le _, rfl, rfl, by simp, h⟩
  intro ks hk k vs w3 hi
  clear h
  try clear F
  obtain ⟨i, hi, rfl, rfl, htk, h⟩ := hi
  simp -dsimp only [gets, argE, List.zip_cons_cons, List.zip_nil_left, List.cons_append, List.nil_append, Env.get, Env.push, Option.bind_some, Option.map_some, Option.some.injEq, reduceIte, Nat.reduceEqDiff, Nat.reduceAdd, ↓reduceIte] at hk; subst hk
  by_cases hlt : (i : Int) < m.la.length
  case pos =>
    have Rx : IntsR w (.slice ala m.la.length cla) m.la := R.la
    have Qx : IntsR w (.slice a'la o.la.length c'la) o.la := Q.la
    have hil : i < m.la.length := by omega
    have hil' : i < o.la.length := by omega
    obtain ⟨b, oo, eb, hcx⟩ := Rx.at hil
    obtain ⟨b', oo', eb', hcy⟩ := Qx.at hil'
    have htk2 : m.la[i] = o.la[i] → m.la.take (i + 1) = o.la.take (i + 1) := fun e => take_succ_eq htk hil hil' e
    have hne : m.la[i] ≠ o.la[i] → decide (m = o) = false := fun e => no fun f => e (by subst f; rfl)
    generalize m.la[i] = x at *
    generalize o.la[i] = y at *
    have k0 := (h.cell0 (by rw [hcx]; rfl) id).trans hcx
    have m0 := (h.cell0 (by rw [hcy]; rfl) id).trans hcy
    have ei : IntKind.i64.wrap ((i : Int) + 1) = ((i + 1 : Nat) : Int) := by rw [i64w _ (by omega) (by omega)]; omega
    have h0i : (0 : Int) ≤ i := by omega
    have hlt' : (i : Int) < o.la.length := by omega
    (try simp only [nfD] at h); have F := h.facts; (try simp only [nfF, emp_fact, rds_fact, frm_fact, tab_fact, two_fact, inr_fact, ansX_fact] at F); try simp -dsimp only [↓vcA, vcB, vcD, ↓pureT_lenS, ↓iteT, ↓iteF, cond_true, cond_false, eq_self, argE, Env.get, Env.push, ev, evs, evo, retV, Value.cells, Value.oneCell', setR, overR, fillL, zl, places, allSizes, heldC, ne_eq, Int.reduceLE, Int.reduceLT, Int.reduceEq, Int.reduceNe, Int.reduceToNat, Int.cast_ofNat_Int, Nat.reduceMul, Nat.reduceLeDiff, reduceIte, Nat.reduceEqDiff, Nat.reduceAdd, ↓reduceIte, Try.vcT, F, h.cell0, gets, vsD, if_true, if_false, Bool.false_eq_true,  decide_eq_true hlt]
    rw [eb, eb'] at h
    (try simp only [nfD] at h); have F := h.facts; (try simp only [nfF, emp_fact, rds_fact, frm_fact, tab_fact, two_fact, inr_fact, ansX_fact] at F)
    refine walkDraw (.q 0 (.q 2 (.q 5 (.q 7 (.h 1 0 (.q 3 (.h 4 1 (.h 6 2 (.q 8 (.h 9 3 (.q 10 .fin))))))))))) [(b1, 4, .slice (some ⟨b, oo, none⟩) m.la.length cla), (b, oo + i, .int .i64 x), (b2, 4, .slice (some ⟨b', oo', none⟩) o.la.length c'la), (b', oo' + i, .int .i64 y)] (by kernel_rfl) (by simp [Holds_nil, Holds_cons, F, k0, m0]) ?_
    refine h.draw ?_
    clear h F
    intro w6 h
    by_cases he : x = y
    case pos =>
      (try simp only [nfD] at h); have F := h.facts; (try simp only [nfF, emp_fact, rds_fact, frm_fact, tab_fact, two_fact, inr_fact, ansX_fact] at F); try simp -dsimp only [↓vcA, vcB, vcD, ↓pureT_lenS, ↓iteT, ↓iteF, cond_true, cond_false, eq_self, argE, Env.get, Env.push, ev, evs, evo, retV, Value.cells, Value.oneCell', setR, overR, fillL, zl, places, allSizes, heldC, ne_eq, Int.reduceLE, Int.reduceLT, Int.reduceEq, Int.reduceNe, Int.reduceToNat, Int.cast_ofNat_Int, Nat.reduceMul, Nat.reduceLeDiff, reduceIte, Nat.reduceEqDiff, Nat.reduceAdd, ↓reduceIte, Try.vcT, F, h.cell0, gets, vsD, if_true, if_false, Bool.false_eq_true,  decide_eq_true he, Bool.not_true, Bool.not_false, ei]
      refine ⟨⟨h0i, hlt⟩, ⟨h0i, hlt'⟩, _, ?_, i + 1, by omega, rfl, rfl, htk2 he, ?_⟩
      · omega
      · rw [eb, eb']; exact h
    case neg =>
      (try simp only [nfD] at h); have F := h.facts; (try simp only [nfF, emp_fact, rds_fact, frm_fact, tab_fact, two_fact, inr_fact, ansX_fact] at F); try simp -dsimp only [↓vcA, vcB, vcD, ↓pureT_lenS, ↓iteT, ↓iteF, cond_true, cond_false, eq_self, argE, Env.get, Env.push, ev, evs, evo, retV, Value.cells, Value.oneCell', setR, overR, fillL, zl, places, allSizes, heldC, ne_eq, Int.reduceLE, Int.reduceLT, Int.reduceEq, Int.reduceNe, Int.reduceToNat, Int.cast_ofNat_Int, Nat.reduceMul, Nat.reduceLeDiff, reduceIte, Nat.reduceEqDiff, Nat.reduceAdd, ↓reduceIte, Try.vcT, F, h.cell0, gets, vsD, if_true, if_false, Bool.false_eq_true,  decide_eq_false he, Bool.not_true, Bool.not_false]
      exact ⟨⟨h0i, hlt⟩, ⟨h0i, hlt'⟩, by rw [hne he], h.done⟩
  have ela : m.la = o.la := by
    have h1 : m.la.take i = m.la := List.take_of_length_le (by omega)
    have h2 : o.la.take i = o.la := List.take_of_length_le (by omega)
    rw [h1, h2] at htk; exact htk
  (try simp only [nfD] at h); have F := h.facts; (try simp only [nfF, emp_fact, rds_fact, frm_fact, tab_fact, two_fact, inr_fact, ansX_fact] at F); try simp -dsimp only [↓vcA, vcB, vcD, ↓pureT_lenS, ↓iteT, ↓iteF, cond_true, cond_false, eq_self, argE, Env.get, Env.push, ev, evs, evo, retV, Value.cells, Value.oneCell', setR, overR, fillL, zl, places, allSizes, heldC, ne_eq, Int.reduceLE, Int.reduceLT, Int.reduceEq, Int.reduceNe, Int.reduceToNat, Int.cast_ofNat_Int, Nat.reduceMul, Nat.reduceLeDiff, reduceIte, Nat.reduceEqDiff, Nat.reduceAdd, ↓reduceIte, Try.vcT, F, h.cell0, gets, vsD, if_true, if_false, Bool.false_eq_true,  decide_eq_false hlt]
  clear htk hi hlt
  have es : decide (m = o) = true := decide_eq_true (by
    cases m; cases o; simp_all)
  exact ⟨by rw [es], h.done⟩
end Go.Proofs.Ytnhgjgoglmadnaa
