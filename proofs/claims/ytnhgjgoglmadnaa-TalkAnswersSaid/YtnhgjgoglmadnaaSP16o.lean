/- Joined texts of this claim (part 15), printed by a program of this work. The last part holds the claimed theorem: the law answers true at every input of its row. -/
import Derived.Test.YtnhgjgoglmadnaaSP16n
namespace Go.Proofs.Ytnhgjgoglmadnaa
open Go.RowKit
set_option maxRecDepth 100000
set_option linter.unusedSimpArgs false
set_option linter.unusedVariables false
set_option pp.maxSteps 1500
set_option pp.deepTerms.threshold 8

theorem wPc_stp (s : W8) : ∀ x, Stp 80 s (wPc s x)
  | [a0, a1, a2, a3, a4, a5, a6, a7, a8] => ((((Stp.tri s a0 a1 a2 a3 a4 a5).trans (Stp.num _ _ _)).trans (Stp.num _ _ _)).trans (Stp.num _ _ _)).mono (by omega)
  | [] => (Stp.refl s).mono (by omega)
  | [_] => (Stp.refl s).mono (by omega)
  | [_, _] => (Stp.refl s).mono (by omega)
  | [_, _, _] => (Stp.refl s).mono (by omega)
  | [_, _, _, _] => (Stp.refl s).mono (by omega)
  | [_, _, _, _, _] => (Stp.refl s).mono (by omega)
  | [_, _, _, _, _, _] => (Stp.refl s).mono (by omega)
  | [_, _, _, _, _, _, _] => (Stp.refl s).mono (by omega)
  | [_, _, _, _, _, _, _, _] => (Stp.refl s).mono (by omega)
  | _ :: _ :: _ :: _ :: _ :: _ :: _ :: _ :: _ :: _ :: _ => (Stp.refl s).mono (by omega)
theorem wCp_stp (s : W8) : ∀ x, Stp 80 s (wCp s x)
  | [a0, a1, a2, a3, a4, a5, a6, a7, a8] => ((((((Stp.num s _ _).trans (Stp.num _ _ _)).trans (Stp.num _ _ _)).trans (Stp.num _ _ _)).trans (Stp.num _ _ _)).trans (Stp.num _ _ _)).mono (by omega)
  | [] => (Stp.refl s).mono (by omega)
  | [_] => (Stp.refl s).mono (by omega)
  | [_, _] => (Stp.refl s).mono (by omega)
  | [_, _, _] => (Stp.refl s).mono (by omega)
  | [_, _, _, _] => (Stp.refl s).mono (by omega)
  | [_, _, _, _, _] => (Stp.refl s).mono (by omega)
  | [_, _, _, _, _, _] => (Stp.refl s).mono (by omega)
  | [_, _, _, _, _, _, _] => (Stp.refl s).mono (by omega)
  | [_, _, _, _, _, _, _, _] => (Stp.refl s).mono (by omega)
  | _ :: _ :: _ :: _ :: _ :: _ :: _ :: _ :: _ :: _ :: _ => (Stp.refl s).mono (by omega)
theorem wLa_stp : ∀ (xs : List Int) (s : W8), Stp (xs.length * 8) s (xs.foldl wLa s)
  | [], s => (Stp.refl s).mono (by omega)
  | x :: xs, s => ((Stp.num s x 2).trans (wLa_stp xs _)).mono (by simp only [List.length_cons, Nat.succ_mul]; omega)
theorem tellsW_stp (s : W8) (z : Int) (a : AnV) : Stp (100 + a.p.length * 80 + a.ca.length * 80 + a.la.length * 8) s (tellsW s z a) := by
  unfold tellsW
  split
  · split
    · exact (Stp.list wPc_stp a.p s).mono (by omega)
    · exact (Stp.num s _ _).mono (by omega)
  split
  · exact (((Stp.num s _ _).trans (Stp.list wPc_stp a.p _)).trans (Stp.num _ _ _)).mono (by omega)
  split
  · exact (((Stp.num s _ _).trans (Stp.list wCp_stp a.ca _)).trans (Stp.num _ _ _)).mono (by omega)
  split
  · exact ((Stp.num s _ _).trans (wLa_stp a.la _)).mono (by omega)
  split
  · exact (Stp.num s _ _).mono (by omega)
  split
  · exact ((Stp.num s _ _).trans (Stp.raw _ (be_byt _ _))).mono (by rw [be_length]; omega)
  · exact (Stp.refl s).mono (by omega)
theorem writtenW_byt (z : Int) (a : AnV) : Byt (writtenW z a).l ∧ (writtenW z a).l.length ≤ a.room := by
  have h0 := Stp.num (⟨[], false⟩ : W8) a.code 1
  have h1 := h0.trans (tellsW_stp ((⟨[], false⟩ : W8).num a.code 1) z a)
  unfold writtenW AnV.room
  split
  · exact ⟨h1.1 Byt.nil, by have := h1.2.1; simp only [List.length_nil] at this; omega⟩
  · exact ⟨h0.1 Byt.nil, by have := h0.2.1; simp only [List.length_nil] at this; omega⟩
theorem writtenB_byt (z : Int) (a : AnV) : Byt (writtenB z a) := by
  unfold writtenB; split
  · exact Byt.nil
  · exact (writtenW_byt z a).1
set_option maxHeartbeats 4000000 in
theorem told72 (z : Int) (v : Value) (b : List Int) (w : World) (hr : Rd w v b) (hb : Byt b) (hl : b.length ≤ 99000) :
    Calls Try.prog 72 [.int .i64 z, v].toArray w (RetK fun r w' => ∃ N, Sep w (fun _ => False) N w' ∧ (∀ q ∈ N, ∀ x, ¬ q.rd x) ∧
      ∃ t, r = .tuple #[.agg ((toldV z b).cells t).toArray, .int .i64 (if toldOk z b then 0 else 2)] ∧ N = [ansX (toldV z b) t]) := by
  have hr' := hr
  obtain ⟨a, cc, rfl, _⟩ := hr'
  have h := Sep.nil w
  refine walk Try.func72 rfl (by kernel_rfl) (by rw [Try.nt72]; simp) ?_
  (try simp only [nfD] at h); have F := h.facts; (try simp only [nfF, emp_fact, rds_fact, frm_fact, tab_fact, two_fact, inr_fact, ansX_fact] at F)
  simp -dsimp only [↓vcA, vcB, vcD, ↓pureT_lenS, ↓iteT, ↓iteF, cond_true, cond_false, eq_self, argE, Env.get, Env.push, ev, evs, evo, retV, Value.cells, Value.oneCell', setR, overR, fillL, zl, places, allSizes, heldC, ne_eq, Int.reduceLE, Int.reduceLT, Int.reduceEq, Int.reduceNe, Int.reduceToNat, Int.cast_ofNat_Int, Nat.reduceMul, Nat.reduceLeDiff, reduceIte, Nat.reduceEqDiff, Nat.reduceAdd, ↓reduceIte, Try.vcT]
  refine h.new ?_
  clear h F
  intro w1 b1 h
  (try simp only [nfD] at h); have F := h.facts; (try simp only [nfF, emp_fact, rds_fact, frm_fact, tab_fact, two_fact, inr_fact, ansX_fact] at F); try simp -dsimp only [↓vcA, vcB, vcD, ↓pureT_lenS, ↓iteT, ↓iteF, cond_true, cond_false, eq_self, argE, Env.get, Env.push, ev, evs, evo, retV, Value.cells, Value.oneCell', setR, overR, fillL, zl, places, allSizes, heldC, ne_eq, Int.reduceLE, Int.reduceLT, Int.reduceEq, Int.reduceNe, Int.reduceToNat, Int.cast_ofNat_Int, Nat.reduceMul, Nat.reduceLeDiff, reduceIte, Nat.reduceEqDiff, Nat.reduceAdd, ↓reduceIte, Try.vcT, F, h.cell0, gets, vsD, if_true, if_false, Bool.false_eq_true]
  refine Sep.read b h (hr.sep h fun _ _ => id) (by omega) ?_
  clear h F
  intro r w2 h
  (try simp only [nfD] at h); have F := h.facts; (try simp only [nfF, emp_fact, rds_fact, frm_fact, tab_fact, two_fact, inr_fact, ansX_fact] at F); try simp -dsimp only [↓vcA, vcB, vcD, ↓pureT_lenS, ↓iteT, ↓iteF, cond_true, cond_false, eq_self, argE, Env.get, Env.push, ev, evs, evo, retV, Value.cells, Value.oneCell', setR, overR, fillL, zl, places, allSizes, heldC, ne_eq, Int.reduceLE, Int.reduceLT, Int.reduceEq, Int.reduceNe, Int.reduceToNat, Int.cast_ofNat_Int, Nat.reduceMul, Nat.reduceLeDiff, reduceIte, Nat.reduceEqDiff, Nat.reduceAdd, ↓reduceIte, Try.vcT, F, h.cell0, gets, vsD, if_true, if_false, Bool.false_eq_true]
  refine Sep.rdNum 1 h rfl ?_
  clear h F
  intro w3 h
  have hS1 := numS_byt (⟨b, false⟩ : R8) 1 hb
  have hok0 : toldOk z b = ((toldA z b).2.done && (!(writtenW z (toldA z b).1).bad && decide (writtenB z (toldA z b).1 = b))) := rfl
  have hv0 : toldV z b = if toldOk z b then (toldA z b).1 else AnV.zero := rfl
  obtain ⟨hO, hroom⟩ := toldA_ok hb z
  have hA : toldA z b = ({(if (⟨b, false⟩ : R8).numV 1 = 0 then toldQ ((⟨b, false⟩ : R8).numS 1) z else (AnV.zero, (⟨b, false⟩ : R8).numS 1)).1 with code := (⟨b, false⟩ : R8).numV 1}, (if (⟨b, false⟩ : R8).numV 1 = 0 then toldQ ((⟨b, false⟩ : R8).numS 1) z else (AnV.zero, (⟨b, false⟩ : R8).numS 1)).2) := rfl
  have fin : ∀ {w' : World} {M : List Res}, toldOk z b = false → Sep w (fun _ => False) M w' → ∃ N, Sep w (fun _ => False) N w' ∧ (∀ q ∈ N, ∀ x, ¬ q.rd x) ∧
      ∃ t, Value.tuple #[.agg #[.int .i64 0, .slice none 0 0, .bool false, .slice none 0 0, .slice none 0 0, .int .i64 0, .int .u64 0], .int .i64 2] = .tuple #[.agg ((toldV z b).cells t).toArray, .int .i64 (if toldOk z b then 0 else 2)] ∧ N = [ansX (toldV z b) t] := fun hf h => by
    have e : toldV z b = AnV.zero := by rw [hv0, hf]; rfl
    rw [e, hf]
    exact ⟨_, h.ansZero, (fun q hq x => by simp at hq; subst hq; exact ansX_rd _ _ x), AnS.zero, rfl, rfl⟩
  generalize (⟨b, false⟩ : R8).numS 1 = s1 at *
  generalize (⟨b, false⟩ : R8).numV 1 = code at *
  by_cases h0 : code = 0
  case' pos =>
    rw [if_pos h0] at hA
    (try simp only [nfD] at h); have F := h.facts; (try simp only [nfF, emp_fact, rds_fact, frm_fact, tab_fact, two_fact, inr_fact, ansX_fact] at F); try simp -dsimp only [↓vcA, vcB, vcD, ↓pureT_lenS, ↓iteT, ↓iteF, cond_true, cond_false, eq_self, argE, Env.get, Env.push, ev, evs, evo, retV, Value.cells, Value.oneCell', setR, overR, fillL, zl, places, allSizes, heldC, ne_eq, Int.reduceLE, Int.reduceLT, Int.reduceEq, Int.reduceNe, Int.reduceToNat, Int.cast_ofNat_Int, Nat.reduceMul, Nat.reduceLeDiff, reduceIte, Nat.reduceEqDiff, Nat.reduceAdd, ↓reduceIte, Try.vcT, F, h.cell0, gets, vsD, if_true, if_false, Bool.false_eq_true,  decide_eq_true h0]
    refine told131 h hS1 ?_
    clear h F
    intro t w4 h
    generalize hQ : toldQ s1 z = Q at *
    obtain ⟨A, s'⟩ := Q
    dsimp only at hA
    (try simp only [nfD] at h); have F := h.facts; (try simp only [nfF, emp_fact, rds_fact, frm_fact, tab_fact, two_fact, inr_fact, ansX_fact] at F)
    have R := F.2.2.1
    obtain ⟨tp, tca, tla⟩ := t
    obtain ⟨Ap, Cp, ep⟩ := R.p.shape
    obtain ⟨Aca, Cca, eca⟩ := R.ca.shape
    obtain ⟨Ala, Cla, ela⟩ := R.la.shape
    dsimp only at ep eca ela
    subst ep eca ela
    clear R
    (try simp only [nfD] at h); have F := h.facts; (try simp only [nfF, emp_fact, rds_fact, frm_fact, tab_fact, two_fact, inr_fact, ansX_fact] at F); try simp -dsimp only [↓vcA, vcB, vcD, ↓pureT_lenS, ↓iteT, ↓iteF, cond_true, cond_false, eq_self, argE, Env.get, Env.push, ev, evs, evo, retV, Value.cells, Value.oneCell', setR, overR, fillL, zl, places, allSizes, heldC, ne_eq, Int.reduceLE, Int.reduceLT, Int.reduceEq, Int.reduceNe, Int.reduceToNat, Int.cast_ofNat_Int, Nat.reduceMul, Nat.reduceLeDiff, reduceIte, Nat.reduceEqDiff, Nat.reduceAdd, ↓reduceIte, Try.vcT, F, h.cell0, gets, vsD, if_true, if_false, Bool.false_eq_true,  AnV.cells]
    refine Sep.put 0 h rfl ?_
    clear h F
    intro w5 h
    (try simp only [nfD] at h); have F := h.facts; (try simp only [nfF, emp_fact, rds_fact, frm_fact, tab_fact, two_fact, inr_fact, ansX_fact] at F); try simp -dsimp only [↓vcA, vcB, vcD, ↓pureT_lenS, ↓iteT, ↓iteF, cond_true, cond_false, eq_self, argE, Env.get, Env.push, ev, evs, evo, retV, Value.cells, Value.oneCell', setR, overR, fillL, zl, places, allSizes, heldC, ne_eq, Int.reduceLE, Int.reduceLT, Int.reduceEq, Int.reduceNe, Int.reduceToNat, Int.cast_ofNat_Int, Nat.reduceMul, Nat.reduceLeDiff, reduceIte, Nat.reduceEqDiff, Nat.reduceAdd, ↓reduceIte, Try.vcT, F, h.cell0, gets, vsD, if_true, if_false, Bool.false_eq_true,  AnV.cells]
  case' neg =>
    rw [if_neg h0] at hA
    dsimp only at hA
    have h := h.ansPush
    (try simp only [nfD] at h); have F := h.facts; (try simp only [nfF, emp_fact, rds_fact, frm_fact, tab_fact, two_fact, inr_fact, ansX_fact] at F); try simp -dsimp only [↓vcA, vcB, vcD, ↓pureT_lenS, ↓iteT, ↓iteF, cond_true, cond_false, eq_self, argE, Env.get, Env.push, ev, evs, evo, retV, Value.cells, Value.oneCell', setR, overR, fillL, zl, places, allSizes, heldC, ne_eq, Int.reduceLE, Int.reduceLT, Int.reduceEq, Int.reduceNe, Int.reduceToNat, Int.cast_ofNat_Int, Nat.reduceMul, Nat.reduceLeDiff, reduceIte, Nat.reduceEqDiff, Nat.reduceAdd, ↓reduceIte, Try.vcT, F, h.cell0, gets, vsD, if_true, if_false, Bool.false_eq_true,  decide_eq_false h0]
  all_goals
    refine Sep.put 0 h rfl ?_
    clear h F
    intro w6 h
    (try simp only [nfD] at h); have F := h.facts; (try simp only [nfF, emp_fact, rds_fact, frm_fact, tab_fact, two_fact, inr_fact, ansX_fact] at F); try simp -dsimp only [↓vcA, vcB, vcD, ↓pureT_lenS, ↓iteT, ↓iteF, cond_true, cond_false, eq_self, argE, Env.get, Env.push, ev, evs, evo, retV, Value.cells, Value.oneCell', setR, overR, fillL, zl, places, allSizes, heldC, ne_eq, Int.reduceLE, Int.reduceLT, Int.reduceEq, Int.reduceNe, Int.reduceToNat, Int.cast_ofNat_Int, Nat.reduceMul, Nat.reduceLeDiff, reduceIte, Nat.reduceEqDiff, Nat.reduceAdd, ↓reduceIte, Try.vcT, F, h.cell0, gets, vsD, if_true, if_false, Bool.false_eq_true,  cellsAt]
  all_goals
    have R := F.2.2.1
    have hd2 := congrArg Prod.snd hA
    dsimp only at hd2
    have k1 := written128 z (toldA z b).1 _ w6 (by rw [hA]; exact ⟨R.p, R.ca, R.la⟩) hO (by omega)
    have hbB := writtenB_byt z (toldA z b).1
    generalize writtenB z (toldA z b).1 = B at *
    generalize writtenW z (toldA z b).1 = W at *
    have hcell : ∀ t : AnS, (toldA z b).1.cells t = (toldA z b).1.cells t := fun _ => rfl
    rw [hA] at k1
    simp only [AnV.cells, AnV.zero, AnS.zero] at k1
    refine Sep.callN h k1 ?_
    clear h F k1 R
    intro e N w7 hQ h
    obtain ⟨a7, c7, rfl, rfl⟩ := hQ
    (try simp only [nfD] at h); have F := h.facts; (try simp only [nfF, emp_fact, rds_fact, frm_fact, tab_fact, two_fact, inr_fact, ansX_fact] at F); try simp -dsimp only [↓vcA, vcB, vcD, ↓pureT_lenS, ↓iteT, ↓iteF, cond_true, cond_false, eq_self, argE, Env.get, Env.push, ev, evs, evo, retV, Value.cells, Value.oneCell', setR, overR, fillL, zl, places, allSizes, heldC, ne_eq, Int.reduceLE, Int.reduceLT, Int.reduceEq, Int.reduceNe, Int.reduceToNat, Int.cast_ofNat_Int, Nat.reduceMul, Nat.reduceLeDiff, reduceIte, Nat.reduceEqDiff, Nat.reduceAdd, ↓reduceIte, Try.vcT, F, h.cell0, gets, vsD, if_true, if_false, Bool.false_eq_true]
    refine Sep.rdDone 1 h rfl ?_
    rw [← hd2]
    cases hd : (toldA z b).2.done with
    | false =>
      (try simp only [nfD] at h); have F := h.facts; (try simp only [nfF, emp_fact, rds_fact, frm_fact, tab_fact, two_fact, inr_fact, ansX_fact] at F); try simp -dsimp only [↓vcA, vcB, vcD, ↓pureT_lenS, ↓iteT, ↓iteF, cond_true, cond_false, eq_self, argE, Env.get, Env.push, ev, evs, evo, retV, Value.cells, Value.oneCell', setR, overR, fillL, zl, places, allSizes, heldC, ne_eq, Int.reduceLE, Int.reduceLT, Int.reduceEq, Int.reduceNe, Int.reduceToNat, Int.cast_ofNat_Int, Nat.reduceMul, Nat.reduceLeDiff, reduceIte, Nat.reduceEqDiff, Nat.reduceAdd, ↓reduceIte, Try.vcT, F, h.cell0, gets, vsD, if_true, if_false, Bool.false_eq_true,  hd, if_false, Bool.not_true, Bool.not_false, Bool.false_eq_true]
      refine Sep.put 0 h rfl ?_
      clear h F
      intro w8 h
      (try simp only [nfD] at h); have F := h.facts; (try simp only [nfF, emp_fact, rds_fact, frm_fact, tab_fact, two_fact, inr_fact, ansX_fact] at F); try simp -dsimp only [↓vcA, vcB, vcD, ↓pureT_lenS, ↓iteT, ↓iteF, cond_true, cond_false, eq_self, argE, Env.get, Env.push, ev, evs, evo, retV, Value.cells, Value.oneCell', setR, overR, fillL, zl, places, allSizes, heldC, ne_eq, Int.reduceLE, Int.reduceLT, Int.reduceEq, Int.reduceNe, Int.reduceToNat, Int.cast_ofNat_Int, Nat.reduceMul, Nat.reduceLeDiff, reduceIte, Nat.reduceEqDiff, Nat.reduceAdd, ↓reduceIte, Try.vcT, F, h.cell0, gets, vsD, if_true, if_false, Bool.false_eq_true,  cellsAt]
      exact fin (by rw [hok0, hd]; rfl) h
    | true =>
    cases hw : W.bad with
    | true =>
      (try simp only [nfD] at h); have F := h.facts; (try simp only [nfF, emp_fact, rds_fact, frm_fact, tab_fact, two_fact, inr_fact, ansX_fact] at F); try simp -dsimp only [↓vcA, vcB, vcD, ↓pureT_lenS, ↓iteT, ↓iteF, cond_true, cond_false, eq_self, argE, Env.get, Env.push, ev, evs, evo, retV, Value.cells, Value.oneCell', setR, overR, fillL, zl, places, allSizes, heldC, ne_eq, Int.reduceLE, Int.reduceLT, Int.reduceEq, Int.reduceNe, Int.reduceToNat, Int.cast_ofNat_Int, Nat.reduceMul, Nat.reduceLeDiff, reduceIte, Nat.reduceEqDiff, Nat.reduceAdd, ↓reduceIte, Try.vcT, F, h.cell0, gets, vsD, if_true, if_false, Bool.false_eq_true,  hd, hw, if_true, if_false, Bool.not_true, Bool.not_false, Bool.false_eq_true]
      refine Sep.put 0 h rfl ?_
      clear h F
      intro w8 h
      (try simp only [nfD] at h); have F := h.facts; (try simp only [nfF, emp_fact, rds_fact, frm_fact, tab_fact, two_fact, inr_fact, ansX_fact] at F); try simp -dsimp only [↓vcA, vcB, vcD, ↓pureT_lenS, ↓iteT, ↓iteF, cond_true, cond_false, eq_self, argE, Env.get, Env.push, ev, evs, evo, retV, Value.cells, Value.oneCell', setR, overR, fillL, zl, places, allSizes, heldC, ne_eq, Int.reduceLE, Int.reduceLT, Int.reduceEq, Int.reduceNe, Int.reduceToNat, Int.cast_ofNat_Int, Nat.reduceMul, Nat.reduceLeDiff, reduceIte, Nat.reduceEqDiff, Nat.reduceAdd, ↓reduceIte, Try.vcT, F, h.cell0, gets, vsD, if_true, if_false, Bool.false_eq_true,  cellsAt]
      exact fin (by rw [hok0, hd, hw]; rfl) h
    | false =>
    (try simp only [nfD] at h); have F := h.facts; (try simp only [nfF, emp_fact, rds_fact, frm_fact, tab_fact, two_fact, inr_fact, ansX_fact] at F); try simp -dsimp only [↓vcA, vcB, vcD, ↓pureT_lenS, ↓iteT, ↓iteF, cond_true, cond_false, eq_self, argE, Env.get, Env.push, ev, evs, evo, retV, Value.cells, Value.oneCell', setR, overR, fillL, zl, places, allSizes, heldC, ne_eq, Int.reduceLE, Int.reduceLT, Int.reduceEq, Int.reduceNe, Int.reduceToNat, Int.cast_ofNat_Int, Nat.reduceMul, Nat.reduceLeDiff, reduceIte, Nat.reduceEqDiff, Nat.reduceAdd, ↓reduceIte, Try.vcT, F, h.cell0, gets, vsD, if_true, if_false, Bool.false_eq_true,  hd, hw, if_true, if_false, Bool.not_true, Bool.not_false, Bool.false_eq_true]
    refine Sep.callp h (bytesEq _ _ _ _ _ F.2.2.2.1 (hr.sep h fun _ _ => id) hbB hb) ?_
    clear h F
    intro w8 h
    by_cases he : B = b
    case neg =>
      (try simp only [nfD] at h); have F := h.facts; (try simp only [nfF, emp_fact, rds_fact, frm_fact, tab_fact, two_fact, inr_fact, ansX_fact] at F); try simp -dsimp only [↓vcA, vcB, vcD, ↓pureT_lenS, ↓iteT, ↓iteF, cond_true, cond_false, eq_self, argE, Env.get, Env.push, ev, evs, evo, retV, Value.cells, Value.oneCell', setR, overR, fillL, zl, places, allSizes, heldC, ne_eq, Int.reduceLE, Int.reduceLT, Int.reduceEq, Int.reduceNe, Int.reduceToNat, Int.cast_ofNat_Int, Nat.reduceMul, Nat.reduceLeDiff, reduceIte, Nat.reduceEqDiff, Nat.reduceAdd, ↓reduceIte, Try.vcT, F, h.cell0, gets, vsD, if_true, if_false, Bool.false_eq_true,  decide_eq_false he, Bool.not_true, Bool.not_false]
      refine Sep.put 0 h rfl ?_
      clear h F
      intro w9 h
      (try simp only [nfD] at h); have F := h.facts; (try simp only [nfF, emp_fact, rds_fact, frm_fact, tab_fact, two_fact, inr_fact, ansX_fact] at F); try simp -dsimp only [↓vcA, vcB, vcD, ↓pureT_lenS, ↓iteT, ↓iteF, cond_true, cond_false, eq_self, argE, Env.get, Env.push, ev, evs, evo, retV, Value.cells, Value.oneCell', setR, overR, fillL, zl, places, allSizes, heldC, ne_eq, Int.reduceLE, Int.reduceLT, Int.reduceEq, Int.reduceNe, Int.reduceToNat, Int.cast_ofNat_Int, Nat.reduceMul, Nat.reduceLeDiff, reduceIte, Nat.reduceEqDiff, Nat.reduceAdd, ↓reduceIte, Try.vcT, F, h.cell0, gets, vsD, if_true, if_false, Bool.false_eq_true,  cellsAt]
      exact fin (by rw [hok0, hd, hw, decide_eq_false he]; rfl) h
    have ok : toldOk z b = true := by rw [hok0, hd, hw, decide_eq_true he]; rfl
    have etv : toldV z b = (toldA z b).1 := by rw [hv0, ok]; rfl
    (try simp only [nfD] at h); have F := h.facts; (try simp only [nfF, emp_fact, rds_fact, frm_fact, tab_fact, two_fact, inr_fact, ansX_fact] at F); try simp -dsimp only [↓vcA, vcB, vcD, ↓pureT_lenS, ↓iteT, ↓iteF, cond_true, cond_false, eq_self, argE, Env.get, Env.push, ev, evs, evo, retV, Value.cells, Value.oneCell', setR, overR, fillL, zl, places, allSizes, heldC, ne_eq, Int.reduceLE, Int.reduceLT, Int.reduceEq, Int.reduceNe, Int.reduceToNat, Int.cast_ofNat_Int, Nat.reduceMul, Nat.reduceLeDiff, reduceIte, Nat.reduceEqDiff, Nat.reduceAdd, ↓reduceIte, Try.vcT, F, h.cell0, gets, vsD, if_true, if_false, Bool.false_eq_true,  decide_eq_true he, Bool.not_true, Bool.not_false, cellsAt]
    refine Sep.put 0 h rfl ?_
    clear h F
    intro w9 h
    (try simp only [nfD] at h); have F := h.facts; (try simp only [nfF, emp_fact, rds_fact, frm_fact, tab_fact, two_fact, inr_fact, ansX_fact] at F); try simp -dsimp only [↓vcA, vcB, vcD, ↓pureT_lenS, ↓iteT, ↓iteF, cond_true, cond_false, eq_self, argE, Env.get, Env.push, ev, evs, evo, retV, Value.cells, Value.oneCell', setR, overR, fillL, zl, places, allSizes, heldC, ne_eq, Int.reduceLE, Int.reduceLT, Int.reduceEq, Int.reduceNe, Int.reduceToNat, Int.cast_ofNat_Int, Nat.reduceMul, Nat.reduceLeDiff, reduceIte, Nat.reduceEqDiff, Nat.reduceAdd, ↓reduceIte, Try.vcT, F, h.cell0, gets, vsD, if_true, if_false, Bool.false_eq_true,  cellsAt]
    rw [etv, ok, hA]
    exact ⟨_, ((h.erase 3).erase 0).erase 0, (fun q hq x hx => by simp at hq; subst hq; exact ansX_rd _ _ x hx), _, rfl, rfl⟩
def ansOk (z : Int) (a : AnV) : Bool := !(writtenW z a).bad && toldOk z (writtenW z a).l
def ansB (z : Int) (a : AnV) : List Int := if ansOk z a then (writtenW z a).l else []
set_option maxHeartbeats 4000000 in
theorem answer70 (z : Int) (a : AnV) (t : AnS) (w : World) (R : AnR w a t) (O : a.Ok) (hl : a.room ≤ 90000) :
    Calls Try.prog 70 [.int .i64 z, .agg (a.cells t).toArray].toArray w (RetK fun v w' => ∃ N, Sep w (fun _ => False) N w' ∧ (∀ q ∈ N, ∀ x, ¬ q.rd x) ∧
      ∃ b c, v = .tuple #[.slice b (ansB z a).length c, .int .i64 (if ansOk z a then 0 else 2)] ∧ N = [byt (.slice b (ansB z a).length c) (ansB z a)]) := by
  have fin : ∀ {w' : World} {M : List Res}, ansOk z a = false → Sep w (fun _ => False) M w' → ∃ N, Sep w (fun _ => False) N w' ∧ (∀ q ∈ N, ∀ x, ¬ q.rd x) ∧
      ∃ b c, Value.tuple #[.slice none 0 0, .int .i64 2] = .tuple #[.slice b (ansB z a).length c, .int .i64 (if ansOk z a then 0 else 2)] ∧ N = [byt (.slice b (ansB z a).length c) (ansB z a)] := fun hf h => by
    have e1 : ansB z a = [] := by simp [ansB, hf]
    rw [e1, hf]
    exact ⟨_, h.none.bytNone, (fun q hq x hx => by simp at hq; subst hq; exact hx), none, 0, rfl, rfl⟩
  have hok : ansOk z a = (!(writtenW z a).bad && toldOk z (writtenW z a).l) := rfl
  have hB : ansOk z a = true → ansB z a = (writtenW z a).l := fun e => by simp [ansB, e]
  obtain ⟨hby, hlen⟩ := writtenW_byt z a
  obtain ⟨ap, cp, ep⟩ := R.p.shape
  obtain ⟨aca, cca, eca⟩ := R.ca.shape
  obtain ⟨ala, cla, ela⟩ := R.la.shape
  have k1 := fun w' (R : AnR w' a t) => written128 z a t w' R O (by omega)
  have hWB : writtenB z a = if (writtenW z a).bad then [] else (writtenW z a).l := rfl
  simp only [AnV.cells, ep, eca, ela] at k1
  have h := Sep.nil w
  refine walk Try.func70 rfl (by kernel_rfl) (by rw [Try.nt70]; simp) ?_
  (try simp only [nfD] at h); have F := h.facts; (try simp only [nfF, emp_fact, rds_fact, frm_fact, tab_fact, two_fact, inr_fact, ansX_fact] at F)
  simp -dsimp only [↓vcA, vcB, vcD, ↓pureT_lenS, ↓iteT, ↓iteF, cond_true, cond_false, eq_self, argE, Env.get, Env.push, ev, evs, evo, retV, Value.cells, Value.oneCell', setR, overR, fillL, zl, places, allSizes, heldC, ne_eq, Int.reduceLE, Int.reduceLT, Int.reduceEq, Int.reduceNe, Int.reduceToNat, Int.cast_ofNat_Int, Nat.reduceMul, Nat.reduceLeDiff, reduceIte, Nat.reduceEqDiff, Nat.reduceAdd, ↓reduceIte, Try.vcT, AnV.cells, ep, eca, ela]
  refine h.new ?_
  clear h F
  intro w1 b1 h
  (try simp only [nfD] at h); have F := h.facts; (try simp only [nfF, emp_fact, rds_fact, frm_fact, tab_fact, two_fact, inr_fact, ansX_fact] at F); try simp -dsimp only [↓vcA, vcB, vcD, ↓pureT_lenS, ↓iteT, ↓iteF, cond_true, cond_false, eq_self, argE, Env.get, Env.push, ev, evs, evo, retV, Value.cells, Value.oneCell', setR, overR, fillL, zl, places, allSizes, heldC, ne_eq, Int.reduceLE, Int.reduceLT, Int.reduceEq, Int.reduceNe, Int.reduceToNat, Int.cast_ofNat_Int, Nat.reduceMul, Nat.reduceLeDiff, reduceIte, Nat.reduceEqDiff, Nat.reduceAdd, ↓reduceIte, Try.vcT, F, h.cell0, gets, vsD, if_true, if_false, Bool.false_eq_true,  cellsAt]
  refine Sep.callN h (k1 _ (R.sep h)) ?_
  clear h F k1
  intro e N w2 hQ h
  obtain ⟨a2, c2, rfl, rfl⟩ := hQ
  generalize writtenW z a = W at *
  cases hw : W.bad with
  | true =>
    (try simp only [nfD] at h); have F := h.facts; (try simp only [nfF, emp_fact, rds_fact, frm_fact, tab_fact, two_fact, inr_fact, ansX_fact] at F); try simp -dsimp only [↓vcA, vcB, vcD, ↓pureT_lenS, ↓iteT, ↓iteF, cond_true, cond_false, eq_self, argE, Env.get, Env.push, ev, evs, evo, retV, Value.cells, Value.oneCell', setR, overR, fillL, zl, places, allSizes, heldC, ne_eq, Int.reduceLE, Int.reduceLT, Int.reduceEq, Int.reduceNe, Int.reduceToNat, Int.cast_ofNat_Int, Nat.reduceMul, Nat.reduceLeDiff, reduceIte, Nat.reduceEqDiff, Nat.reduceAdd, ↓reduceIte, Try.vcT, F, h.cell0, gets, vsD, if_true, if_false, Bool.false_eq_true,  hw, if_true, if_false, Bool.not_true, Bool.not_false, Bool.false_eq_true]
    exact fin (by rw [hok, hw]; rfl) h
  | false =>
  have eB : writtenB z a = W.l := by rw [hWB, hw]; rfl
  rw [eB] at h
  rw [eB]
  (try simp only [nfD] at h); have F := h.facts; (try simp only [nfF, emp_fact, rds_fact, frm_fact, tab_fact, two_fact, inr_fact, ansX_fact] at F); try simp -dsimp only [↓vcA, vcB, vcD, ↓pureT_lenS, ↓iteT, ↓iteF, cond_true, cond_false, eq_self, argE, Env.get, Env.push, ev, evs, evo, retV, Value.cells, Value.oneCell', setR, overR, fillL, zl, places, allSizes, heldC, ne_eq, Int.reduceLE, Int.reduceLT, Int.reduceEq, Int.reduceNe, Int.reduceToNat, Int.cast_ofNat_Int, Nat.reduceMul, Nat.reduceLeDiff, reduceIte, Nat.reduceEqDiff, Nat.reduceAdd, ↓reduceIte, Try.vcT, F, h.cell0, gets, vsD, if_true, if_false, Bool.false_eq_true,  hw, if_true, if_false, Bool.not_true, Bool.not_false, Bool.false_eq_true]
  refine Sep.callN h (told72 z _ W.l _ F.2.1 hby (by omega)) ?_
  clear h F
  intro e N w3 hQ h
  obtain ⟨u, rfl, rfl⟩ := hQ
  (try simp only [nfD] at h); have F := h.facts; (try simp only [nfF, emp_fact, rds_fact, frm_fact, tab_fact, two_fact, inr_fact, ansX_fact] at F)
  have RU := F.2.2.1
  obtain ⟨up, uca, ula⟩ := u
  obtain ⟨xp, yp, qp⟩ := RU.p.shape
  obtain ⟨xca, yca, qca⟩ := RU.ca.shape
  obtain ⟨xla, yla, qla⟩ := RU.la.shape
  dsimp only at qp qca qla
  subst qp qca qla
  clear RU
  (try simp only [nfD] at h); have F := h.facts; (try simp only [nfF, emp_fact, rds_fact, frm_fact, tab_fact, two_fact, inr_fact, ansX_fact] at F); try simp -dsimp only [↓vcA, vcB, vcD, ↓pureT_lenS, ↓iteT, ↓iteF, cond_true, cond_false, eq_self, argE, Env.get, Env.push, ev, evs, evo, retV, Value.cells, Value.oneCell', setR, overR, fillL, zl, places, allSizes, heldC, ne_eq, Int.reduceLE, Int.reduceLT, Int.reduceEq, Int.reduceNe, Int.reduceToNat, Int.cast_ofNat_Int, Nat.reduceMul, Nat.reduceLeDiff, reduceIte, Nat.reduceEqDiff, Nat.reduceAdd, ↓reduceIte, Try.vcT, F, h.cell0, gets, vsD, if_true, if_false, Bool.false_eq_true,  AnV.cells]
  refine h.new ?_
  clear h F
  intro w4 b4 h
  (try simp only [nfD] at h); have F := h.facts; (try simp only [nfF, emp_fact, rds_fact, frm_fact, tab_fact, two_fact, inr_fact, ansX_fact] at F); try simp -dsimp only [↓vcA, vcB, vcD, ↓pureT_lenS, ↓iteT, ↓iteF, cond_true, cond_false, eq_self, argE, Env.get, Env.push, ev, evs, evo, retV, Value.cells, Value.oneCell', setR, overR, fillL, zl, places, allSizes, heldC, ne_eq, Int.reduceLE, Int.reduceLT, Int.reduceEq, Int.reduceNe, Int.reduceToNat, Int.cast_ofNat_Int, Nat.reduceMul, Nat.reduceLeDiff, reduceIte, Nat.reduceEqDiff, Nat.reduceAdd, ↓reduceIte, Try.vcT, F, h.cell0, gets, vsD, if_true, if_false, Bool.false_eq_true,  AnV.cells]
  refine Sep.put 3 h rfl ?_
  clear h F
  intro w5 h
  cases ht : toldOk z W.l with
  | false =>
    (try simp only [nfD] at h); have F := h.facts; (try simp only [nfF, emp_fact, rds_fact, frm_fact, tab_fact, two_fact, inr_fact, ansX_fact] at F); try simp -dsimp only [↓vcA, vcB, vcD, ↓pureT_lenS, ↓iteT, ↓iteF, cond_true, cond_false, eq_self, argE, Env.get, Env.push, ev, evs, evo, retV, Value.cells, Value.oneCell', setR, overR, fillL, zl, places, allSizes, heldC, ne_eq, Int.reduceLE, Int.reduceLT, Int.reduceEq, Int.reduceNe, Int.reduceToNat, Int.cast_ofNat_Int, Nat.reduceMul, Nat.reduceLeDiff, reduceIte, Nat.reduceEqDiff, Nat.reduceAdd, ↓reduceIte, Try.vcT, F, h.cell0, gets, vsD, if_true, if_false, Bool.false_eq_true,  ht, if_true, if_false, Bool.not_true, Bool.not_false, Bool.false_eq_true]
    exact fin (by rw [hok, ht]; simp) h
  | true =>
    have ok : ansOk z a = true := by rw [hok, hw, ht]; rfl
    (try simp only [nfD] at h); have F := h.facts; (try simp only [nfF, emp_fact, rds_fact, frm_fact, tab_fact, two_fact, inr_fact, ansX_fact] at F); try simp -dsimp only [↓vcA, vcB, vcD, ↓pureT_lenS, ↓iteT, ↓iteF, cond_true, cond_false, eq_self, argE, Env.get, Env.push, ev, evs, evo, retV, Value.cells, Value.oneCell', setR, overR, fillL, zl, places, allSizes, heldC, ne_eq, Int.reduceLE, Int.reduceLT, Int.reduceEq, Int.reduceNe, Int.reduceToNat, Int.cast_ofNat_Int, Nat.reduceMul, Nat.reduceLeDiff, reduceIte, Nat.reduceEqDiff, Nat.reduceAdd, ↓reduceIte, Try.vcT, F, h.cell0, gets, vsD, if_true, if_false, Bool.false_eq_true,  ht, if_true, if_false, Bool.not_true, Bool.not_false, Bool.false_eq_true]
    rw [hB ok, ok]
    exact ⟨_, ((h.erase 3).erase 2).erase 0, (fun q hq x hx => by simp at hq; subst hq; exact hx), _, _, rfl, rfl⟩
end Go.Proofs.Ytnhgjgoglmadnaa
namespace Go.Proofs.Ytnhgjgoglmadnaa
open Go.RowKit
set_option maxRecDepth 100000
set_option linter.unusedSimpArgs false
set_option linter.unusedVariables false
set_option pp.maxSteps 1500
set_option pp.deepTerms.threshold 8

def wPcR (s : W8) : List Int → W8
  | [ax, ay, bx, by', cx, cy, pa, la, wa] => ((((s.tri ax ay bx by' cx cy).spoil (!(T3.valid ⟨ax, ay, bx, by', cx, cy⟩))).num pa 1).num la 2).num wa 1
  | _ => s
def tellsR (s : W8) (z : Int) (a : AnV) : W8 :=
  if z = 1 ∨ z = 2 then (if a.p.length = 1 then a.p.foldl wPcR s else s.num 0 0) else
  if z = 3 ∨ z = 4 then (a.p.foldl wPcR (s.num a.p.length 1)).num (bit a.more) 1 else
  if z = 14 then (a.ca.foldl wCp (s.num a.ca.length 1)).num (bit a.more) 1 else
  if z = 15 then a.la.foldl wLa (s.num a.la.length 1) else
  if z = 12 then s.num a.n 1 else
  if z = 16 then ((s.num a.n 4).num (a.sum / 4294967296) 4).num (a.sum % 4294967296) 4 else s
def ansRW (z : Int) (a : AnV) : W8 := if a.code = 0 then tellsR ((⟨[], false⟩ : W8).num a.code 1) z a else (⟨[], false⟩ : W8).num a.code 1
def ansROk (z : Int) (a : AnV) : Bool := !(ansRW z a).bad
def ansRB (z : Int) (a : AnV) : List Int := if ansROk z a then (ansRW z a).l else []
end Go.Proofs.Ytnhgjgoglmadnaa
namespace Go.Proofs.Ytnhgjgoglmadnaa
open Go.RowKit
set_option maxRecDepth 100000
set_option linter.unusedSimpArgs false
set_option linter.unusedVariables false
set_option pp.maxSteps 1500
set_option pp.deepTerms.threshold 8

def moreS (s : R8) : R8 := if 1 < s.numV 1 then ⟨(s.numS 1).l, true⟩ else s.numS 1
def sumR (h l : Int) : Int := IntKind.u64.wrap (BitVec.ofInt IntKind.u64.bits (IntKind.u64.wrap (IntKind.u64.wrap h * 2 ^ min 32 IntKind.u64.bits)) ||| BitVec.ofInt IntKind.u64.bits (IntKind.u64.wrap l)).toNat
def toldRQ (s : R8) (z : Int) : AnV × R8 :=
  if z = 1 ∨ z = 2 then ({AnV.zero with p := [rPc s]}, sPc s) else
  if z = 3 ∨ z = 4 then ({AnV.zero with p := (itemsB rPc sPc (s.numV 1).toNat (s.numS 1)).1, more := decide ((itemsB rPc sPc (s.numV 1).toNat (s.numS 1)).2.numV 1 = 1)}, moreS (itemsB rPc sPc (s.numV 1).toNat (s.numS 1)).2) else
  if z = 14 then ({AnV.zero with ca := (itemsB rCp sCp (s.numV 1).toNat (s.numS 1)).1, more := decide ((itemsB rCp sCp (s.numV 1).toNat (s.numS 1)).2.numV 1 = 1)}, moreS (itemsB rCp sCp (s.numV 1).toNat (s.numS 1)).2) else
  if z = 15 then ({AnV.zero with la := (itemsB rLa sLa (s.numV 1).toNat (s.numS 1)).1}, (itemsB rLa sLa (s.numV 1).toNat (s.numS 1)).2) else
  if z = 12 then ({AnV.zero with n := s.numV 1}, s.numS 1) else
  if z = 16 then ({AnV.zero with n := s.numV 4, sum := sumR ((s.numS 4).numV 4) (((s.numS 4).numS 4).numV 4)}, ((s.numS 4).numS 4).numS 4) else (AnV.zero, s)
def toldRA (z : Int) (b : List Int) : AnV × R8 :=
  let q := if (⟨b, false⟩ : R8).numV 1 = 0 then toldRQ ((⟨b, false⟩ : R8).numS 1) z else (AnV.zero, (⟨b, false⟩ : R8).numS 1)
  ({q.1 with code := (⟨b, false⟩ : R8).numV 1}, q.2)
def toldROk (z : Int) (b : List Int) : Bool := (toldRA z b).2.done
def toldRV (z : Int) (b : List Int) : AnV := if toldROk z b then (toldRA z b).1 else AnV.zero
section
variable {w0 w : World}
end
theorem Sep.rdSet (i : Nat) {w0 w : World} {S : Nat → Prop} {M : List Res} {t p : Nat} {s : R8} {Z : Nat → Prop} {v : Value} {b' : Bool} {K : World → Prop} (h : Sep w0 S M w) (hi : M[i]? = some (rdr t p s Z)) (hv : w.cell? ⟨p, 0, Option.none⟩ = some v)
    (hk : ∀ w1, Sep w0 S (M.set i (rdr t p ⟨s.l, b'⟩ Z)) w1 → K w1) : ∀ w1, Put w w1 p [v, .bool b'] t → K w1 := fun w1 hp => by
  obtain ⟨h1, v', h2, h3⟩ := h.rdAt hi
  have e : v' = v := by have a := h2.c0; rw [hv] at a; injection a with a; exact a.symm
  subst e
  obtain ⟨k1, k2⟩ := h2.put (s' := ⟨s.l, b'⟩) (Chg.refl _ _) hp h2.rd (fun _ => id) (Nat.le_refl _)
  exact hk w1 (h3 ⟨s.l, b'⟩ w1 ⟨v', k1, k2, fun _ => id⟩ (Nat.le_refl _))
theorem more133 {A : Nat → Prop} (p : Nat) (s : R8) (Z : Nat → Prop) (w : World) (h : Sep w A [rdr 85 p s Z] w) :
    Calls Try.prog 133 [.pointer (some ⟨p, 0, none⟩)].toArray w
      (RetK fun v w' => ∃ r' N, Sep w A (r' :: N) w' ∧ (∀ x, r'.rd x → (rdr 85 p s Z).rd x) ∧ (∀ q ∈ N, ∀ x, ¬ q.rd x) ∧ (v = .bool (decide (s.numV 1 = 1)) ∧ r' = rdr 85 p (moreS s) Z ∧ N = [])) := by
  refine walk Try.func133 rfl (by kernel_rfl) (by rw [Try.nt133]; simp) ?_
  (try simp only [nfD] at h); have F := h.facts; (try simp only [nfF, emp_fact, rds_fact, frm_fact, tab_fact, two_fact, inr_fact, ansX_fact] at F)
  simp -dsimp only [↓vcA, vcB, vcD, ↓pureT_lenS, ↓iteT, ↓iteF, cond_true, cond_false, eq_self, argE, Env.get, Env.push, ev, evs, evo, retV, Value.cells, Value.oneCell', setR, overR, fillL, zl, places, allSizes, heldC, ne_eq, Int.reduceLE, Int.reduceLT, Int.reduceEq, Int.reduceNe, Int.reduceToNat, Int.cast_ofNat_Int, Nat.reduceMul, Nat.reduceLeDiff, reduceIte, Nat.reduceEqDiff, Nat.reduceAdd, ↓reduceIte, Try.vcT]
  refine Sep.rrNum 0 h rfl ?_
  clear h F
  intro w1 h
  obtain ⟨_, v, hw, _⟩ := h.rdAt (i := 0) rfl
  have hc1 := hw.c1
  have hc0 := hw.c0
  have hbk := hw.bk
  have close : ∀ {b' : Bool} {w' : World}, b' = ((s.numS 1).bad || decide (1 < s.numV 1)) → Sep w A [rdr 85 p ⟨(s.numS 1).l, b'⟩ Z] w' → Sep w A [rdr 85 p (moreS s) Z] w' := fun {b' w'} e h => by
    have : moreS s = ⟨(s.numS 1).l, b'⟩ := by
      unfold moreS
      by_cases hg : 1 < s.numV 1
      · rw [if_pos hg, e, decide_eq_true hg, Bool.or_true]
      · rw [if_neg hg, e, decide_eq_false hg, Bool.or_false]
    rw [this]; exact h
  cases hb : (s.numS 1).bad with
  | true =>
    rw [hb] at hc1 hbk
    (try simp only [nfD] at h); have F := h.facts; (try simp only [nfF, emp_fact, rds_fact, frm_fact, tab_fact, two_fact, inr_fact, ansX_fact] at F); try simp -dsimp only [↓vcA, vcB, vcD, ↓pureT_lenS, ↓iteT, ↓iteF, cond_true, cond_false, eq_self, argE, Env.get, Env.push, ev, evs, evo, retV, Value.cells, Value.oneCell', setR, overR, fillL, zl, places, allSizes, heldC, ne_eq, Int.reduceLE, Int.reduceLT, Int.reduceEq, Int.reduceNe, Int.reduceToNat, Int.cast_ofNat_Int, Nat.reduceMul, Nat.reduceLeDiff, reduceIte, Nat.reduceEqDiff, Nat.reduceAdd, ↓reduceIte, Try.vcT, F, h.cell0, gets, vsD, if_true, if_false, Bool.false_eq_true,  hc1, hbk]
    refine Sep.rdSet 0 h rfl hc0 ?_
    clear h F
    intro w2 h
    (try simp only [nfD] at h); have F := h.facts; (try simp only [nfF, emp_fact, rds_fact, frm_fact, tab_fact, two_fact, inr_fact, ansX_fact] at F); try simp -dsimp only [↓vcA, vcB, vcD, ↓pureT_lenS, ↓iteT, ↓iteF, cond_true, cond_false, eq_self, argE, Env.get, Env.push, ev, evs, evo, retV, Value.cells, Value.oneCell', setR, overR, fillL, zl, places, allSizes, heldC, ne_eq, Int.reduceLE, Int.reduceLT, Int.reduceEq, Int.reduceNe, Int.reduceToNat, Int.cast_ofNat_Int, Nat.reduceMul, Nat.reduceLeDiff, reduceIte, Nat.reduceEqDiff, Nat.reduceAdd, ↓reduceIte, Try.vcT, F, h.cell0, gets, vsD, if_true, if_false, Bool.false_eq_true]
    exact ⟨_, [], close (by rw [hb]; rfl) h, (fun _ f => f), (fun q hq => by cases hq), rfl, rfl⟩
  | false =>
    rw [hb] at hc1 hbk
    (try simp only [nfD] at h); have F := h.facts; (try simp only [nfF, emp_fact, rds_fact, frm_fact, tab_fact, two_fact, inr_fact, ansX_fact] at F); try simp -dsimp only [↓vcA, vcB, vcD, ↓pureT_lenS, ↓iteT, ↓iteF, cond_true, cond_false, eq_self, argE, Env.get, Env.push, ev, evs, evo, retV, Value.cells, Value.oneCell', setR, overR, fillL, zl, places, allSizes, heldC, ne_eq, Int.reduceLE, Int.reduceLT, Int.reduceEq, Int.reduceNe, Int.reduceToNat, Int.cast_ofNat_Int, Nat.reduceMul, Nat.reduceLeDiff, reduceIte, Nat.reduceEqDiff, Nat.reduceAdd, ↓reduceIte, Try.vcT, F, h.cell0, gets, vsD, if_true, if_false, Bool.false_eq_true,  hc1, hbk]
    refine Sep.rdSet 0 h rfl hc0 ?_
    clear h F
    intro w2 h
    (try simp only [nfD] at h); have F := h.facts; (try simp only [nfF, emp_fact, rds_fact, frm_fact, tab_fact, two_fact, inr_fact, ansX_fact] at F); try simp -dsimp only [↓vcA, vcB, vcD, ↓pureT_lenS, ↓iteT, ↓iteF, cond_true, cond_false, eq_self, argE, Env.get, Env.push, ev, evs, evo, retV, Value.cells, Value.oneCell', setR, overR, fillL, zl, places, allSizes, heldC, ne_eq, Int.reduceLE, Int.reduceLT, Int.reduceEq, Int.reduceNe, Int.reduceToNat, Int.cast_ofNat_Int, Nat.reduceMul, Nat.reduceLeDiff, reduceIte, Nat.reduceEqDiff, Nat.reduceAdd, ↓reduceIte, Try.vcT, F, h.cell0, gets, vsD, if_true, if_false, Bool.false_eq_true]
    exact ⟨_, [], close (by rw [hb]; rfl) h, (fun _ f => f), (fun q hq => by cases hq), rfl, rfl⟩
theorem Sep.more (i : Nat) {w0 w : World} {S : Nat → Prop} {M : List Res} {K : Value → World → Prop} {p : Nat} {s : R8} {Z : Nat → Prop} (h : Sep w0 S M w) (hi : M[i]? = some (rdr 85 p s Z))
    (hk : ∀ w1, Sep w0 S (M.set i (rdr 85 p (moreS s) Z)) w1 → K (.bool (decide (s.numV 1 = 1))) w1) :
    callsK Try.prog 133 [.pointer (some ⟨p, 0, Option.none⟩)].toArray w K := by
  refine Sep.call1 i h hi (fun A _ hA => more133 p s Z w hA) ?_
  rintro v r' N w1 ⟨rfl, rfl, rfl⟩ h
  rw [List.append_nil] at h
  exact hk w1 h
end Go.Proofs.Ytnhgjgoglmadnaa
namespace Go.Proofs.Ytnhgjgoglmadnaa
open Go.RowKit
set_option maxRecDepth 100000
set_option linter.unusedSimpArgs false
set_option linter.unusedVariables false
set_option pp.maxSteps 1500
set_option pp.deepTerms.threshold 8

theorem seqRect {d : Nat} (a0 a1 a2 a3 c0 c1 c2 c3 : Int) (w : World) : (Op.equalIn (d + 2) 109 (.agg #[.int .i64 a0, .int .i64 a1, .int .i64 a2, .int .i64 a3]) (.agg #[.int .i64 c0, .int .i64 c1, .int .i64 c2, .int .i64 c3])).run Try.prog w = .ok (decide ([a0, a1, a2, a3] = [c0, c1, c2, c3])) w := by
  have e : decide ([a0, a1, a2, a3] = [c0, c1, c2, c3]) = _ := rfl
  have h := equalIn_sig (P := Try.prog) (d := d + 1) (t := 109) (xs := #[.int .i64 a0, .int .i64 a1, .int .i64 a2, .int .i64 a3]) (ys := #[.int .i64 c0, .int .i64 c1, .int .i64 c2, .int .i64 c3]) (w := w) (by kernel_rfl) (by kernel_rfl) (l := [(true, 3, 0), (true, 3, 1), (true, 3, 2), (true, 3, 3)]) (by kernel_rfl) (eqF_int (show Try.prog.underlying 3 = some (.int .i64) by kernel_rfl) rfl rfl (eqF_int (show Try.prog.underlying 3 = some (.int .i64) by kernel_rfl) rfl rfl (eqF_int (show Try.prog.underlying 3 = some (.int .i64) by kernel_rfl) rfl rfl (eqF_int (show Try.prog.underlying 3 = some (.int .i64) by kernel_rfl) rfl rfl eqF_nil))))
  rw [h]
  simp [Bool.decide_and, Bool.and_assoc]

theorem seqRq {d : Nat} (a0 a1 a2 a3 a4 a5 a6 a7 a8 a9 a10 a11 a12 a13 a14 a15 a16 a17 a18 a19 a20 a21 a22 a23 a24 a25 c0 c1 c2 c3 c4 c5 c6 c7 c8 c9 c10 c11 c12 c13 c14 c15 c16 c17 c18 c19 c20 c21 c22 c23 c24 c25 : Int) (w : World) : (Op.equalIn (d + 4) 111 (.agg #[.int .i64 a0, .int .i64 a1, .int .i64 a2, .int .i64 a3, .int .i64 a4, .int .i64 a5, .int .i64 a6, .int .i64 a7, .int .i64 a8, .int .i64 a9, .int .i64 a10, .int .i64 a11, .int .i64 a12, .int .i64 a13, .int .i64 a14, .int .i64 a15, .int .i64 a16, .int .i64 a17, .int .i64 a18, .int .i64 a19, .int .i64 a20, .int .i64 a21, .int .i64 a22, .int .i64 a23, .int .i64 a24, .int .i64 a25]) (.agg #[.int .i64 c0, .int .i64 c1, .int .i64 c2, .int .i64 c3, .int .i64 c4, .int .i64 c5, .int .i64 c6, .int .i64 c7, .int .i64 c8, .int .i64 c9, .int .i64 c10, .int .i64 c11, .int .i64 c12, .int .i64 c13, .int .i64 c14, .int .i64 c15, .int .i64 c16, .int .i64 c17, .int .i64 c18, .int .i64 c19, .int .i64 c20, .int .i64 c21, .int .i64 c22, .int .i64 c23, .int .i64 c24, .int .i64 c25])).run Try.prog w = .ok (decide ([a0, a1, a2, a3, a4, a5, a6, a7, a8, a9, a10, a11, a12, a13, a14, a15, a16, a17, a18, a19, a20, a21, a22, a23, a24, a25] = [c0, c1, c2, c3, c4, c5, c6, c7, c8, c9, c10, c11, c12, c13, c14, c15, c16, c17, c18, c19, c20, c21, c22, c23, c24, c25])) w := by
  have e : decide ([a0, a1, a2, a3, a4, a5, a6, a7, a8, a9, a10, a11, a12, a13, a14, a15, a16, a17, a18, a19, a20, a21, a22, a23, a24, a25] = [c0, c1, c2, c3, c4, c5, c6, c7, c8, c9, c10, c11, c12, c13, c14, c15, c16, c17, c18, c19, c20, c21, c22, c23, c24, c25]) = _ := rfl
  have h := equalIn_sig (P := Try.prog) (d := d + 3) (t := 111) (xs := #[.int .i64 a0, .int .i64 a1, .int .i64 a2, .int .i64 a3, .int .i64 a4, .int .i64 a5, .int .i64 a6, .int .i64 a7, .int .i64 a8, .int .i64 a9, .int .i64 a10, .int .i64 a11, .int .i64 a12, .int .i64 a13, .int .i64 a14, .int .i64 a15, .int .i64 a16, .int .i64 a17, .int .i64 a18, .int .i64 a19, .int .i64 a20, .int .i64 a21, .int .i64 a22, .int .i64 a23, .int .i64 a24, .int .i64 a25]) (ys := #[.int .i64 c0, .int .i64 c1, .int .i64 c2, .int .i64 c3, .int .i64 c4, .int .i64 c5, .int .i64 c6, .int .i64 c7, .int .i64 c8, .int .i64 c9, .int .i64 c10, .int .i64 c11, .int .i64 c12, .int .i64 c13, .int .i64 c14, .int .i64 c15, .int .i64 c16, .int .i64 c17, .int .i64 c18, .int .i64 c19, .int .i64 c20, .int .i64 c21, .int .i64 c22, .int .i64 c23, .int .i64 c24, .int .i64 c25]) (w := w) (by kernel_rfl) (by kernel_rfl) (l := [(true, 3, 0), (true, 37, 1), (true, 37, 3), (true, 39, 5), (true, 3, 11), (true, 3, 12), (true, 3, 13), (true, 3, 14), (true, 109, 15), (true, 3, 19), (true, 3, 20), (true, 3, 21), (true, 3, 22), (true, 3, 23), (true, 3, 24), (true, 3, 25)]) (by kernel_rfl) (eqF_int (show Try.prog.underlying 3 = some (.int .i64) by kernel_rfl) rfl rfl (eqF_agg (n := 2) (by kernel_rfl) (by kernel_rfl) (seqPt (d := d + 1) a1 a2 c1 c2 w) (eqF_agg (n := 2) (by kernel_rfl) (by kernel_rfl) (seqPt (d := d + 1) a3 a4 c3 c4 w) (eqF_agg (n := 6) (by kernel_rfl) (by kernel_rfl) (seqTri (d := d) a5 a6 a7 a8 a9 a10 c5 c6 c7 c8 c9 c10 w) (eqF_int (show Try.prog.underlying 3 = some (.int .i64) by kernel_rfl) rfl rfl (eqF_int (show Try.prog.underlying 3 = some (.int .i64) by kernel_rfl) rfl rfl (eqF_int (show Try.prog.underlying 3 = some (.int .i64) by kernel_rfl) rfl rfl (eqF_int (show Try.prog.underlying 3 = some (.int .i64) by kernel_rfl) rfl rfl (eqF_agg (n := 4) (by kernel_rfl) (by kernel_rfl) (seqRect (d := d + 1) a15 a16 a17 a18 c15 c16 c17 c18 w) (eqF_int (show Try.prog.underlying 3 = some (.int .i64) by kernel_rfl) rfl rfl (eqF_int (show Try.prog.underlying 3 = some (.int .i64) by kernel_rfl) rfl rfl (eqF_int (show Try.prog.underlying 3 = some (.int .i64) by kernel_rfl) rfl rfl (eqF_int (show Try.prog.underlying 3 = some (.int .i64) by kernel_rfl) rfl rfl (eqF_int (show Try.prog.underlying 3 = some (.int .i64) by kernel_rfl) rfl rfl (eqF_int (show Try.prog.underlying 3 = some (.int .i64) by kernel_rfl) rfl rfl (eqF_int (show Try.prog.underlying 3 = some (.int .i64) by kernel_rfl) rfl rfl eqF_nil))))))))))))))))
  rw [h]
  simp [Bool.decide_and, Bool.and_assoc]

def AnV.few (a : AnV) : Bool := decide (a.p.length ≤ 20) && (decide (a.ca.length ≤ 20) && decide (a.la.length ≤ 30))
theorem few64 (a : AnV) (t : AnS) (w : World) (R : AnR w a t) : Calls Try.prog 64 [.agg (a.cells t).toArray].toArray w (RetK fun r w' => r = .bool a.few ∧ Chg (fun _ => False) w w') := by
  obtain ⟨ap, cp, ep⟩ := R.p.shape
  obtain ⟨aca, cca, eca⟩ := R.ca.shape
  obtain ⟨ala, cla, ela⟩ := R.la.shape
  have h := Sep.nil w
  refine walk Try.func64 rfl (by kernel_rfl) (by rw [Try.nt64]; simp) ?_
  (try simp only [nfD] at h); have F := h.facts; (try simp only [nfF, emp_fact, rds_fact, frm_fact, tab_fact, two_fact, inr_fact, ansX_fact] at F)
  simp -dsimp only [↓vcA, vcB, vcD, ↓pureT_lenS, ↓iteT, ↓iteF, cond_true, cond_false, eq_self, argE, Env.get, Env.push, ev, evs, evo, retV, Value.cells, Value.oneCell', setR, overR, fillL, zl, places, allSizes, heldC, ne_eq, Int.reduceLE, Int.reduceLT, Int.reduceEq, Int.reduceNe, Int.reduceToNat, Int.cast_ofNat_Int, Nat.reduceMul, Nat.reduceLeDiff, reduceIte, Nat.reduceEqDiff, Nat.reduceAdd, ↓reduceIte, Try.vcT, AnV.cells, ep, eca, ela]
  refine h.new ?_
  clear h F
  intro w1 b1 h
  by_cases h1 : (a.p.length : Int) ≤ 20
  case neg =>
    (try simp only [nfD] at h); have F := h.facts; (try simp only [nfF, emp_fact, rds_fact, frm_fact, tab_fact, two_fact, inr_fact, ansX_fact] at F); try simp -dsimp only [↓vcA, vcB, vcD, ↓pureT_lenS, ↓iteT, ↓iteF, cond_true, cond_false, eq_self, argE, Env.get, Env.push, ev, evs, evo, retV, Value.cells, Value.oneCell', setR, overR, fillL, zl, places, allSizes, heldC, ne_eq, Int.reduceLE, Int.reduceLT, Int.reduceEq, Int.reduceNe, Int.reduceToNat, Int.cast_ofNat_Int, Nat.reduceMul, Nat.reduceLeDiff, reduceIte, Nat.reduceEqDiff, Nat.reduceAdd, ↓reduceIte, Try.vcT, F, h.cell0, gets, vsD, if_true, if_false, Bool.false_eq_true,  decide_eq_false h1]
    exact ⟨by unfold AnV.few; rw [decide_eq_false (show ¬ a.p.length ≤ 20 by omega)]; rfl, h.done⟩
  by_cases h2 : (a.ca.length : Int) ≤ 20
  case neg =>
    (try simp only [nfD] at h); have F := h.facts; (try simp only [nfF, emp_fact, rds_fact, frm_fact, tab_fact, two_fact, inr_fact, ansX_fact] at F); try simp -dsimp only [↓vcA, vcB, vcD, ↓pureT_lenS, ↓iteT, ↓iteF, cond_true, cond_false, eq_self, argE, Env.get, Env.push, ev, evs, evo, retV, Value.cells, Value.oneCell', setR, overR, fillL, zl, places, allSizes, heldC, ne_eq, Int.reduceLE, Int.reduceLT, Int.reduceEq, Int.reduceNe, Int.reduceToNat, Int.cast_ofNat_Int, Nat.reduceMul, Nat.reduceLeDiff, reduceIte, Nat.reduceEqDiff, Nat.reduceAdd, ↓reduceIte, Try.vcT, F, h.cell0, gets, vsD, if_true, if_false, Bool.false_eq_true,  decide_eq_true h1, decide_eq_false h2]
    exact ⟨by unfold AnV.few; rw [decide_eq_false (show ¬ a.ca.length ≤ 20 by omega)]; simp, h.done⟩
  by_cases h3 : (a.la.length : Int) ≤ 30
  case neg =>
    (try simp only [nfD] at h); have F := h.facts; (try simp only [nfF, emp_fact, rds_fact, frm_fact, tab_fact, two_fact, inr_fact, ansX_fact] at F); try simp -dsimp only [↓vcA, vcB, vcD, ↓pureT_lenS, ↓iteT, ↓iteF, cond_true, cond_false, eq_self, argE, Env.get, Env.push, ev, evs, evo, retV, Value.cells, Value.oneCell', setR, overR, fillL, zl, places, allSizes, heldC, ne_eq, Int.reduceLE, Int.reduceLT, Int.reduceEq, Int.reduceNe, Int.reduceToNat, Int.cast_ofNat_Int, Nat.reduceMul, Nat.reduceLeDiff, reduceIte, Nat.reduceEqDiff, Nat.reduceAdd, ↓reduceIte, Try.vcT, F, h.cell0, gets, vsD, if_true, if_false, Bool.false_eq_true,  decide_eq_true h1, decide_eq_true h2, decide_eq_false h3]
    exact ⟨by unfold AnV.few; rw [decide_eq_false (show ¬ a.la.length ≤ 30 by omega)]; simp, h.done⟩
  (try simp only [nfD] at h); have F := h.facts; (try simp only [nfF, emp_fact, rds_fact, frm_fact, tab_fact, two_fact, inr_fact, ansX_fact] at F); try simp -dsimp only [↓vcA, vcB, vcD, ↓pureT_lenS, ↓iteT, ↓iteF, cond_true, cond_false, eq_self, argE, Env.get, Env.push, ev, evs, evo, retV, Value.cells, Value.oneCell', setR, overR, fillL, zl, places, allSizes, heldC, ne_eq, Int.reduceLE, Int.reduceLT, Int.reduceEq, Int.reduceNe, Int.reduceToNat, Int.cast_ofNat_Int, Nat.reduceMul, Nat.reduceLeDiff, reduceIte, Nat.reduceEqDiff, Nat.reduceAdd, ↓reduceIte, Try.vcT, F, h.cell0, gets, vsD, if_true, if_false, Bool.false_eq_true,  decide_eq_true h1, decide_eq_true h2, decide_eq_true h3]
  exact ⟨by unfold AnV.few; rw [decide_eq_true (show a.p.length ≤ 20 by omega), decide_eq_true (show a.ca.length ≤ 20 by omega), decide_eq_true (show a.la.length ≤ 30 by omega)]; rfl, h.done⟩
end Go.Proofs.Ytnhgjgoglmadnaa
namespace Go.Proofs.Ytnhgjgoglmadnaa
open Go.RowKit
set_option maxRecDepth 100000
set_option linter.unusedSimpArgs false
set_option linter.unusedVariables false
set_option pp.maxSteps 1500
set_option pp.deepTerms.threshold 8

theorem ite_stp {k : Nat} {s a b : W8} {p : Prop} [Decidable p] (h : Stp k s a) (g : Stp k s b) : Stp k s (if p then a else b) := by
  by_cases e : p
  · rw [if_pos e]; exact h
  · rw [if_neg e]; exact g
theorem put1_stp (r : Rq) (s : W8) (c : Nat) : Stp 48 s (put1 r s c) := by
  unfold put1
  exact (ite_stp ((Stp.pt s _ _).mono (by omega)) (ite_stp ((Stp.pt s _ _).mono (by omega)) (ite_stp (Stp.tri s _ _ _ _ _ _) (ite_stp ((Stp.num s _ _).mono (by omega)) (ite_stp ((Stp.num s _ _).mono (by omega)) (ite_stp ((Stp.num s _ _).mono (by omega)) (ite_stp ((Stp.num s _ _).mono (by omega)) (ite_stp (((((Stp.num s r.x0 3).trans (Stp.num _ r.y0 3)).trans (Stp.num _ r.x1 3)).trans (Stp.num _ r.y1 3)).mono (by omega)) (ite_stp ((Stp.num s _ _).mono (by omega)) (ite_stp ((Stp.num s _ _).mono (by omega)) (ite_stp ((Stp.num s _ _).mono (by omega)) (ite_stp ((Stp.num s _ _).mono (by omega)) (ite_stp ((Stp.num s _ _).mono (by omega)) (ite_stp ((Stp.num s _ _).mono (by omega)) (ite_stp ((Stp.num s _ _).mono (by omega)) ((Stp.refl s).mono (by omega)))))))))))))))))
theorem puts_stp (r : Rq) : ∀ (L : List Nat) (s : W8), Stp (L.length * 48) s (L.foldl (put1 r) s)
  | [], s => (Stp.refl s).mono (by omega)
  | c :: L, s => ((put1_stp r s c).trans (puts_stp r L _)).mono (by simp only [List.length_cons, Nat.succ_mul]; omega)
theorem rqP_byt (r : Rq) : Byt (rqP r).l := ((Stp.num (⟨[], false⟩ : W8) r.k 1).trans (puts_stp r _ _)).1 Byt.nil
def qW : Rq := {Rq.zero with k := 1, px := 1, py := 2}
def aW : AnV := {AnV.zero with la := [7]}
def aW1 : AnV := {AnV.zero with code := 1}
theorem qW_ok : Ok64 qW.vals := by
  simp only [qW, Rq.zero, Rq.vals, Ok64, List.forall_mem_cons, List.not_mem_nil, false_implies, implies_true, and_true]; omega
theorem qW_1 : rqPB qW = [1, 0, 0, 1, 0, 0, 2] := by decide +kernel
theorem qW_2 : rqPOk qW = true := by decide +kernel
theorem qW_3 : askRV [1, 0, 0, 1, 0, 0, 2] = qW := by decide +kernel
theorem qW_4 : askROk [1, 0, 0, 1, 0, 0, 2] = true := by decide +kernel
theorem qZ_1 : rqPB Rq.zero = [] := by decide +kernel
theorem qZ_2 : rqPOk Rq.zero = false := by decide +kernel
theorem qZ_3 : askRV [] = Rq.zero := by decide +kernel
theorem aW_1 : ansB 15 aW = [0, 1, 0, 7] := by decide +kernel
theorem aW_2 : ansOk 15 aW = true := by decide +kernel
theorem aW_3 : toldV 15 [0, 1, 0, 7] = aW := by decide +kernel
theorem aW_4 : toldOk 15 [0, 1, 0, 7] = true := by decide +kernel
theorem aW1_1 : ansB 3 aW1 = [1] := by decide +kernel
theorem aW1_2 : ansOk 3 aW1 = true := by decide +kernel
theorem aW_ok : aW.Ok := ⟨by simp [aW, AnV.zero], by simp [aW, AnV.zero], by simp [aW, AnV.zero], fun x hx => (by cases hx), fun x hx => (by cases hx), fun x hx => by
  simp only [aW, List.mem_cons, List.not_mem_nil, or_false] at hx; subst hx; omega⟩
theorem aW1_ok : aW1.Ok := ⟨by simp [aW1, AnV.zero], by simp [aW1, AnV.zero], by simp [aW1, AnV.zero], fun x hx => (by cases hx), fun x hx => (by cases hx), fun x hx => (by cases hx)⟩
theorem blk_ints {w0 w : World} {S : Nat → Prop} {M : List Res} {b : Nat} {ns : List Int} (h : Sep w0 S M w) (k : Nat) (hk : M[k]? = some (blk b 3 (ns.map (Value.int .i64)))) (hn : 0 < ns.length ∧ ns.length ≤ 1000) : IntsR w (.slice (some ⟨b, 0, none⟩) ns.length ns.length) ns := by
  obtain ⟨C, ⟨c1, _⟩, _, _⟩ := h.at hk
  exact ⟨by simp, fun u hu => (by obtain ⟨x, _, rfl⟩ := List.mem_map.1 hu; rfl), _, _, rfl, Nat.le_refl _, by simp only [maxLen]; omega, fun e => by (cases e), fun _ => ⟨b, 0, rfl, fun j u hj => by rw [cell_of_row w b _ _ _ _ c1, Nat.zero_add]; simpa using hj⟩⟩
set_option maxHeartbeats 4000000 in
theorem awake65 (w : World) : Calls Try.prog 65 [].toArray w (RetK fun r w' => r = .bool true ∧ Chg (fun _ => False) w w') := by
  have h := Sep.nil w
  refine walk Try.func65 rfl (by kernel_rfl) (by rw [Try.nt65]; simp) ?_
  (try simp only [nfD] at h); have F := h.facts; (try simp only [nfF, emp_fact, rds_fact, frm_fact, tab_fact, two_fact, inr_fact, ansX_fact] at F)
  simp -dsimp only [↓vcA, vcB, vcD, ↓pureT_lenS, ↓iteT, ↓iteF, cond_true, cond_false, eq_self, argE, Env.get, Env.push, ev, evs, evo, retV, Value.cells, Value.oneCell', setR, overR, fillL, zl, places, allSizes, heldC, ne_eq, Int.reduceLE, Int.reduceLT, Int.reduceEq, Int.reduceNe, Int.reduceToNat, Int.cast_ofNat_Int, Nat.reduceMul, Nat.reduceLeDiff, reduceIte, Nat.reduceEqDiff, Nat.reduceAdd, ↓reduceIte, Try.vcT]
  refine Sep.callN h (request66 qW w qW_ok (rqP_byt _)) ?_
  clear h F
  intro e N w1 hQ h
  rw [qW_1, qW_2] at hQ
  obtain ⟨a1, c1, rfl, rfl⟩ := hQ
  (try simp only [nfD] at h); have F := h.facts; (try simp only [nfF, emp_fact, rds_fact, frm_fact, tab_fact, two_fact, inr_fact, ansX_fact] at F); try simp -dsimp only [↓vcA, vcB, vcD, ↓pureT_lenS, ↓iteT, ↓iteF, cond_true, cond_false, eq_self, argE, Env.get, Env.push, ev, evs, evo, retV, Value.cells, Value.oneCell', setR, overR, fillL, zl, places, allSizes, heldC, ne_eq, Int.reduceLE, Int.reduceLT, Int.reduceEq, Int.reduceNe, Int.reduceToNat, Int.cast_ofNat_Int, Nat.reduceMul, Nat.reduceLeDiff, reduceIte, Nat.reduceEqDiff, Nat.reduceAdd, ↓reduceIte, Try.vcT, F, h.cell0, gets, vsD, if_true, if_false, Bool.false_eq_true]
  refine Sep.callp h (ask68 _ [1, 0, 0, 1, 0, 0, 2] _ F.1 (by simp [Byt]) (by simp)) ?_
  clear h F
  intro w2 h
  rw [qW_3, qW_4]
  (try simp only [nfD] at h); have F := h.facts; (try simp only [nfF, emp_fact, rds_fact, frm_fact, tab_fact, two_fact, inr_fact, ansX_fact] at F); try simp -dsimp only [↓vcA, vcB, vcD, ↓pureT_lenS, ↓iteT, ↓iteF, cond_true, cond_false, eq_self, argE, Env.get, Env.push, ev, evs, evo, retV, Value.cells, Value.oneCell', setR, overR, fillL, zl, places, allSizes, heldC, ne_eq, Int.reduceLE, Int.reduceLT, Int.reduceEq, Int.reduceNe, Int.reduceToNat, Int.cast_ofNat_Int, Nat.reduceMul, Nat.reduceLeDiff, reduceIte, Nat.reduceEqDiff, Nat.reduceAdd, ↓reduceIte, Try.vcT, F, h.cell0, gets, vsD, if_true, if_false, Bool.false_eq_true,  Rq.cells, qW, Rq.zero]
  refine h.new ?_
  clear h F
  intro w3 b3 h
  (try simp only [nfD] at h); have F := h.facts; (try simp only [nfF, emp_fact, rds_fact, frm_fact, tab_fact, two_fact, inr_fact, ansX_fact] at F); try simp -dsimp only [↓vcA, vcB, vcD, ↓pureT_lenS, ↓iteT, ↓iteF, cond_true, cond_false, eq_self, argE, Env.get, Env.push, ev, evs, evo, retV, Value.cells, Value.oneCell', setR, overR, fillL, zl, places, allSizes, heldC, ne_eq, Int.reduceLE, Int.reduceLT, Int.reduceEq, Int.reduceNe, Int.reduceToNat, Int.cast_ofNat_Int, Nat.reduceMul, Nat.reduceLeDiff, reduceIte, Nat.reduceEqDiff, Nat.reduceAdd, ↓reduceIte, Try.vcT, F, h.cell0, gets, vsD, if_true, if_false, Bool.false_eq_true]
  refine Sep.put 1 h rfl ?_
  clear h F
  intro w4 h
  (try simp only [nfD] at h); have F := h.facts; (try simp only [nfF, emp_fact, rds_fact, frm_fact, tab_fact, two_fact, inr_fact, ansX_fact] at F); try simp -dsimp only [↓vcA, vcB, vcD, ↓pureT_lenS, ↓iteT, ↓iteF, cond_true, cond_false, eq_self, argE, Env.get, Env.push, ev, evs, evo, retV, Value.cells, Value.oneCell', setR, overR, fillL, zl, places, allSizes, heldC, ne_eq, Int.reduceLE, Int.reduceLT, Int.reduceEq, Int.reduceNe, Int.reduceToNat, Int.cast_ofNat_Int, Nat.reduceMul, Nat.reduceLeDiff, reduceIte, Nat.reduceEqDiff, Nat.reduceAdd, ↓reduceIte, Try.vcT, F, h.cell0, gets, vsD, if_true, if_false, Bool.false_eq_true]
  refine Sep.callp h (ask68 _ [] _ (Rd.nil _) Byt.nil (by simp)) ?_
  clear h F
  intro w5 h
  rw [qZ_3, askROk_nil]
  (try simp only [nfD] at h); have F := h.facts; (try simp only [nfF, emp_fact, rds_fact, frm_fact, tab_fact, two_fact, inr_fact, ansX_fact] at F); try simp -dsimp only [↓vcA, vcB, vcD, ↓pureT_lenS, ↓iteT, ↓iteF, cond_true, cond_false, eq_self, argE, Env.get, Env.push, ev, evs, evo, retV, Value.cells, Value.oneCell', setR, overR, fillL, zl, places, allSizes, heldC, ne_eq, Int.reduceLE, Int.reduceLT, Int.reduceEq, Int.reduceNe, Int.reduceToNat, Int.cast_ofNat_Int, Nat.reduceMul, Nat.reduceLeDiff, reduceIte, Nat.reduceEqDiff, Nat.reduceAdd, ↓reduceIte, Try.vcT, F, h.cell0, gets, vsD, if_true, if_false, Bool.false_eq_true,  Rq.cells, Rq.zero]
  refine h.new ?_
  clear h F
  intro w6 b6 h
  (try simp only [nfD] at h); have F := h.facts; (try simp only [nfF, emp_fact, rds_fact, frm_fact, tab_fact, two_fact, inr_fact, ansX_fact] at F); try simp -dsimp only [↓vcA, vcB, vcD, ↓pureT_lenS, ↓iteT, ↓iteF, cond_true, cond_false, eq_self, argE, Env.get, Env.push, ev, evs, evo, retV, Value.cells, Value.oneCell', setR, overR, fillL, zl, places, allSizes, heldC, ne_eq, Int.reduceLE, Int.reduceLT, Int.reduceEq, Int.reduceNe, Int.reduceToNat, Int.cast_ofNat_Int, Nat.reduceMul, Nat.reduceLeDiff, reduceIte, Nat.reduceEqDiff, Nat.reduceAdd, ↓reduceIte, Try.vcT, F, h.cell0, gets, vsD, if_true, if_false, Bool.false_eq_true]
  refine Sep.put 2 h rfl ?_
  clear h F
  intro w7 h
  (try simp only [nfD] at h); have F := h.facts; (try simp only [nfF, emp_fact, rds_fact, frm_fact, tab_fact, two_fact, inr_fact, ansX_fact] at F); try simp -dsimp only [↓vcA, vcB, vcD, ↓pureT_lenS, ↓iteT, ↓iteF, cond_true, cond_false, eq_self, argE, Env.get, Env.push, ev, evs, evo, retV, Value.cells, Value.oneCell', setR, overR, fillL, zl, places, allSizes, heldC, ne_eq, Int.reduceLE, Int.reduceLT, Int.reduceEq, Int.reduceNe, Int.reduceToNat, Int.cast_ofNat_Int, Nat.reduceMul, Nat.reduceLeDiff, reduceIte, Nat.reduceEqDiff, Nat.reduceAdd, ↓reduceIte, Try.vcT, F, h.cell0, gets, vsD, if_true, if_false, Bool.false_eq_true]
  refine h.new ?_
  clear h F
  intro w8 b8 h
  (try simp only [nfD] at h); have F := h.facts; (try simp only [nfF, emp_fact, rds_fact, frm_fact, tab_fact, two_fact, inr_fact, ansX_fact] at F); try simp -dsimp only [↓vcA, vcB, vcD, ↓pureT_lenS, ↓iteT, ↓iteF, cond_true, cond_false, eq_self, argE, Env.get, Env.push, ev, evs, evo, retV, Value.cells, Value.oneCell', setR, overR, fillL, zl, places, allSizes, heldC, ne_eq, Int.reduceLE, Int.reduceLT, Int.reduceEq, Int.reduceNe, Int.reduceToNat, Int.cast_ofNat_Int, Nat.reduceMul, Nat.reduceLeDiff, reduceIte, Nat.reduceEqDiff, Nat.reduceAdd, ↓reduceIte, Try.vcT, F, h.cell0, gets, vsD, if_true, if_false, Bool.false_eq_true]
  refine Sep.callN h (answer70 15 aW ⟨.slice none 0 0, .slice none 0 0, .slice (some ⟨b8, 0, none⟩) 1 1⟩ _ ⟨Tab.nil 9 _, Tab.nil 9 _, blk_ints (ns := [7]) h 3 rfl (by decide)⟩ aW_ok (by decide)) ?_
  clear h F
  intro e N w9 hQ h
  rw [aW_1, aW_2] at hQ
  obtain ⟨a9, c9, rfl, rfl⟩ := hQ
  (try simp only [nfD] at h); have F := h.facts; (try simp only [nfF, emp_fact, rds_fact, frm_fact, tab_fact, two_fact, inr_fact, ansX_fact] at F); try simp -dsimp only [↓vcA, vcB, vcD, ↓pureT_lenS, ↓iteT, ↓iteF, cond_true, cond_false, eq_self, argE, Env.get, Env.push, ev, evs, evo, retV, Value.cells, Value.oneCell', setR, overR, fillL, zl, places, allSizes, heldC, ne_eq, Int.reduceLE, Int.reduceLT, Int.reduceEq, Int.reduceNe, Int.reduceToNat, Int.cast_ofNat_Int, Nat.reduceMul, Nat.reduceLeDiff, reduceIte, Nat.reduceEqDiff, Nat.reduceAdd, ↓reduceIte, Try.vcT, F, h.cell0, gets, vsD, if_true, if_false, Bool.false_eq_true]
  refine Sep.callN h (told72 15 _ [0, 1, 0, 7] _ F.2.2.2.2.1 (by simp [Byt]) (by simp)) ?_
  clear h F
  intro e N w10 hQ h
  rw [aW_3, aW_4] at hQ
  obtain ⟨t, rfl, rfl⟩ := hQ
  (try simp only [nfD] at h); have F := h.facts; (try simp only [nfF, emp_fact, rds_fact, frm_fact, tab_fact, two_fact, inr_fact, ansX_fact] at F)
  have R := F.2.2.2.2.2.1
  obtain ⟨tp, tca, tla⟩ := t
  obtain ⟨Ap, Cp, ep⟩ := R.p.shape
  obtain ⟨Aca, Cca, eca⟩ := R.ca.shape
  obtain ⟨Ala, Cla, ela⟩ := R.la.shape
  dsimp only [aW, AnV.zero, List.length_nil, List.length_cons] at ep eca ela
  subst ep eca ela
  (try simp only [nfD] at h); have F := h.facts; (try simp only [nfF, emp_fact, rds_fact, frm_fact, tab_fact, two_fact, inr_fact, ansX_fact] at F); try simp -dsimp only [↓vcA, vcB, vcD, ↓pureT_lenS, ↓iteT, ↓iteF, cond_true, cond_false, eq_self, argE, Env.get, Env.push, ev, evs, evo, retV, Value.cells, Value.oneCell', setR, overR, fillL, zl, places, allSizes, heldC, ne_eq, Int.reduceLE, Int.reduceLT, Int.reduceEq, Int.reduceNe, Int.reduceToNat, Int.cast_ofNat_Int, Nat.reduceMul, Nat.reduceLeDiff, reduceIte, Nat.reduceEqDiff, Nat.reduceAdd, ↓reduceIte, Try.vcT, F, h.cell0, gets, vsD, if_true, if_false, Bool.false_eq_true,  AnV.cells, aW, AnV.zero]
  refine h.new ?_
  clear h F
  intro w11 b11 h
  (try simp only [nfD] at h); have F := h.facts; (try simp only [nfF, emp_fact, rds_fact, frm_fact, tab_fact, two_fact, inr_fact, ansX_fact] at F); try simp -dsimp only [↓vcA, vcB, vcD, ↓pureT_lenS, ↓iteT, ↓iteF, cond_true, cond_false, eq_self, argE, Env.get, Env.push, ev, evs, evo, retV, Value.cells, Value.oneCell', setR, overR, fillL, zl, places, allSizes, heldC, ne_eq, Int.reduceLE, Int.reduceLT, Int.reduceEq, Int.reduceNe, Int.reduceToNat, Int.cast_ofNat_Int, Nat.reduceMul, Nat.reduceLeDiff, reduceIte, Nat.reduceEqDiff, Nat.reduceAdd, ↓reduceIte, Try.vcT, F, h.cell0, gets, vsD, if_true, if_false, Bool.false_eq_true]
  refine Sep.put 6 h rfl ?_
  clear h F
  intro w12 h
  (try simp only [nfD] at h); have F := h.facts; (try simp only [nfF, emp_fact, rds_fact, frm_fact, tab_fact, two_fact, inr_fact, ansX_fact] at F); try simp -dsimp only [↓vcA, vcB, vcD, ↓pureT_lenS, ↓iteT, ↓iteF, cond_true, cond_false, eq_self, argE, Env.get, Env.push, ev, evs, evo, retV, Value.cells, Value.oneCell', setR, overR, fillL, zl, places, allSizes, heldC, ne_eq, Int.reduceLE, Int.reduceLT, Int.reduceEq, Int.reduceNe, Int.reduceToNat, Int.cast_ofNat_Int, Nat.reduceMul, Nat.reduceLeDiff, reduceIte, Nat.reduceEqDiff, Nat.reduceAdd, ↓reduceIte, Try.vcT, F, h.cell0, gets, vsD, if_true, if_false, Bool.false_eq_true]
  refine Sep.callN h (answer70 3 aW1 AnS.zero _ ⟨Tab.nil 9 _, Tab.nil 9 _, (show IntsR _ (.slice none 0 0) [] from Row.nil 1 _)⟩ aW1_ok (by decide)) ?_
  clear h F
  intro e N w13 hQ h
  rw [aW1_1, aW1_2] at hQ
  obtain ⟨a13, c13, rfl, rfl⟩ := hQ
  (try simp only [nfD] at h); have F := h.facts; (try simp only [nfF, emp_fact, rds_fact, frm_fact, tab_fact, two_fact, inr_fact, ansX_fact] at F); try simp -dsimp only [↓vcA, vcB, vcD, ↓pureT_lenS, ↓iteT, ↓iteF, cond_true, cond_false, eq_self, argE, Env.get, Env.push, ev, evs, evo, retV, Value.cells, Value.oneCell', setR, overR, fillL, zl, places, allSizes, heldC, ne_eq, Int.reduceLE, Int.reduceLT, Int.reduceEq, Int.reduceNe, Int.reduceToNat, Int.cast_ofNat_Int, Nat.reduceMul, Nat.reduceLeDiff, reduceIte, Nat.reduceEqDiff, Nat.reduceAdd, ↓reduceIte, Try.vcT, F, h.cell0, gets, vsD, if_true, if_false, Bool.false_eq_true]
  refine Sep.callN h (request66 Rq.zero _ zero_ok (rqP_byt _)) ?_
  clear h F
  intro e N w14 hQ h
  rw [qZ_1, qZ_2] at hQ
  obtain ⟨a14, c14, rfl, rfl⟩ := hQ
  have s1 : ((strOfNums [1, 0, 0, 1, 0, 0, 2]).toList == (⟨#[1, 0, 0, 1, 0, 0, 2]⟩ : ByteArray).toList) = true := by rw [strLit]; decide
  have s2 : ((strOfNums [0, 1, 0, 7]).toList == (⟨#[0, 1, 0, 7]⟩ : ByteArray).toList) = true := by rw [strLit]; decide
  have s3 : ((strOfNums [1]).toList == (⟨#[1]⟩ : ByteArray).toList) = true := by rw [strLit]; decide
  (try simp only [nfD] at h); have F := h.facts; (try simp only [nfF, emp_fact, rds_fact, frm_fact, tab_fact, two_fact, inr_fact, ansX_fact] at F); try simp -dsimp only [↓vcA, vcB, vcD, ↓pureT_lenS, ↓iteT, ↓iteF, cond_true, cond_false, eq_self, argE, Env.get, Env.push, ev, evs, evo, retV, Value.cells, Value.oneCell', setR, overR, fillL, zl, places, allSizes, heldC, ne_eq, Int.reduceLE, Int.reduceLT, Int.reduceEq, Int.reduceNe, Int.reduceToNat, Int.cast_ofNat_Int, Nat.reduceMul, Nat.reduceLeDiff, reduceIte, Nat.reduceEqDiff, Nat.reduceAdd, ↓reduceIte, Try.vcT, F, h.cell0, gets, vsD, if_true, if_false, Bool.false_eq_true]
  refine str_rule F.1 ?_
  (try simp only [nfD] at h); have F := h.facts; (try simp only [nfF, emp_fact, rds_fact, frm_fact, tab_fact, two_fact, inr_fact, ansX_fact] at F); try simp -dsimp only [↓vcA, vcB, vcD, ↓pureT_lenS, ↓iteT, ↓iteF, cond_true, cond_false, eq_self, argE, Env.get, Env.push, ev, evs, evo, retV, Value.cells, Value.oneCell', setR, overR, fillL, zl, places, allSizes, heldC, ne_eq, Int.reduceLE, Int.reduceLT, Int.reduceEq, Int.reduceNe, Int.reduceToNat, Int.cast_ofNat_Int, Nat.reduceMul, Nat.reduceLeDiff, reduceIte, Nat.reduceEqDiff, Nat.reduceAdd, ↓reduceIte, Try.vcT, F, h.cell0, gets, vsD, if_true, if_false, Bool.false_eq_true,  s1, cellsAt]
  refine binK_eql_agg (by kernel_rfl) (fun w => seqRq (d := 9996) 1 1 2 0 0 0 0 0 0 0 0 0 0 0 0 0 0 0 0 0 0 0 0 0 0 0 1 1 2 0 0 0 0 0 0 0 0 0 0 0 0 0 0 0 0 0 0 0 0 0 0 0 w) ?_
  (try simp only [nfD] at h); have F := h.facts; (try simp only [nfF, emp_fact, rds_fact, frm_fact, tab_fact, two_fact, inr_fact, ansX_fact] at F); try simp -dsimp only [↓vcA, vcB, vcD, ↓pureT_lenS, ↓iteT, ↓iteF, cond_true, cond_false, eq_self, argE, Env.get, Env.push, ev, evs, evo, retV, Value.cells, Value.oneCell', setR, overR, fillL, zl, places, allSizes, heldC, ne_eq, Int.reduceLE, Int.reduceLT, Int.reduceEq, Int.reduceNe, Int.reduceToNat, Int.cast_ofNat_Int, Nat.reduceMul, Nat.reduceLeDiff, reduceIte, Nat.reduceEqDiff, Nat.reduceAdd, ↓reduceIte, Try.vcT, F, h.cell0, gets, vsD, if_true, if_false, Bool.false_eq_true,  decide_true, s2]
  refine str_rule F.2.2.2.2.1 ?_
  have R := F.2.2.2.2.2.1
  obtain ⟨b, o, rfl, hc⟩ := R.la.at (i := 0) (by decide)
  have hc : w14.cell? ⟨b, o, none⟩ = some (.int .i64 7) := hc
  (try simp only [nfD] at h); have F := h.facts; (try simp only [nfF, emp_fact, rds_fact, frm_fact, tab_fact, two_fact, inr_fact, ansX_fact] at F); try simp -dsimp only [↓vcA, vcB, vcD, ↓pureT_lenS, ↓iteT, ↓iteF, cond_true, cond_false, eq_self, argE, Env.get, Env.push, ev, evs, evo, retV, Value.cells, Value.oneCell', setR, overR, fillL, zl, places, allSizes, heldC, ne_eq, Int.reduceLE, Int.reduceLT, Int.reduceEq, Int.reduceNe, Int.reduceToNat, Int.cast_ofNat_Int, Nat.reduceMul, Nat.reduceLeDiff, reduceIte, Nat.reduceEqDiff, Nat.reduceAdd, ↓reduceIte, Try.vcT, F, h.cell0, gets, vsD, if_true, if_false, Bool.false_eq_true,  s2, hc, cellsAt]
  refine str_rule F.2.2.2.2.2.2.2.1 ?_
  (try simp only [nfD] at h); have F := h.facts; (try simp only [nfF, emp_fact, rds_fact, frm_fact, tab_fact, two_fact, inr_fact, ansX_fact] at F); try simp -dsimp only [↓vcA, vcB, vcD, ↓pureT_lenS, ↓iteT, ↓iteF, cond_true, cond_false, eq_self, argE, Env.get, Env.push, ev, evs, evo, retV, Value.cells, Value.oneCell', setR, overR, fillL, zl, places, allSizes, heldC, ne_eq, Int.reduceLE, Int.reduceLT, Int.reduceEq, Int.reduceNe, Int.reduceToNat, Int.cast_ofNat_Int, Nat.reduceMul, Nat.reduceLeDiff, reduceIte, Nat.reduceEqDiff, Nat.reduceAdd, ↓reduceIte, Try.vcT, F, h.cell0, gets, vsD, if_true, if_false, Bool.false_eq_true,  s3]
  exact h.done
end Go.Proofs.Ytnhgjgoglmadnaa
namespace Go.Proofs.Ytnhgjgoglmadnaa
open Go.RowKit
set_option maxRecDepth 100000
set_option linter.unusedSimpArgs false
set_option linter.unusedVariables false
set_option pp.maxSteps 1500
set_option pp.deepTerms.threshold 8

theorem num_one {c : Int} (hc : 0 ≤ c ∧ c ≤ 255) (s : W8) : s.num c 1 = ⟨s.l ++ [c], s.bad⟩ := by
  have hf : fits c 1 = true := by
    simp only [fits, decide_eq_true_eq]
    refine ⟨by omega, by omega, by omega, fun _ => ?_⟩
    have e : ((2 : Int) ^ (8 * (1 : Int)).toNat) = 256 := by decide
    rw [e]; omega
  have hb : be c 1 = [c] := by
    have : be c 1 = [c / 2 ^ 0 % 256] := rfl
    rw [this]
    have e : (2 : Int) ^ 0 = 1 := by decide
    rw [e]
    congr 1
    omega
  simp only [W8.num, hf, if_true]
  rw [show (1 : Int).toNat = 1 from rfl, hb]
def codeA (c : Int) : AnV := {AnV.zero with code := c}
theorem code_W (z : Int) (a : AnV) {c : Int} (hc : 1 ≤ c ∧ c ≤ 255) : writtenW z {a with code := c} = ⟨[c], false⟩ := by
  unfold writtenW
  rw [if_neg (show ¬ c = 0 by omega)]
  show (⟨[], false⟩ : W8).num c 1 = _
  rw [num_one (by omega)]; rfl
theorem code_told (z : Int) {c : Int} (hc : 1 ≤ c ∧ c ≤ 255) (l : List Int) : toldA z (c :: l) = (codeA c, ⟨l, false⟩) := by
  obtain ⟨e1, e2⟩ := one_read (x := c) (by omega) l
  unfold toldA
  rw [e1, e2, if_neg (show ¬ c = 0 by omega)]; rfl
theorem code_ok (z : Int) {c : Int} (hc : 1 ≤ c ∧ c ≤ 255) : toldOk z [c] = true ∧ toldV z [c] = codeA c := by
  have h1 : toldOk z [c] = true := by
    unfold toldOk writtenB
    rw [code_told z hc, show (codeA c) = {AnV.zero with code := c} from rfl, code_W z AnV.zero hc]
    simp [R8.done]
  refine ⟨h1, ?_⟩
  unfold toldV
  rw [if_pos h1, code_told z hc]
theorem code_more (z : Int) {c : Int} (hc : 1 ≤ c ∧ c ≤ 255) (x : Int) (l : List Int) : toldOk z (c :: x :: l) = false ∧ toldV z (c :: x :: l) = AnV.zero := by
  have h1 : toldOk z (c :: x :: l) = false := by
    unfold toldOk
    rw [code_told z hc]
    simp [R8.done]
  exact ⟨h1, by unfold toldV; rw [h1]; rfl⟩
theorem toldQ_bad {s : R8} (h : s.bad = true) (z : Int) : (toldQ s z).2.bad = true := by
  have hv : (s.numV 1).toNat = 0 := by rw [(num_bad h 1).1]; rfl
  have h1 := numS_bad s 1 h
  have hp : (sPc s).bad = true := by
    cases e : (sPc s).bad with
    | true => rfl
    | false =>
      have a := (num1_ok (s := (s.triS.numS 1).numS 2) e).1
      have b := (num2_ok a).1
      have c := (num1_ok b).1
      have d := (tri_ok c).1.1
      rw [h] at d; cases d
  unfold toldQ
  split
  · exact hp
  split
  · rw [hv]; exact numS_bad _ 1 h1
  split
  · rw [hv]; exact numS_bad _ 1 h1
  split
  · rw [hv]; exact h1
  split
  · exact h1
  split
  · exact (raw_bad (numS_bad s 4 h) 8).2
  · exact h
theorem nil_told (z : Int) : toldOk z [] = false ∧ toldV z [] = AnV.zero := by
  have h1 : toldOk z [] = false := by
    obtain ⟨e1, e2⟩ := (⟨[], false⟩ : R8).num_no 1 (.inr (.inr (.inr (by decide))))
    have : (toldA z []).2.bad = true := by
      unfold toldA
      rw [e1, e2, if_pos rfl]
      exact toldQ_bad rfl z
    unfold toldOk
    simp [R8.done, this]
  exact ⟨h1, by unfold toldV; rw [h1]; rfl⟩
theorem few_room {a : AnV} (h : a.few = true) : a.room ≤ 5000 := by
  simp only [AnV.few, Bool.and_eq_true, decide_eq_true_eq] at h
  unfold AnV.room; omega
end Go.Proofs.Ytnhgjgoglmadnaa
namespace Go.Proofs.Ytnhgjgoglmadnaa
open Go.RowKit
set_option linter.unusedVariables false
set_option maxRecDepth 100000

theorem shl8_eq {a x : Int} (ha : 0 ≤ a) (hx : 0 ≤ x ∧ x ≤ 255) (h : a * 256 + x < 18446744073709551616) : shl8 a x = a * 256 + x := by
  obtain ⟨m, rfl⟩ := Int.eq_ofNat_of_zero_le ha
  obtain ⟨y, rfl⟩ := Int.eq_ofNat_of_zero_le hx.1
  unfold shl8
  have e : IntKind.u64.bits = 64 := rfl
  have h64 : (2 : Nat) ^ 64 = 18446744073709551616 := by decide
  have e1 : min 8 IntKind.u64.bits = 8 := rfl
  rw [e1, e]
  have p8 : (2 : Int) ^ 8 = 256 := by decide
  rw [p8, u64wrap ((m : Int) * 256), u64wrap (y : Int), Int.emod_eq_of_lt (by omega) (by omega), Int.emod_eq_of_lt (by omega) (by omega)]
  have e2 : ((m : Int) * 256) = ((m * 256 : Nat) : Int) := by omega
  rw [e2, BitVec.ofInt_natCast, BitVec.ofInt_natCast, BitVec.toNat_or, BitVec.toNat_ofNat, BitVec.toNat_ofNat, h64, Nat.mod_eq_of_lt (show m * 256 < 18446744073709551616 by omega), Nat.mod_eq_of_lt (show y < 18446744073709551616 by omega)]
  have e3 : m * 256 ||| y = m * 256 + y := by
    have := Nat.two_pow_add_eq_or_of_lt (i := 8) (b := y) (by omega) m
    rw [Nat.mul_comm] at this
    exact this.symm
  rw [e3, u64wrap, Int.emod_eq_of_lt (by omega) (by omega)]
  omega
theorem sumR_eq {h l : Int} (hh : 0 ≤ h ∧ h < 4294967296) (hl : 0 ≤ l ∧ l < 4294967296) : sumR h l = h * 4294967296 + l := by
  obtain ⟨m, rfl⟩ := Int.eq_ofNat_of_zero_le hh.1
  obtain ⟨y, rfl⟩ := Int.eq_ofNat_of_zero_le hl.1
  unfold sumR
  have e : IntKind.u64.bits = 64 := rfl
  have h64 : (2 : Nat) ^ 64 = 18446744073709551616 := by decide
  have e1 : min 32 IntKind.u64.bits = 32 := rfl
  rw [e1, e]
  have p8 : (2 : Int) ^ 32 = 4294967296 := by decide
  rw [p8, u64wrap (m : Int), Int.emod_eq_of_lt (by omega) (by omega), u64wrap ((m : Int) * 4294967296), u64wrap (y : Int), Int.emod_eq_of_lt (by omega) (by omega), Int.emod_eq_of_lt (by omega) (by omega)]
  have e2 : ((m : Int) * 4294967296) = ((m * 4294967296 : Nat) : Int) := by omega
  rw [e2, BitVec.ofInt_natCast, BitVec.ofInt_natCast, BitVec.toNat_or, BitVec.toNat_ofNat, BitVec.toNat_ofNat, h64, Nat.mod_eq_of_lt (show m * 4294967296 < 18446744073709551616 by omega), Nat.mod_eq_of_lt (show y < 18446744073709551616 by omega)]
  have e3 : m * 4294967296 ||| y = m * 4294967296 + y := by
    have := Nat.two_pow_add_eq_or_of_lt (i := 32) (b := y) (by omega) m
    rw [Nat.mul_comm] at this
    exact this.symm
  rw [e3, u64wrap, Int.emod_eq_of_lt (by omega) (by omega)]
  omega
theorem four {α : Type} {A : List α} (h : A.length = 4) : ∃ a b c d, A = [a, b, c, d] := by
  match A, h with
  | [a, b, c, d], _ => exact ⟨_, _, _, _, rfl⟩
theorem rval4 {a b c d : Int} (h : Byt [a, b, c, d]) : rval [a, b, c, d] = ((a * 256 + b) * 256 + c) * 256 + d := by
  have ha := h a (by simp)
  have hb := h b (by simp)
  have hc := h c (by simp)
  have hd := h d (by simp)
  unfold rval
  simp only [List.foldl_cons, List.foldl_nil]
  rw [rstep_eq (a := 0) (by omega) ha (by omega), rstep_eq (by omega) hb (by omega), rstep_eq (by omega) hc (by omega), rstep_eq (by omega) hd (by omega)]
  omega
theorem sum_fold {A B : List Int} (ha : A.length = 4) (hb : B.length = 4) (bA : Byt A) (bB : Byt B) : (A ++ B).foldl shl8 0 = sumR (rval A) (rval B) := by
  obtain ⟨a, b, c, d, rfl⟩ := four ha
  obtain ⟨e, f, g, i, rfl⟩ := four hb
  rw [rval4 bA, rval4 bB]
  have ha := bA a (by simp)
  have hb := bA b (by simp)
  have hc := bA c (by simp)
  have hd := bA d (by simp)
  have he := bB e (by simp)
  have hf := bB f (by simp)
  have hg := bB g (by simp)
  have hi := bB i (by simp)
  rw [sumR_eq (by omega) (by omega)]
  simp only [List.cons_append, List.nil_append, List.foldl_cons, List.foldl_nil]
  rw [shl8_eq (a := 0) (by omega) ha (by omega), shl8_eq (by omega) hb (by omega), shl8_eq (by omega) hc (by omega), shl8_eq (by omega) hd (by omega), shl8_eq (by omega) he (by omega), shl8_eq (by omega) hf (by omega), shl8_eq (by omega) hg (by omega), shl8_eq (by omega) hi (by omega)]
  omega
theorem be8 (n : Int) : be n 8 = be (n / 4294967296) 4 ++ be (n % 4294967296) 4 := by
  have h8 : be n 8 = [n / 2 ^ 56 % 256, n / 2 ^ 48 % 256, n / 2 ^ 40 % 256, n / 2 ^ 32 % 256, n / 2 ^ 24 % 256, n / 2 ^ 16 % 256, n / 2 ^ 8 % 256, n / 2 ^ 0 % 256] := rfl
  have h4 : ∀ m : Int, be m 4 = [m / 2 ^ 24 % 256, m / 2 ^ 16 % 256, m / 2 ^ 8 % 256, m / 2 ^ 0 % 256] := fun _ => rfl
  have p0 : (2 : Int) ^ 0 = 1 := by decide
  have p8 : (2 : Int) ^ 8 = 256 := by decide
  have p16 : (2 : Int) ^ 16 = 65536 := by decide
  have p24 : (2 : Int) ^ 24 = 16777216 := by decide
  have p32 : (2 : Int) ^ 32 = 4294967296 := by decide
  have p40 : (2 : Int) ^ 40 = 1099511627776 := by decide
  have p48 : (2 : Int) ^ 48 = 281474976710656 := by decide
  have p56 : (2 : Int) ^ 56 = 72057594037927936 := by decide
  rw [h8, h4, h4, p0, p8, p16, p24, p32, p40, p48, p56]
  simp only [List.cons_append, List.nil_append, List.cons.injEq, and_true]
  refine ⟨?_, ?_, ?_, ?_, ?_, ?_, ?_, ?_⟩ <;> omega
theorem num4_in {h : Int} (hh : 0 ≤ h ∧ h < 4294967296) (s : W8) : s.num h 4 = ⟨s.l ++ be h 4, s.bad⟩ := by
  have hf : fits h 4 = true := by
    simp only [fits, decide_eq_true_eq]
    refine ⟨by omega, by omega, by omega, fun _ => ?_⟩
    have e : ((2 : Int) ^ (8 * (4 : Int)).toNat) = 4294967296 := by decide
    rw [e]; exact Int.ediv_eq_zero_of_lt hh.1 hh.2
  simp only [W8.num, hf, if_true]
  rfl
theorem raw8 (s : W8) {n : Int} (h : 0 ≤ n ∧ n < 18446744073709551616) : s.raw (be n 8) = (s.num (n / 4294967296) 4).num (n % 4294967296) 4 := by
  rw [num4_in (h := n / 4294967296) (by omega), num4_in (h := n % 4294967296) (by omega), be8]
  simp [W8.raw]

def okPc : List Int → Bool
  | [ax, ay, bx, by', cx, cy, _, _, _] => T3.valid ⟨ax, ay, bx, by', cx, cy⟩
  | _ => true
theorem wPcR_ok {x : List Int} (hl : x.length = 9) (h : okPc x = true) (s : W8) : wPcR s x = wPc s x := by
  obtain ⟨a0, a1, a2, a3, a4, a5, a6, a7, a8, rfl⟩ := len_9 hl
  have h' : T3.valid ⟨a0, a1, a2, a3, a4, a5⟩ = true := h
  show ((((s.tri a0 a1 a2 a3 a4 a5).spoil (!(T3.valid ⟨a0, a1, a2, a3, a4, a5⟩))).num a6 1).num a7 2).num a8 1 = (((s.tri a0 a1 a2 a3 a4 a5).num a6 1).num a7 2).num a8 1
  rw [h']
  simp [W8.spoil]
theorem wPcR_bad {x : List Int} (hl : x.length = 9) (h : okPc x = false) (s : W8) : (wPcR s x).bad = true := by
  obtain ⟨a0, a1, a2, a3, a4, a5, a6, a7, a8, rfl⟩ := len_9 hl
  have h' : T3.valid ⟨a0, a1, a2, a3, a4, a5⟩ = false := h
  show (((((s.tri a0 a1 a2 a3 a4 a5).spoil (!(T3.valid ⟨a0, a1, a2, a3, a4, a5⟩))).num a6 1).num a7 2).num a8 1).bad = true
  rw [h']
  exact num_badW (num_badW (num_badW (by simp [W8.spoil]) _ _) _ _) _ _
theorem Bk.PcR (s : W8) {x : List Int} (hl : x.length = 9) : Bk s (wPcR s x) rPc sPc x := by
  cases hv : okPc x with
  | true =>
    rw [wPcR_ok hl hv]
    obtain ⟨a0, a1, a2, a3, a4, a5, a6, a7, a8, rfl⟩ := len_9 hl
    have h' : T3.valid ⟨a0, a1, a2, a3, a4, a5⟩ = true := hv
    exact ((((Bk.tri s h').and (Bk.n1 _)).and (Bk.n2 _)).and (Bk.n1 _)).map fun p => [p.1.1.1.ax, p.1.1.1.ay, p.1.1.1.bx, p.1.1.1.by', p.1.1.1.cx, p.1.1.1.cy, p.1.1.2, p.1.2, p.2]
  | false => exact fun hb => by rw [wPcR_bad hl hv] at hb; cases hb
def cz : List Int → List Int
  | [a0, a1, a2, _, a4, a5, a6, _, _] => [a0, a1, a2, 0, a4, a5, a6, 0, 0]
  | x => x
theorem Bk.Cp (s : W8) {x : List Int} (hl : x.length = 9) : Bk s (wCp s x) rCp sCp (cz x) := by
  obtain ⟨a0, a1, a2, a3, a4, a5, a6, a7, a8, rfl⟩ := len_9 hl
  exact ((((((Bk.n1 s).and (Bk.n1 _)).and (Bk.n1 _)).and (Bk.n2 _)).and (Bk.n1 _)).and (Bk.n4 _)).map fun p => [p.1.1.1.1.1, p.1.1.1.1.2, p.1.1.1.2, 0, p.1.1.2, p.1.2, p.2, 0, 0]
theorem Bk.La (s : W8) {x : Int} : Bk s (wLa s x) rLa sLa x := Bk.n2 s

theorem Bk.itemsV {α β : Type} {wf : W8 → α → W8} {f : R8 → β} {g : R8 → R8} {v : α → β} : ∀ (xs : List α) (s : W8), (∀ x ∈ xs, ∀ s, Bk s (wf s x) f g (v x)) →
    (xs.foldl wf s).bad = false → s.bad = false ∧ ∃ u, (xs.foldl wf s).l = s.l ++ u ∧ ∀ rest, itemsB f g xs.length ⟨u ++ rest, false⟩ = (xs.map v, ⟨rest, false⟩)
  | [], s, _, hb => ⟨hb, [], by simp, fun rest => rfl⟩
  | x :: xs, s, h, hb => by
    obtain ⟨b1, u1, e1, r1⟩ := Bk.itemsV xs (wf s x) (fun y hy => h y (.tail _ hy)) hb
    obtain ⟨b0, u0, e0, p0, r0⟩ := h x (.head _) s b1
    refine ⟨b0, u0 ++ u1, by rw [List.foldl_cons, e1, e0, List.append_assoc], fun rest => ?_⟩
    obtain ⟨q1, q2⟩ := r0 (u1 ++ rest)
    have q3 := r1 rest
    rw [List.append_assoc, List.length_cons, itemsB, if_neg (by simp), q1, q2, q3]
    rfl
theorem lst_rd {α β : Type} {wf : W8 → α → W8} {f : R8 → β} {g : R8 → R8} {v : α → β} (xs : List α) (s : W8) (h : ∀ x ∈ xs, ∀ s, Bk s (wf s x) f g (v x)) (hb : (xs.foldl wf (s.num xs.length 1)).bad = false) :
    s.bad = false ∧ ∃ u, (xs.foldl wf (s.num xs.length 1)).l = s.l ++ u ∧ ∀ rest, itemsB f g ((⟨u ++ rest, false⟩ : R8).numV 1).toNat ((⟨u ++ rest, false⟩ : R8).numS 1) = (xs.map v, ⟨rest, false⟩) := by
  obtain ⟨b1, u1, e1, r1⟩ := Bk.itemsV xs _ h hb
  obtain ⟨b0, u0, e0, p0, r0⟩ := Bk.n1 s (n := xs.length) b1
  refine ⟨b0, u0 ++ u1, by rw [e1, e0, List.append_assoc], fun rest => ?_⟩
  obtain ⟨q1, q2⟩ := r0 (u1 ++ rest)
  dsimp only at q1 q2
  rw [List.append_assoc, q1, q2, Int.toNat_natCast, r1 rest]
theorem flag_rd (s : W8) (d : Bool) (hb : (s.num (bit d) 1).bad = false) : s.bad = false ∧ ∃ u, (s.num (bit d) 1).l = s.l ++ u ∧ ∀ rest, moreS ⟨u ++ rest, false⟩ = ⟨rest, false⟩ := by
  obtain ⟨b0, u, e, _, r⟩ := Bk.n1 s (n := bit d) hb
  refine ⟨b0, u, e, fun rest => ?_⟩
  obtain ⟨q1, q2⟩ := r rest
  dsimp only at q1 q2
  unfold moreS
  rw [q1, q2, if_neg (by have := bit_le d; omega)]
theorem lstf_rd {α β : Type} {wf : W8 → α → W8} {f : R8 → β} {g : R8 → R8} {v : α → β} (xs : List α) (d : Bool) (s : W8) (h : ∀ x ∈ xs, ∀ s, Bk s (wf s x) f g (v x)) (hb : ((xs.foldl wf (s.num xs.length 1)).num (bit d) 1).bad = false) :
    s.bad = false ∧ ∃ u, ((xs.foldl wf (s.num xs.length 1)).num (bit d) 1).l = s.l ++ u ∧ ∀ rest, moreS (itemsB f g ((⟨u ++ rest, false⟩ : R8).numV 1).toNat ((⟨u ++ rest, false⟩ : R8).numS 1)).2 = ⟨rest, false⟩ := by
  obtain ⟨b1, u1, e1, r1⟩ := flag_rd _ d hb
  obtain ⟨b0, u0, e0, r0⟩ := lst_rd xs s h b1
  refine ⟨b0, u0 ++ u1, by rw [e1, e0, List.append_assoc], fun rest => ?_⟩
  rw [List.append_assoc, r0 (u1 ++ rest)]
  exact r1 rest
theorem tells_rd (z : Int) (a : AnV) (hp : ∀ x ∈ a.p, x.length = 9) (hc : ∀ x ∈ a.ca, x.length = 9) (s : W8) (hb : (tellsR s z a).bad = false) :
    s.bad = false ∧ ∃ u, (tellsR s z a).l = s.l ++ u ∧ ∀ rest, (toldRQ ⟨u ++ rest, false⟩ z).2 = ⟨rest, false⟩ := by
  unfold tellsR at hb ⊢
  unfold toldRQ
  by_cases h12 : z = 1 ∨ z = 2
  · simp only [if_pos h12] at hb ⊢
    by_cases h1 : a.p.length = 1
    · obtain ⟨x, hx⟩ : ∃ x, a.p = [x] := by
        match a.p, h1 with
        | [x], _ => exact ⟨x, rfl⟩
      rw [if_pos h1, hx] at hb
      rw [if_pos h1, hx]
      obtain ⟨b0, u, e, _, r⟩ := Bk.PcR s (hp x (by rw [hx]; exact .head _)) hb
      exact ⟨b0, u, e, fun rest => (r rest).2⟩
    · rw [if_neg h1] at hb
      simp [W8.num, fits] at hb
  by_cases h34 : z = 3 ∨ z = 4
  · simp only [if_neg h12, if_pos h34] at hb ⊢
    exact lstf_rd (v := id) a.p a.more s (fun x hx s => Bk.PcR s (hp x hx)) hb
  by_cases h14 : z = 14
  · simp only [if_neg h12, if_neg h34, if_pos h14] at hb ⊢
    exact lstf_rd (v := cz) a.ca a.more s (fun x hx s => Bk.Cp s (hc x hx)) hb
  by_cases h15 : z = 15
  · simp only [if_neg h12, if_neg h34, if_neg h14, if_pos h15] at hb ⊢
    obtain ⟨b0, u, e, r⟩ := lst_rd (v := id) a.la s (fun x hx s => Bk.La s) hb
    exact ⟨b0, u, e, fun rest => by rw [r rest]⟩
  by_cases e12 : z = 12
  · simp only [if_neg h12, if_neg h34, if_neg h14, if_neg h15, if_pos e12] at hb ⊢
    obtain ⟨b0, u, e, _, r⟩ := Bk.n1 s (n := a.n) hb
    exact ⟨b0, u, e, fun rest => (r rest).2⟩
  by_cases e16 : z = 16
  · simp only [if_neg h12, if_neg h34, if_neg h14, if_neg h15, if_neg e12, if_pos e16] at hb ⊢
    obtain ⟨b0, u, e, _, r⟩ := (((Bk.n4 s (n := a.n)).and (Bk.n4 _ (n := a.sum / 4294967296))).and (Bk.n4 _ (n := a.sum % 4294967296))) hb
    exact ⟨b0, u, e, fun rest => (r rest).2⟩
  · simp only [if_neg h12, if_neg h34, if_neg h14, if_neg h15, if_neg e12, if_neg e16] at hb ⊢
    exact ⟨hb, [], by simp, fun rest => rfl⟩

theorem Fw.Pc : Fw sPc (fun r s => wPc s (rPc r)) := ((Fw.tri.and Fw.n1).and Fw.n2).and Fw.n1
theorem rPc_len (r : R8) : (rPc r).length = 9 := rfl
theorem rPc_okPc {r : R8} (h : (sPc r).bad = false) : okPc (rPc r) = true := by
  have a := (num1_ok (s := (r.triS.numS 1).numS 2) h).1
  have b := (num2_ok a).1
  have c := (num1_ok b).1
  obtain ⟨_, e, hv⟩ := tri_ok c
  have h3 : r.tS3.bad = false := by rw [← e]; exact c
  have ev : r.triV = r.tT := by unfold R8.triV; rw [h3, hv]; rfl
  unfold rPc okPc
  rw [ev]
  exact hv
theorem Fw.PcR : Fw sPc (fun r s => wPcR s (rPc r)) := Fw.conv Fw.Pc fun r s h => wPcR_ok (rPc_len r) (rPc_okPc h) s
theorem Fw.Cp : Fw sCp (fun r s => wCp s (rCp r)) := ((((Fw.n1.and Fw.n1).and Fw.n1).and Fw.n2).and Fw.n1).and Fw.n4
theorem Fw.La : Fw sLa (fun r s => wLa s (rLa r)) := Fw.n2
theorem Fw.more : Fw moreS (fun r s => s.num (bit (decide (r.numV 1 = 1))) 1) := fun r hb => by
  have h1 := Fw.n1 r hb
  have hn := num1_rng r hb
  unfold moreS
  by_cases hg : 1 < r.numV 1
  · rw [if_pos hg]
    exact ⟨h1.1, fun h => by cases h⟩
  · rw [if_neg hg]
    refine ⟨h1.1, fun h => ?_⟩
    obtain ⟨c, u, e, w⟩ := h1.2 h
    refine ⟨c, u, e, fun s => ?_⟩
    have : bit (decide (r.numV 1 = 1)) = r.numV 1 := by
      by_cases e1 : r.numV 1 = 1
      · rw [decide_eq_true e1, e1]; rfl
      · rw [decide_eq_false e1]; show (0 : Int) = _; omega
    dsimp only
    rw [this]; exact w s
theorem Fw.lst {α : Type} {f : R8 → α} {g : R8 → R8} {wf : W8 → α → W8} (h : Fw g (fun r s => wf s (f r))) : Fw (fun r => (itemsB f g (r.numV 1).toNat (r.numS 1)).2) (fun r s => (itemsB f g (r.numV 1).toNat (r.numS 1)).1.foldl wf (s.num (itemsB f g (r.numV 1).toNat (r.numS 1)).1.length 1)) := fun r hb => by
  have h2 := Fw.n1 r hb
  obtain ⟨b2, k2⟩ := Fw.items (P := fun _ => True) h (fun _ _ => trivial) (r.numV 1).toNat (r.numS 1) h2.1
  refine ⟨b2, fun hg => ?_⟩
  obtain ⟨c1, l1, _, u1, e1, w1⟩ := k2 hg
  obtain ⟨c, u, e, w⟩ := h2.2 c1
  refine ⟨c, u ++ u1, by dsimp only at *; rw [List.append_assoc, ← e1, ← e], fun s => ?_⟩
  have hn := (num1_rng r hb).1
  have el : (((itemsB f g (r.numV 1).toNat (r.numS 1)).1.length : Nat) : Int) = r.numV 1 := by rw [l1]; omega
  dsimp only at w ⊢
  rw [el, w s, w1, List.append_assoc]
theorem told_fw (z : Int) : Fw (fun r => (toldRQ r z).2) (fun r s => tellsR s z (toldRQ r z).1) := fun r hb => by
  unfold toldRQ tellsR
  by_cases h12 : z = 1 ∨ z = 2
  · simp only [if_pos h12]
    obtain ⟨k1, k2⟩ := Fw.PcR r hb
    refine ⟨k1, fun hg => ?_⟩
    obtain ⟨c, u, e, w⟩ := k2 hg
    exact ⟨c, u, e, fun s => by rw [if_pos (show [rPc r].length = 1 from rfl)]; exact w s⟩
  by_cases h34 : z = 3 ∨ z = 4
  · simp only [if_neg h12, if_pos h34]
    exact ((Fw.lst Fw.PcR).and Fw.more) r hb
  by_cases h14 : z = 14
  · simp only [if_neg h12, if_neg h34, if_pos h14]
    exact ((Fw.lst Fw.Cp).and Fw.more) r hb
  by_cases h15 : z = 15
  · simp only [if_neg h12, if_neg h34, if_neg h14, if_pos h15]
    exact (Fw.lst Fw.La) r hb
  by_cases e12 : z = 12
  · simp only [if_neg h12, if_neg h34, if_neg h14, if_neg h15, if_pos e12]
    exact Fw.n1 r hb
  by_cases e16 : z = 16
  · simp only [if_neg h12, if_neg h34, if_neg h14, if_neg h15, if_neg e12, if_pos e16]
    obtain ⟨k1, k2⟩ := ((Fw.n4.and Fw.n4).and Fw.n4) r hb
    refine ⟨k1, fun hg => ?_⟩
    obtain ⟨c, u, e, w⟩ := k2 hg
    have r1 := num4_rng _ (numS_byt r 4 hb)
    have r2 := num4_rng _ (numS_byt _ 4 (numS_byt r 4 hb))
    have es := sumR_eq r1 r2
    refine ⟨c, u, e, fun s => ?_⟩
    rw [← w s, es]
    dsimp only
    congr 1
    · congr 1; omega
    · omega
  · simp only [if_neg h12, if_neg h34, if_neg h14, if_neg h15, if_neg e12, if_neg e16]
    exact ⟨hb, fun hg => ⟨hg, [], rfl, fun s => by simp⟩⟩
end Go.Proofs.Ytnhgjgoglmadnaa
