/- Joined texts of this claim (part 16), printed by a program of this work. The last part holds the claimed theorem: the law answers true at every input of its row. -/
import Derived.Test.YtnhgjgoglmadnaaSP13o
namespace Go.Proofs.Ytnhgjgoglmadnaa
open Go.RowKit
theorem MapV.same_iff {m o : MapV} : m.same o = true ↔ m = o := by
  cases m; cases o
  simp [MapV.same, MapV.ns, MapV.mesh, and_assoc]
theorem MapV.same_no {m o : MapV} (h : ¬ m = o) : m.same o = false := by
  rw [Bool.eq_false_iff]; exact fun e => h (MapV.same_iff.1 e)
end Go.Proofs.Ytnhgjgoglmadnaa
namespace Go.Proofs.Ytnhgjgoglmadnaa
open Go.RowKit
set_option maxRecDepth 100000
set_option linter.unusedSimpArgs false
set_option linter.unusedVariables false
set_option pp.maxSteps 1500
set_option pp.deepTerms.threshold 8

def mW (n : Int) : MapV := ⟨n, 0, 0, 0, 0, 0, 0, [], [], [], [], [], [], [], []⟩
theorem mW_R (n : Int) (w : World) : MapR w (mW n) MapS.zero := ⟨Tab.nil 2 w, Tab.nil 5 w, Tab.nil 2 w, Tab.nil 10 w, Tab.nil 9 w, Tab.nil 3 w, Tab.nil 3 w, Chn.nil w⟩
theorem mW_ok (n : Int) (h : -9223372036854775808 ≤ n ∧ n ≤ 9223372036854775807) : (mW n).Ok := by
  refine ⟨?_, fun x hx => ?_, fun x hx => ?_, fun x hx => ?_, fun x hx => ?_, fun x hx => ?_, fun x hx => ?_, fun x hx => ?_, fun x hx => ?_⟩
  · simp only [mW, Ok64, List.forall_mem_cons, List.not_mem_nil, false_implies, implies_true, and_true]; omega
  all_goals exact absurd hx (by simp [mW])
theorem mW_room (n : Int) : (mW n).room ≤ 800000 := by simp [MapV.room, mW, roomC]
theorem mW_ch (n : Int) : ∀ c ∈ (mW n).ch, Byt c.b := fun c hc => absurd hc (by simp [mW])
theorem mW_len : (mW 1).bytes.length = 33 := by decide +kernel
theorem mW_fine : (mW 1).Fine := ⟨⟨fun x hx => absurd hx (by simp [mW]), fun x hx => absurd hx (by simp [mW]), fun x hx => absurd hx (by simp [mW]), fun x hx => absurd hx (by simp [mW]), fun x hx => absurd hx (by simp [mW]), fun x hx => absurd hx (by simp [mW]), fun x hx => absurd hx (by simp [mW])⟩, fun x hx => absurd hx (by simp [mW]), by decide +kernel⟩
theorem mW_neg : (mW (-1)).fails = true := by decide +kernel
set_option maxHeartbeats 400000 in
theorem awake57 (w : World) : Calls Try.prog 57 [].toArray w (RetK fun r w' => r = .bool true ∧ Chg (fun _ => False) w w') := by
  have hby := (mW 1).bytes_byt (mW_ch 1)
  have hlen := mW_len
  have hlen' : ((mW 1).bytes.length : Int) = 33 := by rw [hlen]; rfl
  have hf := mW_fine.ok
  obtain ⟨d1, d2, _, _⟩ := mW_fine.dec
  have hcut : decOk ((mW 1).bytes.take 3) = false := mW_fine.cut hby (by omega)
  have h := Sep.nil w
  refine walk Try.func57 rfl (by kernel_rfl) (by rw [Try.nt57]; simp) ?_
  (try simp only [nfD] at h); have F := h.facts; (try simp only [nfF, emp_fact, rds_fact, frm_fact, tab_fact, chn_fact, mapX_fact, two_fact] at F)
  simp -dsimp only [↓vcA, vcB, vcD, ↓pureT_lenS, ↓iteT, ↓iteF, cond_true, cond_false, eq_self, argE, Env.get, Env.push, ev, evs, evo, retV, Value.cells, Value.oneCell', setR, overR, fillL, zl, places, allSizes, heldC, ne_eq, Int.reduceLE, Int.reduceLT, Int.reduceEq, Int.reduceNe, Int.reduceToNat, Int.cast_ofNat_Int, Nat.reduceMul, Nat.reduceLeDiff, reduceIte, Nat.reduceEqDiff, Nat.reduceAdd, ↓reduceIte, Try.vcT]
  refine Sep.callN h (encode58 (mW 1) MapS.zero w (mW_R 1 _) (mW_ok 1 (by omega)) (mW_room 1)) ?_
  clear h F
  intro e N w2 hQ h
  rw [hf] at hQ
  obtain ⟨a, c, rfl, rfl⟩ := hQ
  (try simp only [nfD] at h); have F := h.facts; (try simp only [nfF, emp_fact, rds_fact, frm_fact, tab_fact, chn_fact, mapX_fact, two_fact] at F); try simp -dsimp only [↓vcA, vcB, vcD, ↓pureT_lenS, ↓iteT, ↓iteF, cond_true, cond_false, eq_self, argE, Env.get, Env.push, ev, evs, evo, retV, Value.cells, Value.oneCell', setR, overR, fillL, zl, places, allSizes, heldC, ne_eq, Int.reduceLE, Int.reduceLT, Int.reduceEq, Int.reduceNe, Int.reduceToNat, Int.cast_ofNat_Int, Nat.reduceMul, Nat.reduceLeDiff, reduceIte, Nat.reduceEqDiff, Nat.reduceAdd, ↓reduceIte, Try.vcT, F, h.cell0, gets, vsD, if_true, if_false, Bool.false_eq_true]
  refine Sep.callN h (decode60 _ _ w2 F.1 hby (by omega)) ?_
  clear h F
  intro e N w3 hQ h
  rw [d1, d2] at hQ
  obtain ⟨s, rfl, rfl⟩ := hQ
  (try simp only [nfD] at h); have F := h.facts; (try simp only [nfF, emp_fact, rds_fact, frm_fact, tab_fact, chn_fact, mapX_fact, two_fact] at F)
  have R := F.2.1
  obtain ⟨sp, swa, spa, sre, sca, sis, sco, sch⟩ := s
  obtain ⟨asp, csp, qsp⟩ := R.p.shape
  dsimp only at qsp
  subst qsp
  obtain ⟨aswa, cswa, qswa⟩ := R.wa.shape
  dsimp only at qswa
  subst qswa
  obtain ⟨aspa, cspa, qspa⟩ := R.pa.shape
  dsimp only at qspa
  subst qspa
  obtain ⟨asre, csre, qsre⟩ := R.re.shape
  dsimp only at qsre
  subst qsre
  obtain ⟨asca, csca, qsca⟩ := R.ca.shape
  dsimp only at qsca
  subst qsca
  obtain ⟨asis, csis, qsis⟩ := R.is.shape
  dsimp only at qsis
  subst qsis
  obtain ⟨asco, csco, qsco⟩ := R.co.shape
  dsimp only at qsco
  subst qsco
  obtain ⟨asch, csch, qsch⟩ := R.ch.shape
  dsimp only at qsch
  subst qsch
  (try simp only [nfD] at h); have F := h.facts; (try simp only [nfF, emp_fact, rds_fact, frm_fact, tab_fact, chn_fact, mapX_fact, two_fact] at F); try simp -dsimp only [↓vcA, vcB, vcD, ↓pureT_lenS, ↓iteT, ↓iteF, cond_true, cond_false, eq_self, argE, Env.get, Env.push, ev, evs, evo, retV, Value.cells, Value.oneCell', setR, overR, fillL, zl, places, allSizes, heldC, ne_eq, Int.reduceLE, Int.reduceLT, Int.reduceEq, Int.reduceNe, Int.reduceToNat, Int.cast_ofNat_Int, Nat.reduceMul, Nat.reduceLeDiff, reduceIte, Nat.reduceEqDiff, Nat.reduceAdd, ↓reduceIte, Try.vcT, F, h.cell0, gets, vsD, if_true, if_false, Bool.false_eq_true,  MapV.cells]
  refine h.new ?_
  clear h F
  intro w4 b4 h
  (try simp only [nfD] at h); have F := h.facts; (try simp only [nfF, emp_fact, rds_fact, frm_fact, tab_fact, chn_fact, mapX_fact, two_fact] at F); try simp -dsimp only [↓vcA, vcB, vcD, ↓pureT_lenS, ↓iteT, ↓iteF, cond_true, cond_false, eq_self, argE, Env.get, Env.push, ev, evs, evo, retV, Value.cells, Value.oneCell', setR, overR, fillL, zl, places, allSizes, heldC, ne_eq, Int.reduceLE, Int.reduceLT, Int.reduceEq, Int.reduceNe, Int.reduceToNat, Int.cast_ofNat_Int, Nat.reduceMul, Nat.reduceLeDiff, reduceIte, Nat.reduceEqDiff, Nat.reduceAdd, ↓reduceIte, Try.vcT, F, h.cell0, gets, vsD, if_true, if_false, Bool.false_eq_true,  MapV.cells]
  refine Sep.put 2 h rfl ?_
  clear h F
  intro w5 h
  (try simp only [nfD] at h); have F := h.facts; (try simp only [nfF, emp_fact, rds_fact, frm_fact, tab_fact, chn_fact, mapX_fact, two_fact] at F); try simp -dsimp only [↓vcA, vcB, vcD, ↓pureT_lenS, ↓iteT, ↓iteF, cond_true, cond_false, eq_self, argE, Env.get, Env.push, ev, evs, evo, retV, Value.cells, Value.oneCell', setR, overR, fillL, zl, places, allSizes, heldC, ne_eq, Int.reduceLE, Int.reduceLT, Int.reduceEq, Int.reduceNe, Int.reduceToNat, Int.cast_ofNat_Int, Nat.reduceMul, Nat.reduceLeDiff, reduceIte, Nat.reduceEqDiff, Nat.reduceAdd, ↓reduceIte, Try.vcT, F, h.cell0, gets, vsD, if_true, if_false, Bool.false_eq_true,  hlen']
  have hc33 : 33 ≤ c := by
    obtain ⟨_, _, e, k1, _⟩ := F.1
    injection e with _ _ e
    omega
  refine ⟨by omega, ?_⟩
  have hr3 := F.1.cut (l := 0) (m := 3) (by omega) (by omega)
  rw [List.drop_zero] at hr3
  refine Sep.callN h (decode60 _ _ w5 hr3 (fun x hx => hby x (List.mem_of_mem_take hx)) (by rw [List.length_take]; omega)) ?_
  clear h F
  intro e N w6 hQ h
  have d3 : dec ((mW 1).bytes.take 3) = MapV.zero := by unfold dec; rw [hcut]; rfl
  rw [hcut, d3] at hQ
  obtain ⟨t, rfl, rfl⟩ := hQ
  (try simp only [nfD] at h); have F := h.facts; (try simp only [nfF, emp_fact, rds_fact, frm_fact, tab_fact, chn_fact, mapX_fact, two_fact] at F)
  have R2 := F.2.2.2.1
  obtain ⟨tp, twa, tpa, tre, tca, tis, tco, tch⟩ := t
  obtain ⟨atp, ctp, qtp⟩ := R2.p.shape
  dsimp only at qtp
  subst qtp
  obtain ⟨atwa, ctwa, qtwa⟩ := R2.wa.shape
  dsimp only at qtwa
  subst qtwa
  obtain ⟨atpa, ctpa, qtpa⟩ := R2.pa.shape
  dsimp only at qtpa
  subst qtpa
  obtain ⟨atre, ctre, qtre⟩ := R2.re.shape
  dsimp only at qtre
  subst qtre
  obtain ⟨atca, ctca, qtca⟩ := R2.ca.shape
  dsimp only at qtca
  subst qtca
  obtain ⟨atis, ctis, qtis⟩ := R2.is.shape
  dsimp only at qtis
  subst qtis
  obtain ⟨atco, ctco, qtco⟩ := R2.co.shape
  dsimp only at qtco
  subst qtco
  obtain ⟨atch, ctch, qtch⟩ := R2.ch.shape
  dsimp only at qtch
  subst qtch
  (try simp only [nfD] at h); have F := h.facts; (try simp only [nfF, emp_fact, rds_fact, frm_fact, tab_fact, chn_fact, mapX_fact, two_fact] at F); try simp -dsimp only [↓vcA, vcB, vcD, ↓pureT_lenS, ↓iteT, ↓iteF, cond_true, cond_false, eq_self, argE, Env.get, Env.push, ev, evs, evo, retV, Value.cells, Value.oneCell', setR, overR, fillL, zl, places, allSizes, heldC, ne_eq, Int.reduceLE, Int.reduceLT, Int.reduceEq, Int.reduceNe, Int.reduceToNat, Int.cast_ofNat_Int, Nat.reduceMul, Nat.reduceLeDiff, reduceIte, Nat.reduceEqDiff, Nat.reduceAdd, ↓reduceIte, Try.vcT, F, h.cell0, gets, vsD, if_true, if_false, Bool.false_eq_true,  MapV.cells]
  refine h.new ?_
  clear h F
  intro w7 b7 h
  (try simp only [nfD] at h); have F := h.facts; (try simp only [nfF, emp_fact, rds_fact, frm_fact, tab_fact, chn_fact, mapX_fact, two_fact] at F); try simp -dsimp only [↓vcA, vcB, vcD, ↓pureT_lenS, ↓iteT, ↓iteF, cond_true, cond_false, eq_self, argE, Env.get, Env.push, ev, evs, evo, retV, Value.cells, Value.oneCell', setR, overR, fillL, zl, places, allSizes, heldC, ne_eq, Int.reduceLE, Int.reduceLT, Int.reduceEq, Int.reduceNe, Int.reduceToNat, Int.cast_ofNat_Int, Nat.reduceMul, Nat.reduceLeDiff, reduceIte, Nat.reduceEqDiff, Nat.reduceAdd, ↓reduceIte, Try.vcT, F, h.cell0, gets, vsD, if_true, if_false, Bool.false_eq_true,  MapV.cells]
  refine Sep.put 4 h rfl ?_
  clear h F
  intro w8 h
  (try simp only [nfD] at h); have F := h.facts; (try simp only [nfF, emp_fact, rds_fact, frm_fact, tab_fact, chn_fact, mapX_fact, two_fact] at F); try simp -dsimp only [↓vcA, vcB, vcD, ↓pureT_lenS, ↓iteT, ↓iteF, cond_true, cond_false, eq_self, argE, Env.get, Env.push, ev, evs, evo, retV, Value.cells, Value.oneCell', setR, overR, fillL, zl, places, allSizes, heldC, ne_eq, Int.reduceLE, Int.reduceLT, Int.reduceEq, Int.reduceNe, Int.reduceToNat, Int.cast_ofNat_Int, Nat.reduceMul, Nat.reduceLeDiff, reduceIte, Nat.reduceEqDiff, Nat.reduceAdd, ↓reduceIte, Try.vcT, F, h.cell0, gets, vsD, if_true, if_false, Bool.false_eq_true]
  refine Sep.callN h (encode58 (mW (-1)) MapS.zero w8 (mW_R (-1) _) (mW_ok (-1) (by omega)) (mW_room (-1))) ?_
  clear h F
  intro e N w9 hQ h
  rw [mW_neg] at hQ
  obtain ⟨a9, c9, rfl, rfl⟩ := hQ
  have hw1 : decide ((mW 1).w = 1) = true := rfl
  (try simp only [nfD] at h); have F := h.facts; (try simp only [nfF, emp_fact, rds_fact, frm_fact, tab_fact, chn_fact, mapX_fact, two_fact] at F); try simp -dsimp only [↓vcA, vcB, vcD, ↓pureT_lenS, ↓iteT, ↓iteF, cond_true, cond_false, eq_self, argE, Env.get, Env.push, ev, evs, evo, retV, Value.cells, Value.oneCell', setR, overR, fillL, zl, places, allSizes, heldC, ne_eq, Int.reduceLE, Int.reduceLT, Int.reduceEq, Int.reduceNe, Int.reduceToNat, Int.cast_ofNat_Int, Nat.reduceMul, Nat.reduceLeDiff, reduceIte, Nat.reduceEqDiff, Nat.reduceAdd, ↓reduceIte, Try.vcT, F, h.cell0, gets, vsD, if_true, if_false, Bool.false_eq_true,  hlen', hw1, MapV.cells, cellsAt]
  have k1 := same63 (mW 1) (mW 1) _ MapS.zero w9 F.2.1 (mW_R 1 _) (mW_ch 1) (mW_ch 1)
  rw [MapV.same_iff.2 rfl] at k1
  simp only [MapV.cells, MapS.zero] at k1
  refine Sep.callp h k1 ?_
  clear h F k1
  intro w10 h
  (try simp only [nfD] at h); have F := h.facts; (try simp only [nfF, emp_fact, rds_fact, frm_fact, tab_fact, chn_fact, mapX_fact, two_fact] at F); try simp -dsimp only [↓vcA, vcB, vcD, ↓pureT_lenS, ↓iteT, ↓iteF, cond_true, cond_false, eq_self, argE, Env.get, Env.push, ev, evs, evo, retV, Value.cells, Value.oneCell', setR, overR, fillL, zl, places, allSizes, heldC, ne_eq, Int.reduceLE, Int.reduceLT, Int.reduceEq, Int.reduceNe, Int.reduceToNat, Int.cast_ofNat_Int, Nat.reduceMul, Nat.reduceLeDiff, reduceIte, Nat.reduceEqDiff, Nat.reduceAdd, ↓reduceIte, Try.vcT, F, h.cell0, gets, vsD, if_true, if_false, Bool.false_eq_true,  MapV.cells, cellsAt]
  have k2 := same63 (mW 1) (mW 0) _ MapS.zero w10 F.2.1 (mW_R 0 _) (mW_ch 1) (mW_ch 0)
  rw [MapV.same_no (m := mW 1) (o := mW 0) (fun e => by have := congrArg MapV.w e; simp [mW] at this)] at k2
  simp only [MapV.cells, MapS.zero] at k2
  refine Sep.callp h k2 ?_
  clear h F k2
  intro w11 h
  (try simp only [nfD] at h); have F := h.facts; (try simp only [nfF, emp_fact, rds_fact, frm_fact, tab_fact, chn_fact, mapX_fact, two_fact] at F); try simp -dsimp only [↓vcA, vcB, vcD, ↓pureT_lenS, ↓iteT, ↓iteF, cond_true, cond_false, eq_self, argE, Env.get, Env.push, ev, evs, evo, retV, Value.cells, Value.oneCell', setR, overR, fillL, zl, places, allSizes, heldC, ne_eq, Int.reduceLE, Int.reduceLT, Int.reduceEq, Int.reduceNe, Int.reduceToNat, Int.cast_ofNat_Int, Nat.reduceMul, Nat.reduceLeDiff, reduceIte, Nat.reduceEqDiff, Nat.reduceAdd, ↓reduceIte, Try.vcT, F, h.cell0, gets, vsD, if_true, if_false, Bool.false_eq_true]
  exact h.done
end Go.Proofs.Ytnhgjgoglmadnaa
