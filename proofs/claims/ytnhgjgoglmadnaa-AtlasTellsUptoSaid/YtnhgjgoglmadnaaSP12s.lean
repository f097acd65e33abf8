/- Joined texts of this claim (part 19), printed by a program of this work. The last part holds the claimed theorem: the law answers true at every input of its row. -/
import Derived.Test.YtnhgjgoglmadnaaSP12r
namespace Go.Proofs.Ytnhgjgoglmadnaa
open Go.RowKit
set_option maxRecDepth 100000
set_option linter.unusedSimpArgs false
set_option linter.unusedVariables false
set_option pp.maxSteps 1500
set_option pp.deepTerms.threshold 8

set_option maxHeartbeats 4000000 in
theorem same62 (m o : MapV) (s t : MapS) (w : World) (R : MapR w m s) (Q : MapR w o t) (bm : ∀ c ∈ m.ch, Byt c.b) (bo : ∀ c ∈ o.ch, Byt c.b) :
    Calls Try.prog 62 [.agg (m.cells s).toArray, .agg (o.cells t).toArray].toArray w (RetK fun r w' => r = .bool (m.same o) ∧ Chg (fun _ => False) w w') := by
  obtain ⟨sp, swa, spa, sre, sca, sis, sco, sch⟩ := s
  obtain ⟨tp, twa, tpa, tre, tca, tis, tco, tch⟩ := t
  obtain ⟨ap, cp, rfl⟩ := R.p.shape
  obtain ⟨a'p, c'p, rfl⟩ := Q.p.shape
  obtain ⟨awa, cwa, rfl⟩ := R.wa.shape
  obtain ⟨a'wa, c'wa, rfl⟩ := Q.wa.shape
  obtain ⟨apa, cpa, rfl⟩ := R.pa.shape
  obtain ⟨a'pa, c'pa, rfl⟩ := Q.pa.shape
  obtain ⟨are, cre, rfl⟩ := R.re.shape
  obtain ⟨a're, c're, rfl⟩ := Q.re.shape
  obtain ⟨aca, cca, rfl⟩ := R.ca.shape
  obtain ⟨a'ca, c'ca, rfl⟩ := Q.ca.shape
  obtain ⟨ais, cis, rfl⟩ := R.is.shape
  obtain ⟨a'is, c'is, rfl⟩ := Q.is.shape
  obtain ⟨aco, cco, rfl⟩ := R.co.shape
  obtain ⟨a'co, c'co, rfl⟩ := Q.co.shape
  obtain ⟨ach, cch, rfl⟩ := R.ch.shape
  obtain ⟨a'ch, c'ch, rfl⟩ := Q.ch.shape
  have lp := R.p.len
  have l'p := Q.p.len
  have lwa := R.wa.len
  have l'wa := Q.wa.len
  have lpa := R.pa.len
  have l'pa := Q.pa.len
  have lre := R.re.len
  have l're := Q.re.len
  have lca := R.ca.len
  have l'ca := Q.ca.len
  have lis := R.is.len
  have l'is := Q.is.len
  have lco := R.co.len
  have l'co := Q.co.len
  have lch := R.ch.len
  have l'ch := Q.ch.len
  simp only [maxLen] at lp l'p lwa l'wa lpa l'pa lre l're lca l'ca lis l'is lco l'co lch l'ch
  have h := Sep.nil w
  refine walk Try.func62 rfl (by kernel_rfl) (by rw [Try.nt62]; simp) ?_
  (try simp only [nfD] at h); have F := h.facts; (try simp only [nfF, emp_fact, rds_fact, frm_fact, tab_fact, chn_fact, mapX_fact, two_fact] at F)
  simp -dsimp only [↓vcA, vcB, vcD, ↓pureT_lenS, ↓iteT, ↓iteF, cond_true, cond_false, eq_self, argE, Env.get, Env.push, ev, evs, evo, retV, Value.cells, Value.oneCell', setR, overR, fillL, zl, places, allSizes, heldC, ne_eq, Int.reduceLE, Int.reduceLT, Int.reduceEq, Int.reduceNe, Int.reduceToNat, Int.cast_ofNat_Int, Nat.reduceMul, Nat.reduceLeDiff, reduceIte, Nat.reduceEqDiff, Nat.reduceAdd, ↓reduceIte, Try.vcT, MapV.cells]
  refine h.new ?_
  clear h F
  intro w1 b1 h
  refine h.new ?_
  clear h
  intro w2 b2 h
  by_cases ew : m.w = o.w
  case neg =>
    have es : m.same o = false := MapV.same_no fun e => ew (by rw [e])
    (try simp only [nfD] at h); have F := h.facts; (try simp only [nfF, emp_fact, rds_fact, frm_fact, tab_fact, chn_fact, mapX_fact, two_fact] at F); try simp -dsimp only [↓vcA, vcB, vcD, ↓pureT_lenS, ↓iteT, ↓iteF, cond_true, cond_false, eq_self, argE, Env.get, Env.push, ev, evs, evo, retV, Value.cells, Value.oneCell', setR, overR, fillL, zl, places, allSizes, heldC, ne_eq, Int.reduceLE, Int.reduceLT, Int.reduceEq, Int.reduceNe, Int.reduceToNat, Int.cast_ofNat_Int, Nat.reduceMul, Nat.reduceLeDiff, reduceIte, Nat.reduceEqDiff, Nat.reduceAdd, ↓reduceIte, Try.vcT, F, h.cell0, gets, vsD, if_true, if_false, Bool.false_eq_true,  decide_eq_false ew, Bool.not_false, Bool.not_true]
    exact ⟨by rw [es], h.done⟩
  by_cases eh : m.h = o.h
  case neg =>
    have es : m.same o = false := MapV.same_no fun e => eh (by rw [e])
    (try simp only [nfD] at h); have F := h.facts; (try simp only [nfF, emp_fact, rds_fact, frm_fact, tab_fact, chn_fact, mapX_fact, two_fact] at F); try simp -dsimp only [↓vcA, vcB, vcD, ↓pureT_lenS, ↓iteT, ↓iteF, cond_true, cond_false, eq_self, argE, Env.get, Env.push, ev, evs, evo, retV, Value.cells, Value.oneCell', setR, overR, fillL, zl, places, allSizes, heldC, ne_eq, Int.reduceLE, Int.reduceLT, Int.reduceEq, Int.reduceNe, Int.reduceToNat, Int.cast_ofNat_Int, Nat.reduceMul, Nat.reduceLeDiff, reduceIte, Nat.reduceEqDiff, Nat.reduceAdd, ↓reduceIte, Try.vcT, F, h.cell0, gets, vsD, if_true, if_false, Bool.false_eq_true,  decide_eq_true ew, decide_eq_false eh, Bool.not_false, Bool.not_true]
    exact ⟨by rw [es], h.done⟩
  by_cases ete : m.te = o.te
  case neg =>
    have es : m.same o = false := MapV.same_no fun e => ete (by rw [e])
    (try simp only [nfD] at h); have F := h.facts; (try simp only [nfF, emp_fact, rds_fact, frm_fact, tab_fact, chn_fact, mapX_fact, two_fact] at F); try simp -dsimp only [↓vcA, vcB, vcD, ↓pureT_lenS, ↓iteT, ↓iteF, cond_true, cond_false, eq_self, argE, Env.get, Env.push, ev, evs, evo, retV, Value.cells, Value.oneCell', setR, overR, fillL, zl, places, allSizes, heldC, ne_eq, Int.reduceLE, Int.reduceLT, Int.reduceEq, Int.reduceNe, Int.reduceToNat, Int.cast_ofNat_Int, Nat.reduceMul, Nat.reduceLeDiff, reduceIte, Nat.reduceEqDiff, Nat.reduceAdd, ↓reduceIte, Try.vcT, F, h.cell0, gets, vsD, if_true, if_false, Bool.false_eq_true,  decide_eq_true ew, decide_eq_true eh, decide_eq_false ete, Bool.not_false, Bool.not_true]
    exact ⟨by rw [es], h.done⟩
  by_cases ewi : m.wi = o.wi
  case neg =>
    have es : m.same o = false := MapV.same_no fun e => ewi (by rw [e])
    (try simp only [nfD] at h); have F := h.facts; (try simp only [nfF, emp_fact, rds_fact, frm_fact, tab_fact, chn_fact, mapX_fact, two_fact] at F); try simp -dsimp only [↓vcA, vcB, vcD, ↓pureT_lenS, ↓iteT, ↓iteF, cond_true, cond_false, eq_self, argE, Env.get, Env.push, ev, evs, evo, retV, Value.cells, Value.oneCell', setR, overR, fillL, zl, places, allSizes, heldC, ne_eq, Int.reduceLE, Int.reduceLT, Int.reduceEq, Int.reduceNe, Int.reduceToNat, Int.cast_ofNat_Int, Nat.reduceMul, Nat.reduceLeDiff, reduceIte, Nat.reduceEqDiff, Nat.reduceAdd, ↓reduceIte, Try.vcT, F, h.cell0, gets, vsD, if_true, if_false, Bool.false_eq_true,  decide_eq_true ew, decide_eq_true eh, decide_eq_true ete, decide_eq_false ewi, Bool.not_false, Bool.not_true]
    exact ⟨by rw [es], h.done⟩
  by_cases emr : m.mr = o.mr
  case neg =>
    have es : m.same o = false := MapV.same_no fun e => emr (by rw [e])
    (try simp only [nfD] at h); have F := h.facts; (try simp only [nfF, emp_fact, rds_fact, frm_fact, tab_fact, chn_fact, mapX_fact, two_fact] at F); try simp -dsimp only [↓vcA, vcB, vcD, ↓pureT_lenS, ↓iteT, ↓iteF, cond_true, cond_false, eq_self, argE, Env.get, Env.push, ev, evs, evo, retV, Value.cells, Value.oneCell', setR, overR, fillL, zl, places, allSizes, heldC, ne_eq, Int.reduceLE, Int.reduceLT, Int.reduceEq, Int.reduceNe, Int.reduceToNat, Int.cast_ofNat_Int, Nat.reduceMul, Nat.reduceLeDiff, reduceIte, Nat.reduceEqDiff, Nat.reduceAdd, ↓reduceIte, Try.vcT, F, h.cell0, gets, vsD, if_true, if_false, Bool.false_eq_true,  decide_eq_true ew, decide_eq_true eh, decide_eq_true ete, decide_eq_true ewi, decide_eq_false emr, Bool.not_false, Bool.not_true]
    exact ⟨by rw [es], h.done⟩
  by_cases emb : m.mb = o.mb
  case neg =>
    have es : m.same o = false := MapV.same_no fun e => emb (by rw [e])
    (try simp only [nfD] at h); have F := h.facts; (try simp only [nfF, emp_fact, rds_fact, frm_fact, tab_fact, chn_fact, mapX_fact, two_fact] at F); try simp -dsimp only [↓vcA, vcB, vcD, ↓pureT_lenS, ↓iteT, ↓iteF, cond_true, cond_false, eq_self, argE, Env.get, Env.push, ev, evs, evo, retV, Value.cells, Value.oneCell', setR, overR, fillL, zl, places, allSizes, heldC, ne_eq, Int.reduceLE, Int.reduceLT, Int.reduceEq, Int.reduceNe, Int.reduceToNat, Int.cast_ofNat_Int, Nat.reduceMul, Nat.reduceLeDiff, reduceIte, Nat.reduceEqDiff, Nat.reduceAdd, ↓reduceIte, Try.vcT, F, h.cell0, gets, vsD, if_true, if_false, Bool.false_eq_true,  decide_eq_true ew, decide_eq_true eh, decide_eq_true ete, decide_eq_true ewi, decide_eq_true emr, decide_eq_false emb, Bool.not_false, Bool.not_true]
    exact ⟨by rw [es], h.done⟩
  by_cases eti : m.ti = o.ti
  case neg =>
    have es : m.same o = false := MapV.same_no fun e => eti (by rw [e])
    (try simp only [nfD] at h); have F := h.facts; (try simp only [nfF, emp_fact, rds_fact, frm_fact, tab_fact, chn_fact, mapX_fact, two_fact] at F); try simp -dsimp only [↓vcA, vcB, vcD, ↓pureT_lenS, ↓iteT, ↓iteF, cond_true, cond_false, eq_self, argE, Env.get, Env.push, ev, evs, evo, retV, Value.cells, Value.oneCell', setR, overR, fillL, zl, places, allSizes, heldC, ne_eq, Int.reduceLE, Int.reduceLT, Int.reduceEq, Int.reduceNe, Int.reduceToNat, Int.cast_ofNat_Int, Nat.reduceMul, Nat.reduceLeDiff, reduceIte, Nat.reduceEqDiff, Nat.reduceAdd, ↓reduceIte, Try.vcT, F, h.cell0, gets, vsD, if_true, if_false, Bool.false_eq_true,  decide_eq_true ew, decide_eq_true eh, decide_eq_true ete, decide_eq_true ewi, decide_eq_true emr, decide_eq_true emb, decide_eq_false eti, Bool.not_false, Bool.not_true]
    exact ⟨by rw [es], h.done⟩
  by_cases np : (m.p.length : Int) = o.p.length
  case neg =>
    have es : m.same o = false := MapV.same_no fun e => np (by rw [e])
    (try simp only [nfD] at h); have F := h.facts; (try simp only [nfF, emp_fact, rds_fact, frm_fact, tab_fact, chn_fact, mapX_fact, two_fact] at F); try simp -dsimp only [↓vcA, vcB, vcD, ↓pureT_lenS, ↓iteT, ↓iteF, cond_true, cond_false, eq_self, argE, Env.get, Env.push, ev, evs, evo, retV, Value.cells, Value.oneCell', setR, overR, fillL, zl, places, allSizes, heldC, ne_eq, Int.reduceLE, Int.reduceLT, Int.reduceEq, Int.reduceNe, Int.reduceToNat, Int.cast_ofNat_Int, Nat.reduceMul, Nat.reduceLeDiff, reduceIte, Nat.reduceEqDiff, Nat.reduceAdd, ↓reduceIte, Try.vcT, F, h.cell0, gets, vsD, if_true, if_false, Bool.false_eq_true,  decide_eq_true ew, decide_eq_true eh, decide_eq_true ete, decide_eq_true ewi, decide_eq_true emr, decide_eq_true emb, decide_eq_true eti, decide_eq_false np, Bool.not_false, Bool.not_true]
    exact ⟨by rw [es], h.done⟩
  by_cases nwa : (m.wa.length : Int) = o.wa.length
  case neg =>
    have es : m.same o = false := MapV.same_no fun e => nwa (by rw [e])
    (try simp only [nfD] at h); have F := h.facts; (try simp only [nfF, emp_fact, rds_fact, frm_fact, tab_fact, chn_fact, mapX_fact, two_fact] at F); try simp -dsimp only [↓vcA, vcB, vcD, ↓pureT_lenS, ↓iteT, ↓iteF, cond_true, cond_false, eq_self, argE, Env.get, Env.push, ev, evs, evo, retV, Value.cells, Value.oneCell', setR, overR, fillL, zl, places, allSizes, heldC, ne_eq, Int.reduceLE, Int.reduceLT, Int.reduceEq, Int.reduceNe, Int.reduceToNat, Int.cast_ofNat_Int, Nat.reduceMul, Nat.reduceLeDiff, reduceIte, Nat.reduceEqDiff, Nat.reduceAdd, ↓reduceIte, Try.vcT, F, h.cell0, gets, vsD, if_true, if_false, Bool.false_eq_true,  decide_eq_true ew, decide_eq_true eh, decide_eq_true ete, decide_eq_true ewi, decide_eq_true emr, decide_eq_true emb, decide_eq_true eti, decide_eq_true np, decide_eq_false nwa, Bool.not_false, Bool.not_true]
    exact ⟨by rw [es], h.done⟩
  by_cases npa : (m.pa.length : Int) = o.pa.length
  case neg =>
    have es : m.same o = false := MapV.same_no fun e => npa (by rw [e])
    (try simp only [nfD] at h); have F := h.facts; (try simp only [nfF, emp_fact, rds_fact, frm_fact, tab_fact, chn_fact, mapX_fact, two_fact] at F); try simp -dsimp only [↓vcA, vcB, vcD, ↓pureT_lenS, ↓iteT, ↓iteF, cond_true, cond_false, eq_self, argE, Env.get, Env.push, ev, evs, evo, retV, Value.cells, Value.oneCell', setR, overR, fillL, zl, places, allSizes, heldC, ne_eq, Int.reduceLE, Int.reduceLT, Int.reduceEq, Int.reduceNe, Int.reduceToNat, Int.cast_ofNat_Int, Nat.reduceMul, Nat.reduceLeDiff, reduceIte, Nat.reduceEqDiff, Nat.reduceAdd, ↓reduceIte, Try.vcT, F, h.cell0, gets, vsD, if_true, if_false, Bool.false_eq_true,  decide_eq_true ew, decide_eq_true eh, decide_eq_true ete, decide_eq_true ewi, decide_eq_true emr, decide_eq_true emb, decide_eq_true eti, decide_eq_true np, decide_eq_true nwa, decide_eq_false npa, Bool.not_false, Bool.not_true]
    exact ⟨by rw [es], h.done⟩
  by_cases nre : (m.re.length : Int) = o.re.length
  case neg =>
    have es : m.same o = false := MapV.same_no fun e => nre (by rw [e])
    (try simp only [nfD] at h); have F := h.facts; (try simp only [nfF, emp_fact, rds_fact, frm_fact, tab_fact, chn_fact, mapX_fact, two_fact] at F); try simp -dsimp only [↓vcA, vcB, vcD, ↓pureT_lenS, ↓iteT, ↓iteF, cond_true, cond_false, eq_self, argE, Env.get, Env.push, ev, evs, evo, retV, Value.cells, Value.oneCell', setR, overR, fillL, zl, places, allSizes, heldC, ne_eq, Int.reduceLE, Int.reduceLT, Int.reduceEq, Int.reduceNe, Int.reduceToNat, Int.cast_ofNat_Int, Nat.reduceMul, Nat.reduceLeDiff, reduceIte, Nat.reduceEqDiff, Nat.reduceAdd, ↓reduceIte, Try.vcT, F, h.cell0, gets, vsD, if_true, if_false, Bool.false_eq_true,  decide_eq_true ew, decide_eq_true eh, decide_eq_true ete, decide_eq_true ewi, decide_eq_true emr, decide_eq_true emb, decide_eq_true eti, decide_eq_true np, decide_eq_true nwa, decide_eq_true npa, decide_eq_false nre, Bool.not_false, Bool.not_true]
    exact ⟨by rw [es], h.done⟩
  by_cases nca : (m.ca.length : Int) = o.ca.length
  case neg =>
    have es : m.same o = false := MapV.same_no fun e => nca (by rw [e])
    (try simp only [nfD] at h); have F := h.facts; (try simp only [nfF, emp_fact, rds_fact, frm_fact, tab_fact, chn_fact, mapX_fact, two_fact] at F); try simp -dsimp only [↓vcA, vcB, vcD, ↓pureT_lenS, ↓iteT, ↓iteF, cond_true, cond_false, eq_self, argE, Env.get, Env.push, ev, evs, evo, retV, Value.cells, Value.oneCell', setR, overR, fillL, zl, places, allSizes, heldC, ne_eq, Int.reduceLE, Int.reduceLT, Int.reduceEq, Int.reduceNe, Int.reduceToNat, Int.cast_ofNat_Int, Nat.reduceMul, Nat.reduceLeDiff, reduceIte, Nat.reduceEqDiff, Nat.reduceAdd, ↓reduceIte, Try.vcT, F, h.cell0, gets, vsD, if_true, if_false, Bool.false_eq_true,  decide_eq_true ew, decide_eq_true eh, decide_eq_true ete, decide_eq_true ewi, decide_eq_true emr, decide_eq_true emb, decide_eq_true eti, decide_eq_true np, decide_eq_true nwa, decide_eq_true npa, decide_eq_true nre, decide_eq_false nca, Bool.not_false, Bool.not_true]
    exact ⟨by rw [es], h.done⟩
  by_cases nis : (m.is.length : Int) = o.is.length
  case neg =>
    have es : m.same o = false := MapV.same_no fun e => nis (by rw [e])
    (try simp only [nfD] at h); have F := h.facts; (try simp only [nfF, emp_fact, rds_fact, frm_fact, tab_fact, chn_fact, mapX_fact, two_fact] at F); try simp -dsimp only [↓vcA, vcB, vcD, ↓pureT_lenS, ↓iteT, ↓iteF, cond_true, cond_false, eq_self, argE, Env.get, Env.push, ev, evs, evo, retV, Value.cells, Value.oneCell', setR, overR, fillL, zl, places, allSizes, heldC, ne_eq, Int.reduceLE, Int.reduceLT, Int.reduceEq, Int.reduceNe, Int.reduceToNat, Int.cast_ofNat_Int, Nat.reduceMul, Nat.reduceLeDiff, reduceIte, Nat.reduceEqDiff, Nat.reduceAdd, ↓reduceIte, Try.vcT, F, h.cell0, gets, vsD, if_true, if_false, Bool.false_eq_true,  decide_eq_true ew, decide_eq_true eh, decide_eq_true ete, decide_eq_true ewi, decide_eq_true emr, decide_eq_true emb, decide_eq_true eti, decide_eq_true np, decide_eq_true nwa, decide_eq_true npa, decide_eq_true nre, decide_eq_true nca, decide_eq_false nis, Bool.not_false, Bool.not_true]
    exact ⟨by rw [es], h.done⟩
  by_cases nco : (m.co.length : Int) = o.co.length
  case neg =>
    have es : m.same o = false := MapV.same_no fun e => nco (by rw [e])
    (try simp only [nfD] at h); have F := h.facts; (try simp only [nfF, emp_fact, rds_fact, frm_fact, tab_fact, chn_fact, mapX_fact, two_fact] at F); try simp -dsimp only [↓vcA, vcB, vcD, ↓pureT_lenS, ↓iteT, ↓iteF, cond_true, cond_false, eq_self, argE, Env.get, Env.push, ev, evs, evo, retV, Value.cells, Value.oneCell', setR, overR, fillL, zl, places, allSizes, heldC, ne_eq, Int.reduceLE, Int.reduceLT, Int.reduceEq, Int.reduceNe, Int.reduceToNat, Int.cast_ofNat_Int, Nat.reduceMul, Nat.reduceLeDiff, reduceIte, Nat.reduceEqDiff, Nat.reduceAdd, ↓reduceIte, Try.vcT, F, h.cell0, gets, vsD, if_true, if_false, Bool.false_eq_true,  decide_eq_true ew, decide_eq_true eh, decide_eq_true ete, decide_eq_true ewi, decide_eq_true emr, decide_eq_true emb, decide_eq_true eti, decide_eq_true np, decide_eq_true nwa, decide_eq_true npa, decide_eq_true nre, decide_eq_true nca, decide_eq_true nis, decide_eq_false nco, Bool.not_false, Bool.not_true]
    exact ⟨by rw [es], h.done⟩
  by_cases nch : (m.ch.length : Int) = o.ch.length
  case neg =>
    have es : m.same o = false := MapV.same_no fun e => nch (by rw [e])
    (try simp only [nfD] at h); have F := h.facts; (try simp only [nfF, emp_fact, rds_fact, frm_fact, tab_fact, chn_fact, mapX_fact, two_fact] at F); try simp -dsimp only [↓vcA, vcB, vcD, ↓pureT_lenS, ↓iteT, ↓iteF, cond_true, cond_false, eq_self, argE, Env.get, Env.push, ev, evs, evo, retV, Value.cells, Value.oneCell', setR, overR, fillL, zl, places, allSizes, heldC, ne_eq, Int.reduceLE, Int.reduceLT, Int.reduceEq, Int.reduceNe, Int.reduceToNat, Int.cast_ofNat_Int, Nat.reduceMul, Nat.reduceLeDiff, reduceIte, Nat.reduceEqDiff, Nat.reduceAdd, ↓reduceIte, Try.vcT, F, h.cell0, gets, vsD, if_true, if_false, Bool.false_eq_true,  decide_eq_true ew, decide_eq_true eh, decide_eq_true ete, decide_eq_true ewi, decide_eq_true emr, decide_eq_true emb, decide_eq_true eti, decide_eq_true np, decide_eq_true nwa, decide_eq_true npa, decide_eq_true nre, decide_eq_true nca, decide_eq_true nis, decide_eq_true nco, decide_eq_false nch, Bool.not_false, Bool.not_true]
    exact ⟨by rw [es], h.done⟩
  (try simp only [nfD] at h); have F := h.facts; (try simp only [nfF, emp_fact, rds_fact, frm_fact, tab_fact, chn_fact, mapX_fact, two_fact] at F); try simp -dsimp only [↓vcA, vcB, vcD, ↓pureT_lenS, ↓iteT, ↓iteF, cond_true, cond_false, eq_self, argE, Env.get, Env.push, ev, evs, evo, retV, Value.cells, Value.oneCell', setR, overR, fillL, zl, places, allSizes, heldC, ne_eq, Int.reduceLE, Int.reduceLT, Int.reduceEq, Int.reduceNe, Int.reduceToNat, Int.cast_ofNat_Int, Nat.reduceMul, Nat.reduceLeDiff, reduceIte, Nat.reduceEqDiff, Nat.reduceAdd, ↓reduceIte, Try.vcT, F, h.cell0, gets, vsD, if_true, if_false, Bool.false_eq_true,  decide_eq_true ew, decide_eq_true eh, decide_eq_true ete, decide_eq_true ewi, decide_eq_true emr, decide_eq_true emb, decide_eq_true eti, decide_eq_true np, decide_eq_true nwa, decide_eq_true npa, decide_eq_true nre, decide_eq_true nca, decide_eq_true nis, decide_eq_true nco, decide_eq_true nch, Bool.not_false, Bool.not_true]
  change Sep w _ [blk b1 96 [.int .i64 m.w, .int .i64 m.h, .int .i64 m.te, .int .i64 m.wi, .int .i64 m.mr, .int .i64 m.mb, .int .i64 m.ti, .slice ap m.p.length cp, .slice awa m.wa.length cwa, .slice apa m.pa.length cpa, .slice are m.re.length cre, .slice aca m.ca.length cca, .slice ais m.is.length cis, .slice aco m.co.length cco, .slice ach m.ch.length cch], blk b2 96 [.int .i64 o.w, .int .i64 o.h, .int .i64 o.te, .int .i64 o.wi, .int .i64 o.mr, .int .i64 o.mb, .int .i64 o.ti, .slice a'p o.p.length c'p, .slice a'wa o.wa.length c'wa, .slice a'pa o.pa.length c'pa, .slice a're o.re.length c're, .slice a'ca o.ca.length c'ca, .slice a'is o.is.length c'is, .slice a'co o.co.length c'co, .slice a'ch o.ch.length c'ch]] _ at h
  refine walkLoop [2, 3] [5] (fun k vs w' => ∃ i, i ≤ m.p.length ∧ k = m.p.length - i ∧ vs = [.int .i64 i] ∧ m.p.take i = o.p.take i ∧ Sep w (fun _ => False) [blk b1 96 [.int .i64 m.w, .int .i64 m.h, .int .i64 m.te, .int .i64 m.wi, .int .i64 m.mr, .int .i64 m.mb, .int .i64 m.ti, .slice ap m.p.length cp, .slice awa m.wa.length cwa, .slice apa m.pa.length cpa, .slice are m.re.length cre, .slice aca m.ca.length cca, .slice ais m.is.length cis, .slice aco m.co.length cco, .slice ach m.ch.length cch], blk b2 96 [.int .i64 o.w, .int .i64 o.h, .int .i64 o.te, .int .i64 o.wi, .int .i64 o.mr, .int .i64 o.mb, .int .i64 o.ti, .slice a'p o.p.length c'p, .slice a'wa o.wa.length c'wa, .slice a'pa o.pa.length c'pa, .slice a're o.re.length c're, .slice a'ca o.ca.length c'ca, .slice a'is o.is.length c'is, .slice a'co o.co.length c'co, .slice a'ch o.ch.length c'ch]] w') (by kernel_rfl) ?_ ?_
  · simp -dsimp only [↓vcA, vcB, vcD, ↓pureT_lenS, ↓iteT, ↓iteF, cond_true, cond_false, eq_self, argE, Env.get, Env.push, ev, evs, evo, retV, Value.cells, Value.oneCell', setR, overR, fillL, zl, places, allSizes, heldC, ne_eq, Int.reduceLE, Int.reduceLT, Int.reduceEq, Int.reduceNe, Int.reduceToNat, Int.cast_ofNat_Int, Nat.reduceMul, Nat.reduceLeDiff, reduceIte, Nat.reduceEqDiff, Nat.reduceAdd, ↓reduceIte, Try.vcT, gets]
    exact ⟨_, 0, Nat.zero_le _, rfl, rfl, by simp, h⟩
  intro ks hk k vs w3 hi
  clear h
  try clear F
  obtain ⟨i, hi, rfl, rfl, htk, h⟩ := hi
  simp -dsimp only [gets, argE, List.zip_cons_cons, List.zip_nil_left, List.cons_append, List.nil_append, Env.get, Env.push, Option.bind_some, Option.map_some, Option.some.injEq, reduceIte, Nat.reduceEqDiff, Nat.reduceAdd, ↓reduceIte] at hk; subst hk
  by_cases hlt : (i : Int) < m.p.length
  case pos =>
    have Rx := R.p
    have Qx := Q.p
    dsimp only at Rx Qx
    have hil : i < m.p.length := by omega
    have hil' : i < o.p.length := by omega
    obtain ⟨b, oo, eb, hcx⟩ := Rx.at hil (by decide)
    obtain ⟨b', oo', eb', hcy⟩ := Qx.at hil' (by decide)
    have wx := Rx.wid _ (List.getElem_mem hil)
    have wy := Qx.wid _ (List.getElem_mem hil')
    have htk2 : m.p[i] = o.p[i] → m.p.take (i + 1) = o.p.take (i + 1) := fun e => take_succ_eq htk hil hil' e
    have hne : m.p[i] ≠ o.p[i] → m.same o = false := fun e => MapV.same_no fun f => e (by subst f; rfl)
    generalize m.p[i] = x at *
    generalize o.p[i] = y at *
    obtain ⟨a0, a1, rfl⟩ := len_2 wx
    obtain ⟨c0, c1, rfl⟩ := len_2 wy
    have k0 : w.cell? ⟨b, oo + i * 2, none⟩ = some (.int .i64 a0) := Tab.cell hcx 0 (by simp)
    have k0 := (h.cell0 (by rw [k0]; rfl) id).trans k0
    have m0 : w.cell? ⟨b', oo' + i * 2, none⟩ = some (.int .i64 c0) := Tab.cell hcy 0 (by simp)
    have m0 := (h.cell0 (by rw [m0]; rfl) id).trans m0
    have k1 : w.cell? ⟨b, oo + i * 2 + 1, none⟩ = some (.int .i64 a1) := Tab.cell hcx 1 (by simp)
    have k1 := (h.cell0 (by rw [k1]; rfl) id).trans k1
    have m1 : w.cell? ⟨b', oo' + i * 2 + 1, none⟩ = some (.int .i64 c1) := Tab.cell hcy 1 (by simp)
    have m1 := (h.cell0 (by rw [m1]; rfl) id).trans m1
    have ei : IntKind.i64.wrap ((i : Int) + 1) = ((i + 1 : Nat) : Int) := by rw [i64w _ (by omega) (by omega)]; omega
    have h0i : (0 : Int) ≤ i := by omega
    have hlt' : (i : Int) < o.p.length := by omega
    (try simp only [nfD] at h); have F := h.facts; (try simp only [nfF, emp_fact, rds_fact, frm_fact, tab_fact, chn_fact, mapX_fact, two_fact] at F); try simp -dsimp only [↓vcA, vcB, vcD, ↓pureT_lenS, ↓iteT, ↓iteF, cond_true, cond_false, eq_self, argE, Env.get, Env.push, ev, evs, evo, retV, Value.cells, Value.oneCell', setR, overR, fillL, zl, places, allSizes, heldC, ne_eq, Int.reduceLE, Int.reduceLT, Int.reduceEq, Int.reduceNe, Int.reduceToNat, Int.cast_ofNat_Int, Nat.reduceMul, Nat.reduceLeDiff, reduceIte, Nat.reduceEqDiff, Nat.reduceAdd, ↓reduceIte, Try.vcT, F, h.cell0, gets, vsD, if_true, if_false, Bool.false_eq_true,  decide_eq_true hlt]
    rw [eb, eb'] at h
    (try simp only [nfD] at h); have F := h.facts; (try simp only [nfF, emp_fact, rds_fact, frm_fact, tab_fact, chn_fact, mapX_fact, two_fact] at F)
    refine walkDraw (.q 0 (.q 2 (.q 5 (.q 7 (.h 1 0 (.q 3 (.h 4 1 (.h 6 3 (.q 8 (.h 9 4 (.q 10 .fin))))))))))) [(b1, 7, .slice (some ⟨b, oo, none⟩) m.p.length cp), (b, oo + i * 2, .int .i64 a0), (b, oo + i * 2 + 1, .int .i64 a1), (b2, 7, .slice (some ⟨b', oo', none⟩) o.p.length c'p), (b', oo' + i * 2, .int .i64 c0), (b', oo' + i * 2 + 1, .int .i64 c1)] (by kernel_rfl) (by simp [Holds_nil, Holds_cons, F, k0, m0, k1, m1]) ?_
    refine h.draw ?_
    clear h F
    intro w6 h
    (try simp only [nfD] at h); have F := h.facts; (try simp only [nfF, emp_fact, rds_fact, frm_fact, tab_fact, chn_fact, mapX_fact, two_fact] at F); try simp -dsimp only [↓vcA, vcB, vcD, ↓pureT_lenS, ↓iteT, ↓iteF, cond_true, cond_false, eq_self, argE, Env.get, Env.push, ev, evs, evo, retV, Value.cells, Value.oneCell', setR, overR, fillL, zl, places, allSizes, heldC, ne_eq, Int.reduceLE, Int.reduceLT, Int.reduceEq, Int.reduceNe, Int.reduceToNat, Int.cast_ofNat_Int, Nat.reduceMul, Nat.reduceLeDiff, reduceIte, Nat.reduceEqDiff, Nat.reduceAdd, ↓reduceIte, Try.vcT, F, h.cell0, gets, vsD, if_true, if_false, Bool.false_eq_true]
    refine ⟨⟨h0i, hlt⟩, ⟨h0i, hlt'⟩, binK_neq_agg (by kernel_rfl) (fun w => seqPt (d := 9998) a0 a1 c0 c1 w) ?_⟩
    by_cases he : [a0, a1] = [c0, c1]
    case pos =>
      (try simp only [nfD] at h); have F := h.facts; (try simp only [nfF, emp_fact, rds_fact, frm_fact, tab_fact, chn_fact, mapX_fact, two_fact] at F); try simp -dsimp only [↓vcA, vcB, vcD, ↓pureT_lenS, ↓iteT, ↓iteF, cond_true, cond_false, eq_self, argE, Env.get, Env.push, ev, evs, evo, retV, Value.cells, Value.oneCell', setR, overR, fillL, zl, places, allSizes, heldC, ne_eq, Int.reduceLE, Int.reduceLT, Int.reduceEq, Int.reduceNe, Int.reduceToNat, Int.cast_ofNat_Int, Nat.reduceMul, Nat.reduceLeDiff, reduceIte, Nat.reduceEqDiff, Nat.reduceAdd, ↓reduceIte, Try.vcT, F, h.cell0, gets, vsD, if_true, if_false, Bool.false_eq_true,  decide_eq_true he, ei]
      refine ⟨_, ?_, i + 1, by omega, rfl, rfl, htk2 he, ?_⟩
      · omega
      · rw [eb, eb']; exact h
    case neg =>
      (try simp only [nfD] at h); have F := h.facts; (try simp only [nfF, emp_fact, rds_fact, frm_fact, tab_fact, chn_fact, mapX_fact, two_fact] at F); try simp -dsimp only [↓vcA, vcB, vcD, ↓pureT_lenS, ↓iteT, ↓iteF, cond_true, cond_false, eq_self, argE, Env.get, Env.push, ev, evs, evo, retV, Value.cells, Value.oneCell', setR, overR, fillL, zl, places, allSizes, heldC, ne_eq, Int.reduceLE, Int.reduceLT, Int.reduceEq, Int.reduceNe, Int.reduceToNat, Int.cast_ofNat_Int, Nat.reduceMul, Nat.reduceLeDiff, reduceIte, Nat.reduceEqDiff, Nat.reduceAdd, ↓reduceIte, Try.vcT, F, h.cell0, gets, vsD, if_true, if_false, Bool.false_eq_true,  decide_eq_false he]
      exact ⟨by rw [hne he], h.done⟩
  have ep : m.p = o.p := by
    have h1 : m.p.take i = m.p := List.take_of_length_le (by omega)
    have h2 : o.p.take i = o.p := List.take_of_length_le (by omega)
    rw [h1, h2] at htk; exact htk
  (try simp only [nfD] at h); have F := h.facts; (try simp only [nfF, emp_fact, rds_fact, frm_fact, tab_fact, chn_fact, mapX_fact, two_fact] at F); try simp -dsimp only [↓vcA, vcB, vcD, ↓pureT_lenS, ↓iteT, ↓iteF, cond_true, cond_false, eq_self, argE, Env.get, Env.push, ev, evs, evo, retV, Value.cells, Value.oneCell', setR, overR, fillL, zl, places, allSizes, heldC, ne_eq, Int.reduceLE, Int.reduceLT, Int.reduceEq, Int.reduceNe, Int.reduceToNat, Int.cast_ofNat_Int, Nat.reduceMul, Nat.reduceLeDiff, reduceIte, Nat.reduceEqDiff, Nat.reduceAdd, ↓reduceIte, Try.vcT, F, h.cell0, gets, vsD, if_true, if_false, Bool.false_eq_true,  decide_eq_false hlt]
  clear htk hi hlt
  refine walkLoop [2, 3] [6] (fun k vs w' => ∃ i, i ≤ m.wa.length ∧ k = m.wa.length - i ∧ vs = [.int .i64 i] ∧ m.wa.take i = o.wa.take i ∧ Sep w (fun _ => False) [blk b1 96 [.int .i64 m.w, .int .i64 m.h, .int .i64 m.te, .int .i64 m.wi, .int .i64 m.mr, .int .i64 m.mb, .int .i64 m.ti, .slice ap m.p.length cp, .slice awa m.wa.length cwa, .slice apa m.pa.length cpa, .slice are m.re.length cre, .slice aca m.ca.length cca, .slice ais m.is.length cis, .slice aco m.co.length cco, .slice ach m.ch.length cch], blk b2 96 [.int .i64 o.w, .int .i64 o.h, .int .i64 o.te, .int .i64 o.wi, .int .i64 o.mr, .int .i64 o.mb, .int .i64 o.ti, .slice a'p o.p.length c'p, .slice a'wa o.wa.length c'wa, .slice a'pa o.pa.length c'pa, .slice a're o.re.length c're, .slice a'ca o.ca.length c'ca, .slice a'is o.is.length c'is, .slice a'co o.co.length c'co, .slice a'ch o.ch.length c'ch]] w') (by kernel_rfl) ?_ ?_
  · simp -dsimp only [↓vcA, vcB, vcD, ↓pureT_lenS, ↓iteT, ↓iteF, cond_true, cond_false, eq_self, argE, Env.get, Env.push, ev, evs, evo, retV, Value.cells, Value.oneCell', setR, overR, fillL, zl, places, allSizes, heldC, ne_eq, Int.reduceLE, Int.reduceLT, Int.reduceEq, Int.reduceNe, Int.reduceToNat, Int.cast_ofNat_Int, Nat.reduceMul, Nat.reduceLeDiff, reduceIte, Nat.reduceEqDiff, Nat.reduceAdd, ↓reduceIte, Try.vcT, gets]
    exact ⟨_, 0, Nat.zero_le _, rfl, rfl, by simp, h⟩
  intro ks hk k vs w3 hi
  clear h
  try clear F
  obtain ⟨i, hi, rfl, rfl, htk, h⟩ := hi
  simp -dsimp only [gets, argE, List.zip_cons_cons, List.zip_nil_left, List.cons_append, List.nil_append, Env.get, Env.push, Option.bind_some, Option.map_some, Option.some.injEq, reduceIte, Nat.reduceEqDiff, Nat.reduceAdd, ↓reduceIte] at hk; subst hk
  by_cases hlt : (i : Int) < m.wa.length
  case pos =>
    have Rx := R.wa
    have Qx := Q.wa
    dsimp only at Rx Qx
    have hil : i < m.wa.length := by omega
    have hil' : i < o.wa.length := by omega
    obtain ⟨b, oo, eb, hcx⟩ := Rx.at hil (by decide)
    obtain ⟨b', oo', eb', hcy⟩ := Qx.at hil' (by decide)
    have wx := Rx.wid _ (List.getElem_mem hil)
    have wy := Qx.wid _ (List.getElem_mem hil')
    have htk2 : m.wa[i] = o.wa[i] → m.wa.take (i + 1) = o.wa.take (i + 1) := fun e => take_succ_eq htk hil hil' e
    have hne : m.wa[i] ≠ o.wa[i] → m.same o = false := fun e => MapV.same_no fun f => e (by subst f; rfl)
    generalize m.wa[i] = x at *
    generalize o.wa[i] = y at *
    obtain ⟨a0, a1, a2, a3, a4, rfl⟩ := len_5 wx
    obtain ⟨c0, c1, c2, c3, c4, rfl⟩ := len_5 wy
    have k0 : w.cell? ⟨b, oo + i * 5, none⟩ = some (.int .i64 a0) := Tab.cell hcx 0 (by simp)
    have k0 := (h.cell0 (by rw [k0]; rfl) id).trans k0
    have m0 : w.cell? ⟨b', oo' + i * 5, none⟩ = some (.int .i64 c0) := Tab.cell hcy 0 (by simp)
    have m0 := (h.cell0 (by rw [m0]; rfl) id).trans m0
    have k1 : w.cell? ⟨b, oo + i * 5 + 1, none⟩ = some (.int .i64 a1) := Tab.cell hcx 1 (by simp)
    have k1 := (h.cell0 (by rw [k1]; rfl) id).trans k1
    have m1 : w.cell? ⟨b', oo' + i * 5 + 1, none⟩ = some (.int .i64 c1) := Tab.cell hcy 1 (by simp)
    have m1 := (h.cell0 (by rw [m1]; rfl) id).trans m1
    have k2 : w.cell? ⟨b, oo + i * 5 + 2, none⟩ = some (.int .i64 a2) := Tab.cell hcx 2 (by simp)
    have k2 := (h.cell0 (by rw [k2]; rfl) id).trans k2
    have m2 : w.cell? ⟨b', oo' + i * 5 + 2, none⟩ = some (.int .i64 c2) := Tab.cell hcy 2 (by simp)
    have m2 := (h.cell0 (by rw [m2]; rfl) id).trans m2
    have k3 : w.cell? ⟨b, oo + i * 5 + 3, none⟩ = some (.int .i64 a3) := Tab.cell hcx 3 (by simp)
    have k3 := (h.cell0 (by rw [k3]; rfl) id).trans k3
    have m3 : w.cell? ⟨b', oo' + i * 5 + 3, none⟩ = some (.int .i64 c3) := Tab.cell hcy 3 (by simp)
    have m3 := (h.cell0 (by rw [m3]; rfl) id).trans m3
    have k4 : w.cell? ⟨b, oo + i * 5 + 4, none⟩ = some (.int .i64 a4) := Tab.cell hcx 4 (by simp)
    have k4 := (h.cell0 (by rw [k4]; rfl) id).trans k4
    have m4 : w.cell? ⟨b', oo' + i * 5 + 4, none⟩ = some (.int .i64 c4) := Tab.cell hcy 4 (by simp)
    have m4 := (h.cell0 (by rw [m4]; rfl) id).trans m4
    have ei : IntKind.i64.wrap ((i : Int) + 1) = ((i + 1 : Nat) : Int) := by rw [i64w _ (by omega) (by omega)]; omega
    have h0i : (0 : Int) ≤ i := by omega
    have hlt' : (i : Int) < o.wa.length := by omega
    (try simp only [nfD] at h); have F := h.facts; (try simp only [nfF, emp_fact, rds_fact, frm_fact, tab_fact, chn_fact, mapX_fact, two_fact] at F); try simp -dsimp only [↓vcA, vcB, vcD, ↓pureT_lenS, ↓iteT, ↓iteF, cond_true, cond_false, eq_self, argE, Env.get, Env.push, ev, evs, evo, retV, Value.cells, Value.oneCell', setR, overR, fillL, zl, places, allSizes, heldC, ne_eq, Int.reduceLE, Int.reduceLT, Int.reduceEq, Int.reduceNe, Int.reduceToNat, Int.cast_ofNat_Int, Nat.reduceMul, Nat.reduceLeDiff, reduceIte, Nat.reduceEqDiff, Nat.reduceAdd, ↓reduceIte, Try.vcT, F, h.cell0, gets, vsD, if_true, if_false, Bool.false_eq_true,  decide_eq_true hlt]
    rw [eb, eb'] at h
    (try simp only [nfD] at h); have F := h.facts; (try simp only [nfF, emp_fact, rds_fact, frm_fact, tab_fact, chn_fact, mapX_fact, two_fact] at F)
    refine walkDraw (.q 0 (.q 2 (.q 5 (.q 7 (.h 1 0 (.q 3 (.h 4 1 (.h 6 6 (.q 8 (.h 9 7 (.q 10 .fin))))))))))) [(b1, 8, .slice (some ⟨b, oo, none⟩) m.wa.length cwa), (b, oo + i * 5, .int .i64 a0), (b, oo + i * 5 + 1, .int .i64 a1), (b, oo + i * 5 + 2, .int .i64 a2), (b, oo + i * 5 + 3, .int .i64 a3), (b, oo + i * 5 + 4, .int .i64 a4), (b2, 8, .slice (some ⟨b', oo', none⟩) o.wa.length c'wa), (b', oo' + i * 5, .int .i64 c0), (b', oo' + i * 5 + 1, .int .i64 c1), (b', oo' + i * 5 + 2, .int .i64 c2), (b', oo' + i * 5 + 3, .int .i64 c3), (b', oo' + i * 5 + 4, .int .i64 c4)] (by kernel_rfl) (by simp [Holds_nil, Holds_cons, F, k0, m0, k1, m1, k2, m2, k3, m3, k4, m4]) ?_
    refine h.draw ?_
    clear h F
    intro w6 h
    (try simp only [nfD] at h); have F := h.facts; (try simp only [nfF, emp_fact, rds_fact, frm_fact, tab_fact, chn_fact, mapX_fact, two_fact] at F); try simp -dsimp only [↓vcA, vcB, vcD, ↓pureT_lenS, ↓iteT, ↓iteF, cond_true, cond_false, eq_self, argE, Env.get, Env.push, ev, evs, evo, retV, Value.cells, Value.oneCell', setR, overR, fillL, zl, places, allSizes, heldC, ne_eq, Int.reduceLE, Int.reduceLT, Int.reduceEq, Int.reduceNe, Int.reduceToNat, Int.cast_ofNat_Int, Nat.reduceMul, Nat.reduceLeDiff, reduceIte, Nat.reduceEqDiff, Nat.reduceAdd, ↓reduceIte, Try.vcT, F, h.cell0, gets, vsD, if_true, if_false, Bool.false_eq_true]
    refine ⟨⟨h0i, hlt⟩, ⟨h0i, hlt'⟩, binK_neq_agg (by kernel_rfl) (fun w => seqW (d := 9997) a0 a1 a2 a3 a4 c0 c1 c2 c3 c4 w) ?_⟩
    by_cases he : [a0, a1, a2, a3, a4] = [c0, c1, c2, c3, c4]
    case pos =>
      (try simp only [nfD] at h); have F := h.facts; (try simp only [nfF, emp_fact, rds_fact, frm_fact, tab_fact, chn_fact, mapX_fact, two_fact] at F); try simp -dsimp only [↓vcA, vcB, vcD, ↓pureT_lenS, ↓iteT, ↓iteF, cond_true, cond_false, eq_self, argE, Env.get, Env.push, ev, evs, evo, retV, Value.cells, Value.oneCell', setR, overR, fillL, zl, places, allSizes, heldC, ne_eq, Int.reduceLE, Int.reduceLT, Int.reduceEq, Int.reduceNe, Int.reduceToNat, Int.cast_ofNat_Int, Nat.reduceMul, Nat.reduceLeDiff, reduceIte, Nat.reduceEqDiff, Nat.reduceAdd, ↓reduceIte, Try.vcT, F, h.cell0, gets, vsD, if_true, if_false, Bool.false_eq_true,  decide_eq_true he, ei]
      refine ⟨_, ?_, i + 1, by omega, rfl, rfl, htk2 he, ?_⟩
      · omega
      · rw [eb, eb']; exact h
    case neg =>
      (try simp only [nfD] at h); have F := h.facts; (try simp only [nfF, emp_fact, rds_fact, frm_fact, tab_fact, chn_fact, mapX_fact, two_fact] at F); try simp -dsimp only [↓vcA, vcB, vcD, ↓pureT_lenS, ↓iteT, ↓iteF, cond_true, cond_false, eq_self, argE, Env.get, Env.push, ev, evs, evo, retV, Value.cells, Value.oneCell', setR, overR, fillL, zl, places, allSizes, heldC, ne_eq, Int.reduceLE, Int.reduceLT, Int.reduceEq, Int.reduceNe, Int.reduceToNat, Int.cast_ofNat_Int, Nat.reduceMul, Nat.reduceLeDiff, reduceIte, Nat.reduceEqDiff, Nat.reduceAdd, ↓reduceIte, Try.vcT, F, h.cell0, gets, vsD, if_true, if_false, Bool.false_eq_true,  decide_eq_false he]
      exact ⟨by rw [hne he], h.done⟩
  have ewa : m.wa = o.wa := by
    have h1 : m.wa.take i = m.wa := List.take_of_length_le (by omega)
    have h2 : o.wa.take i = o.wa := List.take_of_length_le (by omega)
    rw [h1, h2] at htk; exact htk
  (try simp only [nfD] at h); have F := h.facts; (try simp only [nfF, emp_fact, rds_fact, frm_fact, tab_fact, chn_fact, mapX_fact, two_fact] at F); try simp -dsimp only [↓vcA, vcB, vcD, ↓pureT_lenS, ↓iteT, ↓iteF, cond_true, cond_false, eq_self, argE, Env.get, Env.push, ev, evs, evo, retV, Value.cells, Value.oneCell', setR, overR, fillL, zl, places, allSizes, heldC, ne_eq, Int.reduceLE, Int.reduceLT, Int.reduceEq, Int.reduceNe, Int.reduceToNat, Int.cast_ofNat_Int, Nat.reduceMul, Nat.reduceLeDiff, reduceIte, Nat.reduceEqDiff, Nat.reduceAdd, ↓reduceIte, Try.vcT, F, h.cell0, gets, vsD, if_true, if_false, Bool.false_eq_true,  decide_eq_false hlt]
  clear htk hi hlt
  refine walkLoop [2, 3] [7] (fun k vs w' => ∃ i, i ≤ m.pa.length ∧ k = m.pa.length - i ∧ vs = [.int .i64 i] ∧ m.pa.take i = o.pa.take i ∧ Sep w (fun _ => False) [blk b1 96 [.int .i64 m.w, .int .i64 m.h, .int .i64 m.te, .int .i64 m.wi, .int .i64 m.mr, .int .i64 m.mb, .int .i64 m.ti, .slice ap m.p.length cp, .slice awa m.wa.length cwa, .slice apa m.pa.length cpa, .slice are m.re.length cre, .slice aca m.ca.length cca, .slice ais m.is.length cis, .slice aco m.co.length cco, .slice ach m.ch.length cch], blk b2 96 [.int .i64 o.w, .int .i64 o.h, .int .i64 o.te, .int .i64 o.wi, .int .i64 o.mr, .int .i64 o.mb, .int .i64 o.ti, .slice a'p o.p.length c'p, .slice a'wa o.wa.length c'wa, .slice a'pa o.pa.length c'pa, .slice a're o.re.length c're, .slice a'ca o.ca.length c'ca, .slice a'is o.is.length c'is, .slice a'co o.co.length c'co, .slice a'ch o.ch.length c'ch]] w') (by kernel_rfl) ?_ ?_
  · simp -dsimp only [↓vcA, vcB, vcD, ↓pureT_lenS, ↓iteT, ↓iteF, cond_true, cond_false, eq_self, argE, Env.get, Env.push, ev, evs, evo, retV, Value.cells, Value.oneCell', setR, overR, fillL, zl, places, allSizes, heldC, ne_eq, Int.reduceLE, Int.reduceLT, Int.reduceEq, Int.reduceNe, Int.reduceToNat, Int.cast_ofNat_Int, Nat.reduceMul, Nat.reduceLeDiff, reduceIte, Nat.reduceEqDiff, Nat.reduceAdd, ↓reduceIte, Try.vcT, gets]
    exact ⟨_, 0, Nat.zero_le _, rfl, rfl, by simp, h⟩
  intro ks hk k vs w3 hi
  clear h
  try clear F
  obtain ⟨i, hi, rfl, rfl, htk, h⟩ := hi
  simp -dsimp only [gets, argE, List.zip_cons_cons, List.zip_nil_left, List.cons_append, List.nil_append, Env.get, Env.push, Option.bind_some, Option.map_some, Option.some.injEq, reduceIte, Nat.reduceEqDiff, Nat.reduceAdd, ↓reduceIte] at hk; subst hk
  by_cases hlt : (i : Int) < m.pa.length
  case pos =>
    have Rx := R.pa
    have Qx := Q.pa
    dsimp only at Rx Qx
    have hil : i < m.pa.length := by omega
    have hil' : i < o.pa.length := by omega
    obtain ⟨b, oo, eb, hcx⟩ := Rx.at hil (by decide)
    obtain ⟨b', oo', eb', hcy⟩ := Qx.at hil' (by decide)
    have wx := Rx.wid _ (List.getElem_mem hil)
    have wy := Qx.wid _ (List.getElem_mem hil')
    have htk2 : m.pa[i] = o.pa[i] → m.pa.take (i + 1) = o.pa.take (i + 1) := fun e => take_succ_eq htk hil hil' e
    have hne : m.pa[i] ≠ o.pa[i] → m.same o = false := fun e => MapV.same_no fun f => e (by subst f; rfl)
    generalize m.pa[i] = x at *
    generalize o.pa[i] = y at *
    obtain ⟨a0, a1, rfl⟩ := len_2 wx
    obtain ⟨c0, c1, rfl⟩ := len_2 wy
    have k0 : w.cell? ⟨b, oo + i * 2, none⟩ = some (.int .i64 a0) := Tab.cell hcx 0 (by simp)
    have k0 := (h.cell0 (by rw [k0]; rfl) id).trans k0
    have m0 : w.cell? ⟨b', oo' + i * 2, none⟩ = some (.int .i64 c0) := Tab.cell hcy 0 (by simp)
    have m0 := (h.cell0 (by rw [m0]; rfl) id).trans m0
    have k1 : w.cell? ⟨b, oo + i * 2 + 1, none⟩ = some (.int .i64 a1) := Tab.cell hcx 1 (by simp)
    have k1 := (h.cell0 (by rw [k1]; rfl) id).trans k1
    have m1 : w.cell? ⟨b', oo' + i * 2 + 1, none⟩ = some (.int .i64 c1) := Tab.cell hcy 1 (by simp)
    have m1 := (h.cell0 (by rw [m1]; rfl) id).trans m1
    have ei : IntKind.i64.wrap ((i : Int) + 1) = ((i + 1 : Nat) : Int) := by rw [i64w _ (by omega) (by omega)]; omega
    have h0i : (0 : Int) ≤ i := by omega
    have hlt' : (i : Int) < o.pa.length := by omega
    (try simp only [nfD] at h); have F := h.facts; (try simp only [nfF, emp_fact, rds_fact, frm_fact, tab_fact, chn_fact, mapX_fact, two_fact] at F); try simp -dsimp only [↓vcA, vcB, vcD, ↓pureT_lenS, ↓iteT, ↓iteF, cond_true, cond_false, eq_self, argE, Env.get, Env.push, ev, evs, evo, retV, Value.cells, Value.oneCell', setR, overR, fillL, zl, places, allSizes, heldC, ne_eq, Int.reduceLE, Int.reduceLT, Int.reduceEq, Int.reduceNe, Int.reduceToNat, Int.cast_ofNat_Int, Nat.reduceMul, Nat.reduceLeDiff, reduceIte, Nat.reduceEqDiff, Nat.reduceAdd, ↓reduceIte, Try.vcT, F, h.cell0, gets, vsD, if_true, if_false, Bool.false_eq_true,  decide_eq_true hlt]
    rw [eb, eb'] at h
    (try simp only [nfD] at h); have F := h.facts; (try simp only [nfF, emp_fact, rds_fact, frm_fact, tab_fact, chn_fact, mapX_fact, two_fact] at F)
    refine walkDraw (.q 0 (.q 2 (.q 5 (.q 7 (.h 1 0 (.q 3 (.h 4 1 (.h 6 3 (.q 8 (.h 9 4 (.q 10 .fin))))))))))) [(b1, 9, .slice (some ⟨b, oo, none⟩) m.pa.length cpa), (b, oo + i * 2, .int .i64 a0), (b, oo + i * 2 + 1, .int .i64 a1), (b2, 9, .slice (some ⟨b', oo', none⟩) o.pa.length c'pa), (b', oo' + i * 2, .int .i64 c0), (b', oo' + i * 2 + 1, .int .i64 c1)] (by kernel_rfl) (by simp [Holds_nil, Holds_cons, F, k0, m0, k1, m1]) ?_
    refine h.draw ?_
    clear h F
    intro w6 h
    (try simp only [nfD] at h); have F := h.facts; (try simp only [nfF, emp_fact, rds_fact, frm_fact, tab_fact, chn_fact, mapX_fact, two_fact] at F); try simp -dsimp only [↓vcA, vcB, vcD, ↓pureT_lenS, ↓iteT, ↓iteF, cond_true, cond_false, eq_self, argE, Env.get, Env.push, ev, evs, evo, retV, Value.cells, Value.oneCell', setR, overR, fillL, zl, places, allSizes, heldC, ne_eq, Int.reduceLE, Int.reduceLT, Int.reduceEq, Int.reduceNe, Int.reduceToNat, Int.cast_ofNat_Int, Nat.reduceMul, Nat.reduceLeDiff, reduceIte, Nat.reduceEqDiff, Nat.reduceAdd, ↓reduceIte, Try.vcT, F, h.cell0, gets, vsD, if_true, if_false, Bool.false_eq_true]
    refine ⟨⟨h0i, hlt⟩, ⟨h0i, hlt'⟩, binK_neq_agg (by kernel_rfl) (fun w => seqPa (d := 9998) a0 a1 c0 c1 w) ?_⟩
    by_cases he : [a0, a1] = [c0, c1]
    case pos =>
      (try simp only [nfD] at h); have F := h.facts; (try simp only [nfF, emp_fact, rds_fact, frm_fact, tab_fact, chn_fact, mapX_fact, two_fact] at F); try simp -dsimp only [↓vcA, vcB, vcD, ↓pureT_lenS, ↓iteT, ↓iteF, cond_true, cond_false, eq_self, argE, Env.get, Env.push, ev, evs, evo, retV, Value.cells, Value.oneCell', setR, overR, fillL, zl, places, allSizes, heldC, ne_eq, Int.reduceLE, Int.reduceLT, Int.reduceEq, Int.reduceNe, Int.reduceToNat, Int.cast_ofNat_Int, Nat.reduceMul, Nat.reduceLeDiff, reduceIte, Nat.reduceEqDiff, Nat.reduceAdd, ↓reduceIte, Try.vcT, F, h.cell0, gets, vsD, if_true, if_false, Bool.false_eq_true,  decide_eq_true he, ei]
      refine ⟨_, ?_, i + 1, by omega, rfl, rfl, htk2 he, ?_⟩
      · omega
      · rw [eb, eb']; exact h
    case neg =>
      (try simp only [nfD] at h); have F := h.facts; (try simp only [nfF, emp_fact, rds_fact, frm_fact, tab_fact, chn_fact, mapX_fact, two_fact] at F); try simp -dsimp only [↓vcA, vcB, vcD, ↓pureT_lenS, ↓iteT, ↓iteF, cond_true, cond_false, eq_self, argE, Env.get, Env.push, ev, evs, evo, retV, Value.cells, Value.oneCell', setR, overR, fillL, zl, places, allSizes, heldC, ne_eq, Int.reduceLE, Int.reduceLT, Int.reduceEq, Int.reduceNe, Int.reduceToNat, Int.cast_ofNat_Int, Nat.reduceMul, Nat.reduceLeDiff, reduceIte, Nat.reduceEqDiff, Nat.reduceAdd, ↓reduceIte, Try.vcT, F, h.cell0, gets, vsD, if_true, if_false, Bool.false_eq_true,  decide_eq_false he]
      exact ⟨by rw [hne he], h.done⟩
  have epa : m.pa = o.pa := by
    have h1 : m.pa.take i = m.pa := List.take_of_length_le (by omega)
    have h2 : o.pa.take i = o.pa := List.take_of_length_le (by omega)
    rw [h1, h2] at htk; exact htk
  (try simp only [nfD] at h); have F := h.facts; (try simp only [nfF, emp_fact, rds_fact, frm_fact, tab_fact, chn_fact, mapX_fact, two_fact] at F); try simp -dsimp only [↓vcA, vcB, vcD, ↓pureT_lenS, ↓iteT, ↓iteF, cond_true, cond_false, eq_self, argE, Env.get, Env.push, ev, evs, evo, retV, Value.cells, Value.oneCell', setR, overR, fillL, zl, places, allSizes, heldC, ne_eq, Int.reduceLE, Int.reduceLT, Int.reduceEq, Int.reduceNe, Int.reduceToNat, Int.cast_ofNat_Int, Nat.reduceMul, Nat.reduceLeDiff, reduceIte, Nat.reduceEqDiff, Nat.reduceAdd, ↓reduceIte, Try.vcT, F, h.cell0, gets, vsD, if_true, if_false, Bool.false_eq_true,  decide_eq_false hlt]
  clear htk hi hlt
  refine walkLoop [2, 3] [8] (fun k vs w' => ∃ i, i ≤ m.re.length ∧ k = m.re.length - i ∧ vs = [.int .i64 i] ∧ m.re.take i = o.re.take i ∧ Sep w (fun _ => False) [blk b1 96 [.int .i64 m.w, .int .i64 m.h, .int .i64 m.te, .int .i64 m.wi, .int .i64 m.mr, .int .i64 m.mb, .int .i64 m.ti, .slice ap m.p.length cp, .slice awa m.wa.length cwa, .slice apa m.pa.length cpa, .slice are m.re.length cre, .slice aca m.ca.length cca, .slice ais m.is.length cis, .slice aco m.co.length cco, .slice ach m.ch.length cch], blk b2 96 [.int .i64 o.w, .int .i64 o.h, .int .i64 o.te, .int .i64 o.wi, .int .i64 o.mr, .int .i64 o.mb, .int .i64 o.ti, .slice a'p o.p.length c'p, .slice a'wa o.wa.length c'wa, .slice a'pa o.pa.length c'pa, .slice a're o.re.length c're, .slice a'ca o.ca.length c'ca, .slice a'is o.is.length c'is, .slice a'co o.co.length c'co, .slice a'ch o.ch.length c'ch]] w') (by kernel_rfl) ?_ ?_
  · simp -dsimp only [↓vcA, vcB, vcD, ↓pureT_lenS, ↓iteT, ↓iteF, cond_true, cond_false, eq_self, argE, Env.get, Env.push, ev, evs, evo, retV, Value.cells, Value.oneCell', setR, overR, fillL, zl, places, allSizes, heldC, ne_eq, Int.reduceLE, Int.reduceLT, Int.reduceEq, Int.reduceNe, Int.reduceToNat, Int.cast_ofNat_Int, Nat.reduceMul, Nat.reduceLeDiff, reduceIte, Nat.reduceEqDiff, Nat.reduceAdd, ↓reduceIte, Try.vcT, gets]
    exact ⟨_, 0, Nat.zero_le _, rfl, rfl, by simp, h⟩
  intro ks hk k vs w3 hi
  clear h
  try clear F
  obtain ⟨i, hi, rfl, rfl, htk, h⟩ := hi
  simp -dsimp only [gets, argE, List.zip_cons_cons, List.zip_nil_left, List.cons_append, List.nil_append, Env.get, Env.push, Option.bind_some, Option.map_some, Option.some.injEq, reduceIte, Nat.reduceEqDiff, Nat.reduceAdd, ↓reduceIte] at hk; subst hk
  by_cases hlt : (i : Int) < m.re.length
  case pos =>
    have Rx := R.re
    have Qx := Q.re
    dsimp only at Rx Qx
    have hil : i < m.re.length := by omega
    have hil' : i < o.re.length := by omega
    obtain ⟨b, oo, eb, hcx⟩ := Rx.at hil (by decide)
    obtain ⟨b', oo', eb', hcy⟩ := Qx.at hil' (by decide)
    have wx := Rx.wid _ (List.getElem_mem hil)
    have wy := Qx.wid _ (List.getElem_mem hil')
    have htk2 : m.re[i] = o.re[i] → m.re.take (i + 1) = o.re.take (i + 1) := fun e => take_succ_eq htk hil hil' e
    have hne : m.re[i] ≠ o.re[i] → m.same o = false := fun e => MapV.same_no fun f => e (by subst f; rfl)
    generalize m.re[i] = x at *
    generalize o.re[i] = y at *
    obtain ⟨a0, a1, a2, a3, a4, a5, a6, a7, a8, a9, rfl⟩ := len_10 wx
    obtain ⟨c0, c1, c2, c3, c4, c5, c6, c7, c8, c9, rfl⟩ := len_10 wy
    have k0 : w.cell? ⟨b, oo + i * 10, none⟩ = some (.int .i64 a0) := Tab.cell hcx 0 (by simp)
    have k0 := (h.cell0 (by rw [k0]; rfl) id).trans k0
    have m0 : w.cell? ⟨b', oo' + i * 10, none⟩ = some (.int .i64 c0) := Tab.cell hcy 0 (by simp)
    have m0 := (h.cell0 (by rw [m0]; rfl) id).trans m0
    have k1 : w.cell? ⟨b, oo + i * 10 + 1, none⟩ = some (.int .i64 a1) := Tab.cell hcx 1 (by simp)
    have k1 := (h.cell0 (by rw [k1]; rfl) id).trans k1
    have m1 : w.cell? ⟨b', oo' + i * 10 + 1, none⟩ = some (.int .i64 c1) := Tab.cell hcy 1 (by simp)
    have m1 := (h.cell0 (by rw [m1]; rfl) id).trans m1
    have k2 : w.cell? ⟨b, oo + i * 10 + 2, none⟩ = some (.int .i64 a2) := Tab.cell hcx 2 (by simp)
    have k2 := (h.cell0 (by rw [k2]; rfl) id).trans k2
    have m2 : w.cell? ⟨b', oo' + i * 10 + 2, none⟩ = some (.int .i64 c2) := Tab.cell hcy 2 (by simp)
    have m2 := (h.cell0 (by rw [m2]; rfl) id).trans m2
    have k3 : w.cell? ⟨b, oo + i * 10 + 3, none⟩ = some (.int .i64 a3) := Tab.cell hcx 3 (by simp)
    have k3 := (h.cell0 (by rw [k3]; rfl) id).trans k3
    have m3 : w.cell? ⟨b', oo' + i * 10 + 3, none⟩ = some (.int .i64 c3) := Tab.cell hcy 3 (by simp)
    have m3 := (h.cell0 (by rw [m3]; rfl) id).trans m3
    have k4 : w.cell? ⟨b, oo + i * 10 + 4, none⟩ = some (.int .i64 a4) := Tab.cell hcx 4 (by simp)
    have k4 := (h.cell0 (by rw [k4]; rfl) id).trans k4
    have m4 : w.cell? ⟨b', oo' + i * 10 + 4, none⟩ = some (.int .i64 c4) := Tab.cell hcy 4 (by simp)
    have m4 := (h.cell0 (by rw [m4]; rfl) id).trans m4
    have k5 : w.cell? ⟨b, oo + i * 10 + 5, none⟩ = some (.int .i64 a5) := Tab.cell hcx 5 (by simp)
    have k5 := (h.cell0 (by rw [k5]; rfl) id).trans k5
    have m5 : w.cell? ⟨b', oo' + i * 10 + 5, none⟩ = some (.int .i64 c5) := Tab.cell hcy 5 (by simp)
    have m5 := (h.cell0 (by rw [m5]; rfl) id).trans m5
    have k6 : w.cell? ⟨b, oo + i * 10 + 6, none⟩ = some (.int .i64 a6) := Tab.cell hcx 6 (by simp)
    have k6 := (h.cell0 (by rw [k6]; rfl) id).trans k6
    have m6 : w.cell? ⟨b', oo' + i * 10 + 6, none⟩ = some (.int .i64 c6) := Tab.cell hcy 6 (by simp)
    have m6 := (h.cell0 (by rw [m6]; rfl) id).trans m6
    have k7 : w.cell? ⟨b, oo + i * 10 + 7, none⟩ = some (.int .i64 a7) := Tab.cell hcx 7 (by simp)
    have k7 := (h.cell0 (by rw [k7]; rfl) id).trans k7
    have m7 : w.cell? ⟨b', oo' + i * 10 + 7, none⟩ = some (.int .i64 c7) := Tab.cell hcy 7 (by simp)
    have m7 := (h.cell0 (by rw [m7]; rfl) id).trans m7
    have k8 : w.cell? ⟨b, oo + i * 10 + 8, none⟩ = some (.int .i64 a8) := Tab.cell hcx 8 (by simp)
    have k8 := (h.cell0 (by rw [k8]; rfl) id).trans k8
    have m8 : w.cell? ⟨b', oo' + i * 10 + 8, none⟩ = some (.int .i64 c8) := Tab.cell hcy 8 (by simp)
    have m8 := (h.cell0 (by rw [m8]; rfl) id).trans m8
    have k9 : w.cell? ⟨b, oo + i * 10 + 9, none⟩ = some (.int .i64 a9) := Tab.cell hcx 9 (by simp)
    have k9 := (h.cell0 (by rw [k9]; rfl) id).trans k9
    have m9 : w.cell? ⟨b', oo' + i * 10 + 9, none⟩ = some (.int .i64 c9) := Tab.cell hcy 9 (by simp)
    have m9 := (h.cell0 (by rw [m9]; rfl) id).trans m9
    have ei : IntKind.i64.wrap ((i : Int) + 1) = ((i + 1 : Nat) : Int) := by rw [i64w _ (by omega) (by omega)]; omega
    have h0i : (0 : Int) ≤ i := by omega
    have hlt' : (i : Int) < o.re.length := by omega
    (try simp only [nfD] at h); have F := h.facts; (try simp only [nfF, emp_fact, rds_fact, frm_fact, tab_fact, chn_fact, mapX_fact, two_fact] at F); try simp -dsimp only [↓vcA, vcB, vcD, ↓pureT_lenS, ↓iteT, ↓iteF, cond_true, cond_false, eq_self, argE, Env.get, Env.push, ev, evs, evo, retV, Value.cells, Value.oneCell', setR, overR, fillL, zl, places, allSizes, heldC, ne_eq, Int.reduceLE, Int.reduceLT, Int.reduceEq, Int.reduceNe, Int.reduceToNat, Int.cast_ofNat_Int, Nat.reduceMul, Nat.reduceLeDiff, reduceIte, Nat.reduceEqDiff, Nat.reduceAdd, ↓reduceIte, Try.vcT, F, h.cell0, gets, vsD, if_true, if_false, Bool.false_eq_true,  decide_eq_true hlt]
    rw [eb, eb'] at h
    (try simp only [nfD] at h); have F := h.facts; (try simp only [nfF, emp_fact, rds_fact, frm_fact, tab_fact, chn_fact, mapX_fact, two_fact] at F)
    refine walkDraw (.q 0 (.q 2 (.q 5 (.q 7 (.h 1 0 (.q 3 (.h 4 1 (.h 6 11 (.q 8 (.h 9 12 (.q 10 .fin))))))))))) [(b1, 10, .slice (some ⟨b, oo, none⟩) m.re.length cre), (b, oo + i * 10, .int .i64 a0), (b, oo + i * 10 + 1, .int .i64 a1), (b, oo + i * 10 + 2, .int .i64 a2), (b, oo + i * 10 + 3, .int .i64 a3), (b, oo + i * 10 + 4, .int .i64 a4), (b, oo + i * 10 + 5, .int .i64 a5), (b, oo + i * 10 + 6, .int .i64 a6), (b, oo + i * 10 + 7, .int .i64 a7), (b, oo + i * 10 + 8, .int .i64 a8), (b, oo + i * 10 + 9, .int .i64 a9), (b2, 10, .slice (some ⟨b', oo', none⟩) o.re.length c're), (b', oo' + i * 10, .int .i64 c0), (b', oo' + i * 10 + 1, .int .i64 c1), (b', oo' + i * 10 + 2, .int .i64 c2), (b', oo' + i * 10 + 3, .int .i64 c3), (b', oo' + i * 10 + 4, .int .i64 c4), (b', oo' + i * 10 + 5, .int .i64 c5), (b', oo' + i * 10 + 6, .int .i64 c6), (b', oo' + i * 10 + 7, .int .i64 c7), (b', oo' + i * 10 + 8, .int .i64 c8), (b', oo' + i * 10 + 9, .int .i64 c9)] (by kernel_rfl) (by simp [Holds_nil, Holds_cons, F, k0, m0, k1, m1, k2, m2, k3, m3, k4, m4, k5, m5, k6, m6, k7, m7, k8, m8, k9, m9]) ?_
    refine h.draw ?_
    clear h F
    intro w6 h
    (try simp only [nfD] at h); have F := h.facts; (try simp only [nfF, emp_fact, rds_fact, frm_fact, tab_fact, chn_fact, mapX_fact, two_fact] at F); try simp -dsimp only [↓vcA, vcB, vcD, ↓pureT_lenS, ↓iteT, ↓iteF, cond_true, cond_false, eq_self, argE, Env.get, Env.push, ev, evs, evo, retV, Value.cells, Value.oneCell', setR, overR, fillL, zl, places, allSizes, heldC, ne_eq, Int.reduceLE, Int.reduceLT, Int.reduceEq, Int.reduceNe, Int.reduceToNat, Int.cast_ofNat_Int, Nat.reduceMul, Nat.reduceLeDiff, reduceIte, Nat.reduceEqDiff, Nat.reduceAdd, ↓reduceIte, Try.vcT, F, h.cell0, gets, vsD, if_true, if_false, Bool.false_eq_true]
    refine ⟨⟨h0i, hlt⟩, ⟨h0i, hlt'⟩, binK_neq_agg (by kernel_rfl) (fun w => seqRe (d := 9996) a0 a1 a2 a3 a4 a5 a6 a7 a8 a9 c0 c1 c2 c3 c4 c5 c6 c7 c8 c9 w) ?_⟩
    by_cases he : [a0, a1, a2, a3, a4, a5, a6, a7, a8, a9] = [c0, c1, c2, c3, c4, c5, c6, c7, c8, c9]
    case pos =>
      (try simp only [nfD] at h); have F := h.facts; (try simp only [nfF, emp_fact, rds_fact, frm_fact, tab_fact, chn_fact, mapX_fact, two_fact] at F); try simp -dsimp only [↓vcA, vcB, vcD, ↓pureT_lenS, ↓iteT, ↓iteF, cond_true, cond_false, eq_self, argE, Env.get, Env.push, ev, evs, evo, retV, Value.cells, Value.oneCell', setR, overR, fillL, zl, places, allSizes, heldC, ne_eq, Int.reduceLE, Int.reduceLT, Int.reduceEq, Int.reduceNe, Int.reduceToNat, Int.cast_ofNat_Int, Nat.reduceMul, Nat.reduceLeDiff, reduceIte, Nat.reduceEqDiff, Nat.reduceAdd, ↓reduceIte, Try.vcT, F, h.cell0, gets, vsD, if_true, if_false, Bool.false_eq_true,  decide_eq_true he, ei]
      refine ⟨_, ?_, i + 1, by omega, rfl, rfl, htk2 he, ?_⟩
      · omega
      · rw [eb, eb']; exact h
    case neg =>
      (try simp only [nfD] at h); have F := h.facts; (try simp only [nfF, emp_fact, rds_fact, frm_fact, tab_fact, chn_fact, mapX_fact, two_fact] at F); try simp -dsimp only [↓vcA, vcB, vcD, ↓pureT_lenS, ↓iteT, ↓iteF, cond_true, cond_false, eq_self, argE, Env.get, Env.push, ev, evs, evo, retV, Value.cells, Value.oneCell', setR, overR, fillL, zl, places, allSizes, heldC, ne_eq, Int.reduceLE, Int.reduceLT, Int.reduceEq, Int.reduceNe, Int.reduceToNat, Int.cast_ofNat_Int, Nat.reduceMul, Nat.reduceLeDiff, reduceIte, Nat.reduceEqDiff, Nat.reduceAdd, ↓reduceIte, Try.vcT, F, h.cell0, gets, vsD, if_true, if_false, Bool.false_eq_true,  decide_eq_false he]
      exact ⟨by rw [hne he], h.done⟩
  have ere : m.re = o.re := by
    have h1 : m.re.take i = m.re := List.take_of_length_le (by omega)
    have h2 : o.re.take i = o.re := List.take_of_length_le (by omega)
    rw [h1, h2] at htk; exact htk
  (try simp only [nfD] at h); have F := h.facts; (try simp only [nfF, emp_fact, rds_fact, frm_fact, tab_fact, chn_fact, mapX_fact, two_fact] at F); try simp -dsimp only [↓vcA, vcB, vcD, ↓pureT_lenS, ↓iteT, ↓iteF, cond_true, cond_false, eq_self, argE, Env.get, Env.push, ev, evs, evo, retV, Value.cells, Value.oneCell', setR, overR, fillL, zl, places, allSizes, heldC, ne_eq, Int.reduceLE, Int.reduceLT, Int.reduceEq, Int.reduceNe, Int.reduceToNat, Int.cast_ofNat_Int, Nat.reduceMul, Nat.reduceLeDiff, reduceIte, Nat.reduceEqDiff, Nat.reduceAdd, ↓reduceIte, Try.vcT, F, h.cell0, gets, vsD, if_true, if_false, Bool.false_eq_true,  decide_eq_false hlt]
  clear htk hi hlt
  refine walkLoop [2, 3] [9] (fun k vs w' => ∃ i, i ≤ m.ca.length ∧ k = m.ca.length - i ∧ vs = [.int .i64 i] ∧ m.ca.take i = o.ca.take i ∧ Sep w (fun _ => False) [blk b1 96 [.int .i64 m.w, .int .i64 m.h, .int .i64 m.te, .int .i64 m.wi, .int .i64 m.mr, .int .i64 m.mb, .int .i64 m.ti, .slice ap m.p.length cp, .slice awa m.wa.length cwa, .slice apa m.pa.length cpa, .slice are m.re.length cre, .slice aca m.ca.length cca, .slice ais m.is.length cis, .slice aco m.co.length cco, .slice ach m.ch.length cch], blk b2 96 [.int .i64 o.w, .int .i64 o.h, .int .i64 o.te, .int .i64 o.wi, .int .i64 o.mr, .int .i64 o.mb, .int .i64 o.ti, .slice a'p o.p.length c'p, .slice a'wa o.wa.length c'wa, .slice a'pa o.pa.length c'pa, .slice a're o.re.length c're, .slice a'ca o.ca.length c'ca, .slice a'is o.is.length c'is, .slice a'co o.co.length c'co, .slice a'ch o.ch.length c'ch]] w') (by kernel_rfl) ?_ ?_
  · simp -dsimp only [↓vcA, vcB, vcD, ↓pureT_lenS, ↓iteT, ↓iteF, cond_true, cond_false, eq_self, argE, Env.get, Env.push, ev, evs, evo, retV, Value.cells, Value.oneCell', setR, overR, fillL, zl, places, allSizes, heldC, ne_eq, Int.reduceLE, Int.reduceLT, Int.reduceEq, Int.reduceNe, Int.reduceToNat, Int.cast_ofNat_Int, Nat.reduceMul, Nat.reduceLeDiff, reduceIte, Nat.reduceEqDiff, Nat.reduceAdd, ↓reduceIte, Try.vcT, gets]
    exact ⟨_, 0, Nat.zero_le _, rfl, rfl, by simp, h⟩
  intro ks hk k vs w3 hi
  clear h
  try clear F
  obtain ⟨i, hi, rfl, rfl, htk, h⟩ := hi
  simp -dsimp only [gets, argE, List.zip_cons_cons, List.zip_nil_left, List.cons_append, List.nil_append, Env.get, Env.push, Option.bind_some, Option.map_some, Option.some.injEq, reduceIte, Nat.reduceEqDiff, Nat.reduceAdd, ↓reduceIte] at hk; subst hk
  by_cases hlt : (i : Int) < m.ca.length
  case pos =>
    have Rx := R.ca
    have Qx := Q.ca
    dsimp only at Rx Qx
    have hil : i < m.ca.length := by omega
    have hil' : i < o.ca.length := by omega
    obtain ⟨b, oo, eb, hcx⟩ := Rx.at hil (by decide)
    obtain ⟨b', oo', eb', hcy⟩ := Qx.at hil' (by decide)
    have wx := Rx.wid _ (List.getElem_mem hil)
    have wy := Qx.wid _ (List.getElem_mem hil')
    have htk2 : m.ca[i] = o.ca[i] → m.ca.take (i + 1) = o.ca.take (i + 1) := fun e => take_succ_eq htk hil hil' e
    have hne : m.ca[i] ≠ o.ca[i] → m.same o = false := fun e => MapV.same_no fun f => e (by subst f; rfl)
    generalize m.ca[i] = x at *
    generalize o.ca[i] = y at *
    obtain ⟨a0, a1, a2, a3, a4, a5, a6, a7, a8, rfl⟩ := len_9 wx
    obtain ⟨c0, c1, c2, c3, c4, c5, c6, c7, c8, rfl⟩ := len_9 wy
    have k0 : w.cell? ⟨b, oo + i * 9, none⟩ = some (.int .i64 a0) := Tab.cell hcx 0 (by simp)
    have k0 := (h.cell0 (by rw [k0]; rfl) id).trans k0
    have m0 : w.cell? ⟨b', oo' + i * 9, none⟩ = some (.int .i64 c0) := Tab.cell hcy 0 (by simp)
    have m0 := (h.cell0 (by rw [m0]; rfl) id).trans m0
    have k1 : w.cell? ⟨b, oo + i * 9 + 1, none⟩ = some (.int .i64 a1) := Tab.cell hcx 1 (by simp)
    have k1 := (h.cell0 (by rw [k1]; rfl) id).trans k1
    have m1 : w.cell? ⟨b', oo' + i * 9 + 1, none⟩ = some (.int .i64 c1) := Tab.cell hcy 1 (by simp)
    have m1 := (h.cell0 (by rw [m1]; rfl) id).trans m1
    have k2 : w.cell? ⟨b, oo + i * 9 + 2, none⟩ = some (.int .i64 a2) := Tab.cell hcx 2 (by simp)
    have k2 := (h.cell0 (by rw [k2]; rfl) id).trans k2
    have m2 : w.cell? ⟨b', oo' + i * 9 + 2, none⟩ = some (.int .i64 c2) := Tab.cell hcy 2 (by simp)
    have m2 := (h.cell0 (by rw [m2]; rfl) id).trans m2
    have k3 : w.cell? ⟨b, oo + i * 9 + 3, none⟩ = some (.int .i64 a3) := Tab.cell hcx 3 (by simp)
    have k3 := (h.cell0 (by rw [k3]; rfl) id).trans k3
    have m3 : w.cell? ⟨b', oo' + i * 9 + 3, none⟩ = some (.int .i64 c3) := Tab.cell hcy 3 (by simp)
    have m3 := (h.cell0 (by rw [m3]; rfl) id).trans m3
    have k4 : w.cell? ⟨b, oo + i * 9 + 4, none⟩ = some (.int .i64 a4) := Tab.cell hcx 4 (by simp)
    have k4 := (h.cell0 (by rw [k4]; rfl) id).trans k4
    have m4 : w.cell? ⟨b', oo' + i * 9 + 4, none⟩ = some (.int .i64 c4) := Tab.cell hcy 4 (by simp)
    have m4 := (h.cell0 (by rw [m4]; rfl) id).trans m4
    have k5 : w.cell? ⟨b, oo + i * 9 + 5, none⟩ = some (.int .i64 a5) := Tab.cell hcx 5 (by simp)
    have k5 := (h.cell0 (by rw [k5]; rfl) id).trans k5
    have m5 : w.cell? ⟨b', oo' + i * 9 + 5, none⟩ = some (.int .i64 c5) := Tab.cell hcy 5 (by simp)
    have m5 := (h.cell0 (by rw [m5]; rfl) id).trans m5
    have k6 : w.cell? ⟨b, oo + i * 9 + 6, none⟩ = some (.int .i64 a6) := Tab.cell hcx 6 (by simp)
    have k6 := (h.cell0 (by rw [k6]; rfl) id).trans k6
    have m6 : w.cell? ⟨b', oo' + i * 9 + 6, none⟩ = some (.int .i64 c6) := Tab.cell hcy 6 (by simp)
    have m6 := (h.cell0 (by rw [m6]; rfl) id).trans m6
    have k7 : w.cell? ⟨b, oo + i * 9 + 7, none⟩ = some (.int .i64 a7) := Tab.cell hcx 7 (by simp)
    have k7 := (h.cell0 (by rw [k7]; rfl) id).trans k7
    have m7 : w.cell? ⟨b', oo' + i * 9 + 7, none⟩ = some (.int .i64 c7) := Tab.cell hcy 7 (by simp)
    have m7 := (h.cell0 (by rw [m7]; rfl) id).trans m7
    have k8 : w.cell? ⟨b, oo + i * 9 + 8, none⟩ = some (.int .i64 a8) := Tab.cell hcx 8 (by simp)
    have k8 := (h.cell0 (by rw [k8]; rfl) id).trans k8
    have m8 : w.cell? ⟨b', oo' + i * 9 + 8, none⟩ = some (.int .i64 c8) := Tab.cell hcy 8 (by simp)
    have m8 := (h.cell0 (by rw [m8]; rfl) id).trans m8
    have ei : IntKind.i64.wrap ((i : Int) + 1) = ((i + 1 : Nat) : Int) := by rw [i64w _ (by omega) (by omega)]; omega
    have h0i : (0 : Int) ≤ i := by omega
    have hlt' : (i : Int) < o.ca.length := by omega
    (try simp only [nfD] at h); have F := h.facts; (try simp only [nfF, emp_fact, rds_fact, frm_fact, tab_fact, chn_fact, mapX_fact, two_fact] at F); try simp -dsimp only [↓vcA, vcB, vcD, ↓pureT_lenS, ↓iteT, ↓iteF, cond_true, cond_false, eq_self, argE, Env.get, Env.push, ev, evs, evo, retV, Value.cells, Value.oneCell', setR, overR, fillL, zl, places, allSizes, heldC, ne_eq, Int.reduceLE, Int.reduceLT, Int.reduceEq, Int.reduceNe, Int.reduceToNat, Int.cast_ofNat_Int, Nat.reduceMul, Nat.reduceLeDiff, reduceIte, Nat.reduceEqDiff, Nat.reduceAdd, ↓reduceIte, Try.vcT, F, h.cell0, gets, vsD, if_true, if_false, Bool.false_eq_true,  decide_eq_true hlt]
    rw [eb, eb'] at h
    (try simp only [nfD] at h); have F := h.facts; (try simp only [nfF, emp_fact, rds_fact, frm_fact, tab_fact, chn_fact, mapX_fact, two_fact] at F)
    refine walkDraw (.q 0 (.q 2 (.q 5 (.q 7 (.h 1 0 (.q 3 (.h 4 1 (.h 6 10 (.q 8 (.h 9 11 (.q 10 .fin))))))))))) [(b1, 11, .slice (some ⟨b, oo, none⟩) m.ca.length cca), (b, oo + i * 9, .int .i64 a0), (b, oo + i * 9 + 1, .int .i64 a1), (b, oo + i * 9 + 2, .int .i64 a2), (b, oo + i * 9 + 3, .int .i64 a3), (b, oo + i * 9 + 4, .int .i64 a4), (b, oo + i * 9 + 5, .int .i64 a5), (b, oo + i * 9 + 6, .int .i64 a6), (b, oo + i * 9 + 7, .int .i64 a7), (b, oo + i * 9 + 8, .int .i64 a8), (b2, 11, .slice (some ⟨b', oo', none⟩) o.ca.length c'ca), (b', oo' + i * 9, .int .i64 c0), (b', oo' + i * 9 + 1, .int .i64 c1), (b', oo' + i * 9 + 2, .int .i64 c2), (b', oo' + i * 9 + 3, .int .i64 c3), (b', oo' + i * 9 + 4, .int .i64 c4), (b', oo' + i * 9 + 5, .int .i64 c5), (b', oo' + i * 9 + 6, .int .i64 c6), (b', oo' + i * 9 + 7, .int .i64 c7), (b', oo' + i * 9 + 8, .int .i64 c8)] (by kernel_rfl) (by simp [Holds_nil, Holds_cons, F, k0, m0, k1, m1, k2, m2, k3, m3, k4, m4, k5, m5, k6, m6, k7, m7, k8, m8]) ?_
    refine h.draw ?_
    clear h F
    intro w6 h
    (try simp only [nfD] at h); have F := h.facts; (try simp only [nfF, emp_fact, rds_fact, frm_fact, tab_fact, chn_fact, mapX_fact, two_fact] at F); try simp -dsimp only [↓vcA, vcB, vcD, ↓pureT_lenS, ↓iteT, ↓iteF, cond_true, cond_false, eq_self, argE, Env.get, Env.push, ev, evs, evo, retV, Value.cells, Value.oneCell', setR, overR, fillL, zl, places, allSizes, heldC, ne_eq, Int.reduceLE, Int.reduceLT, Int.reduceEq, Int.reduceNe, Int.reduceToNat, Int.cast_ofNat_Int, Nat.reduceMul, Nat.reduceLeDiff, reduceIte, Nat.reduceEqDiff, Nat.reduceAdd, ↓reduceIte, Try.vcT, F, h.cell0, gets, vsD, if_true, if_false, Bool.false_eq_true]
    refine ⟨⟨h0i, hlt⟩, ⟨h0i, hlt'⟩, binK_neq_agg (by kernel_rfl) (fun w => seqCa (d := 9998) a0 a1 a2 a3 a4 a5 a6 a7 a8 c0 c1 c2 c3 c4 c5 c6 c7 c8 w) ?_⟩
    by_cases he : [a0, a1, a2, a3, a4, a5, a6, a7, a8] = [c0, c1, c2, c3, c4, c5, c6, c7, c8]
    case pos =>
      (try simp only [nfD] at h); have F := h.facts; (try simp only [nfF, emp_fact, rds_fact, frm_fact, tab_fact, chn_fact, mapX_fact, two_fact] at F); try simp -dsimp only [↓vcA, vcB, vcD, ↓pureT_lenS, ↓iteT, ↓iteF, cond_true, cond_false, eq_self, argE, Env.get, Env.push, ev, evs, evo, retV, Value.cells, Value.oneCell', setR, overR, fillL, zl, places, allSizes, heldC, ne_eq, Int.reduceLE, Int.reduceLT, Int.reduceEq, Int.reduceNe, Int.reduceToNat, Int.cast_ofNat_Int, Nat.reduceMul, Nat.reduceLeDiff, reduceIte, Nat.reduceEqDiff, Nat.reduceAdd, ↓reduceIte, Try.vcT, F, h.cell0, gets, vsD, if_true, if_false, Bool.false_eq_true,  decide_eq_true he, ei]
      refine ⟨_, ?_, i + 1, by omega, rfl, rfl, htk2 he, ?_⟩
      · omega
      · rw [eb, eb']; exact h
    case neg =>
      (try simp only [nfD] at h); have F := h.facts; (try simp only [nfF, emp_fact, rds_fact, frm_fact, tab_fact, chn_fact, mapX_fact, two_fact] at F); try simp -dsimp only [↓vcA, vcB, vcD, ↓pureT_lenS, ↓iteT, ↓iteF, cond_true, cond_false, eq_self, argE, Env.get, Env.push, ev, evs, evo, retV, Value.cells, Value.oneCell', setR, overR, fillL, zl, places, allSizes, heldC, ne_eq, Int.reduceLE, Int.reduceLT, Int.reduceEq, Int.reduceNe, Int.reduceToNat, Int.cast_ofNat_Int, Nat.reduceMul, Nat.reduceLeDiff, reduceIte, Nat.reduceEqDiff, Nat.reduceAdd, ↓reduceIte, Try.vcT, F, h.cell0, gets, vsD, if_true, if_false, Bool.false_eq_true,  decide_eq_false he]
      exact ⟨by rw [hne he], h.done⟩
  have eca : m.ca = o.ca := by
    have h1 : m.ca.take i = m.ca := List.take_of_length_le (by omega)
    have h2 : o.ca.take i = o.ca := List.take_of_length_le (by omega)
    rw [h1, h2] at htk; exact htk
  (try simp only [nfD] at h); have F := h.facts; (try simp only [nfF, emp_fact, rds_fact, frm_fact, tab_fact, chn_fact, mapX_fact, two_fact] at F); try simp -dsimp only [↓vcA, vcB, vcD, ↓pureT_lenS, ↓iteT, ↓iteF, cond_true, cond_false, eq_self, argE, Env.get, Env.push, ev, evs, evo, retV, Value.cells, Value.oneCell', setR, overR, fillL, zl, places, allSizes, heldC, ne_eq, Int.reduceLE, Int.reduceLT, Int.reduceEq, Int.reduceNe, Int.reduceToNat, Int.cast_ofNat_Int, Nat.reduceMul, Nat.reduceLeDiff, reduceIte, Nat.reduceEqDiff, Nat.reduceAdd, ↓reduceIte, Try.vcT, F, h.cell0, gets, vsD, if_true, if_false, Bool.false_eq_true,  decide_eq_false hlt]
  clear htk hi hlt
  refine walkLoop [2, 3] [10] (fun k vs w' => ∃ i, i ≤ m.is.length ∧ k = m.is.length - i ∧ vs = [.int .i64 i] ∧ m.is.take i = o.is.take i ∧ Sep w (fun _ => False) [blk b1 96 [.int .i64 m.w, .int .i64 m.h, .int .i64 m.te, .int .i64 m.wi, .int .i64 m.mr, .int .i64 m.mb, .int .i64 m.ti, .slice ap m.p.length cp, .slice awa m.wa.length cwa, .slice apa m.pa.length cpa, .slice are m.re.length cre, .slice aca m.ca.length cca, .slice ais m.is.length cis, .slice aco m.co.length cco, .slice ach m.ch.length cch], blk b2 96 [.int .i64 o.w, .int .i64 o.h, .int .i64 o.te, .int .i64 o.wi, .int .i64 o.mr, .int .i64 o.mb, .int .i64 o.ti, .slice a'p o.p.length c'p, .slice a'wa o.wa.length c'wa, .slice a'pa o.pa.length c'pa, .slice a're o.re.length c're, .slice a'ca o.ca.length c'ca, .slice a'is o.is.length c'is, .slice a'co o.co.length c'co, .slice a'ch o.ch.length c'ch]] w') (by kernel_rfl) ?_ ?_
  · simp -dsimp only [↓vcA, vcB, vcD, ↓pureT_lenS, ↓iteT, ↓iteF, cond_true, cond_false, eq_self, argE, Env.get, Env.push, ev, evs, evo, retV, Value.cells, Value.oneCell', setR, overR, fillL, zl, places, allSizes, heldC, ne_eq, Int.reduceLE, Int.reduceLT, Int.reduceEq, Int.reduceNe, Int.reduceToNat, Int.cast_ofNat_Int, Nat.reduceMul, Nat.reduceLeDiff, reduceIte, Nat.reduceEqDiff, Nat.reduceAdd, ↓reduceIte, Try.vcT, gets]
    exact ⟨_, 0, Nat.zero_le _, rfl, rfl, by simp, h⟩
  intro ks hk k vs w3 hi
  clear h
  try clear F
  obtain ⟨i, hi, rfl, rfl, htk, h⟩ := hi
  simp -dsimp only [gets, argE, List.zip_cons_cons, List.zip_nil_left, List.cons_append, List.nil_append, Env.get, Env.push, Option.bind_some, Option.map_some, Option.some.injEq, reduceIte, Nat.reduceEqDiff, Nat.reduceAdd, ↓reduceIte] at hk; subst hk
  by_cases hlt : (i : Int) < m.is.length
  case pos =>
    have Rx := R.is
    have Qx := Q.is
    dsimp only at Rx Qx
    have hil : i < m.is.length := by omega
    have hil' : i < o.is.length := by omega
    obtain ⟨b, oo, eb, hcx⟩ := Rx.at hil (by decide)
    obtain ⟨b', oo', eb', hcy⟩ := Qx.at hil' (by decide)
    have wx := Rx.wid _ (List.getElem_mem hil)
    have wy := Qx.wid _ (List.getElem_mem hil')
    have htk2 : m.is[i] = o.is[i] → m.is.take (i + 1) = o.is.take (i + 1) := fun e => take_succ_eq htk hil hil' e
    have hne : m.is[i] ≠ o.is[i] → m.same o = false := fun e => MapV.same_no fun f => e (by subst f; rfl)
    generalize m.is[i] = x at *
    generalize o.is[i] = y at *
    obtain ⟨a0, a1, a2, rfl⟩ := len_3 wx
    obtain ⟨c0, c1, c2, rfl⟩ := len_3 wy
    have k0 : w.cell? ⟨b, oo + i * 3, none⟩ = some (.int .i64 a0) := Tab.cell hcx 0 (by simp)
    have k0 := (h.cell0 (by rw [k0]; rfl) id).trans k0
    have m0 : w.cell? ⟨b', oo' + i * 3, none⟩ = some (.int .i64 c0) := Tab.cell hcy 0 (by simp)
    have m0 := (h.cell0 (by rw [m0]; rfl) id).trans m0
    have k1 : w.cell? ⟨b, oo + i * 3 + 1, none⟩ = some (.int .i64 a1) := Tab.cell hcx 1 (by simp)
    have k1 := (h.cell0 (by rw [k1]; rfl) id).trans k1
    have m1 : w.cell? ⟨b', oo' + i * 3 + 1, none⟩ = some (.int .i64 c1) := Tab.cell hcy 1 (by simp)
    have m1 := (h.cell0 (by rw [m1]; rfl) id).trans m1
    have k2 : w.cell? ⟨b, oo + i * 3 + 2, none⟩ = some (.int .i64 a2) := Tab.cell hcx 2 (by simp)
    have k2 := (h.cell0 (by rw [k2]; rfl) id).trans k2
    have m2 : w.cell? ⟨b', oo' + i * 3 + 2, none⟩ = some (.int .i64 c2) := Tab.cell hcy 2 (by simp)
    have m2 := (h.cell0 (by rw [m2]; rfl) id).trans m2
    have ei : IntKind.i64.wrap ((i : Int) + 1) = ((i + 1 : Nat) : Int) := by rw [i64w _ (by omega) (by omega)]; omega
    have h0i : (0 : Int) ≤ i := by omega
    have hlt' : (i : Int) < o.is.length := by omega
    (try simp only [nfD] at h); have F := h.facts; (try simp only [nfF, emp_fact, rds_fact, frm_fact, tab_fact, chn_fact, mapX_fact, two_fact] at F); try simp -dsimp only [↓vcA, vcB, vcD, ↓pureT_lenS, ↓iteT, ↓iteF, cond_true, cond_false, eq_self, argE, Env.get, Env.push, ev, evs, evo, retV, Value.cells, Value.oneCell', setR, overR, fillL, zl, places, allSizes, heldC, ne_eq, Int.reduceLE, Int.reduceLT, Int.reduceEq, Int.reduceNe, Int.reduceToNat, Int.cast_ofNat_Int, Nat.reduceMul, Nat.reduceLeDiff, reduceIte, Nat.reduceEqDiff, Nat.reduceAdd, ↓reduceIte, Try.vcT, F, h.cell0, gets, vsD, if_true, if_false, Bool.false_eq_true,  decide_eq_true hlt]
    rw [eb, eb'] at h
    (try simp only [nfD] at h); have F := h.facts; (try simp only [nfF, emp_fact, rds_fact, frm_fact, tab_fact, chn_fact, mapX_fact, two_fact] at F)
    refine walkDraw (.q 0 (.q 2 (.q 5 (.q 7 (.h 1 0 (.q 3 (.h 4 1 (.h 6 4 (.q 8 (.h 9 5 (.q 10 .fin))))))))))) [(b1, 12, .slice (some ⟨b, oo, none⟩) m.is.length cis), (b, oo + i * 3, .int .i64 a0), (b, oo + i * 3 + 1, .int .i64 a1), (b, oo + i * 3 + 2, .int .i64 a2), (b2, 12, .slice (some ⟨b', oo', none⟩) o.is.length c'is), (b', oo' + i * 3, .int .i64 c0), (b', oo' + i * 3 + 1, .int .i64 c1), (b', oo' + i * 3 + 2, .int .i64 c2)] (by kernel_rfl) (by simp [Holds_nil, Holds_cons, F, k0, m0, k1, m1, k2, m2]) ?_
    refine h.draw ?_
    clear h F
    intro w6 h
    (try simp only [nfD] at h); have F := h.facts; (try simp only [nfF, emp_fact, rds_fact, frm_fact, tab_fact, chn_fact, mapX_fact, two_fact] at F); try simp -dsimp only [↓vcA, vcB, vcD, ↓pureT_lenS, ↓iteT, ↓iteF, cond_true, cond_false, eq_self, argE, Env.get, Env.push, ev, evs, evo, retV, Value.cells, Value.oneCell', setR, overR, fillL, zl, places, allSizes, heldC, ne_eq, Int.reduceLE, Int.reduceLT, Int.reduceEq, Int.reduceNe, Int.reduceToNat, Int.cast_ofNat_Int, Nat.reduceMul, Nat.reduceLeDiff, reduceIte, Nat.reduceEqDiff, Nat.reduceAdd, ↓reduceIte, Try.vcT, F, h.cell0, gets, vsD, if_true, if_false, Bool.false_eq_true]
    refine ⟨⟨h0i, hlt⟩, ⟨h0i, hlt'⟩, binK_neq_agg (by kernel_rfl) (fun w => seqIs (d := 9998) a0 a1 a2 c0 c1 c2 w) ?_⟩
    by_cases he : [a0, a1, a2] = [c0, c1, c2]
    case pos =>
      (try simp only [nfD] at h); have F := h.facts; (try simp only [nfF, emp_fact, rds_fact, frm_fact, tab_fact, chn_fact, mapX_fact, two_fact] at F); try simp -dsimp only [↓vcA, vcB, vcD, ↓pureT_lenS, ↓iteT, ↓iteF, cond_true, cond_false, eq_self, argE, Env.get, Env.push, ev, evs, evo, retV, Value.cells, Value.oneCell', setR, overR, fillL, zl, places, allSizes, heldC, ne_eq, Int.reduceLE, Int.reduceLT, Int.reduceEq, Int.reduceNe, Int.reduceToNat, Int.cast_ofNat_Int, Nat.reduceMul, Nat.reduceLeDiff, reduceIte, Nat.reduceEqDiff, Nat.reduceAdd, ↓reduceIte, Try.vcT, F, h.cell0, gets, vsD, if_true, if_false, Bool.false_eq_true,  decide_eq_true he, ei]
      refine ⟨_, ?_, i + 1, by omega, rfl, rfl, htk2 he, ?_⟩
      · omega
      · rw [eb, eb']; exact h
    case neg =>
      (try simp only [nfD] at h); have F := h.facts; (try simp only [nfF, emp_fact, rds_fact, frm_fact, tab_fact, chn_fact, mapX_fact, two_fact] at F); try simp -dsimp only [↓vcA, vcB, vcD, ↓pureT_lenS, ↓iteT, ↓iteF, cond_true, cond_false, eq_self, argE, Env.get, Env.push, ev, evs, evo, retV, Value.cells, Value.oneCell', setR, overR, fillL, zl, places, allSizes, heldC, ne_eq, Int.reduceLE, Int.reduceLT, Int.reduceEq, Int.reduceNe, Int.reduceToNat, Int.cast_ofNat_Int, Nat.reduceMul, Nat.reduceLeDiff, reduceIte, Nat.reduceEqDiff, Nat.reduceAdd, ↓reduceIte, Try.vcT, F, h.cell0, gets, vsD, if_true, if_false, Bool.false_eq_true,  decide_eq_false he]
      exact ⟨by rw [hne he], h.done⟩
  have eis : m.is = o.is := by
    have h1 : m.is.take i = m.is := List.take_of_length_le (by omega)
    have h2 : o.is.take i = o.is := List.take_of_length_le (by omega)
    rw [h1, h2] at htk; exact htk
  (try simp only [nfD] at h); have F := h.facts; (try simp only [nfF, emp_fact, rds_fact, frm_fact, tab_fact, chn_fact, mapX_fact, two_fact] at F); try simp -dsimp only [↓vcA, vcB, vcD, ↓pureT_lenS, ↓iteT, ↓iteF, cond_true, cond_false, eq_self, argE, Env.get, Env.push, ev, evs, evo, retV, Value.cells, Value.oneCell', setR, overR, fillL, zl, places, allSizes, heldC, ne_eq, Int.reduceLE, Int.reduceLT, Int.reduceEq, Int.reduceNe, Int.reduceToNat, Int.cast_ofNat_Int, Nat.reduceMul, Nat.reduceLeDiff, reduceIte, Nat.reduceEqDiff, Nat.reduceAdd, ↓reduceIte, Try.vcT, F, h.cell0, gets, vsD, if_true, if_false, Bool.false_eq_true,  decide_eq_false hlt]
  clear htk hi hlt
  refine walkLoop [2, 3] [11] (fun k vs w' => ∃ i, i ≤ m.co.length ∧ k = m.co.length - i ∧ vs = [.int .i64 i] ∧ m.co.take i = o.co.take i ∧ Sep w (fun _ => False) [blk b1 96 [.int .i64 m.w, .int .i64 m.h, .int .i64 m.te, .int .i64 m.wi, .int .i64 m.mr, .int .i64 m.mb, .int .i64 m.ti, .slice ap m.p.length cp, .slice awa m.wa.length cwa, .slice apa m.pa.length cpa, .slice are m.re.length cre, .slice aca m.ca.length cca, .slice ais m.is.length cis, .slice aco m.co.length cco, .slice ach m.ch.length cch], blk b2 96 [.int .i64 o.w, .int .i64 o.h, .int .i64 o.te, .int .i64 o.wi, .int .i64 o.mr, .int .i64 o.mb, .int .i64 o.ti, .slice a'p o.p.length c'p, .slice a'wa o.wa.length c'wa, .slice a'pa o.pa.length c'pa, .slice a're o.re.length c're, .slice a'ca o.ca.length c'ca, .slice a'is o.is.length c'is, .slice a'co o.co.length c'co, .slice a'ch o.ch.length c'ch]] w') (by kernel_rfl) ?_ ?_
  · simp -dsimp only [↓vcA, vcB, vcD, ↓pureT_lenS, ↓iteT, ↓iteF, cond_true, cond_false, eq_self, argE, Env.get, Env.push, ev, evs, evo, retV, Value.cells, Value.oneCell', setR, overR, fillL, zl, places, allSizes, heldC, ne_eq, Int.reduceLE, Int.reduceLT, Int.reduceEq, Int.reduceNe, Int.reduceToNat, Int.cast_ofNat_Int, Nat.reduceMul, Nat.reduceLeDiff, reduceIte, Nat.reduceEqDiff, Nat.reduceAdd, ↓reduceIte, Try.vcT, gets]
    exact ⟨_, 0, Nat.zero_le _, rfl, rfl, by simp, h⟩
  intro ks hk k vs w3 hi
  clear h
  try clear F
  obtain ⟨i, hi, rfl, rfl, htk, h⟩ := hi
  simp -dsimp only [gets, argE, List.zip_cons_cons, List.zip_nil_left, List.cons_append, List.nil_append, Env.get, Env.push, Option.bind_some, Option.map_some, Option.some.injEq, reduceIte, Nat.reduceEqDiff, Nat.reduceAdd, ↓reduceIte] at hk; subst hk
  by_cases hlt : (i : Int) < m.co.length
  case pos =>
    have Rx := R.co
    have Qx := Q.co
    dsimp only at Rx Qx
    have hil : i < m.co.length := by omega
    have hil' : i < o.co.length := by omega
    obtain ⟨b, oo, eb, hcx⟩ := Rx.at hil (by decide)
    obtain ⟨b', oo', eb', hcy⟩ := Qx.at hil' (by decide)
    have wx := Rx.wid _ (List.getElem_mem hil)
    have wy := Qx.wid _ (List.getElem_mem hil')
    have htk2 : m.co[i] = o.co[i] → m.co.take (i + 1) = o.co.take (i + 1) := fun e => take_succ_eq htk hil hil' e
    have hne : m.co[i] ≠ o.co[i] → m.same o = false := fun e => MapV.same_no fun f => e (by subst f; rfl)
    generalize m.co[i] = x at *
    generalize o.co[i] = y at *
    obtain ⟨a0, a1, a2, rfl⟩ := len_3 wx
    obtain ⟨c0, c1, c2, rfl⟩ := len_3 wy
    have k0 : w.cell? ⟨b, oo + i * 3, none⟩ = some (.int .i64 a0) := Tab.cell hcx 0 (by simp)
    have k0 := (h.cell0 (by rw [k0]; rfl) id).trans k0
    have m0 : w.cell? ⟨b', oo' + i * 3, none⟩ = some (.int .i64 c0) := Tab.cell hcy 0 (by simp)
    have m0 := (h.cell0 (by rw [m0]; rfl) id).trans m0
    have k1 : w.cell? ⟨b, oo + i * 3 + 1, none⟩ = some (.int .i64 a1) := Tab.cell hcx 1 (by simp)
    have k1 := (h.cell0 (by rw [k1]; rfl) id).trans k1
    have m1 : w.cell? ⟨b', oo' + i * 3 + 1, none⟩ = some (.int .i64 c1) := Tab.cell hcy 1 (by simp)
    have m1 := (h.cell0 (by rw [m1]; rfl) id).trans m1
    have k2 : w.cell? ⟨b, oo + i * 3 + 2, none⟩ = some (.int .i64 a2) := Tab.cell hcx 2 (by simp)
    have k2 := (h.cell0 (by rw [k2]; rfl) id).trans k2
    have m2 : w.cell? ⟨b', oo' + i * 3 + 2, none⟩ = some (.int .i64 c2) := Tab.cell hcy 2 (by simp)
    have m2 := (h.cell0 (by rw [m2]; rfl) id).trans m2
    have ei : IntKind.i64.wrap ((i : Int) + 1) = ((i + 1 : Nat) : Int) := by rw [i64w _ (by omega) (by omega)]; omega
    have h0i : (0 : Int) ≤ i := by omega
    have hlt' : (i : Int) < o.co.length := by omega
    (try simp only [nfD] at h); have F := h.facts; (try simp only [nfF, emp_fact, rds_fact, frm_fact, tab_fact, chn_fact, mapX_fact, two_fact] at F); try simp -dsimp only [↓vcA, vcB, vcD, ↓pureT_lenS, ↓iteT, ↓iteF, cond_true, cond_false, eq_self, argE, Env.get, Env.push, ev, evs, evo, retV, Value.cells, Value.oneCell', setR, overR, fillL, zl, places, allSizes, heldC, ne_eq, Int.reduceLE, Int.reduceLT, Int.reduceEq, Int.reduceNe, Int.reduceToNat, Int.cast_ofNat_Int, Nat.reduceMul, Nat.reduceLeDiff, reduceIte, Nat.reduceEqDiff, Nat.reduceAdd, ↓reduceIte, Try.vcT, F, h.cell0, gets, vsD, if_true, if_false, Bool.false_eq_true,  decide_eq_true hlt]
    rw [eb, eb'] at h
    (try simp only [nfD] at h); have F := h.facts; (try simp only [nfF, emp_fact, rds_fact, frm_fact, tab_fact, chn_fact, mapX_fact, two_fact] at F)
    refine walkDraw (.q 0 (.q 2 (.q 5 (.q 7 (.h 1 0 (.q 3 (.h 4 1 (.h 6 4 (.q 8 (.h 9 5 (.q 10 .fin))))))))))) [(b1, 13, .slice (some ⟨b, oo, none⟩) m.co.length cco), (b, oo + i * 3, .int .i64 a0), (b, oo + i * 3 + 1, .int .i64 a1), (b, oo + i * 3 + 2, .int .i64 a2), (b2, 13, .slice (some ⟨b', oo', none⟩) o.co.length c'co), (b', oo' + i * 3, .int .i64 c0), (b', oo' + i * 3 + 1, .int .i64 c1), (b', oo' + i * 3 + 2, .int .i64 c2)] (by kernel_rfl) (by simp [Holds_nil, Holds_cons, F, k0, m0, k1, m1, k2, m2]) ?_
    refine h.draw ?_
    clear h F
    intro w6 h
    (try simp only [nfD] at h); have F := h.facts; (try simp only [nfF, emp_fact, rds_fact, frm_fact, tab_fact, chn_fact, mapX_fact, two_fact] at F); try simp -dsimp only [↓vcA, vcB, vcD, ↓pureT_lenS, ↓iteT, ↓iteF, cond_true, cond_false, eq_self, argE, Env.get, Env.push, ev, evs, evo, retV, Value.cells, Value.oneCell', setR, overR, fillL, zl, places, allSizes, heldC, ne_eq, Int.reduceLE, Int.reduceLT, Int.reduceEq, Int.reduceNe, Int.reduceToNat, Int.cast_ofNat_Int, Nat.reduceMul, Nat.reduceLeDiff, reduceIte, Nat.reduceEqDiff, Nat.reduceAdd, ↓reduceIte, Try.vcT, F, h.cell0, gets, vsD, if_true, if_false, Bool.false_eq_true]
    refine ⟨⟨h0i, hlt⟩, ⟨h0i, hlt'⟩, binK_neq_agg (by kernel_rfl) (fun w => seqCo (d := 9998) a0 a1 a2 c0 c1 c2 w) ?_⟩
    by_cases he : [a0, a1, a2] = [c0, c1, c2]
    case pos =>
      (try simp only [nfD] at h); have F := h.facts; (try simp only [nfF, emp_fact, rds_fact, frm_fact, tab_fact, chn_fact, mapX_fact, two_fact] at F); try simp -dsimp only [↓vcA, vcB, vcD, ↓pureT_lenS, ↓iteT, ↓iteF, cond_true, cond_false, eq_self, argE, Env.get, Env.push, ev, evs, evo, retV, Value.cells, Value.oneCell', setR, overR, fillL, zl, places, allSizes, heldC, ne_eq, Int.reduceLE, Int.reduceLT, Int.reduceEq, Int.reduceNe, Int.reduceToNat, Int.cast_ofNat_Int, Nat.reduceMul, Nat.reduceLeDiff, reduceIte, Nat.reduceEqDiff, Nat.reduceAdd, ↓reduceIte, Try.vcT, F, h.cell0, gets, vsD, if_true, if_false, Bool.false_eq_true,  decide_eq_true he, ei]
      refine ⟨_, ?_, i + 1, by omega, rfl, rfl, htk2 he, ?_⟩
      · omega
      · rw [eb, eb']; exact h
    case neg =>
      (try simp only [nfD] at h); have F := h.facts; (try simp only [nfF, emp_fact, rds_fact, frm_fact, tab_fact, chn_fact, mapX_fact, two_fact] at F); try simp -dsimp only [↓vcA, vcB, vcD, ↓pureT_lenS, ↓iteT, ↓iteF, cond_true, cond_false, eq_self, argE, Env.get, Env.push, ev, evs, evo, retV, Value.cells, Value.oneCell', setR, overR, fillL, zl, places, allSizes, heldC, ne_eq, Int.reduceLE, Int.reduceLT, Int.reduceEq, Int.reduceNe, Int.reduceToNat, Int.cast_ofNat_Int, Nat.reduceMul, Nat.reduceLeDiff, reduceIte, Nat.reduceEqDiff, Nat.reduceAdd, ↓reduceIte, Try.vcT, F, h.cell0, gets, vsD, if_true, if_false, Bool.false_eq_true,  decide_eq_false he]
      exact ⟨by rw [hne he], h.done⟩
  have eco : m.co = o.co := by
    have h1 : m.co.take i = m.co := List.take_of_length_le (by omega)
    have h2 : o.co.take i = o.co := List.take_of_length_le (by omega)
    rw [h1, h2] at htk; exact htk
  (try simp only [nfD] at h); have F := h.facts; (try simp only [nfF, emp_fact, rds_fact, frm_fact, tab_fact, chn_fact, mapX_fact, two_fact] at F); try simp -dsimp only [↓vcA, vcB, vcD, ↓pureT_lenS, ↓iteT, ↓iteF, cond_true, cond_false, eq_self, argE, Env.get, Env.push, ev, evs, evo, retV, Value.cells, Value.oneCell', setR, overR, fillL, zl, places, allSizes, heldC, ne_eq, Int.reduceLE, Int.reduceLT, Int.reduceEq, Int.reduceNe, Int.reduceToNat, Int.cast_ofNat_Int, Nat.reduceMul, Nat.reduceLeDiff, reduceIte, Nat.reduceEqDiff, Nat.reduceAdd, ↓reduceIte, Try.vcT, F, h.cell0, gets, vsD, if_true, if_false, Bool.false_eq_true,  decide_eq_false hlt]
  clear htk hi hlt
  refine walkLoop [2, 3] [12] (fun k vs w' => ∃ i, i ≤ m.ch.length ∧ k = m.ch.length - i ∧ vs = [.int .i64 i] ∧ m.ch.take i = o.ch.take i ∧ Sep w (fun _ => False) [blk b1 96 [.int .i64 m.w, .int .i64 m.h, .int .i64 m.te, .int .i64 m.wi, .int .i64 m.mr, .int .i64 m.mb, .int .i64 m.ti, .slice ap m.p.length cp, .slice awa m.wa.length cwa, .slice apa m.pa.length cpa, .slice are m.re.length cre, .slice aca m.ca.length cca, .slice ais m.is.length cis, .slice aco m.co.length cco, .slice ach m.ch.length cch], blk b2 96 [.int .i64 o.w, .int .i64 o.h, .int .i64 o.te, .int .i64 o.wi, .int .i64 o.mr, .int .i64 o.mb, .int .i64 o.ti, .slice a'p o.p.length c'p, .slice a'wa o.wa.length c'wa, .slice a'pa o.pa.length c'pa, .slice a're o.re.length c're, .slice a'ca o.ca.length c'ca, .slice a'is o.is.length c'is, .slice a'co o.co.length c'co, .slice a'ch o.ch.length c'ch]] w') (by kernel_rfl) ?_ ?_
  · simp -dsimp only [↓vcA, vcB, vcD, ↓pureT_lenS, ↓iteT, ↓iteF, cond_true, cond_false, eq_self, argE, Env.get, Env.push, ev, evs, evo, retV, Value.cells, Value.oneCell', setR, overR, fillL, zl, places, allSizes, heldC, ne_eq, Int.reduceLE, Int.reduceLT, Int.reduceEq, Int.reduceNe, Int.reduceToNat, Int.cast_ofNat_Int, Nat.reduceMul, Nat.reduceLeDiff, reduceIte, Nat.reduceEqDiff, Nat.reduceAdd, ↓reduceIte, Try.vcT, gets]
    exact ⟨_, 0, Nat.zero_le _, rfl, rfl, by simp, h⟩
  intro ks hk k vs w3 hi
  clear h
  try clear F
  obtain ⟨i, hi, rfl, rfl, htk, h⟩ := hi
  simp -dsimp only [gets, argE, List.zip_cons_cons, List.zip_nil_left, List.cons_append, List.nil_append, Env.get, Env.push, Option.bind_some, Option.map_some, Option.some.injEq, reduceIte, Nat.reduceEqDiff, Nat.reduceAdd, ↓reduceIte] at hk; subst hk
  by_cases hlt : (i : Int) < m.ch.length
  case pos =>
    have Rx := R.ch
    have Qx := Q.ch
    dsimp only at Rx Qx
    have hil : i < m.ch.length := by omega
    have hil' : i < o.ch.length := by omega
    obtain ⟨b, oo, u, eb, hcx, ru⟩ := Rx.at hil
    obtain ⟨b', oo', u', eb', hcy, ru'⟩ := Qx.at hil'
    have htk2 : m.ch[i] = o.ch[i] → m.ch.take (i + 1) = o.ch.take (i + 1) := fun e => take_succ_eq htk hil hil' e
    have hne : m.ch[i] ≠ o.ch[i] → m.same o = false := fun e => MapV.same_no fun f => e (by subst f; rfl)
    have bx := bm _ (List.getElem_mem hil)
    have by_ := bo _ (List.getElem_mem hil')
    generalize m.ch[i] = x at *
    generalize o.ch[i] = y at *
    obtain ⟨_, hat⟩ := cellsAt_elim hcx
    obtain ⟨_, hat'⟩ := cellsAt_elim hcy
    have k0 : w.cell? ⟨b, oo + i * 3, none⟩ = some (.int .i64 x.t) := by simpa using hat 0 _ rfl
    have k1 : w.cell? ⟨b, oo + i * 3 + 1, none⟩ = some (.bool x.d) := hat 1 _ rfl
    have k2 : w.cell? ⟨b, oo + i * 3 + 2, none⟩ = some u := hat 2 _ rfl
    have m0 : w.cell? ⟨b', oo' + i * 3, none⟩ = some (.int .i64 y.t) := by simpa using hat' 0 _ rfl
    have m1 : w.cell? ⟨b', oo' + i * 3 + 1, none⟩ = some (.bool y.d) := hat' 1 _ rfl
    have m2 : w.cell? ⟨b', oo' + i * 3 + 2, none⟩ = some u' := hat' 2 _ rfl
    have hold : ∀ w', Sep w (fun _ => False) [blk b1 96 [.int .i64 m.w, .int .i64 m.h, .int .i64 m.te, .int .i64 m.wi, .int .i64 m.mr, .int .i64 m.mb, .int .i64 m.ti, .slice ap m.p.length cp, .slice awa m.wa.length cwa, .slice apa m.pa.length cpa, .slice are m.re.length cre, .slice aca m.ca.length cca, .slice ais m.is.length cis, .slice aco m.co.length cco, .slice ach m.ch.length cch], blk b2 96 [.int .i64 o.w, .int .i64 o.h, .int .i64 o.te, .int .i64 o.wi, .int .i64 o.mr, .int .i64 o.mb, .int .i64 o.ti, .slice a'p o.p.length c'p, .slice a'wa o.wa.length c'wa, .slice a'pa o.pa.length c'pa, .slice a're o.re.length c're, .slice a'ca o.ca.length c'ca, .slice a'is o.is.length c'is, .slice a'co o.co.length c'co, .slice a'ch o.ch.length c'ch]] w' → Holds [(b1, 14, .slice (some ⟨b, oo, none⟩) m.ch.length cch), (b, oo + i * 3, .int .i64 x.t), (b2, 14, .slice (some ⟨b', oo', none⟩) o.ch.length c'ch), (b', oo' + i * 3, .int .i64 y.t), (b1, 14, .slice (some ⟨b, oo, none⟩) m.ch.length cch), (b, oo + i * 3 + 1, .bool x.d), (b2, 14, .slice (some ⟨b', oo', none⟩) o.ch.length c'ch), (b', oo' + i * 3 + 1, .bool y.d), (b1, 14, .slice (some ⟨b, oo, none⟩) m.ch.length cch), (b, oo + i * 3 + 2, u), (b2, 14, .slice (some ⟨b', oo', none⟩) o.ch.length c'ch), (b', oo' + i * 3 + 2, u')] w' := fun w' h => by
      rw [eb, eb'] at h
      (try simp only [nfD] at h); have F := h.facts; (try simp only [nfF, emp_fact, rds_fact, frm_fact, tab_fact, chn_fact, mapX_fact, two_fact] at F)
      have q0 := (h.cell0 (by rw [k0]; rfl) id).trans k0
      have q1 := (h.cell0 (by rw [k1]; rfl) id).trans k1
      have q2 := (h.cell0 (by rw [k2]; rfl) id).trans k2
      have p0 := (h.cell0 (by rw [m0]; rfl) id).trans m0
      have p1 := (h.cell0 (by rw [m1]; rfl) id).trans m1
      have p2 := (h.cell0 (by rw [m2]; rfl) id).trans m2
      simp [Holds_nil, Holds_cons, F, q0, q1, q2, p0, p1, p2]
    have ei : IntKind.i64.wrap ((i : Int) + 1) = ((i + 1 : Nat) : Int) := by rw [i64w _ (by omega) (by omega)]; omega
    have h0i : (0 : Int) ≤ i := by omega
    have hlt' : (i : Int) < o.ch.length := by omega
    (try simp only [nfD] at h); have F := h.facts; (try simp only [nfF, emp_fact, rds_fact, frm_fact, tab_fact, chn_fact, mapX_fact, two_fact] at F); try simp -dsimp only [↓vcA, vcB, vcD, ↓pureT_lenS, ↓iteT, ↓iteF, cond_true, cond_false, eq_self, argE, Env.get, Env.push, ev, evs, evo, retV, Value.cells, Value.oneCell', setR, overR, fillL, zl, places, allSizes, heldC, ne_eq, Int.reduceLE, Int.reduceLT, Int.reduceEq, Int.reduceNe, Int.reduceToNat, Int.cast_ofNat_Int, Nat.reduceMul, Nat.reduceLeDiff, reduceIte, Nat.reduceEqDiff, Nat.reduceAdd, ↓reduceIte, Try.vcT, F, h.cell0, gets, vsD, if_true, if_false, Bool.false_eq_true,  decide_eq_true hlt]
    refine walkDraw (.q 0 (.q 2 (.q 6 (.q 8 (.h 1 0 (.q 3 (.q 4 (.h 5 1 (.h 7 2 (.q 9 (.q 10 (.h 11 3 (.q 12 (.q 13 (.q 14 (.q 16 (.q 20 (.q 22 (.h 15 4 (.q 17 (.q 18 (.h 19 5 (.h 21 6 (.q 23 (.q 24 (.h 25 7 (.q 26 (.q 27 (.q 28 (.q 29 (.q 31 (.q 36 (.q 38 (.h 30 8 (.q 32 (.q 33 (.h 34 9 (.h 37 10 (.q 39 (.q 40 (.h 41 11 (.ll 35 (.l 42 (.q 43 (.q 44 .fin))) 42 (.l 35 (.q 43 (.q 44 .fin))))))))))))))))))))))))))))))))))))))))))))) [(b1, 14, .slice (some ⟨b, oo, none⟩) m.ch.length cch), (b, oo + i * 3, .int .i64 x.t), (b2, 14, .slice (some ⟨b', oo', none⟩) o.ch.length c'ch), (b', oo' + i * 3, .int .i64 y.t), (b1, 14, .slice (some ⟨b, oo, none⟩) m.ch.length cch), (b, oo + i * 3 + 1, .bool x.d), (b2, 14, .slice (some ⟨b', oo', none⟩) o.ch.length c'ch), (b', oo' + i * 3 + 1, .bool y.d), (b1, 14, .slice (some ⟨b, oo, none⟩) m.ch.length cch), (b, oo + i * 3 + 2, u), (b2, 14, .slice (some ⟨b', oo', none⟩) o.ch.length c'ch), (b', oo' + i * 3 + 2, u')] (by kernel_rfl) (hold _ h) ?_
    refine h.draw ?_
    clear h F
    intro w6 h
    by_cases et : x.t = y.t
    case neg =>
      (try simp only [nfD] at h); have F := h.facts; (try simp only [nfF, emp_fact, rds_fact, frm_fact, tab_fact, chn_fact, mapX_fact, two_fact] at F); try simp -dsimp only [↓vcA, vcB, vcD, ↓pureT_lenS, ↓iteT, ↓iteF, cond_true, cond_false, eq_self, argE, Env.get, Env.push, ev, evs, evo, retV, Value.cells, Value.oneCell', setR, overR, fillL, zl, places, allSizes, heldC, ne_eq, Int.reduceLE, Int.reduceLT, Int.reduceEq, Int.reduceNe, Int.reduceToNat, Int.cast_ofNat_Int, Nat.reduceMul, Nat.reduceLeDiff, reduceIte, Nat.reduceEqDiff, Nat.reduceAdd, ↓reduceIte, Try.vcT, F, h.cell0, gets, vsD, if_true, if_false, Bool.false_eq_true,  decide_eq_false et, Bool.not_false, Bool.not_true]
      exact ⟨⟨h0i, hlt⟩, ⟨h0i, hlt'⟩, by rw [hne fun e => et (by rw [e])], h.done⟩
    by_cases ed : x.d = y.d
    case neg =>
      have ed' : (x.d == y.d) = false := by simpa using ed
      (try simp only [nfD] at h); have F := h.facts; (try simp only [nfF, emp_fact, rds_fact, frm_fact, tab_fact, chn_fact, mapX_fact, two_fact] at F); try simp -dsimp only [↓vcA, vcB, vcD, ↓pureT_lenS, ↓iteT, ↓iteF, cond_true, cond_false, eq_self, argE, Env.get, Env.push, ev, evs, evo, retV, Value.cells, Value.oneCell', setR, overR, fillL, zl, places, allSizes, heldC, ne_eq, Int.reduceLE, Int.reduceLT, Int.reduceEq, Int.reduceNe, Int.reduceToNat, Int.cast_ofNat_Int, Nat.reduceMul, Nat.reduceLeDiff, reduceIte, Nat.reduceEqDiff, Nat.reduceAdd, ↓reduceIte, Try.vcT, F, h.cell0, gets, vsD, if_true, if_false, Bool.false_eq_true,  decide_eq_true et, ed', Bool.not_false, Bool.not_true]
      exact ⟨⟨h0i, hlt⟩, ⟨h0i, hlt'⟩, ⟨h0i, hlt⟩, ⟨h0i, hlt'⟩, by rw [hne fun e => ed (by rw [e])], h.done⟩
    have ed' : (x.d == y.d) = true := by simpa using ed
    have es : ((strOfNums x.b).toList == (strOfNums y.b).toList) = decide (x.b = y.b) := strOfNums_eq bx by_
    (try simp only [nfD] at h); have F := h.facts; (try simp only [nfF, emp_fact, rds_fact, frm_fact, tab_fact, chn_fact, mapX_fact, two_fact] at F); try simp -dsimp only [↓vcA, vcB, vcD, ↓pureT_lenS, ↓iteT, ↓iteF, cond_true, cond_false, eq_self, argE, Env.get, Env.push, ev, evs, evo, retV, Value.cells, Value.oneCell', setR, overR, fillL, zl, places, allSizes, heldC, ne_eq, Int.reduceLE, Int.reduceLT, Int.reduceEq, Int.reduceNe, Int.reduceToNat, Int.cast_ofNat_Int, Nat.reduceMul, Nat.reduceLeDiff, reduceIte, Nat.reduceEqDiff, Nat.reduceAdd, ↓reduceIte, Try.vcT, F, h.cell0, gets, vsD, if_true, if_false, Bool.false_eq_true,  decide_eq_true et, ed', Bool.not_false, Bool.not_true]
    refine ⟨⟨h0i, hlt⟩, ⟨h0i, hlt'⟩, ⟨h0i, hlt⟩, ⟨h0i, hlt'⟩, ⟨h0i, hlt⟩, ⟨h0i, hlt'⟩, ?_⟩
    have L2 : Holds [(b1, 14, .slice (some ⟨b, oo, none⟩) m.ch.length cch), (b, oo + i * 3, .int .i64 x.t), (b2, 14, .slice (some ⟨b', oo', none⟩) o.ch.length c'ch), (b', oo' + i * 3, .int .i64 y.t), (b1, 14, .slice (some ⟨b, oo, none⟩) m.ch.length cch), (b, oo + i * 3 + 1, .bool x.d), (b2, 14, .slice (some ⟨b', oo', none⟩) o.ch.length c'ch), (b', oo' + i * 3 + 1, .bool y.d), (b1, 14, .slice (some ⟨b, oo, none⟩) m.ch.length cch), (b, oo + i * 3 + 2, u), (b2, 14, .slice (some ⟨b', oo', none⟩) o.ch.length c'ch), (b', oo' + i * 3 + 2, u')] w6 := hold w6 h
    have r1 := ru.sep h fun _ _ => id
    have r2 := ru'.sep h fun _ _ => id
    trace_state
    apply And.intro
    case' left =>
      refine str_rule r1 ?_
      simp -dsimp only [↓vcA, vcB, vcD, ↓pureT_lenS, ↓iteT, ↓iteF, cond_true, cond_false, eq_self, argE, Env.get, Env.push, ev, evs, evo, retV, Value.cells, Value.oneCell', setR, overR, fillL, zl, places, allSizes, heldC, ne_eq, Int.reduceLE, Int.reduceLT, Int.reduceEq, Int.reduceNe, Int.reduceToNat, Int.cast_ofNat_Int, Nat.reduceMul, Nat.reduceLeDiff, reduceIte, Nat.reduceEqDiff, Nat.reduceAdd, ↓reduceIte, Try.vcT, L2]
      refine str_rule r2 ?_
    case' right =>
      refine str_rule r2 ?_
      simp -dsimp only [↓vcA, vcB, vcD, ↓pureT_lenS, ↓iteT, ↓iteF, cond_true, cond_false, eq_self, argE, Env.get, Env.push, ev, evs, evo, retV, Value.cells, Value.oneCell', setR, overR, fillL, zl, places, allSizes, heldC, ne_eq, Int.reduceLE, Int.reduceLT, Int.reduceEq, Int.reduceNe, Int.reduceToNat, Int.cast_ofNat_Int, Nat.reduceMul, Nat.reduceLeDiff, reduceIte, Nat.reduceEqDiff, Nat.reduceAdd, ↓reduceIte, Try.vcT, L2]
      refine str_rule r1 ?_
    all_goals
      by_cases hii : x.b = y.b
      · (try simp only [nfD] at h); have F := h.facts; (try simp only [nfF, emp_fact, rds_fact, frm_fact, tab_fact, chn_fact, mapX_fact, two_fact] at F); try simp -dsimp only [↓vcA, vcB, vcD, ↓pureT_lenS, ↓iteT, ↓iteF, cond_true, cond_false, eq_self, argE, Env.get, Env.push, ev, evs, evo, retV, Value.cells, Value.oneCell', setR, overR, fillL, zl, places, allSizes, heldC, ne_eq, Int.reduceLE, Int.reduceLT, Int.reduceEq, Int.reduceNe, Int.reduceToNat, Int.cast_ofNat_Int, Nat.reduceMul, Nat.reduceLeDiff, reduceIte, Nat.reduceEqDiff, Nat.reduceAdd, ↓reduceIte, Try.vcT, F, h.cell0, gets, vsD, if_true, if_false, Bool.false_eq_true,  L2, es, decide_eq_true hii, gets, ei, Bool.not_false, Bool.not_true]
        refine ⟨_, ?_, i + 1, by omega, rfl, rfl, htk2 (by cases x; cases y; simp_all), ?_⟩
        · omega
        · exact h
      · (try simp only [nfD] at h); have F := h.facts; (try simp only [nfF, emp_fact, rds_fact, frm_fact, tab_fact, chn_fact, mapX_fact, two_fact] at F); try simp -dsimp only [↓vcA, vcB, vcD, ↓pureT_lenS, ↓iteT, ↓iteF, cond_true, cond_false, eq_self, argE, Env.get, Env.push, ev, evs, evo, retV, Value.cells, Value.oneCell', setR, overR, fillL, zl, places, allSizes, heldC, ne_eq, Int.reduceLE, Int.reduceLT, Int.reduceEq, Int.reduceNe, Int.reduceToNat, Int.cast_ofNat_Int, Nat.reduceMul, Nat.reduceLeDiff, reduceIte, Nat.reduceEqDiff, Nat.reduceAdd, ↓reduceIte, Try.vcT, F, h.cell0, gets, vsD, if_true, if_false, Bool.false_eq_true,  L2, es, decide_eq_false hii, Bool.not_false, Bool.not_true]
        exact ⟨by rw [hne fun e => hii (by rw [e])], h.done⟩
  have ech : m.ch = o.ch := by
    have h1 : m.ch.take i = m.ch := List.take_of_length_le (by omega)
    have h2 : o.ch.take i = o.ch := List.take_of_length_le (by omega)
    rw [h1, h2] at htk; exact htk
  (try simp only [nfD] at h); have F := h.facts; (try simp only [nfF, emp_fact, rds_fact, frm_fact, tab_fact, chn_fact, mapX_fact, two_fact] at F); try simp -dsimp only [↓vcA, vcB, vcD, ↓pureT_lenS, ↓iteT, ↓iteF, cond_true, cond_false, eq_self, argE, Env.get, Env.push, ev, evs, evo, retV, Value.cells, Value.oneCell', setR, overR, fillL, zl, places, allSizes, heldC, ne_eq, Int.reduceLE, Int.reduceLT, Int.reduceEq, Int.reduceNe, Int.reduceToNat, Int.cast_ofNat_Int, Nat.reduceMul, Nat.reduceLeDiff, reduceIte, Nat.reduceEqDiff, Nat.reduceAdd, ↓reduceIte, Try.vcT, F, h.cell0, gets, vsD, if_true, if_false, Bool.false_eq_true,  decide_eq_false hlt]
  clear htk hi hlt
  have es : m.same o = true := MapV.same_iff.2 (by
    cases m; cases o; simp_all)
  exact ⟨by rw [es], h.done⟩
end Go.Proofs.Ytnhgjgoglmadnaa
