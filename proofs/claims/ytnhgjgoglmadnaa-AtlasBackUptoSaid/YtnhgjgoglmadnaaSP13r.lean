/- Joined texts of this claim (part 18), printed by a program of this work. The last part holds the claimed theorem: the law answers true at every input of its row. -/
import Derived.Test.YtnhgjgoglmadnaaSP13q
namespace Go.Proofs.Ytnhgjgoglmadnaa
open Go.RowKit
set_option maxRecDepth 100000
set_option linter.unusedSimpArgs false
set_option linter.unusedVariables false
set_option pp.maxSteps 1500
set_option pp.deepTerms.threshold 8

theorem MapV.Fine.pos {m : MapV} (h : m.Fine) : 0 < m.bytes.length := by
  obtain ⟨h1, h2, _⟩ := m.fails_no h.ok
  obtain ⟨_, u, e, hp, _⟩ := enc_bk h.ca h.wid h1 h2
  rw [MapV.bytes_of h.ok, e]
  simpa using hp
set_option maxHeartbeats 4000000 in
theorem walk13 (m : MapV) (s : MapS) (cut more : Int) (w : World) (R : MapR w m s) (O : m.Ok) (hm : ∀ c ∈ m.ch, Byt c.b) (hn : m.n ≤ 100000000) (hmore : 0 ≤ more ∧ more ≤ 255) :
    Calls Try.prog 13 [.agg (m.cells s).toArray, .int .i64 cut, .int .u8 more].toArray w (RetK fun r w' => r = .bool true ∧ Chg (fun _ => False) w w') := by
  have f1 := fun w' (h : MapR w' m s) => few56 m s w' h hn
  have e1 := fun w' (h : MapR w' m s) => encode58 m s w' h O
  have Rs : ∀ {M : List Res} {w' : World}, Sep w (fun _ => False) M w' → MapR w' m s := fun h => ⟨R.p.sep h fun _ _ => id, R.wa.sep h fun _ _ => id, R.pa.sep h fun _ _ => id, R.re.sep h fun _ _ => id, R.ca.sep h fun _ _ => id, R.is.sep h fun _ _ => id, R.co.sep h fun _ _ => id, R.ch.sep h⟩
  have hwid := R.wid
  obtain ⟨sp, swa, spa, sre, sca, sis, sco, sch⟩ := s
  obtain ⟨Asp, Csp, Qsp⟩ := R.p.shape
  dsimp only at Qsp
  subst Qsp
  obtain ⟨Aswa, Cswa, Qswa⟩ := R.wa.shape
  dsimp only at Qswa
  subst Qswa
  obtain ⟨Aspa, Cspa, Qspa⟩ := R.pa.shape
  dsimp only at Qspa
  subst Qspa
  obtain ⟨Asre, Csre, Qsre⟩ := R.re.shape
  dsimp only at Qsre
  subst Qsre
  obtain ⟨Asca, Csca, Qsca⟩ := R.ca.shape
  dsimp only at Qsca
  subst Qsca
  obtain ⟨Asis, Csis, Qsis⟩ := R.is.shape
  dsimp only at Qsis
  subst Qsis
  obtain ⟨Asco, Csco, Qsco⟩ := R.co.shape
  dsimp only at Qsco
  subst Qsco
  obtain ⟨Asch, Csch, Qsch⟩ := R.ch.shape
  dsimp only at Qsch
  subst Qsch
  simp only [MapV.cells] at f1 e1
  have h := Sep.nil w
  refine walk Try.func13 rfl (by kernel_rfl) (by rw [Try.nt13]; simp) ?_
  (try simp only [nfD] at h); have F := h.facts; (try simp only [nfF, emp_fact, rds_fact, frm_fact, tab_fact, chn_fact, mapX_fact, two_fact] at F)
  simp -dsimp only [↓vcA, vcB, vcD, ↓pureT_lenS, ↓iteT, ↓iteF, cond_true, cond_false, eq_self, argE, Env.get, Env.push, ev, evs, evo, retV, Value.cells, Value.oneCell', setR, overR, fillL, zl, places, allSizes, heldC, ne_eq, Int.reduceLE, Int.reduceLT, Int.reduceEq, Int.reduceNe, Int.reduceToNat, Int.cast_ofNat_Int, Nat.reduceMul, Nat.reduceLeDiff, reduceIte, Nat.reduceEqDiff, Nat.reduceAdd, ↓reduceIte, Try.vcT, MapV.cells]
  refine h.new ?_
  clear h F
  intro w1 b1 h
  (try simp only [nfD] at h); have F := h.facts; (try simp only [nfF, emp_fact, rds_fact, frm_fact, tab_fact, chn_fact, mapX_fact, two_fact] at F); try simp -dsimp only [↓vcA, vcB, vcD, ↓pureT_lenS, ↓iteT, ↓iteF, cond_true, cond_false, eq_self, argE, Env.get, Env.push, ev, evs, evo, retV, Value.cells, Value.oneCell', setR, overR, fillL, zl, places, allSizes, heldC, ne_eq, Int.reduceLE, Int.reduceLT, Int.reduceEq, Int.reduceNe, Int.reduceToNat, Int.cast_ofNat_Int, Nat.reduceMul, Nat.reduceLeDiff, reduceIte, Nat.reduceEqDiff, Nat.reduceAdd, ↓reduceIte, Try.vcT, F, h.cell0, gets, vsD, if_true, if_false, Bool.false_eq_true,  cellsAt]
  refine Sep.callp h (f1 w1 (Rs h)) ?_
  clear h F
  intro w3 h
  have aw : ∀ {w' : World} {M : List Res} {K : Value → World → Prop}, Sep w (fun _ => False) M w' → (∀ w1, Sep w (fun _ => False) M w1 → K (.bool true) w1) → callsK Try.prog 57 [].toArray w' K := fun h hk => Sep.callp h (awake57 _) hk
  cases hfm : m.few with
  | false =>
    (try simp only [nfD] at h); have F := h.facts; (try simp only [nfF, emp_fact, rds_fact, frm_fact, tab_fact, chn_fact, mapX_fact, two_fact] at F); try simp -dsimp only [↓vcA, vcB, vcD, ↓pureT_lenS, ↓iteT, ↓iteF, cond_true, cond_false, eq_self, argE, Env.get, Env.push, ev, evs, evo, retV, Value.cells, Value.oneCell', setR, overR, fillL, zl, places, allSizes, heldC, ne_eq, Int.reduceLE, Int.reduceLT, Int.reduceEq, Int.reduceNe, Int.reduceToNat, Int.cast_ofNat_Int, Nat.reduceMul, Nat.reduceLeDiff, reduceIte, Nat.reduceEqDiff, Nat.reduceAdd, ↓reduceIte, Try.vcT, F, h.cell0, gets, vsD, if_true, if_false, Bool.false_eq_true,  hfm, cellsAt]
    refine aw h ?_
    clear h F
    intro w4 h
    (try simp only [nfD] at h); have F := h.facts; (try simp only [nfF, emp_fact, rds_fact, frm_fact, tab_fact, chn_fact, mapX_fact, two_fact] at F); try simp -dsimp only [↓vcA, vcB, vcD, ↓pureT_lenS, ↓iteT, ↓iteF, cond_true, cond_false, eq_self, argE, Env.get, Env.push, ev, evs, evo, retV, Value.cells, Value.oneCell', setR, overR, fillL, zl, places, allSizes, heldC, ne_eq, Int.reduceLE, Int.reduceLT, Int.reduceEq, Int.reduceNe, Int.reduceToNat, Int.cast_ofNat_Int, Nat.reduceMul, Nat.reduceLeDiff, reduceIte, Nat.reduceEqDiff, Nat.reduceAdd, ↓reduceIte, Try.vcT, F, h.cell0, gets, vsD, if_true, if_false, Bool.false_eq_true]
    exact h.done
  | true =>
  (try simp only [nfD] at h); have F := h.facts; (try simp only [nfF, emp_fact, rds_fact, frm_fact, tab_fact, chn_fact, mapX_fact, two_fact] at F); try simp -dsimp only [↓vcA, vcB, vcD, ↓pureT_lenS, ↓iteT, ↓iteF, cond_true, cond_false, eq_self, argE, Env.get, Env.push, ev, evs, evo, retV, Value.cells, Value.oneCell', setR, overR, fillL, zl, places, allSizes, heldC, ne_eq, Int.reduceLE, Int.reduceLT, Int.reduceEq, Int.reduceNe, Int.reduceToNat, Int.cast_ofNat_Int, Nat.reduceMul, Nat.reduceLeDiff, reduceIte, Nat.reduceEqDiff, Nat.reduceAdd, ↓reduceIte, Try.vcT, F, h.cell0, gets, vsD, if_true, if_false, Bool.false_eq_true,  hfm, cellsAt]
  have hr := MapV.few_room hfm
  refine Sep.callN h (e1 _ (Rs h) (by omega)) ?_
  clear h F
  intro e N w5 hQ h
  obtain ⟨a5, c5, rfl, rfl⟩ := hQ
  cases hf : m.fails with
  | true =>
    have eb : m.bytes = [] := by simp [MapV.bytes, hf]
    have hl : ((m.bytes.length : Nat) : Int) = 0 := by rw [eb]; rfl
    (try simp only [nfD] at h); have F := h.facts; (try simp only [nfF, emp_fact, rds_fact, frm_fact, tab_fact, chn_fact, mapX_fact, two_fact] at F); try simp -dsimp only [↓vcA, vcB, vcD, ↓pureT_lenS, ↓iteT, ↓iteF, cond_true, cond_false, eq_self, argE, Env.get, Env.push, ev, evs, evo, retV, Value.cells, Value.oneCell', setR, overR, fillL, zl, places, allSizes, heldC, ne_eq, Int.reduceLE, Int.reduceLT, Int.reduceEq, Int.reduceNe, Int.reduceToNat, Int.cast_ofNat_Int, Nat.reduceMul, Nat.reduceLeDiff, reduceIte, Nat.reduceEqDiff, Nat.reduceAdd, ↓reduceIte, Try.vcT, F, h.cell0, gets, vsD, if_true, if_false, Bool.false_eq_true,  hf, hl, if_true, Bool.not_true, Bool.not_false]
    refine aw h ?_
    clear h F
    intro w6 h
    (try simp only [nfD] at h); have F := h.facts; (try simp only [nfF, emp_fact, rds_fact, frm_fact, tab_fact, chn_fact, mapX_fact, two_fact] at F); try simp -dsimp only [↓vcA, vcB, vcD, ↓pureT_lenS, ↓iteT, ↓iteF, cond_true, cond_false, eq_self, argE, Env.get, Env.push, ev, evs, evo, retV, Value.cells, Value.oneCell', setR, overR, fillL, zl, places, allSizes, heldC, ne_eq, Int.reduceLE, Int.reduceLT, Int.reduceEq, Int.reduceNe, Int.reduceToNat, Int.cast_ofNat_Int, Nat.reduceMul, Nat.reduceLeDiff, reduceIte, Nat.reduceEqDiff, Nat.reduceAdd, ↓reduceIte, Try.vcT, F, h.cell0, gets, vsD, if_true, if_false, Bool.false_eq_true]
    exact h.done
  | false =>
  have fine : m.Fine := ⟨hwid, O.ca, hf⟩
  have hpos := fine.pos
  have hby := m.bytes_byt hm
  obtain ⟨d1, d2, _, _⟩ := fine.dec
  have hlen : m.bytes.length ≤ 98000 := by
    rw [MapV.bytes_of hf]; exact Nat.le_trans (m.enc_stp hm).2 hr
  have hl : ¬ ((m.bytes.length : Nat) : Int) = 0 := by omega
  (try simp only [nfD] at h); have F := h.facts; (try simp only [nfF, emp_fact, rds_fact, frm_fact, tab_fact, chn_fact, mapX_fact, two_fact] at F); try simp -dsimp only [↓vcA, vcB, vcD, ↓pureT_lenS, ↓iteT, ↓iteF, cond_true, cond_false, eq_self, argE, Env.get, Env.push, ev, evs, evo, retV, Value.cells, Value.oneCell', setR, overR, fillL, zl, places, allSizes, heldC, ne_eq, Int.reduceLE, Int.reduceLT, Int.reduceEq, Int.reduceNe, Int.reduceToNat, Int.cast_ofNat_Int, Nat.reduceMul, Nat.reduceLeDiff, reduceIte, Nat.reduceEqDiff, Nat.reduceAdd, ↓reduceIte, Try.vcT, F, h.cell0, gets, vsD, if_true, if_false, Bool.false_eq_true,  hf, decide_eq_false hl, if_false, Bool.not_true, Bool.not_false, Bool.false_eq_true]
  refine Sep.callN h (decode60 _ _ _ F.2.1 hby (by omega)) ?_
  clear h F
  intro e N w6 hQ h
  rw [d1, d2] at hQ
  obtain ⟨p, rfl, rfl⟩ := hQ
  (try simp only [nfD] at h); have F := h.facts; (try simp only [nfF, emp_fact, rds_fact, frm_fact, tab_fact, chn_fact, mapX_fact, two_fact] at F)
  have RP := F.2.2.1
  obtain ⟨pp, pwa, ppa, pre, pca, pis, pco, pch⟩ := p
  obtain ⟨App, Cpp, Qpp⟩ := RP.p.shape
  dsimp only at Qpp
  subst Qpp
  obtain ⟨Apwa, Cpwa, Qpwa⟩ := RP.wa.shape
  dsimp only at Qpwa
  subst Qpwa
  obtain ⟨Appa, Cppa, Qppa⟩ := RP.pa.shape
  dsimp only at Qppa
  subst Qppa
  obtain ⟨Apre, Cpre, Qpre⟩ := RP.re.shape
  dsimp only at Qpre
  subst Qpre
  obtain ⟨Apca, Cpca, Qpca⟩ := RP.ca.shape
  dsimp only at Qpca
  subst Qpca
  obtain ⟨Apis, Cpis, Qpis⟩ := RP.is.shape
  dsimp only at Qpis
  subst Qpis
  obtain ⟨Apco, Cpco, Qpco⟩ := RP.co.shape
  dsimp only at Qpco
  subst Qpco
  obtain ⟨Apch, Cpch, Qpch⟩ := RP.ch.shape
  dsimp only at Qpch
  subst Qpch
  (try simp only [nfD] at h); have F := h.facts; (try simp only [nfF, emp_fact, rds_fact, frm_fact, tab_fact, chn_fact, mapX_fact, two_fact] at F); try simp -dsimp only [↓vcA, vcB, vcD, ↓pureT_lenS, ↓iteT, ↓iteF, cond_true, cond_false, eq_self, argE, Env.get, Env.push, ev, evs, evo, retV, Value.cells, Value.oneCell', setR, overR, fillL, zl, places, allSizes, heldC, ne_eq, Int.reduceLE, Int.reduceLT, Int.reduceEq, Int.reduceNe, Int.reduceToNat, Int.cast_ofNat_Int, Nat.reduceMul, Nat.reduceLeDiff, reduceIte, Nat.reduceEqDiff, Nat.reduceAdd, ↓reduceIte, Try.vcT, F, h.cell0, gets, vsD, if_true, if_false, Bool.false_eq_true,  MapV.cells]
  refine h.new ?_
  clear h F
  intro w7 b7 h
  (try simp only [nfD] at h); have F := h.facts; (try simp only [nfF, emp_fact, rds_fact, frm_fact, tab_fact, chn_fact, mapX_fact, two_fact] at F); try simp -dsimp only [↓vcA, vcB, vcD, ↓pureT_lenS, ↓iteT, ↓iteF, cond_true, cond_false, eq_self, argE, Env.get, Env.push, ev, evs, evo, retV, Value.cells, Value.oneCell', setR, overR, fillL, zl, places, allSizes, heldC, ne_eq, Int.reduceLE, Int.reduceLT, Int.reduceEq, Int.reduceNe, Int.reduceToNat, Int.cast_ofNat_Int, Nat.reduceMul, Nat.reduceLeDiff, reduceIte, Nat.reduceEqDiff, Nat.reduceAdd, ↓reduceIte, Try.vcT, F, h.cell0, gets, vsD, if_true, if_false, Bool.false_eq_true,  MapV.cells]
  refine Sep.put 3 h rfl ?_
  clear h F
  intro w8 h
  (try simp only [nfD] at h); have F := h.facts; (try simp only [nfF, emp_fact, rds_fact, frm_fact, tab_fact, chn_fact, mapX_fact, two_fact] at F); try simp -dsimp only [↓vcA, vcB, vcD, ↓pureT_lenS, ↓iteT, ↓iteF, cond_true, cond_false, eq_self, argE, Env.get, Env.push, ev, evs, evo, retV, Value.cells, Value.oneCell', setR, overR, fillL, zl, places, allSizes, heldC, ne_eq, Int.reduceLE, Int.reduceLT, Int.reduceEq, Int.reduceNe, Int.reduceToNat, Int.cast_ofNat_Int, Nat.reduceMul, Nat.reduceLeDiff, reduceIte, Nat.reduceEqDiff, Nat.reduceAdd, ↓reduceIte, Try.vcT, F, h.cell0, gets, vsD, if_true, if_false, Bool.false_eq_true,  cellsAt]
  have k1 := encode58 m _ _ F.2.2.1 O
  simp only [MapV.cells] at k1
  refine Sep.callN h (k1 (by omega)) ?_
  clear h F k1
  intro e N w9 hQ h
  rw [hf] at hQ
  obtain ⟨a9, c9, rfl, rfl⟩ := hQ
  (try simp only [nfD] at h); have F := h.facts; (try simp only [nfF, emp_fact, rds_fact, frm_fact, tab_fact, chn_fact, mapX_fact, two_fact] at F); try simp -dsimp only [↓vcA, vcB, vcD, ↓pureT_lenS, ↓iteT, ↓iteF, cond_true, cond_false, eq_self, argE, Env.get, Env.push, ev, evs, evo, retV, Value.cells, Value.oneCell', setR, overR, fillL, zl, places, allSizes, heldC, ne_eq, Int.reduceLE, Int.reduceLT, Int.reduceEq, Int.reduceNe, Int.reduceToNat, Int.cast_ofNat_Int, Nat.reduceMul, Nat.reduceLeDiff, reduceIte, Nat.reduceEqDiff, Nat.reduceAdd, ↓reduceIte, Try.vcT, F, h.cell0, gets, vsD, if_true, if_false, Bool.false_eq_true]
  refine Sep.callp h ((round cut m.bytes.length _ (by omega) (by omega)).mono fun e w' ⟨r, e, er, ew⟩ => ⟨r, e, er, ew ▸ Chg.refl _ _⟩) ?_
  clear h F
  intro w10 h
  obtain ⟨k, hk, hk1⟩ : ∃ k : Nat, cut % (m.bytes.length : Int) = k ∧ k < m.bytes.length := ⟨(cut % (m.bytes.length : Int)).toNat, by have := Int.emod_nonneg cut hl; omega, by have := Int.emod_nonneg cut hl; have := Int.emod_lt_of_pos cut (b := (m.bytes.length : Int)) (by omega); omega⟩
  rw [hk]
  (try simp only [nfD] at h); have F := h.facts; (try simp only [nfF, emp_fact, rds_fact, frm_fact, tab_fact, chn_fact, mapX_fact, two_fact] at F); try simp -dsimp only [↓vcA, vcB, vcD, ↓pureT_lenS, ↓iteT, ↓iteF, cond_true, cond_false, eq_self, argE, Env.get, Env.push, ev, evs, evo, retV, Value.cells, Value.oneCell', setR, overR, fillL, zl, places, allSizes, heldC, ne_eq, Int.reduceLE, Int.reduceLT, Int.reduceEq, Int.reduceNe, Int.reduceToNat, Int.cast_ofNat_Int, Nat.reduceMul, Nat.reduceLeDiff, reduceIte, Nat.reduceEqDiff, Nat.reduceAdd, ↓reduceIte, Try.vcT, F, h.cell0, gets, vsD, if_true, if_false, Bool.false_eq_true]
  have hc5 : m.bytes.length ≤ c5 := by
    obtain ⟨_, _, e, k1, _⟩ := F.2.1
    injection e with _ _ e
    omega
  refine ⟨⟨by omega, by omega⟩, ?_⟩
  have hrk := F.2.1.cut (l := 0) (m := k) (by omega) (by omega)
  rw [List.drop_zero] at hrk
  have hcut := fine.cut hby hk1
  refine Sep.callN h (decode60 _ _ w10 hrk (fun x hx => hby x (List.mem_of_mem_take hx)) (by rw [List.length_take]; omega)) ?_
  clear h F hrk
  intro e N w11 hQ h
  have d3 : dec (m.bytes.take k) = MapV.zero := by unfold dec; rw [hcut]; rfl
  rw [hcut, d3] at hQ
  obtain ⟨q, rfl, rfl⟩ := hQ
  (try simp only [nfD] at h); have F := h.facts; (try simp only [nfF, emp_fact, rds_fact, frm_fact, tab_fact, chn_fact, mapX_fact, two_fact] at F)
  have RQ := F.2.2.2.2.2.1
  obtain ⟨qp, qwa, qpa, qre, qca, qis, qco, qch⟩ := q
  obtain ⟨Aqp, Cqp, Qqp⟩ := RQ.p.shape
  dsimp only at Qqp
  subst Qqp
  obtain ⟨Aqwa, Cqwa, Qqwa⟩ := RQ.wa.shape
  dsimp only at Qqwa
  subst Qqwa
  obtain ⟨Aqpa, Cqpa, Qqpa⟩ := RQ.pa.shape
  dsimp only at Qqpa
  subst Qqpa
  obtain ⟨Aqre, Cqre, Qqre⟩ := RQ.re.shape
  dsimp only at Qqre
  subst Qqre
  obtain ⟨Aqca, Cqca, Qqca⟩ := RQ.ca.shape
  dsimp only at Qqca
  subst Qqca
  obtain ⟨Aqis, Cqis, Qqis⟩ := RQ.is.shape
  dsimp only at Qqis
  subst Qqis
  obtain ⟨Aqco, Cqco, Qqco⟩ := RQ.co.shape
  dsimp only at Qqco
  subst Qqco
  obtain ⟨Aqch, Cqch, Qqch⟩ := RQ.ch.shape
  dsimp only at Qqch
  subst Qqch
  (try simp only [nfD] at h); have F := h.facts; (try simp only [nfF, emp_fact, rds_fact, frm_fact, tab_fact, chn_fact, mapX_fact, two_fact] at F); try simp -dsimp only [↓vcA, vcB, vcD, ↓pureT_lenS, ↓iteT, ↓iteF, cond_true, cond_false, eq_self, argE, Env.get, Env.push, ev, evs, evo, retV, Value.cells, Value.oneCell', setR, overR, fillL, zl, places, allSizes, heldC, ne_eq, Int.reduceLE, Int.reduceLT, Int.reduceEq, Int.reduceNe, Int.reduceToNat, Int.cast_ofNat_Int, Nat.reduceMul, Nat.reduceLeDiff, reduceIte, Nat.reduceEqDiff, Nat.reduceAdd, ↓reduceIte, Try.vcT, F, h.cell0, gets, vsD, if_true, if_false, Bool.false_eq_true,  MapV.cells]
  refine h.new ?_
  clear h F
  intro w12 b12 h
  (try simp only [nfD] at h); have F := h.facts; (try simp only [nfF, emp_fact, rds_fact, frm_fact, tab_fact, chn_fact, mapX_fact, two_fact] at F); try simp -dsimp only [↓vcA, vcB, vcD, ↓pureT_lenS, ↓iteT, ↓iteF, cond_true, cond_false, eq_self, argE, Env.get, Env.push, ev, evs, evo, retV, Value.cells, Value.oneCell', setR, overR, fillL, zl, places, allSizes, heldC, ne_eq, Int.reduceLE, Int.reduceLT, Int.reduceEq, Int.reduceNe, Int.reduceToNat, Int.cast_ofNat_Int, Nat.reduceMul, Nat.reduceLeDiff, reduceIte, Nat.reduceEqDiff, Nat.reduceAdd, ↓reduceIte, Try.vcT, F, h.cell0, gets, vsD, if_true, if_false, Bool.false_eq_true,  MapV.cells]
  refine Sep.put 6 h rfl ?_
  clear h F
  intro w13 h
  (try simp only [nfD] at h); have F := h.facts; (try simp only [nfF, emp_fact, rds_fact, frm_fact, tab_fact, chn_fact, mapX_fact, two_fact] at F); try simp -dsimp only [↓vcA, vcB, vcD, ↓pureT_lenS, ↓iteT, ↓iteF, cond_true, cond_false, eq_self, argE, Env.get, Env.push, ev, evs, evo, retV, Value.cells, Value.oneCell', setR, overR, fillL, zl, places, allSizes, heldC, ne_eq, Int.reduceLE, Int.reduceLT, Int.reduceEq, Int.reduceNe, Int.reduceToNat, Int.cast_ofNat_Int, Nat.reduceMul, Nat.reduceLeDiff, reduceIte, Nat.reduceEqDiff, Nat.reduceAdd, ↓reduceIte, Try.vcT, F, h.cell0, gets, vsD, if_true, if_false, Bool.false_eq_true]
  refine h.new ?_
  clear h F
  intro w14 b14 h
  have h := h.toRow 7 1 0 rfl rfl (by simp [maxLen])
  (try simp only [nfD] at h); have F := h.facts; (try simp only [nfF, emp_fact, rds_fact, frm_fact, tab_fact, chn_fact, mapX_fact, two_fact] at F); try simp -dsimp only [↓vcA, vcB, vcD, ↓pureT_lenS, ↓iteT, ↓iteF, cond_true, cond_false, eq_self, argE, Env.get, Env.push, ev, evs, evo, retV, Value.cells, Value.oneCell', setR, overR, fillL, zl, places, allSizes, heldC, ne_eq, Int.reduceLE, Int.reduceLT, Int.reduceEq, Int.reduceNe, Int.reduceToNat, Int.cast_ofNat_Int, Nat.reduceMul, Nat.reduceLeDiff, reduceIte, Nat.reduceEqDiff, Nat.reduceAdd, ↓reduceIte, Try.vcT, F, h.cell0, gets, vsD, if_true, if_false, Bool.false_eq_true]
  refine Sep.app 7 Try.info5 Try.underlying22 rfl (by decide) h rfl F.2.1.row (by simp; omega) (by simp [maxLen]; omega) ?_
  clear h F
  intro a15 c15 w15 h
  simp only [Nat.zero_add, List.nil_append] at h ⊢
  (try simp only [nfD] at h); have F := h.facts; (try simp only [nfF, emp_fact, rds_fact, frm_fact, tab_fact, chn_fact, mapX_fact, two_fact] at F); try simp -dsimp only [↓vcA, vcB, vcD, ↓pureT_lenS, ↓iteT, ↓iteF, cond_true, cond_false, eq_self, argE, Env.get, Env.push, ev, evs, evo, retV, Value.cells, Value.oneCell', setR, overR, fillL, zl, places, allSizes, heldC, ne_eq, Int.reduceLE, Int.reduceLT, Int.reduceEq, Int.reduceNe, Int.reduceToNat, Int.cast_ofNat_Int, Nat.reduceMul, Nat.reduceLeDiff, reduceIte, Nat.reduceEqDiff, Nat.reduceAdd, ↓reduceIte, Try.vcT, F, h.cell0, gets, vsD, if_true, if_false, Bool.false_eq_true]
  refine h.new ?_
  clear h F
  intro w16 b16 h
  have h := h.toRow 8 1 1 rfl rfl (by simp [maxLen])
  have h := h.conv 8 rfl (fun A => row_byt _ [more] _ A) (fun _ f => f)
  (try simp only [nfD] at h); have F := h.facts; (try simp only [nfF, emp_fact, rds_fact, frm_fact, tab_fact, chn_fact, mapX_fact, two_fact] at F); try simp -dsimp only [↓vcA, vcB, vcD, ↓pureT_lenS, ↓iteT, ↓iteF, cond_true, cond_false, eq_self, argE, Env.get, Env.push, ev, evs, evo, retV, Value.cells, Value.oneCell', setR, overR, fillL, zl, places, allSizes, heldC, ne_eq, Int.reduceLE, Int.reduceLT, Int.reduceEq, Int.reduceNe, Int.reduceToNat, Int.cast_ofNat_Int, Nat.reduceMul, Nat.reduceLeDiff, reduceIte, Nat.reduceEqDiff, Nat.reduceAdd, ↓reduceIte, Try.vcT, F, h.cell0, gets, vsD, if_true, if_false, Bool.false_eq_true]
  refine Sep.app (n := m.bytes.length) (m := 1) 7 Try.info5 Try.underlying22 rfl (by decide) h rfl F.2.2.2.2.2.2.2.2.1.row (by simp; omega) (by simp [maxLen]; omega) ?_
  clear h F
  intro a17 c17 w17 h
  have h := h.conv (r' := byt (.slice a17 (m.bytes.length + 1) c17) (m.bytes ++ [more])) 7 rfl (fun A hA => row_byt _ (m.bytes ++ [more]) _ A (by simpa [u8s] using hA)) (fun _ f => f)
  (try simp only [nfD] at h); have F := h.facts; (try simp only [nfF, emp_fact, rds_fact, frm_fact, tab_fact, chn_fact, mapX_fact, two_fact] at F); try simp -dsimp only [↓vcA, vcB, vcD, ↓pureT_lenS, ↓iteT, ↓iteF, cond_true, cond_false, eq_self, argE, Env.get, Env.push, ev, evs, evo, retV, Value.cells, Value.oneCell', setR, overR, fillL, zl, places, allSizes, heldC, ne_eq, Int.reduceLE, Int.reduceLT, Int.reduceEq, Int.reduceNe, Int.reduceToNat, Int.cast_ofNat_Int, Nat.reduceMul, Nat.reduceLeDiff, reduceIte, Nat.reduceEqDiff, Nat.reduceAdd, ↓reduceIte, Try.vcT, F, h.cell0, gets, vsD, if_true, if_false, Bool.false_eq_true]
  have hmo := fine.more hby hmore
  refine Sep.callN h (decode60 _ (m.bytes ++ [more]) _ F.2.2.2.2.2.2.2.1 (hby.append fun y hy => by simp at hy; subst hy; exact hmore) (by simp; omega)) ?_
  clear h F
  intro e N w18 hQ h
  have d4 : dec (m.bytes ++ [more]) = MapV.zero := by unfold dec; rw [hmo]; rfl
  rw [hmo, d4] at hQ
  obtain ⟨u, rfl, rfl⟩ := hQ
  (try simp only [nfD] at h); have F := h.facts; (try simp only [nfF, emp_fact, rds_fact, frm_fact, tab_fact, chn_fact, mapX_fact, two_fact] at F)
  have RU := F.2.2.2.2.2.2.2.2.2.1
  obtain ⟨up, uwa, upa, ure, uca, uis, uco, uch⟩ := u
  obtain ⟨Aup, Cup, Qup⟩ := RU.p.shape
  dsimp only at Qup
  subst Qup
  obtain ⟨Auwa, Cuwa, Quwa⟩ := RU.wa.shape
  dsimp only at Quwa
  subst Quwa
  obtain ⟨Aupa, Cupa, Qupa⟩ := RU.pa.shape
  dsimp only at Qupa
  subst Qupa
  obtain ⟨Aure, Cure, Qure⟩ := RU.re.shape
  dsimp only at Qure
  subst Qure
  obtain ⟨Auca, Cuca, Quca⟩ := RU.ca.shape
  dsimp only at Quca
  subst Quca
  obtain ⟨Auis, Cuis, Quis⟩ := RU.is.shape
  dsimp only at Quis
  subst Quis
  obtain ⟨Auco, Cuco, Quco⟩ := RU.co.shape
  dsimp only at Quco
  subst Quco
  obtain ⟨Auch, Cuch, Quch⟩ := RU.ch.shape
  dsimp only at Quch
  subst Quch
  (try simp only [nfD] at h); have F := h.facts; (try simp only [nfF, emp_fact, rds_fact, frm_fact, tab_fact, chn_fact, mapX_fact, two_fact] at F); try simp -dsimp only [↓vcA, vcB, vcD, ↓pureT_lenS, ↓iteT, ↓iteF, cond_true, cond_false, eq_self, argE, Env.get, Env.push, ev, evs, evo, retV, Value.cells, Value.oneCell', setR, overR, fillL, zl, places, allSizes, heldC, ne_eq, Int.reduceLE, Int.reduceLT, Int.reduceEq, Int.reduceNe, Int.reduceToNat, Int.cast_ofNat_Int, Nat.reduceMul, Nat.reduceLeDiff, reduceIte, Nat.reduceEqDiff, Nat.reduceAdd, ↓reduceIte, Try.vcT, F, h.cell0, gets, vsD, if_true, if_false, Bool.false_eq_true,  MapV.cells]
  refine h.new ?_
  clear h F
  intro w19 b19 h
  (try simp only [nfD] at h); have F := h.facts; (try simp only [nfF, emp_fact, rds_fact, frm_fact, tab_fact, chn_fact, mapX_fact, two_fact] at F); try simp -dsimp only [↓vcA, vcB, vcD, ↓pureT_lenS, ↓iteT, ↓iteF, cond_true, cond_false, eq_self, argE, Env.get, Env.push, ev, evs, evo, retV, Value.cells, Value.oneCell', setR, overR, fillL, zl, places, allSizes, heldC, ne_eq, Int.reduceLE, Int.reduceLT, Int.reduceEq, Int.reduceNe, Int.reduceToNat, Int.cast_ofNat_Int, Nat.reduceMul, Nat.reduceLeDiff, reduceIte, Nat.reduceEqDiff, Nat.reduceAdd, ↓reduceIte, Try.vcT, F, h.cell0, gets, vsD, if_true, if_false, Bool.false_eq_true,  MapV.cells]
  refine Sep.put 10 h rfl ?_
  clear h F
  intro w20 h
  (try simp only [nfD] at h); have F := h.facts; (try simp only [nfF, emp_fact, rds_fact, frm_fact, tab_fact, chn_fact, mapX_fact, two_fact] at F); try simp -dsimp only [↓vcA, vcB, vcD, ↓pureT_lenS, ↓iteT, ↓iteF, cond_true, cond_false, eq_self, argE, Env.get, Env.push, ev, evs, evo, retV, Value.cells, Value.oneCell', setR, overR, fillL, zl, places, allSizes, heldC, ne_eq, Int.reduceLE, Int.reduceLT, Int.reduceEq, Int.reduceNe, Int.reduceToNat, Int.cast_ofNat_Int, Nat.reduceMul, Nat.reduceLeDiff, reduceIte, Nat.reduceEqDiff, Nat.reduceAdd, ↓reduceIte, Try.vcT, F, h.cell0, gets, vsD, if_true, if_false, Bool.false_eq_true,  cellsAt]
  have k1 := same63 m m _ _ _ F.2.2.1 (Rs h) hm hm
  rw [MapV.same_iff.2 rfl] at k1
  simp only [MapV.cells] at k1
  refine Sep.callp h k1 ?_
  clear h F k1
  intro w21 h
  have es : ((strOfNums m.bytes).toList == (strOfNums m.bytes).toList) = true := beq_self_eq_true _
  (try simp only [nfD] at h); have F := h.facts; (try simp only [nfF, emp_fact, rds_fact, frm_fact, tab_fact, chn_fact, mapX_fact, two_fact] at F); try simp -dsimp only [↓vcA, vcB, vcD, ↓pureT_lenS, ↓iteT, ↓iteF, cond_true, cond_false, eq_self, argE, Env.get, Env.push, ev, evs, evo, retV, Value.cells, Value.oneCell', setR, overR, fillL, zl, places, allSizes, heldC, ne_eq, Int.reduceLE, Int.reduceLT, Int.reduceEq, Int.reduceNe, Int.reduceToNat, Int.cast_ofNat_Int, Nat.reduceMul, Nat.reduceLeDiff, reduceIte, Nat.reduceEqDiff, Nat.reduceAdd, ↓reduceIte, Try.vcT, F, h.cell0, gets, vsD, if_true, if_false, Bool.false_eq_true,  es]
  refine str_rule F.2.2.2.2.1 ?_
  (try simp only [nfD] at h); have F := h.facts; (try simp only [nfF, emp_fact, rds_fact, frm_fact, tab_fact, chn_fact, mapX_fact, two_fact] at F); try simp -dsimp only [↓vcA, vcB, vcD, ↓pureT_lenS, ↓iteT, ↓iteF, cond_true, cond_false, eq_self, argE, Env.get, Env.push, ev, evs, evo, retV, Value.cells, Value.oneCell', setR, overR, fillL, zl, places, allSizes, heldC, ne_eq, Int.reduceLE, Int.reduceLT, Int.reduceEq, Int.reduceNe, Int.reduceToNat, Int.cast_ofNat_Int, Nat.reduceMul, Nat.reduceLeDiff, reduceIte, Nat.reduceEqDiff, Nat.reduceAdd, ↓reduceIte, Try.vcT, F, h.cell0, gets, vsD, if_true, if_false, Bool.false_eq_true,  es]
  refine str_rule F.2.1 ?_
  (try simp only [nfD] at h); have F := h.facts; (try simp only [nfF, emp_fact, rds_fact, frm_fact, tab_fact, chn_fact, mapX_fact, two_fact] at F); try simp -dsimp only [↓vcA, vcB, vcD, ↓pureT_lenS, ↓iteT, ↓iteF, cond_true, cond_false, eq_self, argE, Env.get, Env.push, ev, evs, evo, retV, Value.cells, Value.oneCell', setR, overR, fillL, zl, places, allSizes, heldC, ne_eq, Int.reduceLE, Int.reduceLT, Int.reduceEq, Int.reduceNe, Int.reduceToNat, Int.cast_ofNat_Int, Nat.reduceMul, Nat.reduceLeDiff, reduceIte, Nat.reduceEqDiff, Nat.reduceAdd, ↓reduceIte, Try.vcT, F, h.cell0, gets, vsD, if_true, if_false, Bool.false_eq_true,  es]
  refine aw h ?_
  clear h F
  intro w22 h
  (try simp only [nfD] at h); have F := h.facts; (try simp only [nfF, emp_fact, rds_fact, frm_fact, tab_fact, chn_fact, mapX_fact, two_fact] at F); try simp -dsimp only [↓vcA, vcB, vcD, ↓pureT_lenS, ↓iteT, ↓iteF, cond_true, cond_false, eq_self, argE, Env.get, Env.push, ev, evs, evo, retV, Value.cells, Value.oneCell', setR, overR, fillL, zl, places, allSizes, heldC, ne_eq, Int.reduceLE, Int.reduceLT, Int.reduceEq, Int.reduceNe, Int.reduceToNat, Int.cast_ofNat_Int, Nat.reduceMul, Nat.reduceLeDiff, reduceIte, Nat.reduceEqDiff, Nat.reduceAdd, ↓reduceIte, Try.vcT, F, h.cell0, gets, vsD, if_true, if_false, Bool.false_eq_true]
  exact h.done
end Go.Proofs.Ytnhgjgoglmadnaa
