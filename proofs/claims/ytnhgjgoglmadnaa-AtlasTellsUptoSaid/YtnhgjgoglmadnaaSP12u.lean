/- Joined texts of this claim (part 21), printed by a program of this work. The last part holds the claimed theorem: the law answers true at every input of its row. -/
import Derived.Test.YtnhgjgoglmadnaaSP12t
namespace Go.Proofs.Ytnhgjgoglmadnaa
open Go.RowKit
set_option maxRecDepth 100000
set_option linter.unusedSimpArgs false
set_option linter.unusedVariables false
set_option pp.maxSteps 1500
set_option pp.deepTerms.threshold 8

theorem roomC_few : ∀ {cs : List Ch}, (∀ c ∈ cs, c.b.length ≤ 400) → roomC cs ≤ cs.length * 424
  | [], _ => by simp [roomC]
  | c :: cs, h => by
    have h1 := h c (.head _)
    have h2 := roomC_few fun x hx => h x (.tail _ hx)
    simp only [roomC, List.length_cons]; omega
theorem MapV.few_room {m : MapV} (h : m.few = true) : m.room ≤ 98000 := by
  simp only [MapV.few, Bool.and_eq_true, List.all_eq_true, decide_eq_true_eq] at h
  obtain ⟨h1, h2, h3⟩ := h
  have := roomC_few h1
  unfold MapV.n at h2
  unfold MapV.room
  omega
theorem dec_ch {b : List Int} (hb : Byt b) : ∀ c ∈ (dec b).ch, Byt c.b := by
  unfold dec
  split
  · exact fun c hc => (dV_ch (s := ⟨b, false⟩) hb c hc).2
  · intro c hc; cases hc
set_option maxHeartbeats 4000000 in
theorem walk12 (m o : MapV) (s t : MapS) (v : Value) (bs : List Int) (w : World) (R : MapR w m s) (Q : MapR w o t) (O : m.Ok) (hm : ∀ c ∈ m.ch, Byt c.b) (ho : ∀ c ∈ o.ch, Byt c.b) (hv : Rd w v bs) (hb : Byt bs) (hn : m.n ≤ 100000000) (hn' : o.n ≤ 100000000) :
    Calls Try.prog 12 [.agg (m.cells s).toArray, .agg (o.cells t).toArray, v].toArray w (RetK fun r w' => r = .bool true ∧ Chg (fun _ => False) w w') := by
  have f1 := fun w' (h : MapR w' m s) => few56 m s w' h hn
  have f2 := fun w' (h : MapR w' o t) => few56 o t w' h hn'
  have e1 := fun w' (h : MapR w' m s) => encode58 m s w' h O
  have e2 := fun w' (h : MapR w' m s) => encode59 m s w' h O
  have g1 := fun w' (h : MapR w' m s) (k : MapR w' o t) => same62 m o s t w' h k hm ho
  have g2 := fun w' (h : MapR w' m s) (k : MapR w' o t) => same63 m o s t w' h k hm ho
  have Rs : ∀ {M : List Res} {w' : World}, Sep w (fun _ => False) M w' → MapR w' m s := fun h => ⟨R.p.sep h fun _ _ => id, R.wa.sep h fun _ _ => id, R.pa.sep h fun _ _ => id, R.re.sep h fun _ _ => id, R.ca.sep h fun _ _ => id, R.is.sep h fun _ _ => id, R.co.sep h fun _ _ => id, R.ch.sep h⟩
  have Qs : ∀ {M : List Res} {w' : World}, Sep w (fun _ => False) M w' → MapR w' o t := fun h => ⟨Q.p.sep h fun _ _ => id, Q.wa.sep h fun _ _ => id, Q.pa.sep h fun _ _ => id, Q.re.sep h fun _ _ => id, Q.ca.sep h fun _ _ => id, Q.is.sep h fun _ _ => id, Q.co.sep h fun _ _ => id, Q.ch.sep h⟩
  obtain ⟨sp, swa, spa, sre, sca, sis, sco, sch⟩ := s
  obtain ⟨Asp, Csp, Qsp⟩ := R.p.shape
  dsimp only at Qsp
  subst Qsp
  obtain ⟨Aswa, Cswa, Qswa⟩ := R.wa.shape
  dsimp only at Qswa
  subst Qswa
  obtain ⟨Aspa, Cspa, Qspa⟩ := R.pa.shape
  dsimp only at Qspa
  subst Qspa
  obtain ⟨Asre, Csre, Qsre⟩ := R.re.shape
  dsimp only at Qsre
  subst Qsre
  obtain ⟨Asca, Csca, Qsca⟩ := R.ca.shape
  dsimp only at Qsca
  subst Qsca
  obtain ⟨Asis, Csis, Qsis⟩ := R.is.shape
  dsimp only at Qsis
  subst Qsis
  obtain ⟨Asco, Csco, Qsco⟩ := R.co.shape
  dsimp only at Qsco
  subst Qsco
  obtain ⟨Asch, Csch, Qsch⟩ := R.ch.shape
  dsimp only at Qsch
  subst Qsch
  obtain ⟨tp, twa, tpa, tre, tca, tis, tco, tch⟩ := t
  obtain ⟨Atp, Ctp, Qtp⟩ := Q.p.shape
  dsimp only at Qtp
  subst Qtp
  obtain ⟨Atwa, Ctwa, Qtwa⟩ := Q.wa.shape
  dsimp only at Qtwa
  subst Qtwa
  obtain ⟨Atpa, Ctpa, Qtpa⟩ := Q.pa.shape
  dsimp only at Qtpa
  subst Qtpa
  obtain ⟨Atre, Ctre, Qtre⟩ := Q.re.shape
  dsimp only at Qtre
  subst Qtre
  obtain ⟨Atca, Ctca, Qtca⟩ := Q.ca.shape
  dsimp only at Qtca
  subst Qtca
  obtain ⟨Atis, Ctis, Qtis⟩ := Q.is.shape
  dsimp only at Qtis
  subst Qtis
  obtain ⟨Atco, Ctco, Qtco⟩ := Q.co.shape
  dsimp only at Qtco
  subst Qtco
  obtain ⟨Atch, Ctch, Qtch⟩ := Q.ch.shape
  dsimp only at Qtch
  subst Qtch
  simp only [MapV.cells] at f1 f2 e1 e2 g1 g2
  obtain ⟨av, cv, rfl, hvl, _⟩ := id hv
  have h := Sep.nil w
  refine walk Try.func12 rfl (by kernel_rfl) (by rw [Try.nt12]; simp) ?_
  (try simp only [nfD] at h); have F := h.facts; (try simp only [nfF, emp_fact, rds_fact, frm_fact, tab_fact, chn_fact, mapX_fact, two_fact] at F)
  simp -dsimp only [↓vcA, vcB, vcD, ↓pureT_lenS, ↓iteT, ↓iteF, cond_true, cond_false, eq_self, argE, Env.get, Env.push, ev, evs, evo, retV, Value.cells, Value.oneCell', setR, overR, fillL, zl, places, allSizes, heldC, ne_eq, Int.reduceLE, Int.reduceLT, Int.reduceEq, Int.reduceNe, Int.reduceToNat, Int.cast_ofNat_Int, Nat.reduceMul, Nat.reduceLeDiff, reduceIte, Nat.reduceEqDiff, Nat.reduceAdd, ↓reduceIte, Try.vcT, MapV.cells]
  refine h.new ?_
  clear h F
  intro w1 b1 h
  refine h.new ?_
  clear h
  intro w2 b2 h
  (try simp only [nfD] at h); have F := h.facts; (try simp only [nfF, emp_fact, rds_fact, frm_fact, tab_fact, chn_fact, mapX_fact, two_fact] at F); try simp -dsimp only [↓vcA, vcB, vcD, ↓pureT_lenS, ↓iteT, ↓iteF, cond_true, cond_false, eq_self, argE, Env.get, Env.push, ev, evs, evo, retV, Value.cells, Value.oneCell', setR, overR, fillL, zl, places, allSizes, heldC, ne_eq, Int.reduceLE, Int.reduceLT, Int.reduceEq, Int.reduceNe, Int.reduceToNat, Int.cast_ofNat_Int, Nat.reduceMul, Nat.reduceLeDiff, reduceIte, Nat.reduceEqDiff, Nat.reduceAdd, ↓reduceIte, Try.vcT, F, h.cell0, gets, vsD, if_true, if_false, Bool.false_eq_true,  cellsAt]
  refine Sep.callp h (f1 w2 (Rs h)) ?_
  clear h F
  intro w3 h
  have aw : ∀ {w' : World} {M : List Res} {K : Value → World → Prop}, Sep w (fun _ => False) M w' → (∀ w1, Sep w (fun _ => False) M w1 → K (.bool true) w1) → callsK Try.prog 57 [].toArray w' K := fun h hk => Sep.callp h (awake57 _) hk
  cases hfm : m.few with
  | false =>
    (try simp only [nfD] at h); have F := h.facts; (try simp only [nfF, emp_fact, rds_fact, frm_fact, tab_fact, chn_fact, mapX_fact, two_fact] at F); try simp -dsimp only [↓vcA, vcB, vcD, ↓pureT_lenS, ↓iteT, ↓iteF, cond_true, cond_false, eq_self, argE, Env.get, Env.push, ev, evs, evo, retV, Value.cells, Value.oneCell', setR, overR, fillL, zl, places, allSizes, heldC, ne_eq, Int.reduceLE, Int.reduceLT, Int.reduceEq, Int.reduceNe, Int.reduceToNat, Int.cast_ofNat_Int, Nat.reduceMul, Nat.reduceLeDiff, reduceIte, Nat.reduceEqDiff, Nat.reduceAdd, ↓reduceIte, Try.vcT, F, h.cell0, gets, vsD, if_true, if_false, Bool.false_eq_true,  hfm, cellsAt]
    refine aw h ?_
    clear h F
    intro w4 h
    (try simp only [nfD] at h); have F := h.facts; (try simp only [nfF, emp_fact, rds_fact, frm_fact, tab_fact, chn_fact, mapX_fact, two_fact] at F); try simp -dsimp only [↓vcA, vcB, vcD, ↓pureT_lenS, ↓iteT, ↓iteF, cond_true, cond_false, eq_self, argE, Env.get, Env.push, ev, evs, evo, retV, Value.cells, Value.oneCell', setR, overR, fillL, zl, places, allSizes, heldC, ne_eq, Int.reduceLE, Int.reduceLT, Int.reduceEq, Int.reduceNe, Int.reduceToNat, Int.cast_ofNat_Int, Nat.reduceMul, Nat.reduceLeDiff, reduceIte, Nat.reduceEqDiff, Nat.reduceAdd, ↓reduceIte, Try.vcT, F, h.cell0, gets, vsD, if_true, if_false, Bool.false_eq_true]
    exact h.done
  | true =>
  (try simp only [nfD] at h); have F := h.facts; (try simp only [nfF, emp_fact, rds_fact, frm_fact, tab_fact, chn_fact, mapX_fact, two_fact] at F); try simp -dsimp only [↓vcA, vcB, vcD, ↓pureT_lenS, ↓iteT, ↓iteF, cond_true, cond_false, eq_self, argE, Env.get, Env.push, ev, evs, evo, retV, Value.cells, Value.oneCell', setR, overR, fillL, zl, places, allSizes, heldC, ne_eq, Int.reduceLE, Int.reduceLT, Int.reduceEq, Int.reduceNe, Int.reduceToNat, Int.cast_ofNat_Int, Nat.reduceMul, Nat.reduceLeDiff, reduceIte, Nat.reduceEqDiff, Nat.reduceAdd, ↓reduceIte, Try.vcT, F, h.cell0, gets, vsD, if_true, if_false, Bool.false_eq_true,  hfm, cellsAt]
  refine Sep.callp h (f2 w3 (Qs h)) ?_
  clear h F
  intro w4 h
  cases hfo : o.few with
  | false =>
    (try simp only [nfD] at h); have F := h.facts; (try simp only [nfF, emp_fact, rds_fact, frm_fact, tab_fact, chn_fact, mapX_fact, two_fact] at F); try simp -dsimp only [↓vcA, vcB, vcD, ↓pureT_lenS, ↓iteT, ↓iteF, cond_true, cond_false, eq_self, argE, Env.get, Env.push, ev, evs, evo, retV, Value.cells, Value.oneCell', setR, overR, fillL, zl, places, allSizes, heldC, ne_eq, Int.reduceLE, Int.reduceLT, Int.reduceEq, Int.reduceNe, Int.reduceToNat, Int.cast_ofNat_Int, Nat.reduceMul, Nat.reduceLeDiff, reduceIte, Nat.reduceEqDiff, Nat.reduceAdd, ↓reduceIte, Try.vcT, F, h.cell0, gets, vsD, if_true, if_false, Bool.false_eq_true,  hfo, cellsAt]
    refine aw h ?_
    clear h F
    intro w4 h
    (try simp only [nfD] at h); have F := h.facts; (try simp only [nfF, emp_fact, rds_fact, frm_fact, tab_fact, chn_fact, mapX_fact, two_fact] at F); try simp -dsimp only [↓vcA, vcB, vcD, ↓pureT_lenS, ↓iteT, ↓iteF, cond_true, cond_false, eq_self, argE, Env.get, Env.push, ev, evs, evo, retV, Value.cells, Value.oneCell', setR, overR, fillL, zl, places, allSizes, heldC, ne_eq, Int.reduceLE, Int.reduceLT, Int.reduceEq, Int.reduceNe, Int.reduceToNat, Int.cast_ofNat_Int, Nat.reduceMul, Nat.reduceLeDiff, reduceIte, Nat.reduceEqDiff, Nat.reduceAdd, ↓reduceIte, Try.vcT, F, h.cell0, gets, vsD, if_true, if_false, Bool.false_eq_true]
    exact h.done
  | true =>
  by_cases hlen : (3000 : Int) < bs.length
  case pos =>
    (try simp only [nfD] at h); have F := h.facts; (try simp only [nfF, emp_fact, rds_fact, frm_fact, tab_fact, chn_fact, mapX_fact, two_fact] at F); try simp -dsimp only [↓vcA, vcB, vcD, ↓pureT_lenS, ↓iteT, ↓iteF, cond_true, cond_false, eq_self, argE, Env.get, Env.push, ev, evs, evo, retV, Value.cells, Value.oneCell', setR, overR, fillL, zl, places, allSizes, heldC, ne_eq, Int.reduceLE, Int.reduceLT, Int.reduceEq, Int.reduceNe, Int.reduceToNat, Int.cast_ofNat_Int, Nat.reduceMul, Nat.reduceLeDiff, reduceIte, Nat.reduceEqDiff, Nat.reduceAdd, ↓reduceIte, Try.vcT, F, h.cell0, gets, vsD, if_true, if_false, Bool.false_eq_true,  hfo, decide_eq_true hlen, cellsAt]
    refine aw h ?_
    clear h F
    intro w4 h
    (try simp only [nfD] at h); have F := h.facts; (try simp only [nfF, emp_fact, rds_fact, frm_fact, tab_fact, chn_fact, mapX_fact, two_fact] at F); try simp -dsimp only [↓vcA, vcB, vcD, ↓pureT_lenS, ↓iteT, ↓iteF, cond_true, cond_false, eq_self, argE, Env.get, Env.push, ev, evs, evo, retV, Value.cells, Value.oneCell', setR, overR, fillL, zl, places, allSizes, heldC, ne_eq, Int.reduceLE, Int.reduceLT, Int.reduceEq, Int.reduceNe, Int.reduceToNat, Int.cast_ofNat_Int, Nat.reduceMul, Nat.reduceLeDiff, reduceIte, Nat.reduceEqDiff, Nat.reduceAdd, ↓reduceIte, Try.vcT, F, h.cell0, gets, vsD, if_true, if_false, Bool.false_eq_true]
    exact h.done
  (try simp only [nfD] at h); have F := h.facts; (try simp only [nfF, emp_fact, rds_fact, frm_fact, tab_fact, chn_fact, mapX_fact, two_fact] at F); try simp -dsimp only [↓vcA, vcB, vcD, ↓pureT_lenS, ↓iteT, ↓iteF, cond_true, cond_false, eq_self, argE, Env.get, Env.push, ev, evs, evo, retV, Value.cells, Value.oneCell', setR, overR, fillL, zl, places, allSizes, heldC, ne_eq, Int.reduceLE, Int.reduceLT, Int.reduceEq, Int.reduceNe, Int.reduceToNat, Int.cast_ofNat_Int, Nat.reduceMul, Nat.reduceLeDiff, reduceIte, Nat.reduceEqDiff, Nat.reduceAdd, ↓reduceIte, Try.vcT, F, h.cell0, gets, vsD, if_true, if_false, Bool.false_eq_true,  hfo, decide_eq_false hlen, cellsAt]
  have hr := MapV.few_room hfm
  refine Sep.callN h (e1 _ (Rs h) (by omega)) ?_
  clear h F
  intro e N w5 hQ h
  obtain ⟨a5, c5, rfl, rfl⟩ := hQ
  (try simp only [nfD] at h); have F := h.facts; (try simp only [nfF, emp_fact, rds_fact, frm_fact, tab_fact, chn_fact, mapX_fact, two_fact] at F); try simp -dsimp only [↓vcA, vcB, vcD, ↓pureT_lenS, ↓iteT, ↓iteF, cond_true, cond_false, eq_self, argE, Env.get, Env.push, ev, evs, evo, retV, Value.cells, Value.oneCell', setR, overR, fillL, zl, places, allSizes, heldC, ne_eq, Int.reduceLE, Int.reduceLT, Int.reduceEq, Int.reduceNe, Int.reduceToNat, Int.cast_ofNat_Int, Nat.reduceMul, Nat.reduceLeDiff, reduceIte, Nat.reduceEqDiff, Nat.reduceAdd, ↓reduceIte, Try.vcT, F, h.cell0, gets, vsD, if_true, if_false, Bool.false_eq_true,  cellsAt]
  refine Sep.callN h (e2 _ (Rs h) (by omega)) ?_
  clear h F
  intro e N w6 hQ h
  obtain ⟨a6, c6, rfl, rfl⟩ := hQ
  (try simp only [nfD] at h); have F := h.facts; (try simp only [nfF, emp_fact, rds_fact, frm_fact, tab_fact, chn_fact, mapX_fact, two_fact] at F); try simp -dsimp only [↓vcA, vcB, vcD, ↓pureT_lenS, ↓iteT, ↓iteF, cond_true, cond_false, eq_self, argE, Env.get, Env.push, ev, evs, evo, retV, Value.cells, Value.oneCell', setR, overR, fillL, zl, places, allSizes, heldC, ne_eq, Int.reduceLE, Int.reduceLT, Int.reduceEq, Int.reduceNe, Int.reduceToNat, Int.cast_ofNat_Int, Nat.reduceMul, Nat.reduceLeDiff, reduceIte, Nat.reduceEqDiff, Nat.reduceAdd, ↓reduceIte, Try.vcT, F, h.cell0, gets, vsD, if_true, if_false, Bool.false_eq_true,  cellsAt]
  refine Sep.callN h (decode60 _ bs _ (hv.sep h fun _ _ => id) hb (by omega)) ?_
  clear h F
  intro e N w7 hQ h
  obtain ⟨d1, d2⟩ := dec_same hb (by omega)
  have hPc := dec_ch hb
  generalize hP : dec bs = P at *
  obtain ⟨p, rfl, rfl⟩ := hQ
  (try simp only [nfD] at h); have F := h.facts; (try simp only [nfF, emp_fact, rds_fact, frm_fact, tab_fact, chn_fact, mapX_fact, two_fact] at F)
  have RP := F.2.2.2.2.1
  obtain ⟨pp, pwa, ppa, pre, pca, pis, pco, pch⟩ := p
  obtain ⟨App, Cpp, Qpp⟩ := RP.p.shape
  dsimp only at Qpp
  subst Qpp
  obtain ⟨Apwa, Cpwa, Qpwa⟩ := RP.wa.shape
  dsimp only at Qpwa
  subst Qpwa
  obtain ⟨Appa, Cppa, Qppa⟩ := RP.pa.shape
  dsimp only at Qppa
  subst Qppa
  obtain ⟨Apre, Cpre, Qpre⟩ := RP.re.shape
  dsimp only at Qpre
  subst Qpre
  obtain ⟨Apca, Cpca, Qpca⟩ := RP.ca.shape
  dsimp only at Qpca
  subst Qpca
  obtain ⟨Apis, Cpis, Qpis⟩ := RP.is.shape
  dsimp only at Qpis
  subst Qpis
  obtain ⟨Apco, Cpco, Qpco⟩ := RP.co.shape
  dsimp only at Qpco
  subst Qpco
  obtain ⟨Apch, Cpch, Qpch⟩ := RP.ch.shape
  dsimp only at Qpch
  subst Qpch
  (try simp only [nfD] at h); have F := h.facts; (try simp only [nfF, emp_fact, rds_fact, frm_fact, tab_fact, chn_fact, mapX_fact, two_fact] at F); try simp -dsimp only [↓vcA, vcB, vcD, ↓pureT_lenS, ↓iteT, ↓iteF, cond_true, cond_false, eq_self, argE, Env.get, Env.push, ev, evs, evo, retV, Value.cells, Value.oneCell', setR, overR, fillL, zl, places, allSizes, heldC, ne_eq, Int.reduceLE, Int.reduceLT, Int.reduceEq, Int.reduceNe, Int.reduceToNat, Int.cast_ofNat_Int, Nat.reduceMul, Nat.reduceLeDiff, reduceIte, Nat.reduceEqDiff, Nat.reduceAdd, ↓reduceIte, Try.vcT, F, h.cell0, gets, vsD, if_true, if_false, Bool.false_eq_true,  MapV.cells]
  refine h.new ?_
  clear h F
  intro w8 b5 h
  (try simp only [nfD] at h); have F := h.facts; (try simp only [nfF, emp_fact, rds_fact, frm_fact, tab_fact, chn_fact, mapX_fact, two_fact] at F); try simp -dsimp only [↓vcA, vcB, vcD, ↓pureT_lenS, ↓iteT, ↓iteF, cond_true, cond_false, eq_self, argE, Env.get, Env.push, ev, evs, evo, retV, Value.cells, Value.oneCell', setR, overR, fillL, zl, places, allSizes, heldC, ne_eq, Int.reduceLE, Int.reduceLT, Int.reduceEq, Int.reduceNe, Int.reduceToNat, Int.cast_ofNat_Int, Nat.reduceMul, Nat.reduceLeDiff, reduceIte, Nat.reduceEqDiff, Nat.reduceAdd, ↓reduceIte, Try.vcT, F, h.cell0, gets, vsD, if_true, if_false, Bool.false_eq_true,  MapV.cells]
  refine Sep.put 5 h rfl ?_
  clear h F
  intro w9 h
  (try simp only [nfD] at h); have F := h.facts; (try simp only [nfF, emp_fact, rds_fact, frm_fact, tab_fact, chn_fact, mapX_fact, two_fact] at F); try simp -dsimp only [↓vcA, vcB, vcD, ↓pureT_lenS, ↓iteT, ↓iteF, cond_true, cond_false, eq_self, argE, Env.get, Env.push, ev, evs, evo, retV, Value.cells, Value.oneCell', setR, overR, fillL, zl, places, allSizes, heldC, ne_eq, Int.reduceLE, Int.reduceLT, Int.reduceEq, Int.reduceNe, Int.reduceToNat, Int.cast_ofNat_Int, Nat.reduceMul, Nat.reduceLeDiff, reduceIte, Nat.reduceEqDiff, Nat.reduceAdd, ↓reduceIte, Try.vcT, F, h.cell0, gets, vsD, if_true, if_false, Bool.false_eq_true]
  refine Sep.callN h (decode61 _ bs _ (hv.sep h fun _ _ => id) hb (by omega)) ?_
  clear h F
  intro e N w10 hQ h
  rw [← d1, ← d2] at hQ
  obtain ⟨q, rfl, rfl⟩ := hQ
  (try simp only [nfD] at h); have F := h.facts; (try simp only [nfF, emp_fact, rds_fact, frm_fact, tab_fact, chn_fact, mapX_fact, two_fact] at F)
  have RQ := F.2.2.2.2.2.2.1
  obtain ⟨qp, qwa, qpa, qre, qca, qis, qco, qch⟩ := q
  obtain ⟨Aqp, Cqp, Qqp⟩ := RQ.p.shape
  dsimp only at Qqp
  subst Qqp
  obtain ⟨Aqwa, Cqwa, Qqwa⟩ := RQ.wa.shape
  dsimp only at Qqwa
  subst Qqwa
  obtain ⟨Aqpa, Cqpa, Qqpa⟩ := RQ.pa.shape
  dsimp only at Qqpa
  subst Qqpa
  obtain ⟨Aqre, Cqre, Qqre⟩ := RQ.re.shape
  dsimp only at Qqre
  subst Qqre
  obtain ⟨Aqca, Cqca, Qqca⟩ := RQ.ca.shape
  dsimp only at Qqca
  subst Qqca
  obtain ⟨Aqis, Cqis, Qqis⟩ := RQ.is.shape
  dsimp only at Qqis
  subst Qqis
  obtain ⟨Aqco, Cqco, Qqco⟩ := RQ.co.shape
  dsimp only at Qqco
  subst Qqco
  obtain ⟨Aqch, Cqch, Qqch⟩ := RQ.ch.shape
  dsimp only at Qqch
  subst Qqch
  (try simp only [nfD] at h); have F := h.facts; (try simp only [nfF, emp_fact, rds_fact, frm_fact, tab_fact, chn_fact, mapX_fact, two_fact] at F); try simp -dsimp only [↓vcA, vcB, vcD, ↓pureT_lenS, ↓iteT, ↓iteF, cond_true, cond_false, eq_self, argE, Env.get, Env.push, ev, evs, evo, retV, Value.cells, Value.oneCell', setR, overR, fillL, zl, places, allSizes, heldC, ne_eq, Int.reduceLE, Int.reduceLT, Int.reduceEq, Int.reduceNe, Int.reduceToNat, Int.cast_ofNat_Int, Nat.reduceMul, Nat.reduceLeDiff, reduceIte, Nat.reduceEqDiff, Nat.reduceAdd, ↓reduceIte, Try.vcT, F, h.cell0, gets, vsD, if_true, if_false, Bool.false_eq_true,  MapV.cells]
  refine h.new ?_
  clear h F
  intro w11 b6 h
  (try simp only [nfD] at h); have F := h.facts; (try simp only [nfF, emp_fact, rds_fact, frm_fact, tab_fact, chn_fact, mapX_fact, two_fact] at F); try simp -dsimp only [↓vcA, vcB, vcD, ↓pureT_lenS, ↓iteT, ↓iteF, cond_true, cond_false, eq_self, argE, Env.get, Env.push, ev, evs, evo, retV, Value.cells, Value.oneCell', setR, overR, fillL, zl, places, allSizes, heldC, ne_eq, Int.reduceLE, Int.reduceLT, Int.reduceEq, Int.reduceNe, Int.reduceToNat, Int.cast_ofNat_Int, Nat.reduceMul, Nat.reduceLeDiff, reduceIte, Nat.reduceEqDiff, Nat.reduceAdd, ↓reduceIte, Try.vcT, F, h.cell0, gets, vsD, if_true, if_false, Bool.false_eq_true,  MapV.cells]
  refine Sep.put 7 h rfl ?_
  clear h F
  intro w12 h
  (try simp only [nfD] at h); have F := h.facts; (try simp only [nfF, emp_fact, rds_fact, frm_fact, tab_fact, chn_fact, mapX_fact, two_fact] at F); try simp -dsimp only [↓vcA, vcB, vcD, ↓pureT_lenS, ↓iteT, ↓iteF, cond_true, cond_false, eq_self, argE, Env.get, Env.push, ev, evs, evo, retV, Value.cells, Value.oneCell', setR, overR, fillL, zl, places, allSizes, heldC, ne_eq, Int.reduceLE, Int.reduceLT, Int.reduceEq, Int.reduceNe, Int.reduceToNat, Int.cast_ofNat_Int, Nat.reduceMul, Nat.reduceLeDiff, reduceIte, Nat.reduceEqDiff, Nat.reduceAdd, ↓reduceIte, Try.vcT, F, h.cell0, gets, vsD, if_true, if_false, Bool.false_eq_true]
  refine walkDraw (.q 0 (.q 2 (.ll 1 (.l 3 (.q 4 (.q 5 (.q 6 (.q 7 (.q 8 (.q 9 (.q 10 (.q 11 (.q 12 (.q 13 (.q 14 (.q 15 (.q 16 (.q 17 (.q 18 (.h 19 0 (.h 20 15 (.l 21 (.q 22 (.q 23 (.q 24 (.q 25 (.q 26 (.q 27 (.q 28 (.q 29 (.q 30 (.q 31 (.q 32 (.q 33 (.q 34 (.q 35 (.q 36 (.h 37 30 (.h 38 45 (.h 40 30 (.h 41 45 (.l 39 (.l 42 (.q 43 (.q 44 (.q 45 (.h 46 0 (.h 47 15 (.l 48 (.q 49 (.q 50 (.l 51 (.q 52 (.q 53 .fin))))))))))))))))))))))))))))))))))))))))))))))))))) 3 (.l 1 (.q 4 (.q 5 (.q 6 (.q 7 (.q 8 (.q 9 (.q 10 (.q 11 (.q 12 (.q 13 (.q 14 (.q 15 (.q 16 (.q 17 (.q 18 (.h 19 0 (.h 20 15 (.l 21 (.q 22 (.q 23 (.q 24 (.q 25 (.q 26 (.q 27 (.q 28 (.q 29 (.q 30 (.q 31 (.q 32 (.q 33 (.q 34 (.q 35 (.q 36 (.h 37 30 (.h 38 45 (.h 40 30 (.h 41 45 (.l 39 (.l 42 (.q 43 (.q 44 (.q 45 (.h 46 0 (.h 47 15 (.l 48 (.q 49 (.q 50 (.l 51 (.q 52 (.q 53 .fin)))))))))))))))))))))))))))))))))))))))))))))))))))))) ((b5, 0, .int .i64 P.w) :: (b5, 1, .int .i64 P.h) :: (b5, 2, .int .i64 P.te) :: (b5, 3, .int .i64 P.wi) :: (b5, 4, .int .i64 P.mr) :: (b5, 5, .int .i64 P.mb) :: (b5, 6, .int .i64 P.ti) :: (b5, 7, .slice App P.p.length Cpp) :: (b5, 8, .slice Apwa P.wa.length Cpwa) :: (b5, 9, .slice Appa P.pa.length Cppa) :: (b5, 10, .slice Apre P.re.length Cpre) :: (b5, 11, .slice Apca P.ca.length Cpca) :: (b5, 12, .slice Apis P.is.length Cpis) :: (b5, 13, .slice Apco P.co.length Cpco) :: (b5, 14, .slice Apch P.ch.length Cpch) :: (b6, 0, .int .i64 P.w) :: (b6, 1, .int .i64 P.h) :: (b6, 2, .int .i64 P.te) :: (b6, 3, .int .i64 P.wi) :: (b6, 4, .int .i64 P.mr) :: (b6, 5, .int .i64 P.mb) :: (b6, 6, .int .i64 P.ti) :: (b6, 7, .slice Aqp P.p.length Cqp) :: (b6, 8, .slice Aqwa P.wa.length Cqwa) :: (b6, 9, .slice Aqpa P.pa.length Cqpa) :: (b6, 10, .slice Aqre P.re.length Cqre) :: (b6, 11, .slice Aqca P.ca.length Cqca) :: (b6, 12, .slice Aqis P.is.length Cqis) :: (b6, 13, .slice Aqco P.co.length Cqco) :: (b6, 14, .slice Aqch P.ch.length Cqch) :: (b1, 0, .int .i64 m.w) :: (b1, 1, .int .i64 m.h) :: (b1, 2, .int .i64 m.te) :: (b1, 3, .int .i64 m.wi) :: (b1, 4, .int .i64 m.mr) :: (b1, 5, .int .i64 m.mb) :: (b1, 6, .int .i64 m.ti) :: (b1, 7, .slice Asp m.p.length Csp) :: (b1, 8, .slice Aswa m.wa.length Cswa) :: (b1, 9, .slice Aspa m.pa.length Cspa) :: (b1, 10, .slice Asre m.re.length Csre) :: (b1, 11, .slice Asca m.ca.length Csca) :: (b1, 12, .slice Asis m.is.length Csis) :: (b1, 13, .slice Asco m.co.length Csco) :: (b1, 14, .slice Asch m.ch.length Csch) :: (b2, 0, .int .i64 o.w) :: (b2, 1, .int .i64 o.h) :: (b2, 2, .int .i64 o.te) :: (b2, 3, .int .i64 o.wi) :: (b2, 4, .int .i64 o.mr) :: (b2, 5, .int .i64 o.mb) :: (b2, 6, .int .i64 o.ti) :: (b2, 7, .slice Atp o.p.length Ctp) :: (b2, 8, .slice Atwa o.wa.length Ctwa) :: (b2, 9, .slice Atpa o.pa.length Ctpa) :: (b2, 10, .slice Atre o.re.length Ctre) :: (b2, 11, .slice Atca o.ca.length Ctca) :: (b2, 12, .slice Atis o.is.length Ctis) :: (b2, 13, .slice Atco o.co.length Ctco) :: (b2, 14, .slice Atch o.ch.length Ctch) :: []) (by kernel_rfl) (by simp only [Holds_nil, Holds_cons, F, List.getElem?_cons_zero, List.getElem?_cons_succ, and_true, and_self]) ?_
  refine h.draw ?_
  clear h F
  intro w13 h
  have es : ((strOfNums m.bytes).toList == (strOfNums m.bytes).toList) = true := beq_self_eq_true _
  cases hf : m.fails <;> cases hd : decOk bs
  all_goals
    (try simp only [nfD] at h); have F := h.facts; (try simp only [nfF, emp_fact, rds_fact, frm_fact, tab_fact, chn_fact, mapX_fact, two_fact] at F); try simp -dsimp only [↓vcA, vcB, vcD, ↓pureT_lenS, ↓iteT, ↓iteF, cond_true, cond_false, eq_self, argE, Env.get, Env.push, ev, evs, evo, retV, Value.cells, Value.oneCell', setR, overR, fillL, zl, places, allSizes, heldC, ne_eq, Int.reduceLE, Int.reduceLT, Int.reduceEq, Int.reduceNe, Int.reduceToNat, Int.cast_ofNat_Int, Nat.reduceMul, Nat.reduceLeDiff, reduceIte, Nat.reduceEqDiff, Nat.reduceAdd, ↓reduceIte, Try.vcT, F, h.cell0, gets, vsD, if_true, if_false, Bool.false_eq_true,  hf, hd, if_true, if_false, Bool.not_true, Bool.not_false, Bool.false_eq_true]
    apply And.intro
    case' left =>
      refine str_rule F.2.2.1 ?_
      (try simp only [nfD] at h); have F := h.facts; (try simp only [nfF, emp_fact, rds_fact, frm_fact, tab_fact, chn_fact, mapX_fact, two_fact] at F); try simp -dsimp only [↓vcA, vcB, vcD, ↓pureT_lenS, ↓iteT, ↓iteF, cond_true, cond_false, eq_self, argE, Env.get, Env.push, ev, evs, evo, retV, Value.cells, Value.oneCell', setR, overR, fillL, zl, places, allSizes, heldC, ne_eq, Int.reduceLE, Int.reduceLT, Int.reduceEq, Int.reduceNe, Int.reduceToNat, Int.cast_ofNat_Int, Nat.reduceMul, Nat.reduceLeDiff, reduceIte, Nat.reduceEqDiff, Nat.reduceAdd, ↓reduceIte, Try.vcT, F, h.cell0, gets, vsD, if_true, if_false, Bool.false_eq_true,  hf, hd, if_true, if_false, Bool.not_true, Bool.not_false, Bool.false_eq_true]
      refine str_rule F.2.2.2.1 ?_
    case' right =>
      refine str_rule F.2.2.2.1 ?_
      (try simp only [nfD] at h); have F := h.facts; (try simp only [nfF, emp_fact, rds_fact, frm_fact, tab_fact, chn_fact, mapX_fact, two_fact] at F); try simp -dsimp only [↓vcA, vcB, vcD, ↓pureT_lenS, ↓iteT, ↓iteF, cond_true, cond_false, eq_self, argE, Env.get, Env.push, ev, evs, evo, retV, Value.cells, Value.oneCell', setR, overR, fillL, zl, places, allSizes, heldC, ne_eq, Int.reduceLE, Int.reduceLT, Int.reduceEq, Int.reduceNe, Int.reduceToNat, Int.cast_ofNat_Int, Nat.reduceMul, Nat.reduceLeDiff, reduceIte, Nat.reduceEqDiff, Nat.reduceAdd, ↓reduceIte, Try.vcT, F, h.cell0, gets, vsD, if_true, if_false, Bool.false_eq_true,  hf, hd, if_true, if_false, Bool.not_true, Bool.not_false, Bool.false_eq_true]
      refine str_rule F.2.2.1 ?_
  all_goals
    (try simp only [nfD] at h); have F := h.facts; (try simp only [nfF, emp_fact, rds_fact, frm_fact, tab_fact, chn_fact, mapX_fact, two_fact] at F); try simp -dsimp only [↓vcA, vcB, vcD, ↓pureT_lenS, ↓iteT, ↓iteF, cond_true, cond_false, eq_self, argE, Env.get, Env.push, ev, evs, evo, retV, Value.cells, Value.oneCell', setR, overR, fillL, zl, places, allSizes, heldC, ne_eq, Int.reduceLE, Int.reduceLT, Int.reduceEq, Int.reduceNe, Int.reduceToNat, Int.cast_ofNat_Int, Nat.reduceMul, Nat.reduceLeDiff, reduceIte, Nat.reduceEqDiff, Nat.reduceAdd, ↓reduceIte, Try.vcT, F, h.cell0, gets, vsD, if_true, if_false, Bool.false_eq_true,  hf, hd, es, if_true, if_false, Bool.not_true, Bool.not_false, Bool.false_eq_true, beq_self_eq_true]
    have k1 := same62 P P _ _ _ F.2.2.2.2.1 F.2.2.2.2.2.2.1 hPc hPc
    rw [MapV.same_iff.2 rfl] at k1
    simp only [MapV.cells] at k1
    refine Sep.callp h k1 ?_
    clear h F k1
    intro w14 h
    (try simp only [nfD] at h); have F := h.facts; (try simp only [nfF, emp_fact, rds_fact, frm_fact, tab_fact, chn_fact, mapX_fact, two_fact] at F); try simp -dsimp only [↓vcA, vcB, vcD, ↓pureT_lenS, ↓iteT, ↓iteF, cond_true, cond_false, eq_self, argE, Env.get, Env.push, ev, evs, evo, retV, Value.cells, Value.oneCell', setR, overR, fillL, zl, places, allSizes, heldC, ne_eq, Int.reduceLE, Int.reduceLT, Int.reduceEq, Int.reduceNe, Int.reduceToNat, Int.cast_ofNat_Int, Nat.reduceMul, Nat.reduceLeDiff, reduceIte, Nat.reduceEqDiff, Nat.reduceAdd, ↓reduceIte, Try.vcT, F, h.cell0, gets, vsD, if_true, if_false, Bool.false_eq_true,  hf, hd, es, if_true, if_false, Bool.not_true, Bool.not_false, Bool.false_eq_true, beq_self_eq_true]
    refine Sep.callp h (g2 _ (Rs h) (Qs h)) ?_
    clear h F
    intro w15 h
    (try simp only [nfD] at h); have F := h.facts; (try simp only [nfF, emp_fact, rds_fact, frm_fact, tab_fact, chn_fact, mapX_fact, two_fact] at F); try simp -dsimp only [↓vcA, vcB, vcD, ↓pureT_lenS, ↓iteT, ↓iteF, cond_true, cond_false, eq_self, argE, Env.get, Env.push, ev, evs, evo, retV, Value.cells, Value.oneCell', setR, overR, fillL, zl, places, allSizes, heldC, ne_eq, Int.reduceLE, Int.reduceLT, Int.reduceEq, Int.reduceNe, Int.reduceToNat, Int.cast_ofNat_Int, Nat.reduceMul, Nat.reduceLeDiff, reduceIte, Nat.reduceEqDiff, Nat.reduceAdd, ↓reduceIte, Try.vcT, F, h.cell0, gets, vsD, if_true, if_false, Bool.false_eq_true,  hf, hd, es, if_true, if_false, Bool.not_true, Bool.not_false, Bool.false_eq_true, beq_self_eq_true]
    refine Sep.callp h (g1 _ (Rs h) (Qs h)) ?_
    clear h F
    intro w16 h
    (try simp only [nfD] at h); have F := h.facts; (try simp only [nfF, emp_fact, rds_fact, frm_fact, tab_fact, chn_fact, mapX_fact, two_fact] at F); try simp -dsimp only [↓vcA, vcB, vcD, ↓pureT_lenS, ↓iteT, ↓iteF, cond_true, cond_false, eq_self, argE, Env.get, Env.push, ev, evs, evo, retV, Value.cells, Value.oneCell', setR, overR, fillL, zl, places, allSizes, heldC, ne_eq, Int.reduceLE, Int.reduceLT, Int.reduceEq, Int.reduceNe, Int.reduceToNat, Int.cast_ofNat_Int, Nat.reduceMul, Nat.reduceLeDiff, reduceIte, Nat.reduceEqDiff, Nat.reduceAdd, ↓reduceIte, Try.vcT, F, h.cell0, gets, vsD, if_true, if_false, Bool.false_eq_true,  hf, hd, es, if_true, if_false, Bool.not_true, Bool.not_false, Bool.false_eq_true, beq_self_eq_true]
    have k2 := same63 P P _ _ _ F.2.2.2.2.1 F.2.2.2.2.2.2.1 hPc hPc
    rw [MapV.same_iff.2 rfl] at k2
    simp only [MapV.cells] at k2
    refine Sep.callp h k2 ?_
    clear h F k2
    intro w17 h
    (try simp only [nfD] at h); have F := h.facts; (try simp only [nfF, emp_fact, rds_fact, frm_fact, tab_fact, chn_fact, mapX_fact, two_fact] at F); try simp -dsimp only [↓vcA, vcB, vcD, ↓pureT_lenS, ↓iteT, ↓iteF, cond_true, cond_false, eq_self, argE, Env.get, Env.push, ev, evs, evo, retV, Value.cells, Value.oneCell', setR, overR, fillL, zl, places, allSizes, heldC, ne_eq, Int.reduceLE, Int.reduceLT, Int.reduceEq, Int.reduceNe, Int.reduceToNat, Int.cast_ofNat_Int, Nat.reduceMul, Nat.reduceLeDiff, reduceIte, Nat.reduceEqDiff, Nat.reduceAdd, ↓reduceIte, Try.vcT, F, h.cell0, gets, vsD, if_true, if_false, Bool.false_eq_true,  hf, hd, es, if_true, if_false, Bool.not_true, Bool.not_false, Bool.false_eq_true, beq_self_eq_true]
    refine aw h ?_
    clear h F
    intro w18 h
    (try simp only [nfD] at h); have F := h.facts; (try simp only [nfF, emp_fact, rds_fact, frm_fact, tab_fact, chn_fact, mapX_fact, two_fact] at F); try simp -dsimp only [↓vcA, vcB, vcD, ↓pureT_lenS, ↓iteT, ↓iteF, cond_true, cond_false, eq_self, argE, Env.get, Env.push, ev, evs, evo, retV, Value.cells, Value.oneCell', setR, overR, fillL, zl, places, allSizes, heldC, ne_eq, Int.reduceLE, Int.reduceLT, Int.reduceEq, Int.reduceNe, Int.reduceToNat, Int.cast_ofNat_Int, Nat.reduceMul, Nat.reduceLeDiff, reduceIte, Nat.reduceEqDiff, Nat.reduceAdd, ↓reduceIte, Try.vcT, F, h.cell0, gets, vsD, if_true, if_false, Bool.false_eq_true,  hf, hd, es, if_true, if_false, Bool.not_true, Bool.not_false, Bool.false_eq_true, beq_self_eq_true]
    exact h.done
end Go.Proofs.Ytnhgjgoglmadnaa
