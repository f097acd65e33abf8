/- Joined texts of this claim (part 14), printed by a program of this work. The last part holds the claimed theorem: the law answers true at every input of its row. -/
import Derived.Test.YtnhgjgoglmadnaaSP12m
namespace Go.Proofs.Ytnhgjgoglmadnaa
open Go.RowKit
set_option maxRecDepth 100000
set_option linter.unusedSimpArgs false
set_option linter.unusedVariables false
set_option pp.maxSteps 1500
set_option pp.deepTerms.threshold 8

def itemsB {α : Type} (f : R8 → α) (g : R8 → R8) : Nat → R8 → List α × R8
  | 0, s => ([], s)
  | n + 1, s => if s.bad then ([], s) else (f s :: (itemsB f g n (g s)).1, (itemsB f g n (g s)).2)
def BV {α : Type} (f : R8 → α) (g : R8 → R8) (s : R8) : List α := (itemsB f g (s.numV 2).toNat (s.numS 2)).1
def BS {α : Type} (f : R8 → α) (g : R8 → R8) (s : R8) : R8 := (itemsB f g (s.numV 2).toNat (s.numS 2)).2
def chMark (s : R8) : R8 := if 1 < (s.numS 1).numV 1 then ⟨((s.numS 1).numS 1).l, true⟩ else (s.numS 1).numS 1
def rChB (s : R8) : Ch := ⟨s.numV 1, decide ((s.numS 1).numV 1 = 1), ((chMark s).numS 2).rawV ((chMark s).numV 2)⟩
def sChB (s : R8) : R8 := ((chMark s).numS 2).rawS ((chMark s).numV 2)
theorem chMark_byt {s : R8} (hb : Byt s.l) : Byt (chMark s).l := by
  unfold chMark; split <;> exact numS_byt _ 1 (numS_byt _ 1 hb)
theorem sChB_byt {s : R8} (hb : Byt s.l) : Byt (sChB s).l := (rawS_byt _ _ (numS_byt _ 2 (chMark_byt hb))).1
def e1 (s : R8) : R8 := BS rP sP (dN s)
def e2 (s : R8) : R8 := BS rW sW (e1 s)
def e3 (s : R8) : R8 := BS rPa sPa (e2 s)
def e4 (s : R8) : R8 := BS rRe sRe (e3 s)
def e5 (s : R8) : R8 := BS rCa sCa (e4 s)
def e6 (s : R8) : R8 := BS rIs sIs (e5 s)
def e7 (s : R8) : R8 := BS rCo sCo (e6 s)
def eE (s : R8) : R8 := BS rChB sChB (e7 s)
def eV (s : R8) : MapV := ⟨s.numV 3, (s.numS 3).numV 3, ((s.numS 3).numS 3).numV 1, (((s.numS 3).numS 3).numS 1).numV 2, ((((s.numS 3).numS 3).numS 1).numS 2).numV 2, (((((s.numS 3).numS 3).numS 1).numS 2).numS 2).numV 2, ((((((s.numS 3).numS 3).numS 1).numS 2).numS 2).numS 2).numV 4,
  BV rP sP (dN s), BV rW sW (e1 s), BV rPa sPa (e2 s), BV rRe sRe (e3 s), BV rCa sCa (e4 s), BV rIs sIs (e5 s), BV rCo sCo (e6 s), BV rChB sChB (e7 s)⟩
theorem itemsB_byt {α : Type} {f : R8 → α} {g : R8 → R8} (hg : ∀ s : R8, Byt s.l → Byt (g s).l) : ∀ n s, Byt s.l → Byt (itemsB f g n s).2.l
  | 0, s, hb => hb
  | n + 1, s, hb => by
    unfold itemsB
    split
    · exact hb
    · exact itemsB_byt hg n (g s) (hg s hb)
def rP' (s : R8) : List Int := [s.rptX, s.rptY]
def sP' (s : R8) : R8 := s.rptS
def rW' (s : R8) : List Int := [s.rptX, s.rptY, s.rptS.rptX, s.rptS.rptY, s.rptS.rptS.numV 1]
def sW' (s : R8) : R8 := s.rptS.rptS.numS 1
def rRe' (s : R8) : List Int := [s.numV 1, (s.numS 1).numV 2, ((s.numS 1).numS 2).numV 1, (((s.numS 1).numS 2).numS 1).numV 1, ((((s.numS 1).numS 2).numS 1).numS 1).rtriV.ax, ((((s.numS 1).numS 2).numS 1).numS 1).rtriV.ay, ((((s.numS 1).numS 2).numS 1).numS 1).rtriV.bx, ((((s.numS 1).numS 2).numS 1).numS 1).rtriV.by', ((((s.numS 1).numS 2).numS 1).numS 1).rtriV.cx, ((((s.numS 1).numS 2).numS 1).numS 1).rtriV.cy]
def sRe' (s : R8) : R8 := ((((s.numS 1).numS 2).numS 1).numS 1).rtriS
theorem agP (s : R8) : rP s = rP' s ∧ Agr (sP s) (sP' s) := by
  obtain ⟨h1, h2⟩ := Agr.pt (s := s) (s' := s) (.inl rfl)
  exact ⟨by unfold rP rP'; rw [h1], h2⟩
theorem agW (s : R8) : rW s = rW' s ∧ Agr (sW s) (sW' s) := by
  obtain ⟨h1, h2⟩ := Agr.pt (s := s) (s' := s) (.inl rfl)
  obtain ⟨h3, h4⟩ := h2.pt
  obtain ⟨h5, h6⟩ := h4.num 1
  exact ⟨by unfold rW rW'; rw [h1, h3, h5], h6⟩
theorem agRe (s : R8) : rRe s = rRe' s ∧ Agr (sRe s) (sRe' s) := by
  obtain ⟨h1, h2⟩ := Agr.tri (s := (((s.numS 1).numS 2).numS 1).numS 1) (s' := (((s.numS 1).numS 2).numS 1).numS 1) (.inl rfl)
  exact ⟨by unfold rRe rRe'; rw [h1], h2⟩

theorem agPa (s : R8) : rPa s = rPa s ∧ Agr (sPa s) (sPa s) := ⟨rfl, .inl rfl⟩
theorem agCa (s : R8) : rCa s = rCa s ∧ Agr (sCa s) (sCa s) := ⟨rfl, .inl rfl⟩
theorem agIs (s : R8) : rIs s = rIs s ∧ Agr (sIs s) (sIs s) := ⟨rfl, .inl rfl⟩
theorem agCo (s : R8) : rCo s = rCo s ∧ Agr (sCo s) (sCo s) := ⟨rfl, .inl rfl⟩
theorem agCh (s : R8) : rChB s = rChB s ∧ Agr (sChB s) (sChB s) := ⟨rfl, .inl rfl⟩

def decROk (b : List Int) : Bool := (eE ⟨b, false⟩).done
def decR (b : List Int) : MapV := if decROk b then eV ⟨b, false⟩ else MapV.zero
set_option maxHeartbeats 4000000 in
theorem decode61 (v : Value) (b : List Int) (w : World) (hr : Rd w v b) (hb : Byt b) (hl : b.length ≤ 99000) :
    Calls Try.prog 61 [v].toArray w (RetK fun r w' => ∃ N, Sep w (fun _ => False) N w' ∧ (∀ q ∈ N, ∀ x, ¬ q.rd x) ∧
      ∃ s, r = .tuple #[.agg ((decR b).cells s).toArray, .bool (decROk b)] ∧ N = [mapX (decR b) s]) := by
  have hr' := hr
  obtain ⟨a, cc, rfl, _⟩ := hr'
  have hlen : ¬ (1048576 : Int) < b.length := by omega
  have h := Sep.nil w
  refine walk Try.func61 rfl (by kernel_rfl) (by rw [Try.nt61]; simp) ?_
  (try simp only [nfD] at h); have F := h.facts; (try simp only [nfF, emp_fact, rds_fact, frm_fact, tab_fact, chn_fact, mapX_fact, two_fact] at F)
  simp -dsimp only [↓vcA, vcB, vcD, ↓pureT_lenS, ↓iteT, ↓iteF, cond_true, cond_false, eq_self, argE, Env.get, Env.push, ev, evs, evo, retV, Value.cells, Value.oneCell', setR, overR, fillL, zl, places, allSizes, heldC, ne_eq, Int.reduceLE, Int.reduceLT, Int.reduceEq, Int.reduceNe, Int.reduceToNat, Int.cast_ofNat_Int, Nat.reduceMul, Nat.reduceLeDiff, reduceIte, Nat.reduceEqDiff, Nat.reduceAdd, ↓reduceIte, Try.vcT]
  refine h.new ?_
  clear h F
  intro w1 b1 h
  (try simp only [nfD] at h); have F := h.facts; (try simp only [nfF, emp_fact, rds_fact, frm_fact, tab_fact, chn_fact, mapX_fact, two_fact] at F); try simp -dsimp only [↓vcA, vcB, vcD, ↓pureT_lenS, ↓iteT, ↓iteF, cond_true, cond_false, eq_self, argE, Env.get, Env.push, ev, evs, evo, retV, Value.cells, Value.oneCell', setR, overR, fillL, zl, places, allSizes, heldC, ne_eq, Int.reduceLE, Int.reduceLT, Int.reduceEq, Int.reduceNe, Int.reduceToNat, Int.cast_ofNat_Int, Nat.reduceMul, Nat.reduceLeDiff, reduceIte, Nat.reduceEqDiff, Nat.reduceAdd, ↓reduceIte, Try.vcT, F, h.cell0, gets, vsD, if_true, if_false, Bool.false_eq_true]
  refine h.new ?_
  clear h F
  intro w2 b2 h
  (try simp only [nfD] at h); have F := h.facts; (try simp only [nfF, emp_fact, rds_fact, frm_fact, tab_fact, chn_fact, mapX_fact, two_fact] at F); try simp -dsimp only [↓vcA, vcB, vcD, ↓pureT_lenS, ↓iteT, ↓iteF, cond_true, cond_false, eq_self, argE, Env.get, Env.push, ev, evs, evo, retV, Value.cells, Value.oneCell', setR, overR, fillL, zl, places, allSizes, heldC, ne_eq, Int.reduceLE, Int.reduceLT, Int.reduceEq, Int.reduceNe, Int.reduceToNat, Int.cast_ofNat_Int, Nat.reduceMul, Nat.reduceLeDiff, reduceIte, Nat.reduceEqDiff, Nat.reduceAdd, ↓reduceIte, Try.vcT, F, h.cell0, gets, vsD, if_true, if_false, Bool.false_eq_true,  decide_eq_false hlen]
  refine h.new ?_
  clear h F
  intro w3 p h
  have hp : w.heap.size ≤ p := by
    obtain ⟨A, ⟨_, rfl⟩, hA, _⟩ := h.has.focus (i := 2) rfl h.rd h.up
    exact (hA p rfl).elim (fun f => False.elim f) id
  have h := h.rrNew 2 b rfl hr (by omega) (fun _ _ f => f) hp
  generalize (fun x : Nat => 0 < b.length ∧ (Value.slice a b.length cc).ownBlock = some x) = Z at h
  generalize hS : (R8.mk b false) = S at *
  have hSb : Byt S.l := by rw [← hS]; exact hb
  (try simp only [nfD] at h); have F := h.facts; (try simp only [nfF, emp_fact, rds_fact, frm_fact, tab_fact, chn_fact, mapX_fact, two_fact] at F); try simp -dsimp only [↓vcA, vcB, vcD, ↓pureT_lenS, ↓iteT, ↓iteF, cond_true, cond_false, eq_self, argE, Env.get, Env.push, ev, evs, evo, retV, Value.cells, Value.oneCell', setR, overR, fillL, zl, places, allSizes, heldC, ne_eq, Int.reduceLE, Int.reduceLT, Int.reduceEq, Int.reduceNe, Int.reduceToNat, Int.cast_ofNat_Int, Nat.reduceMul, Nat.reduceLeDiff, reduceIte, Nat.reduceEqDiff, Nat.reduceAdd, ↓reduceIte, Try.vcT, F, h.cell0, gets, vsD, if_true, if_false, Bool.false_eq_true]
  repeat ((first | refine Sep.new h ?_ | refine Sep.put 0 h rfl ?_ | refine Sep.put 1 h rfl ?_ | refine Sep.put 2 h rfl ?_ | refine Sep.put 3 h rfl ?_ | refine Sep.put 4 h rfl ?_ | refine Sep.put 5 h rfl ?_ | refine Sep.rrNum 2 h rfl ?_ | refine Sep.put 1 h rfl ?_); (clear F; (try clear h); intros; rename_i h; (try simp only [nfD] at h); have F := h.facts; (try simp only [nfF, emp_fact, rds_fact, frm_fact, tab_fact, chn_fact, mapX_fact, two_fact] at F); try simp -dsimp only [↓vcA, vcB, vcD, ↓pureT_lenS, ↓iteT, ↓iteF, cond_true, cond_false, eq_self, argE, Env.get, Env.push, ev, evs, evo, retV, Value.cells, Value.oneCell', setR, overR, fillL, zl, places, allSizes, heldC, ne_eq, Int.reduceLE, Int.reduceLT, Int.reduceEq, Int.reduceNe, Int.reduceToNat, Int.cast_ofNat_Int, Nat.reduceMul, Nat.reduceLeDiff, reduceIte, Nat.reduceEqDiff, Nat.reduceAdd, ↓reduceIte, Try.vcT, F, h.cell0, gets, vsD, if_true, if_false, Bool.false_eq_true]))
  have h := h.emp

  change Sep w _ [_, _, rdr _ p ((dN S).numS 2) _, _] _ at h
  have ag : Agr (dN S) (dN S) := .inl rfl
  have hbs : Byt (dN S).l := dN_byt hSb
  have ecount : ((((((((S.numS 3).numS 3).numS 1).numS 2).numS 2).numS 2).numS 4).numV 2) = (dN S).numV 2 := rfl
  (try simp only [nfD] at h); have F := h.facts; (try simp only [nfF, emp_fact, rds_fact, frm_fact, tab_fact, chn_fact, mapX_fact, two_fact] at F); try simp -dsimp only [↓vcA, vcB, vcD, ↓pureT_lenS, ↓iteT, ↓iteF, cond_true, cond_false, eq_self, argE, Env.get, Env.push, ev, evs, evo, retV, Value.cells, Value.oneCell', setR, overR, fillL, zl, places, allSizes, heldC, ne_eq, Int.reduceLE, Int.reduceLT, Int.reduceEq, Int.reduceNe, Int.reduceToNat, Int.cast_ofNat_Int, Nat.reduceMul, Nat.reduceLeDiff, reduceIte, Nat.reduceEqDiff, Nat.reduceAdd, ↓reduceIte, Try.vcT, F, h.cell0, gets, vsD, if_true, if_false, Bool.false_eq_true]
  rw [ecount]
  have hn := num2_rng (dN S) hbs
  have h := h.tabNil 37 2
  obtain ⟨N, hN⟩ := Int.eq_ofNat_of_zero_le hn.1
  have eN : ((dN S).numV 2).toNat = N := by omega
  rw [hN] at hn
  rw [hN]
  refine walkLoop2 0 [2, 4, 5] [6] (fun m vs w' => ∃ n t t' out a cc, m = n ∧ vs = [.int .i64 (n : Nat)] ∧ Agr t t' ∧ Sep w (fun _ => False) [blk b1 96 [.int .i64 0, .int .i64 0, .int .i64 0, .int .i64 0, .int .i64 0, .int .i64 0, .int .i64 0, .slice none 0 0, .slice none 0 0, .slice none 0 0, .slice none 0 0, .slice none 0 0, .slice none 0 0, .slice none 0 0, .slice none 0 0], blk b2 96 [.int .i64 (S.numV 3), .int .i64 ((S.numS 3).numV 3), .int .i64 (((S.numS 3).numS 3).numV 1), .int .i64 ((((S.numS 3).numS 3).numS 1).numV 2), .int .i64 (((((S.numS 3).numS 3).numS 1).numS 2).numV 2), .int .i64 ((((((S.numS 3).numS 3).numS 1).numS 2).numS 2).numV 2), .int .i64 (((((((S.numS 3).numS 3).numS 1).numS 2).numS 2).numS 2).numV 4), .slice a out.length cc, .slice none 0 0, .slice none 0 0, .slice none 0 0, .slice none 0 0, .slice none 0 0, .slice none 0 0, .slice none 0 0], rdr 85 p t' Z, emp, tab 37 2 (.slice a out.length cc) out] w' ∧
    Byt t.l ∧ itemsB rP sP N ((dN S).numS 2) = (out ++ (itemsB rP sP n t).1, (itemsB rP sP n t).2) ∧ out.length + n ≤ 65535)
    (fun vs w' => ∃ n t' a cc, vs = [.int .i64 n] ∧ Agr (e1 S) t' ∧ Sep w (fun _ => False) [blk b1 96 [.int .i64 0, .int .i64 0, .int .i64 0, .int .i64 0, .int .i64 0, .int .i64 0, .int .i64 0, .slice none 0 0, .slice none 0 0, .slice none 0 0, .slice none 0 0, .slice none 0 0, .slice none 0 0, .slice none 0 0, .slice none 0 0], blk b2 96 [.int .i64 (S.numV 3), .int .i64 ((S.numS 3).numV 3), .int .i64 (((S.numS 3).numS 3).numV 1), .int .i64 ((((S.numS 3).numS 3).numS 1).numV 2), .int .i64 (((((S.numS 3).numS 3).numS 1).numS 2).numV 2), .int .i64 ((((((S.numS 3).numS 3).numS 1).numS 2).numS 2).numV 2), .int .i64 (((((((S.numS 3).numS 3).numS 1).numS 2).numS 2).numS 2).numV 4), .slice a (BV rP sP (dN S)).length cc, .slice none 0 0, .slice none 0 0, .slice none 0 0, .slice none 0 0, .slice none 0 0, .slice none 0 0, .slice none 0 0], rdr 85 p t' Z, emp, tab 37 2 (.slice a (BV rP sP (dN S)).length cc) (BV rP sP (dN S))] w') (by kernel_rfl) ?_ ?_ ?_
  · simp -dsimp only [↓vcA, vcB, vcD, ↓pureT_lenS, ↓iteT, ↓iteF, cond_true, cond_false, eq_self, argE, Env.get, Env.push, ev, evs, evo, retV, Value.cells, Value.oneCell', setR, overR, fillL, zl, places, allSizes, heldC, ne_eq, Int.reduceLE, Int.reduceLT, Int.reduceEq, Int.reduceNe, Int.reduceToNat, Int.cast_ofNat_Int, Nat.reduceMul, Nat.reduceLeDiff, reduceIte, Nat.reduceEqDiff, Nat.reduceAdd, ↓reduceIte, Try.vcT, gets]
    exact ⟨_, N, _, _, [], none, 0, rfl, rfl, (ag.num 2).2, h, numS_byt _ 2 hbs, by simp, by simp; omega⟩
  · intro ks hk m vs w5 hi
    clear h F
    obtain ⟨n, t, t', out, a, cc, rfl, rfl, agt, h, hbt, hit, hlen⟩ := hi
    simp -dsimp only [gets, argE, List.zip_cons_cons, List.zip_nil_left, List.cons_append, List.nil_append, Env.get, Env.push, Option.bind_some, Option.map_some, Option.some.injEq, reduceIte, Nat.reduceEqDiff, Nat.reduceAdd, ↓reduceIte] at hk; subst hk
    have done : (itemsB rP sP m t).1 = [] ∧ (itemsB rP sP m t).2 = t → BV rP sP (dN S) = out ∧ Agr (e1 S) t' := fun hd => by
      have x1 : BV rP sP (dN S) = out := by unfold BV; rw [eN, hit, hd.1]; simp
      have x2 : e1 S = t := by unfold e1 BS; rw [eN, hit, hd.2]
      rw [x1, x2]; exact ⟨rfl, agt⟩
    obtain ⟨_, vr, hw, _⟩ := h.rdAt (i := 2) rfl
    have hc1 := hw.c1
    have hc0 := hw.c0
    have hbk := hw.bk
    match m, hit, hlen, done with
    | 0, hit, hlen, done =>
      have h0 : ¬ (0 : Int) < ((0 : Nat) : Int) := by omega
      obtain ⟨d1, d2⟩ := done ⟨rfl, rfl⟩
      (try simp only [nfD] at h); have F := h.facts; (try simp only [nfF, emp_fact, rds_fact, frm_fact, tab_fact, chn_fact, mapX_fact, two_fact] at F); try simp -dsimp only [↓vcA, vcB, vcD, ↓pureT_lenS, ↓iteT, ↓iteF, cond_true, cond_false, eq_self, argE, Env.get, Env.push, ev, evs, evo, retV, Value.cells, Value.oneCell', setR, overR, fillL, zl, places, allSizes, heldC, ne_eq, Int.reduceLE, Int.reduceLT, Int.reduceEq, Int.reduceNe, Int.reduceToNat, Int.cast_ofNat_Int, Nat.reduceMul, Nat.reduceLeDiff, reduceIte, Nat.reduceEqDiff, Nat.reduceAdd, ↓reduceIte, Try.vcT, F, h.cell0, gets, vsD, if_true, if_false, Bool.false_eq_true,  decide_eq_false h0, exitT_cut_exit, gets]
      refine ⟨0, t', a, cc, rfl, d2, ?_⟩
      rw [d1]; exact h
    | n + 1, hit, hlen, done =>
    have h0 : (0 : Int) < ((n + 1 : Nat) : Int) := by omega
    have en : IntKind.i64.wrap (((n + 1 : Nat) : Int) - 1) = (n : Int) := by rw [i64w _ (by omega) (by omega)]; omega
    cases hbad : t'.bad with
    | true =>
      rw [hbad] at hc1
      obtain ⟨d1, d2⟩ := done (by simp [itemsB, agt.bad, hbad])
      (try simp only [nfD] at h); have F := h.facts; (try simp only [nfF, emp_fact, rds_fact, frm_fact, tab_fact, chn_fact, mapX_fact, two_fact] at F); try simp -dsimp only [↓vcA, vcB, vcD, ↓pureT_lenS, ↓iteT, ↓iteF, cond_true, cond_false, eq_self, argE, Env.get, Env.push, ev, evs, evo, retV, Value.cells, Value.oneCell', setR, overR, fillL, zl, places, allSizes, heldC, ne_eq, Int.reduceLE, Int.reduceLT, Int.reduceEq, Int.reduceNe, Int.reduceToNat, Int.cast_ofNat_Int, Nat.reduceMul, Nat.reduceLeDiff, reduceIte, Nat.reduceEqDiff, Nat.reduceAdd, ↓reduceIte, Try.vcT, F, h.cell0, gets, vsD, if_true, if_false, Bool.false_eq_true,  decide_eq_true h0, hc1, exitT_cut_exit, gets]
      refine ⟨_, t', a, cc, rfl, d2, ?_⟩
      rw [d1]; exact h
    | false =>
    rw [hbad] at hc1 hbk
    have et : t = t' := agt.of_ok (by rw [agt.bad, hbad])
    subst et
    have hit2 : itemsB rP sP N ((dN S).numS 2) = ((out ++ [rP t]) ++ (itemsB rP sP n (sP t)).1, (itemsB rP sP n (sP t)).2) := by
      rw [hit]; simp [itemsB, hbad]
    obtain ⟨av, ags⟩ := agP t
    (try simp only [nfD] at h); have F := h.facts; (try simp only [nfF, emp_fact, rds_fact, frm_fact, tab_fact, chn_fact, mapX_fact, two_fact] at F); try simp -dsimp only [↓vcA, vcB, vcD, ↓pureT_lenS, ↓iteT, ↓iteF, cond_true, cond_false, eq_self, argE, Env.get, Env.push, ev, evs, evo, retV, Value.cells, Value.oneCell', setR, overR, fillL, zl, places, allSizes, heldC, ne_eq, Int.reduceLE, Int.reduceLT, Int.reduceEq, Int.reduceNe, Int.reduceToNat, Int.cast_ofNat_Int, Nat.reduceMul, Nat.reduceLeDiff, reduceIte, Nat.reduceEqDiff, Nat.reduceAdd, ↓reduceIte, Try.vcT, F, h.cell0, gets, vsD, if_true, if_false, Bool.false_eq_true,  decide_eq_true h0, hc1]
    refine walkDraw (.q 0 (.q 2 (.ll 1 (.l 3 (.l 4 (.l 5 (.q 6 (.l 7 .fin))))) 3 (.ll 1 (.l 4 (.l 5 (.q 6 (.l 7 .fin)))) 4 (.l 1 (.l 5 (.q 6 (.l 7 .fin)))))))) [] (by kernel_rfl) (by simp [Holds_nil]) ?_
    refine h.draw ?_
    clear h F
    intro w6 h
    (try simp only [nfD] at h); have F := h.facts; (try simp only [nfF, emp_fact, rds_fact, frm_fact, tab_fact, chn_fact, mapX_fact, two_fact] at F); try simp -dsimp only [↓vcA, vcB, vcD, ↓pureT_lenS, ↓iteT, ↓iteF, cond_true, cond_false, eq_self, argE, Env.get, Env.push, ev, evs, evo, retV, Value.cells, Value.oneCell', setR, overR, fillL, zl, places, allSizes, heldC, ne_eq, Int.reduceLE, Int.reduceLT, Int.reduceEq, Int.reduceNe, Int.reduceToNat, Int.cast_ofNat_Int, Nat.reduceMul, Nat.reduceLeDiff, reduceIte, Nat.reduceEqDiff, Nat.reduceAdd, ↓reduceIte, Try.vcT, F, h.cell0, gets, vsD, if_true, if_false, Bool.false_eq_true]
    refine ⟨?_, ?_⟩
    case' refine_2 =>
      refine Sep.rrPoint 2 h rfl ?_
      clear h F
      intro w7 h
      (try simp only [nfD] at h); have F := h.facts; (try simp only [nfF, emp_fact, rds_fact, frm_fact, tab_fact, chn_fact, mapX_fact, two_fact] at F); try simp -dsimp only [↓vcA, vcB, vcD, ↓pureT_lenS, ↓iteT, ↓iteF, cond_true, cond_false, eq_self, argE, Env.get, Env.push, ev, evs, evo, retV, Value.cells, Value.oneCell', setR, overR, fillL, zl, places, allSizes, heldC, ne_eq, Int.reduceLE, Int.reduceLT, Int.reduceEq, Int.reduceNe, Int.reduceToNat, Int.cast_ofNat_Int, Nat.reduceMul, Nat.reduceLeDiff, reduceIte, Nat.reduceEqDiff, Nat.reduceAdd, ↓reduceIte, Try.vcT, F, h.cell0, gets, vsD, if_true, if_false, Bool.false_eq_true]
      refine ⟨?_, ?_⟩
    all_goals
      repeat ((first | refine Sep.new h ?_ | refine Sep.put 0 h rfl ?_ | refine Sep.put 1 h rfl ?_ | refine Sep.put 2 h rfl ?_ | refine Sep.put 3 h rfl ?_ | refine Sep.put 4 h rfl ?_ | refine Sep.put 5 h rfl ?_ | refine Sep.rrPoint 2 h rfl ?_); (clear F; (try clear h); intros; rename_i h; (try simp only [nfD] at h); have F := h.facts; (try simp only [nfF, emp_fact, rds_fact, frm_fact, tab_fact, chn_fact, mapX_fact, two_fact] at F); try simp -dsimp only [↓vcA, vcB, vcD, ↓pureT_lenS, ↓iteT, ↓iteF, cond_true, cond_false, eq_self, argE, Env.get, Env.push, ev, evs, evo, retV, Value.cells, Value.oneCell', setR, overR, fillL, zl, places, allSizes, heldC, ne_eq, Int.reduceLE, Int.reduceLT, Int.reduceEq, Int.reduceNe, Int.reduceToNat, Int.cast_ofNat_Int, Nat.reduceMul, Nat.reduceLeDiff, reduceIte, Nat.reduceEqDiff, Nat.reduceAdd, ↓reduceIte, Try.vcT, F, h.cell0, gets, vsD, if_true, if_false, Bool.false_eq_true, cellsAt]))
      refine Sep.appTab 4 5 infoP Try.underlying87 rfl (by decide) (rP' t) h rfl rfl rfl (by omega) (by simp only [maxLen]; omega) ?_
      clear h F
      intro a7 c7 w7 h
      (try simp only [nfD] at h); have F := h.facts; (try simp only [nfF, emp_fact, rds_fact, frm_fact, tab_fact, chn_fact, mapX_fact, two_fact] at F); try simp -dsimp only [↓vcA, vcB, vcD, ↓pureT_lenS, ↓iteT, ↓iteF, cond_true, cond_false, eq_self, argE, Env.get, Env.push, ev, evs, evo, retV, Value.cells, Value.oneCell', setR, overR, fillL, zl, places, allSizes, heldC, ne_eq, Int.reduceLE, Int.reduceLT, Int.reduceEq, Int.reduceNe, Int.reduceToNat, Int.cast_ofNat_Int, Nat.reduceMul, Nat.reduceLeDiff, reduceIte, Nat.reduceEqDiff, Nat.reduceAdd, ↓reduceIte, Try.vcT, F, h.cell0, gets, vsD, if_true, if_false, Bool.false_eq_true,  en]
      refine Sep.put 1 h rfl ?_
      clear h F
      intro w8 h
      (try simp only [nfD] at h); have F := h.facts; (try simp only [nfF, emp_fact, rds_fact, frm_fact, tab_fact, chn_fact, mapX_fact, two_fact] at F); try simp -dsimp only [↓vcA, vcB, vcD, ↓pureT_lenS, ↓iteT, ↓iteF, cond_true, cond_false, eq_self, argE, Env.get, Env.push, ev, evs, evo, retV, Value.cells, Value.oneCell', setR, overR, fillL, zl, places, allSizes, heldC, ne_eq, Int.reduceLE, Int.reduceLT, Int.reduceEq, Int.reduceNe, Int.reduceToNat, Int.cast_ofNat_Int, Nat.reduceMul, Nat.reduceLeDiff, reduceIte, Nat.reduceEqDiff, Nat.reduceAdd, ↓reduceIte, Try.vcT, F, h.cell0, gets, vsD, if_true, if_false, Bool.false_eq_true,  en]
      refine ⟨_, ?_, n, sP t, sP' t, out ++ [rP t], a7, c7, rfl, rfl, ags, by rw [av]; exact h.erase 5, sP_byt hbt, hit2, by simp; omega⟩
      omega
  intro ks hk vs w5 hi
  clear h F ag hbs hn
  obtain ⟨n, t', aP, cP, rfl, ag, h⟩ := hi
  simp -dsimp only [gets, argE, List.zip_cons_cons, List.zip_nil_left, List.cons_append, List.nil_append, Env.get, Env.push, Option.bind_some, Option.map_some, Option.some.injEq, reduceIte, Nat.reduceEqDiff, Nat.reduceAdd, ↓reduceIte] at hk; subst hk
  clear hN eN N
  have hbs : Byt (e1 S).l := by
    unfold e1 BS
    exact itemsB_byt (f := rP) (g := sP) (fun s => sP_byt (s := s)) _ _ (numS_byt _ 2 (dN_byt hSb))
  have h := (h.two 3 4 rfl rfl).erase 4
  (try simp only [nfD] at h); have F := h.facts; (try simp only [nfF, emp_fact, rds_fact, frm_fact, tab_fact, chn_fact, mapX_fact, two_fact] at F); try simp -dsimp only [↓vcA, vcB, vcD, ↓pureT_lenS, ↓iteT, ↓iteF, cond_true, cond_false, eq_self, argE, Env.get, Env.push, ev, evs, evo, retV, Value.cells, Value.oneCell', setR, overR, fillL, zl, places, allSizes, heldC, ne_eq, Int.reduceLE, Int.reduceLT, Int.reduceEq, Int.reduceNe, Int.reduceToNat, Int.cast_ofNat_Int, Nat.reduceMul, Nat.reduceLeDiff, reduceIte, Nat.reduceEqDiff, Nat.reduceAdd, ↓reduceIte, Try.vcT, F, h.cell0, gets, vsD, if_true, if_false, Bool.false_eq_true]
  have hb1 := hbs
  refine Sep.rrNum 2 h rfl ?_
  clear h F
  intro w4 h
  (try simp only [nfD] at h); have F := h.facts; (try simp only [nfF, emp_fact, rds_fact, frm_fact, tab_fact, chn_fact, mapX_fact, two_fact] at F); try simp -dsimp only [↓vcA, vcB, vcD, ↓pureT_lenS, ↓iteT, ↓iteF, cond_true, cond_false, eq_self, argE, Env.get, Env.push, ev, evs, evo, retV, Value.cells, Value.oneCell', setR, overR, fillL, zl, places, allSizes, heldC, ne_eq, Int.reduceLE, Int.reduceLT, Int.reduceEq, Int.reduceNe, Int.reduceToNat, Int.cast_ofNat_Int, Nat.reduceMul, Nat.reduceLeDiff, reduceIte, Nat.reduceEqDiff, Nat.reduceAdd, ↓reduceIte, Try.vcT, F, h.cell0, gets, vsD, if_true, if_false, Bool.false_eq_true]
  have hn := num2_rng (e1 S) hbs
  have h := h.tabNil 149 5
  obtain ⟨N, hN⟩ := Int.eq_ofNat_of_zero_le hn.1
  have eN : ((e1 S).numV 2).toNat = N := by omega
  rw [hN] at hn
  rw [← (ag.num 2).1, hN]
  refine walkLoop2 2 [2, 4, 5] [7] (fun m vs w' => ∃ n t t' out a cc, m = n ∧ vs = [.int .i64 (n : Nat)] ∧ Agr t t' ∧ Sep w (fun _ => False) [blk b1 96 [.int .i64 0, .int .i64 0, .int .i64 0, .int .i64 0, .int .i64 0, .int .i64 0, .int .i64 0, .slice none 0 0, .slice none 0 0, .slice none 0 0, .slice none 0 0, .slice none 0 0, .slice none 0 0, .slice none 0 0, .slice none 0 0], blk b2 96 [.int .i64 (S.numV 3), .int .i64 ((S.numS 3).numV 3), .int .i64 (((S.numS 3).numS 3).numV 1), .int .i64 ((((S.numS 3).numS 3).numS 1).numV 2), .int .i64 (((((S.numS 3).numS 3).numS 1).numS 2).numV 2), .int .i64 ((((((S.numS 3).numS 3).numS 1).numS 2).numS 2).numV 2), .int .i64 (((((((S.numS 3).numS 3).numS 1).numS 2).numS 2).numS 2).numV 4), .slice aP (BV rP sP (dN S)).length cP, .slice a out.length cc, .slice none 0 0, .slice none 0 0, .slice none 0 0, .slice none 0 0, .slice none 0 0, .slice none 0 0], rdr 85 p t' Z, two (emp) (tab 37 2 (.slice aP (BV rP sP (dN S)).length cP) (BV rP sP (dN S))), tab 149 5 (.slice a out.length cc) out] w' ∧
    Byt t.l ∧ itemsB rW sW N ((e1 S).numS 2) = (out ++ (itemsB rW sW n t).1, (itemsB rW sW n t).2) ∧ out.length + n ≤ 65535)
    (fun vs w' => ∃ n t' a cc, vs = [.int .i64 n] ∧ Agr (e2 S) t' ∧ Sep w (fun _ => False) [blk b1 96 [.int .i64 0, .int .i64 0, .int .i64 0, .int .i64 0, .int .i64 0, .int .i64 0, .int .i64 0, .slice none 0 0, .slice none 0 0, .slice none 0 0, .slice none 0 0, .slice none 0 0, .slice none 0 0, .slice none 0 0, .slice none 0 0], blk b2 96 [.int .i64 (S.numV 3), .int .i64 ((S.numS 3).numV 3), .int .i64 (((S.numS 3).numS 3).numV 1), .int .i64 ((((S.numS 3).numS 3).numS 1).numV 2), .int .i64 (((((S.numS 3).numS 3).numS 1).numS 2).numV 2), .int .i64 ((((((S.numS 3).numS 3).numS 1).numS 2).numS 2).numV 2), .int .i64 (((((((S.numS 3).numS 3).numS 1).numS 2).numS 2).numS 2).numV 4), .slice aP (BV rP sP (dN S)).length cP, .slice a (BV rW sW (e1 S)).length cc, .slice none 0 0, .slice none 0 0, .slice none 0 0, .slice none 0 0, .slice none 0 0, .slice none 0 0], rdr 85 p t' Z, two (emp) (tab 37 2 (.slice aP (BV rP sP (dN S)).length cP) (BV rP sP (dN S))), tab 149 5 (.slice a (BV rW sW (e1 S)).length cc) (BV rW sW (e1 S))] w') (by kernel_rfl) ?_ ?_ ?_
  · simp -dsimp only [↓vcA, vcB, vcD, ↓pureT_lenS, ↓iteT, ↓iteF, cond_true, cond_false, eq_self, argE, Env.get, Env.push, ev, evs, evo, retV, Value.cells, Value.oneCell', setR, overR, fillL, zl, places, allSizes, heldC, ne_eq, Int.reduceLE, Int.reduceLT, Int.reduceEq, Int.reduceNe, Int.reduceToNat, Int.cast_ofNat_Int, Nat.reduceMul, Nat.reduceLeDiff, reduceIte, Nat.reduceEqDiff, Nat.reduceAdd, ↓reduceIte, Try.vcT, gets]
    exact ⟨_, N, _, _, [], none, 0, rfl, rfl, (ag.num 2).2, h, numS_byt _ 2 hbs, by simp, by simp; omega⟩
  · intro ks hk m vs w5 hi
    clear h F
    obtain ⟨n, t, t', out, a, cc, rfl, rfl, agt, h, hbt, hit, hlen⟩ := hi
    simp -dsimp only [gets, argE, List.zip_cons_cons, List.zip_nil_left, List.cons_append, List.nil_append, Env.get, Env.push, Option.bind_some, Option.map_some, Option.some.injEq, reduceIte, Nat.reduceEqDiff, Nat.reduceAdd, ↓reduceIte] at hk; subst hk
    have done : (itemsB rW sW m t).1 = [] ∧ (itemsB rW sW m t).2 = t → BV rW sW (e1 S) = out ∧ Agr (e2 S) t' := fun hd => by
      have x1 : BV rW sW (e1 S) = out := by unfold BV; rw [eN, hit, hd.1]; simp
      have x2 : e2 S = t := by unfold e2 BS; rw [eN, hit, hd.2]
      rw [x1, x2]; exact ⟨rfl, agt⟩
    obtain ⟨_, vr, hw, _⟩ := h.rdAt (i := 2) rfl
    have hc1 := hw.c1
    have hc0 := hw.c0
    have hbk := hw.bk
    match m, hit, hlen, done with
    | 0, hit, hlen, done =>
      have h0 : ¬ (0 : Int) < ((0 : Nat) : Int) := by omega
      obtain ⟨d1, d2⟩ := done ⟨rfl, rfl⟩
      (try simp only [nfD] at h); have F := h.facts; (try simp only [nfF, emp_fact, rds_fact, frm_fact, tab_fact, chn_fact, mapX_fact, two_fact] at F); try simp -dsimp only [↓vcA, vcB, vcD, ↓pureT_lenS, ↓iteT, ↓iteF, cond_true, cond_false, eq_self, argE, Env.get, Env.push, ev, evs, evo, retV, Value.cells, Value.oneCell', setR, overR, fillL, zl, places, allSizes, heldC, ne_eq, Int.reduceLE, Int.reduceLT, Int.reduceEq, Int.reduceNe, Int.reduceToNat, Int.cast_ofNat_Int, Nat.reduceMul, Nat.reduceLeDiff, reduceIte, Nat.reduceEqDiff, Nat.reduceAdd, ↓reduceIte, Try.vcT, F, h.cell0, gets, vsD, if_true, if_false, Bool.false_eq_true,  decide_eq_false h0, exitT_cut_exit, gets]
      refine ⟨0, t', a, cc, rfl, d2, ?_⟩
      rw [d1]; exact h
    | n + 1, hit, hlen, done =>
    have h0 : (0 : Int) < ((n + 1 : Nat) : Int) := by omega
    have en : IntKind.i64.wrap (((n + 1 : Nat) : Int) - 1) = (n : Int) := by rw [i64w _ (by omega) (by omega)]; omega
    cases hbad : t'.bad with
    | true =>
      rw [hbad] at hc1
      obtain ⟨d1, d2⟩ := done (by simp [itemsB, agt.bad, hbad])
      (try simp only [nfD] at h); have F := h.facts; (try simp only [nfF, emp_fact, rds_fact, frm_fact, tab_fact, chn_fact, mapX_fact, two_fact] at F); try simp -dsimp only [↓vcA, vcB, vcD, ↓pureT_lenS, ↓iteT, ↓iteF, cond_true, cond_false, eq_self, argE, Env.get, Env.push, ev, evs, evo, retV, Value.cells, Value.oneCell', setR, overR, fillL, zl, places, allSizes, heldC, ne_eq, Int.reduceLE, Int.reduceLT, Int.reduceEq, Int.reduceNe, Int.reduceToNat, Int.cast_ofNat_Int, Nat.reduceMul, Nat.reduceLeDiff, reduceIte, Nat.reduceEqDiff, Nat.reduceAdd, ↓reduceIte, Try.vcT, F, h.cell0, gets, vsD, if_true, if_false, Bool.false_eq_true,  decide_eq_true h0, hc1, exitT_cut_exit, gets]
      refine ⟨_, t', a, cc, rfl, d2, ?_⟩
      rw [d1]; exact h
    | false =>
    rw [hbad] at hc1 hbk
    have et : t = t' := agt.of_ok (by rw [agt.bad, hbad])
    subst et
    have hit2 : itemsB rW sW N ((e1 S).numS 2) = ((out ++ [rW t]) ++ (itemsB rW sW n (sW t)).1, (itemsB rW sW n (sW t)).2) := by
      rw [hit]; simp [itemsB, hbad]
    obtain ⟨av, ags⟩ := agW t
    (try simp only [nfD] at h); have F := h.facts; (try simp only [nfF, emp_fact, rds_fact, frm_fact, tab_fact, chn_fact, mapX_fact, two_fact] at F); try simp -dsimp only [↓vcA, vcB, vcD, ↓pureT_lenS, ↓iteT, ↓iteF, cond_true, cond_false, eq_self, argE, Env.get, Env.push, ev, evs, evo, retV, Value.cells, Value.oneCell', setR, overR, fillL, zl, places, allSizes, heldC, ne_eq, Int.reduceLE, Int.reduceLT, Int.reduceEq, Int.reduceNe, Int.reduceToNat, Int.cast_ofNat_Int, Nat.reduceMul, Nat.reduceLeDiff, reduceIte, Nat.reduceEqDiff, Nat.reduceAdd, ↓reduceIte, Try.vcT, F, h.cell0, gets, vsD, if_true, if_false, Bool.false_eq_true,  decide_eq_true h0, hc1]
    repeat ((first | refine Sep.new h ?_ | refine Sep.put 0 h rfl ?_ | refine Sep.put 1 h rfl ?_ | refine Sep.put 2 h rfl ?_ | refine Sep.put 3 h rfl ?_ | refine Sep.put 4 h rfl ?_ | refine Sep.put 5 h rfl ?_ | refine Sep.rrNum 2 h rfl ?_ | refine Sep.rrPoint 2 h rfl ?_ | refine Sep.rrTri 2 h rfl ?_ | refine Sep.put 5 h rfl ?_); (clear F; (try clear h); intros; rename_i h; (try simp only [nfD] at h); have F := h.facts; (try simp only [nfF, emp_fact, rds_fact, frm_fact, tab_fact, chn_fact, mapX_fact, two_fact] at F); try simp -dsimp only [↓vcA, vcB, vcD, ↓pureT_lenS, ↓iteT, ↓iteF, cond_true, cond_false, eq_self, argE, Env.get, Env.push, ev, evs, evo, retV, Value.cells, Value.oneCell', setR, overR, fillL, zl, places, allSizes, heldC, ne_eq, Int.reduceLE, Int.reduceLT, Int.reduceEq, Int.reduceNe, Int.reduceToNat, Int.cast_ofNat_Int, Nat.reduceMul, Nat.reduceLeDiff, reduceIte, Nat.reduceEqDiff, Nat.reduceAdd, ↓reduceIte, Try.vcT, F, h.cell0, gets, vsD, if_true, if_false, Bool.false_eq_true, cellsAt, T3.cells]))
    refine Sep.appTab 4 6 infoW Try.underlying88 rfl (by decide) (rW' t) h rfl rfl rfl (by omega) (by simp only [maxLen]; omega) ?_
    clear h F
    intro a7 c7 w7 h
    (try simp only [nfD] at h); have F := h.facts; (try simp only [nfF, emp_fact, rds_fact, frm_fact, tab_fact, chn_fact, mapX_fact, two_fact] at F); try simp -dsimp only [↓vcA, vcB, vcD, ↓pureT_lenS, ↓iteT, ↓iteF, cond_true, cond_false, eq_self, argE, Env.get, Env.push, ev, evs, evo, retV, Value.cells, Value.oneCell', setR, overR, fillL, zl, places, allSizes, heldC, ne_eq, Int.reduceLE, Int.reduceLT, Int.reduceEq, Int.reduceNe, Int.reduceToNat, Int.cast_ofNat_Int, Nat.reduceMul, Nat.reduceLeDiff, reduceIte, Nat.reduceEqDiff, Nat.reduceAdd, ↓reduceIte, Try.vcT, F, h.cell0, gets, vsD, if_true, if_false, Bool.false_eq_true,  en]
    refine Sep.put 1 h rfl ?_
    clear h F
    intro w8 h
    (try simp only [nfD] at h); have F := h.facts; (try simp only [nfF, emp_fact, rds_fact, frm_fact, tab_fact, chn_fact, mapX_fact, two_fact] at F); try simp -dsimp only [↓vcA, vcB, vcD, ↓pureT_lenS, ↓iteT, ↓iteF, cond_true, cond_false, eq_self, argE, Env.get, Env.push, ev, evs, evo, retV, Value.cells, Value.oneCell', setR, overR, fillL, zl, places, allSizes, heldC, ne_eq, Int.reduceLE, Int.reduceLT, Int.reduceEq, Int.reduceNe, Int.reduceToNat, Int.cast_ofNat_Int, Nat.reduceMul, Nat.reduceLeDiff, reduceIte, Nat.reduceEqDiff, Nat.reduceAdd, ↓reduceIte, Try.vcT, F, h.cell0, gets, vsD, if_true, if_false, Bool.false_eq_true,  en]
    refine ⟨_, ?_, n, sW t, sW' t, out ++ [rW t], a7, c7, rfl, rfl, ags, by rw [av]; exact (h.erase 6).erase 5, sW_byt hbt, hit2, by simp; omega⟩
    omega
  intro ks hk vs w5 hi
  clear h F ag hbs hn
  obtain ⟨n, t', aW, cW, rfl, ag, h⟩ := hi
  simp -dsimp only [gets, argE, List.zip_cons_cons, List.zip_nil_left, List.cons_append, List.nil_append, Env.get, Env.push, Option.bind_some, Option.map_some, Option.some.injEq, reduceIte, Nat.reduceEqDiff, Nat.reduceAdd, ↓reduceIte] at hk; subst hk
  clear hN eN N
  have hbs : Byt (e2 S).l := by
    unfold e2 BS
    exact itemsB_byt (f := rW) (g := sW) (fun s => sW_byt (s := s)) _ _ (numS_byt _ 2 hb1)
  have h := (h.two 3 4 rfl rfl).erase 4
  (try simp only [nfD] at h); have F := h.facts; (try simp only [nfF, emp_fact, rds_fact, frm_fact, tab_fact, chn_fact, mapX_fact, two_fact] at F); try simp -dsimp only [↓vcA, vcB, vcD, ↓pureT_lenS, ↓iteT, ↓iteF, cond_true, cond_false, eq_self, argE, Env.get, Env.push, ev, evs, evo, retV, Value.cells, Value.oneCell', setR, overR, fillL, zl, places, allSizes, heldC, ne_eq, Int.reduceLE, Int.reduceLT, Int.reduceEq, Int.reduceNe, Int.reduceToNat, Int.cast_ofNat_Int, Nat.reduceMul, Nat.reduceLeDiff, reduceIte, Nat.reduceEqDiff, Nat.reduceAdd, ↓reduceIte, Try.vcT, F, h.cell0, gets, vsD, if_true, if_false, Bool.false_eq_true]
  have hb2 := hbs
  refine Sep.rrNum 2 h rfl ?_
  clear h F
  intro w4 h
  (try simp only [nfD] at h); have F := h.facts; (try simp only [nfF, emp_fact, rds_fact, frm_fact, tab_fact, chn_fact, mapX_fact, two_fact] at F); try simp -dsimp only [↓vcA, vcB, vcD, ↓pureT_lenS, ↓iteT, ↓iteF, cond_true, cond_false, eq_self, argE, Env.get, Env.push, ev, evs, evo, retV, Value.cells, Value.oneCell', setR, overR, fillL, zl, places, allSizes, heldC, ne_eq, Int.reduceLE, Int.reduceLT, Int.reduceEq, Int.reduceNe, Int.reduceToNat, Int.cast_ofNat_Int, Nat.reduceMul, Nat.reduceLeDiff, reduceIte, Nat.reduceEqDiff, Nat.reduceAdd, ↓reduceIte, Try.vcT, F, h.cell0, gets, vsD, if_true, if_false, Bool.false_eq_true]
  have hn := num2_rng (e2 S) hbs
  have h := h.tabNil 153 2
  obtain ⟨N, hN⟩ := Int.eq_ofNat_of_zero_le hn.1
  have eN : ((e2 S).numV 2).toNat = N := by omega
  rw [hN] at hn
  rw [← (ag.num 2).1, hN]
  refine walkLoop2 4 [2, 4, 5] [9] (fun m vs w' => ∃ n t t' out a cc, m = n ∧ vs = [.int .i64 (n : Nat)] ∧ Agr t t' ∧ Sep w (fun _ => False) [blk b1 96 [.int .i64 0, .int .i64 0, .int .i64 0, .int .i64 0, .int .i64 0, .int .i64 0, .int .i64 0, .slice none 0 0, .slice none 0 0, .slice none 0 0, .slice none 0 0, .slice none 0 0, .slice none 0 0, .slice none 0 0, .slice none 0 0], blk b2 96 [.int .i64 (S.numV 3), .int .i64 ((S.numS 3).numV 3), .int .i64 (((S.numS 3).numS 3).numV 1), .int .i64 ((((S.numS 3).numS 3).numS 1).numV 2), .int .i64 (((((S.numS 3).numS 3).numS 1).numS 2).numV 2), .int .i64 ((((((S.numS 3).numS 3).numS 1).numS 2).numS 2).numV 2), .int .i64 (((((((S.numS 3).numS 3).numS 1).numS 2).numS 2).numS 2).numV 4), .slice aP (BV rP sP (dN S)).length cP, .slice aW (BV rW sW (e1 S)).length cW, .slice a out.length cc, .slice none 0 0, .slice none 0 0, .slice none 0 0, .slice none 0 0, .slice none 0 0], rdr 85 p t' Z, two (two (emp) (tab 37 2 (.slice aP (BV rP sP (dN S)).length cP) (BV rP sP (dN S)))) (tab 149 5 (.slice aW (BV rW sW (e1 S)).length cW) (BV rW sW (e1 S))), tab 153 2 (.slice a out.length cc) out] w' ∧
    Byt t.l ∧ itemsB rPa sPa N ((e2 S).numS 2) = (out ++ (itemsB rPa sPa n t).1, (itemsB rPa sPa n t).2) ∧ out.length + n ≤ 65535)
    (fun vs w' => ∃ n t' a cc, vs = [.int .i64 n] ∧ Agr (e3 S) t' ∧ Sep w (fun _ => False) [blk b1 96 [.int .i64 0, .int .i64 0, .int .i64 0, .int .i64 0, .int .i64 0, .int .i64 0, .int .i64 0, .slice none 0 0, .slice none 0 0, .slice none 0 0, .slice none 0 0, .slice none 0 0, .slice none 0 0, .slice none 0 0, .slice none 0 0], blk b2 96 [.int .i64 (S.numV 3), .int .i64 ((S.numS 3).numV 3), .int .i64 (((S.numS 3).numS 3).numV 1), .int .i64 ((((S.numS 3).numS 3).numS 1).numV 2), .int .i64 (((((S.numS 3).numS 3).numS 1).numS 2).numV 2), .int .i64 ((((((S.numS 3).numS 3).numS 1).numS 2).numS 2).numV 2), .int .i64 (((((((S.numS 3).numS 3).numS 1).numS 2).numS 2).numS 2).numV 4), .slice aP (BV rP sP (dN S)).length cP, .slice aW (BV rW sW (e1 S)).length cW, .slice a (BV rPa sPa (e2 S)).length cc, .slice none 0 0, .slice none 0 0, .slice none 0 0, .slice none 0 0, .slice none 0 0], rdr 85 p t' Z, two (two (emp) (tab 37 2 (.slice aP (BV rP sP (dN S)).length cP) (BV rP sP (dN S)))) (tab 149 5 (.slice aW (BV rW sW (e1 S)).length cW) (BV rW sW (e1 S))), tab 153 2 (.slice a (BV rPa sPa (e2 S)).length cc) (BV rPa sPa (e2 S))] w') (by kernel_rfl) ?_ ?_ ?_
  · simp -dsimp only [↓vcA, vcB, vcD, ↓pureT_lenS, ↓iteT, ↓iteF, cond_true, cond_false, eq_self, argE, Env.get, Env.push, ev, evs, evo, retV, Value.cells, Value.oneCell', setR, overR, fillL, zl, places, allSizes, heldC, ne_eq, Int.reduceLE, Int.reduceLT, Int.reduceEq, Int.reduceNe, Int.reduceToNat, Int.cast_ofNat_Int, Nat.reduceMul, Nat.reduceLeDiff, reduceIte, Nat.reduceEqDiff, Nat.reduceAdd, ↓reduceIte, Try.vcT, gets]
    exact ⟨_, N, _, _, [], none, 0, rfl, rfl, (ag.num 2).2, h, numS_byt _ 2 hbs, by simp, by simp; omega⟩
  · intro ks hk m vs w5 hi
    clear h F
    obtain ⟨n, t, t', out, a, cc, rfl, rfl, agt, h, hbt, hit, hlen⟩ := hi
    simp -dsimp only [gets, argE, List.zip_cons_cons, List.zip_nil_left, List.cons_append, List.nil_append, Env.get, Env.push, Option.bind_some, Option.map_some, Option.some.injEq, reduceIte, Nat.reduceEqDiff, Nat.reduceAdd, ↓reduceIte] at hk; subst hk
    have done : (itemsB rPa sPa m t).1 = [] ∧ (itemsB rPa sPa m t).2 = t → BV rPa sPa (e2 S) = out ∧ Agr (e3 S) t' := fun hd => by
      have x1 : BV rPa sPa (e2 S) = out := by unfold BV; rw [eN, hit, hd.1]; simp
      have x2 : e3 S = t := by unfold e3 BS; rw [eN, hit, hd.2]
      rw [x1, x2]; exact ⟨rfl, agt⟩
    obtain ⟨_, vr, hw, _⟩ := h.rdAt (i := 2) rfl
    have hc1 := hw.c1
    have hc0 := hw.c0
    have hbk := hw.bk
    match m, hit, hlen, done with
    | 0, hit, hlen, done =>
      have h0 : ¬ (0 : Int) < ((0 : Nat) : Int) := by omega
      obtain ⟨d1, d2⟩ := done ⟨rfl, rfl⟩
      (try simp only [nfD] at h); have F := h.facts; (try simp only [nfF, emp_fact, rds_fact, frm_fact, tab_fact, chn_fact, mapX_fact, two_fact] at F); try simp -dsimp only [↓vcA, vcB, vcD, ↓pureT_lenS, ↓iteT, ↓iteF, cond_true, cond_false, eq_self, argE, Env.get, Env.push, ev, evs, evo, retV, Value.cells, Value.oneCell', setR, overR, fillL, zl, places, allSizes, heldC, ne_eq, Int.reduceLE, Int.reduceLT, Int.reduceEq, Int.reduceNe, Int.reduceToNat, Int.cast_ofNat_Int, Nat.reduceMul, Nat.reduceLeDiff, reduceIte, Nat.reduceEqDiff, Nat.reduceAdd, ↓reduceIte, Try.vcT, F, h.cell0, gets, vsD, if_true, if_false, Bool.false_eq_true,  decide_eq_false h0, exitT_cut_exit, gets]
      refine ⟨0, t', a, cc, rfl, d2, ?_⟩
      rw [d1]; exact h
    | n + 1, hit, hlen, done =>
    have h0 : (0 : Int) < ((n + 1 : Nat) : Int) := by omega
    have en : IntKind.i64.wrap (((n + 1 : Nat) : Int) - 1) = (n : Int) := by rw [i64w _ (by omega) (by omega)]; omega
    cases hbad : t'.bad with
    | true =>
      rw [hbad] at hc1
      obtain ⟨d1, d2⟩ := done (by simp [itemsB, agt.bad, hbad])
      (try simp only [nfD] at h); have F := h.facts; (try simp only [nfF, emp_fact, rds_fact, frm_fact, tab_fact, chn_fact, mapX_fact, two_fact] at F); try simp -dsimp only [↓vcA, vcB, vcD, ↓pureT_lenS, ↓iteT, ↓iteF, cond_true, cond_false, eq_self, argE, Env.get, Env.push, ev, evs, evo, retV, Value.cells, Value.oneCell', setR, overR, fillL, zl, places, allSizes, heldC, ne_eq, Int.reduceLE, Int.reduceLT, Int.reduceEq, Int.reduceNe, Int.reduceToNat, Int.cast_ofNat_Int, Nat.reduceMul, Nat.reduceLeDiff, reduceIte, Nat.reduceEqDiff, Nat.reduceAdd, ↓reduceIte, Try.vcT, F, h.cell0, gets, vsD, if_true, if_false, Bool.false_eq_true,  decide_eq_true h0, hc1, exitT_cut_exit, gets]
      refine ⟨_, t', a, cc, rfl, d2, ?_⟩
      rw [d1]; exact h
    | false =>
    rw [hbad] at hc1 hbk
    have et : t = t' := agt.of_ok (by rw [agt.bad, hbad])
    subst et
    have hit2 : itemsB rPa sPa N ((e2 S).numS 2) = ((out ++ [rPa t]) ++ (itemsB rPa sPa n (sPa t)).1, (itemsB rPa sPa n (sPa t)).2) := by
      rw [hit]; simp [itemsB, hbad]
    obtain ⟨av, ags⟩ := agPa t
    (try simp only [nfD] at h); have F := h.facts; (try simp only [nfF, emp_fact, rds_fact, frm_fact, tab_fact, chn_fact, mapX_fact, two_fact] at F); try simp -dsimp only [↓vcA, vcB, vcD, ↓pureT_lenS, ↓iteT, ↓iteF, cond_true, cond_false, eq_self, argE, Env.get, Env.push, ev, evs, evo, retV, Value.cells, Value.oneCell', setR, overR, fillL, zl, places, allSizes, heldC, ne_eq, Int.reduceLE, Int.reduceLT, Int.reduceEq, Int.reduceNe, Int.reduceToNat, Int.cast_ofNat_Int, Nat.reduceMul, Nat.reduceLeDiff, reduceIte, Nat.reduceEqDiff, Nat.reduceAdd, ↓reduceIte, Try.vcT, F, h.cell0, gets, vsD, if_true, if_false, Bool.false_eq_true,  decide_eq_true h0, hc1]
    repeat ((first | refine Sep.new h ?_ | refine Sep.put 0 h rfl ?_ | refine Sep.put 1 h rfl ?_ | refine Sep.put 2 h rfl ?_ | refine Sep.put 3 h rfl ?_ | refine Sep.put 4 h rfl ?_ | refine Sep.put 5 h rfl ?_ | refine Sep.rrNum 2 h rfl ?_ | refine Sep.rrPoint 2 h rfl ?_ | refine Sep.rrTri 2 h rfl ?_ | refine Sep.put 5 h rfl ?_); (clear F; (try clear h); intros; rename_i h; (try simp only [nfD] at h); have F := h.facts; (try simp only [nfF, emp_fact, rds_fact, frm_fact, tab_fact, chn_fact, mapX_fact, two_fact] at F); try simp -dsimp only [↓vcA, vcB, vcD, ↓pureT_lenS, ↓iteT, ↓iteF, cond_true, cond_false, eq_self, argE, Env.get, Env.push, ev, evs, evo, retV, Value.cells, Value.oneCell', setR, overR, fillL, zl, places, allSizes, heldC, ne_eq, Int.reduceLE, Int.reduceLT, Int.reduceEq, Int.reduceNe, Int.reduceToNat, Int.cast_ofNat_Int, Nat.reduceMul, Nat.reduceLeDiff, reduceIte, Nat.reduceEqDiff, Nat.reduceAdd, ↓reduceIte, Try.vcT, F, h.cell0, gets, vsD, if_true, if_false, Bool.false_eq_true, cellsAt, T3.cells]))
    refine Sep.appTab 4 6 infoPa Try.underlying89 rfl (by decide) (rPa t) h rfl rfl rfl (by omega) (by simp only [maxLen]; omega) ?_
    clear h F
    intro a7 c7 w7 h
    (try simp only [nfD] at h); have F := h.facts; (try simp only [nfF, emp_fact, rds_fact, frm_fact, tab_fact, chn_fact, mapX_fact, two_fact] at F); try simp -dsimp only [↓vcA, vcB, vcD, ↓pureT_lenS, ↓iteT, ↓iteF, cond_true, cond_false, eq_self, argE, Env.get, Env.push, ev, evs, evo, retV, Value.cells, Value.oneCell', setR, overR, fillL, zl, places, allSizes, heldC, ne_eq, Int.reduceLE, Int.reduceLT, Int.reduceEq, Int.reduceNe, Int.reduceToNat, Int.cast_ofNat_Int, Nat.reduceMul, Nat.reduceLeDiff, reduceIte, Nat.reduceEqDiff, Nat.reduceAdd, ↓reduceIte, Try.vcT, F, h.cell0, gets, vsD, if_true, if_false, Bool.false_eq_true,  en]
    refine Sep.put 1 h rfl ?_
    clear h F
    intro w8 h
    (try simp only [nfD] at h); have F := h.facts; (try simp only [nfF, emp_fact, rds_fact, frm_fact, tab_fact, chn_fact, mapX_fact, two_fact] at F); try simp -dsimp only [↓vcA, vcB, vcD, ↓pureT_lenS, ↓iteT, ↓iteF, cond_true, cond_false, eq_self, argE, Env.get, Env.push, ev, evs, evo, retV, Value.cells, Value.oneCell', setR, overR, fillL, zl, places, allSizes, heldC, ne_eq, Int.reduceLE, Int.reduceLT, Int.reduceEq, Int.reduceNe, Int.reduceToNat, Int.cast_ofNat_Int, Nat.reduceMul, Nat.reduceLeDiff, reduceIte, Nat.reduceEqDiff, Nat.reduceAdd, ↓reduceIte, Try.vcT, F, h.cell0, gets, vsD, if_true, if_false, Bool.false_eq_true,  en]
    refine ⟨_, ?_, n, sPa t, sPa t, out ++ [rPa t], a7, c7, rfl, rfl, ags, by rw [av]; exact (h.erase 6).erase 5, sPa_byt hbt, hit2, by simp; omega⟩
    omega
  intro ks hk vs w5 hi
  clear h F ag hbs hn
  obtain ⟨n, t', aPa, cPa, rfl, ag, h⟩ := hi
  simp -dsimp only [gets, argE, List.zip_cons_cons, List.zip_nil_left, List.cons_append, List.nil_append, Env.get, Env.push, Option.bind_some, Option.map_some, Option.some.injEq, reduceIte, Nat.reduceEqDiff, Nat.reduceAdd, ↓reduceIte] at hk; subst hk
  clear hN eN N
  have hbs : Byt (e3 S).l := by
    unfold e3 BS
    exact itemsB_byt (f := rPa) (g := sPa) (fun s => sPa_byt (s := s)) _ _ (numS_byt _ 2 hb2)
  have h := (h.two 3 4 rfl rfl).erase 4
  (try simp only [nfD] at h); have F := h.facts; (try simp only [nfF, emp_fact, rds_fact, frm_fact, tab_fact, chn_fact, mapX_fact, two_fact] at F); try simp -dsimp only [↓vcA, vcB, vcD, ↓pureT_lenS, ↓iteT, ↓iteF, cond_true, cond_false, eq_self, argE, Env.get, Env.push, ev, evs, evo, retV, Value.cells, Value.oneCell', setR, overR, fillL, zl, places, allSizes, heldC, ne_eq, Int.reduceLE, Int.reduceLT, Int.reduceEq, Int.reduceNe, Int.reduceToNat, Int.cast_ofNat_Int, Nat.reduceMul, Nat.reduceLeDiff, reduceIte, Nat.reduceEqDiff, Nat.reduceAdd, ↓reduceIte, Try.vcT, F, h.cell0, gets, vsD, if_true, if_false, Bool.false_eq_true]
  have hb3 := hbs
  refine Sep.rrNum 2 h rfl ?_
  clear h F
  intro w4 h
  (try simp only [nfD] at h); have F := h.facts; (try simp only [nfF, emp_fact, rds_fact, frm_fact, tab_fact, chn_fact, mapX_fact, two_fact] at F); try simp -dsimp only [↓vcA, vcB, vcD, ↓pureT_lenS, ↓iteT, ↓iteF, cond_true, cond_false, eq_self, argE, Env.get, Env.push, ev, evs, evo, retV, Value.cells, Value.oneCell', setR, overR, fillL, zl, places, allSizes, heldC, ne_eq, Int.reduceLE, Int.reduceLT, Int.reduceEq, Int.reduceNe, Int.reduceToNat, Int.cast_ofNat_Int, Nat.reduceMul, Nat.reduceLeDiff, reduceIte, Nat.reduceEqDiff, Nat.reduceAdd, ↓reduceIte, Try.vcT, F, h.cell0, gets, vsD, if_true, if_false, Bool.false_eq_true]
  have hn := num2_rng (e3 S) hbs
  have h := h.tabNil 144 10
  obtain ⟨N, hN⟩ := Int.eq_ofNat_of_zero_le hn.1
  have eN : ((e3 S).numV 2).toNat = N := by omega
  rw [hN] at hn
  rw [← (ag.num 2).1, hN]
  refine walkLoop2 6 [2, 4, 5] [11] (fun m vs w' => ∃ n t t' out a cc, m = n ∧ vs = [.int .i64 (n : Nat)] ∧ Agr t t' ∧ Sep w (fun _ => False) [blk b1 96 [.int .i64 0, .int .i64 0, .int .i64 0, .int .i64 0, .int .i64 0, .int .i64 0, .int .i64 0, .slice none 0 0, .slice none 0 0, .slice none 0 0, .slice none 0 0, .slice none 0 0, .slice none 0 0, .slice none 0 0, .slice none 0 0], blk b2 96 [.int .i64 (S.numV 3), .int .i64 ((S.numS 3).numV 3), .int .i64 (((S.numS 3).numS 3).numV 1), .int .i64 ((((S.numS 3).numS 3).numS 1).numV 2), .int .i64 (((((S.numS 3).numS 3).numS 1).numS 2).numV 2), .int .i64 ((((((S.numS 3).numS 3).numS 1).numS 2).numS 2).numV 2), .int .i64 (((((((S.numS 3).numS 3).numS 1).numS 2).numS 2).numS 2).numV 4), .slice aP (BV rP sP (dN S)).length cP, .slice aW (BV rW sW (e1 S)).length cW, .slice aPa (BV rPa sPa (e2 S)).length cPa, .slice a out.length cc, .slice none 0 0, .slice none 0 0, .slice none 0 0, .slice none 0 0], rdr 85 p t' Z, two (two (two (emp) (tab 37 2 (.slice aP (BV rP sP (dN S)).length cP) (BV rP sP (dN S)))) (tab 149 5 (.slice aW (BV rW sW (e1 S)).length cW) (BV rW sW (e1 S)))) (tab 153 2 (.slice aPa (BV rPa sPa (e2 S)).length cPa) (BV rPa sPa (e2 S))), tab 144 10 (.slice a out.length cc) out] w' ∧
    Byt t.l ∧ itemsB rRe sRe N ((e3 S).numS 2) = (out ++ (itemsB rRe sRe n t).1, (itemsB rRe sRe n t).2) ∧ out.length + n ≤ 65535)
    (fun vs w' => ∃ n t' a cc, vs = [.int .i64 n] ∧ Agr (e4 S) t' ∧ Sep w (fun _ => False) [blk b1 96 [.int .i64 0, .int .i64 0, .int .i64 0, .int .i64 0, .int .i64 0, .int .i64 0, .int .i64 0, .slice none 0 0, .slice none 0 0, .slice none 0 0, .slice none 0 0, .slice none 0 0, .slice none 0 0, .slice none 0 0, .slice none 0 0], blk b2 96 [.int .i64 (S.numV 3), .int .i64 ((S.numS 3).numV 3), .int .i64 (((S.numS 3).numS 3).numV 1), .int .i64 ((((S.numS 3).numS 3).numS 1).numV 2), .int .i64 (((((S.numS 3).numS 3).numS 1).numS 2).numV 2), .int .i64 ((((((S.numS 3).numS 3).numS 1).numS 2).numS 2).numV 2), .int .i64 (((((((S.numS 3).numS 3).numS 1).numS 2).numS 2).numS 2).numV 4), .slice aP (BV rP sP (dN S)).length cP, .slice aW (BV rW sW (e1 S)).length cW, .slice aPa (BV rPa sPa (e2 S)).length cPa, .slice a (BV rRe sRe (e3 S)).length cc, .slice none 0 0, .slice none 0 0, .slice none 0 0, .slice none 0 0], rdr 85 p t' Z, two (two (two (emp) (tab 37 2 (.slice aP (BV rP sP (dN S)).length cP) (BV rP sP (dN S)))) (tab 149 5 (.slice aW (BV rW sW (e1 S)).length cW) (BV rW sW (e1 S)))) (tab 153 2 (.slice aPa (BV rPa sPa (e2 S)).length cPa) (BV rPa sPa (e2 S))), tab 144 10 (.slice a (BV rRe sRe (e3 S)).length cc) (BV rRe sRe (e3 S))] w') (by kernel_rfl) ?_ ?_ ?_
  · simp -dsimp only [↓vcA, vcB, vcD, ↓pureT_lenS, ↓iteT, ↓iteF, cond_true, cond_false, eq_self, argE, Env.get, Env.push, ev, evs, evo, retV, Value.cells, Value.oneCell', setR, overR, fillL, zl, places, allSizes, heldC, ne_eq, Int.reduceLE, Int.reduceLT, Int.reduceEq, Int.reduceNe, Int.reduceToNat, Int.cast_ofNat_Int, Nat.reduceMul, Nat.reduceLeDiff, reduceIte, Nat.reduceEqDiff, Nat.reduceAdd, ↓reduceIte, Try.vcT, gets]
    exact ⟨_, N, _, _, [], none, 0, rfl, rfl, (ag.num 2).2, h, numS_byt _ 2 hbs, by simp, by simp; omega⟩
  · intro ks hk m vs w5 hi
    clear h F
    obtain ⟨n, t, t', out, a, cc, rfl, rfl, agt, h, hbt, hit, hlen⟩ := hi
    simp -dsimp only [gets, argE, List.zip_cons_cons, List.zip_nil_left, List.cons_append, List.nil_append, Env.get, Env.push, Option.bind_some, Option.map_some, Option.some.injEq, reduceIte, Nat.reduceEqDiff, Nat.reduceAdd, ↓reduceIte] at hk; subst hk
    have done : (itemsB rRe sRe m t).1 = [] ∧ (itemsB rRe sRe m t).2 = t → BV rRe sRe (e3 S) = out ∧ Agr (e4 S) t' := fun hd => by
      have x1 : BV rRe sRe (e3 S) = out := by unfold BV; rw [eN, hit, hd.1]; simp
      have x2 : e4 S = t := by unfold e4 BS; rw [eN, hit, hd.2]
      rw [x1, x2]; exact ⟨rfl, agt⟩
    obtain ⟨_, vr, hw, _⟩ := h.rdAt (i := 2) rfl
    have hc1 := hw.c1
    have hc0 := hw.c0
    have hbk := hw.bk
    match m, hit, hlen, done with
    | 0, hit, hlen, done =>
      have h0 : ¬ (0 : Int) < ((0 : Nat) : Int) := by omega
      obtain ⟨d1, d2⟩ := done ⟨rfl, rfl⟩
      (try simp only [nfD] at h); have F := h.facts; (try simp only [nfF, emp_fact, rds_fact, frm_fact, tab_fact, chn_fact, mapX_fact, two_fact] at F); try simp -dsimp only [↓vcA, vcB, vcD, ↓pureT_lenS, ↓iteT, ↓iteF, cond_true, cond_false, eq_self, argE, Env.get, Env.push, ev, evs, evo, retV, Value.cells, Value.oneCell', setR, overR, fillL, zl, places, allSizes, heldC, ne_eq, Int.reduceLE, Int.reduceLT, Int.reduceEq, Int.reduceNe, Int.reduceToNat, Int.cast_ofNat_Int, Nat.reduceMul, Nat.reduceLeDiff, reduceIte, Nat.reduceEqDiff, Nat.reduceAdd, ↓reduceIte, Try.vcT, F, h.cell0, gets, vsD, if_true, if_false, Bool.false_eq_true,  decide_eq_false h0, exitT_cut_exit, gets]
      refine ⟨0, t', a, cc, rfl, d2, ?_⟩
      rw [d1]; exact h
    | n + 1, hit, hlen, done =>
    have h0 : (0 : Int) < ((n + 1 : Nat) : Int) := by omega
    have en : IntKind.i64.wrap (((n + 1 : Nat) : Int) - 1) = (n : Int) := by rw [i64w _ (by omega) (by omega)]; omega
    cases hbad : t'.bad with
    | true =>
      rw [hbad] at hc1
      obtain ⟨d1, d2⟩ := done (by simp [itemsB, agt.bad, hbad])
      (try simp only [nfD] at h); have F := h.facts; (try simp only [nfF, emp_fact, rds_fact, frm_fact, tab_fact, chn_fact, mapX_fact, two_fact] at F); try simp -dsimp only [↓vcA, vcB, vcD, ↓pureT_lenS, ↓iteT, ↓iteF, cond_true, cond_false, eq_self, argE, Env.get, Env.push, ev, evs, evo, retV, Value.cells, Value.oneCell', setR, overR, fillL, zl, places, allSizes, heldC, ne_eq, Int.reduceLE, Int.reduceLT, Int.reduceEq, Int.reduceNe, Int.reduceToNat, Int.cast_ofNat_Int, Nat.reduceMul, Nat.reduceLeDiff, reduceIte, Nat.reduceEqDiff, Nat.reduceAdd, ↓reduceIte, Try.vcT, F, h.cell0, gets, vsD, if_true, if_false, Bool.false_eq_true,  decide_eq_true h0, hc1, exitT_cut_exit, gets]
      refine ⟨_, t', a, cc, rfl, d2, ?_⟩
      rw [d1]; exact h
    | false =>
    rw [hbad] at hc1 hbk
    have et : t = t' := agt.of_ok (by rw [agt.bad, hbad])
    subst et
    have hit2 : itemsB rRe sRe N ((e3 S).numS 2) = ((out ++ [rRe t]) ++ (itemsB rRe sRe n (sRe t)).1, (itemsB rRe sRe n (sRe t)).2) := by
      rw [hit]; simp [itemsB, hbad]
    obtain ⟨av, ags⟩ := agRe t
    (try simp only [nfD] at h); have F := h.facts; (try simp only [nfF, emp_fact, rds_fact, frm_fact, tab_fact, chn_fact, mapX_fact, two_fact] at F); try simp -dsimp only [↓vcA, vcB, vcD, ↓pureT_lenS, ↓iteT, ↓iteF, cond_true, cond_false, eq_self, argE, Env.get, Env.push, ev, evs, evo, retV, Value.cells, Value.oneCell', setR, overR, fillL, zl, places, allSizes, heldC, ne_eq, Int.reduceLE, Int.reduceLT, Int.reduceEq, Int.reduceNe, Int.reduceToNat, Int.cast_ofNat_Int, Nat.reduceMul, Nat.reduceLeDiff, reduceIte, Nat.reduceEqDiff, Nat.reduceAdd, ↓reduceIte, Try.vcT, F, h.cell0, gets, vsD, if_true, if_false, Bool.false_eq_true,  decide_eq_true h0, hc1]
    repeat ((first | refine Sep.new h ?_ | refine Sep.put 0 h rfl ?_ | refine Sep.put 1 h rfl ?_ | refine Sep.put 2 h rfl ?_ | refine Sep.put 3 h rfl ?_ | refine Sep.put 4 h rfl ?_ | refine Sep.put 5 h rfl ?_ | refine Sep.rrNum 2 h rfl ?_ | refine Sep.rrPoint 2 h rfl ?_ | refine Sep.rrTri 2 h rfl ?_ | refine Sep.put 5 h rfl ?_); (clear F; (try clear h); intros; rename_i h; (try simp only [nfD] at h); have F := h.facts; (try simp only [nfF, emp_fact, rds_fact, frm_fact, tab_fact, chn_fact, mapX_fact, two_fact] at F); try simp -dsimp only [↓vcA, vcB, vcD, ↓pureT_lenS, ↓iteT, ↓iteF, cond_true, cond_false, eq_self, argE, Env.get, Env.push, ev, evs, evo, retV, Value.cells, Value.oneCell', setR, overR, fillL, zl, places, allSizes, heldC, ne_eq, Int.reduceLE, Int.reduceLT, Int.reduceEq, Int.reduceNe, Int.reduceToNat, Int.cast_ofNat_Int, Nat.reduceMul, Nat.reduceLeDiff, reduceIte, Nat.reduceEqDiff, Nat.reduceAdd, ↓reduceIte, Try.vcT, F, h.cell0, gets, vsD, if_true, if_false, Bool.false_eq_true, cellsAt, T3.cells]))
    refine Sep.appTab 4 6 infoRe Try.underlying90 rfl (by decide) (rRe' t) h rfl rfl rfl (by omega) (by simp only [maxLen]; omega) ?_
    clear h F
    intro a7 c7 w7 h
    (try simp only [nfD] at h); have F := h.facts; (try simp only [nfF, emp_fact, rds_fact, frm_fact, tab_fact, chn_fact, mapX_fact, two_fact] at F); try simp -dsimp only [↓vcA, vcB, vcD, ↓pureT_lenS, ↓iteT, ↓iteF, cond_true, cond_false, eq_self, argE, Env.get, Env.push, ev, evs, evo, retV, Value.cells, Value.oneCell', setR, overR, fillL, zl, places, allSizes, heldC, ne_eq, Int.reduceLE, Int.reduceLT, Int.reduceEq, Int.reduceNe, Int.reduceToNat, Int.cast_ofNat_Int, Nat.reduceMul, Nat.reduceLeDiff, reduceIte, Nat.reduceEqDiff, Nat.reduceAdd, ↓reduceIte, Try.vcT, F, h.cell0, gets, vsD, if_true, if_false, Bool.false_eq_true,  en]
    refine Sep.put 1 h rfl ?_
    clear h F
    intro w8 h
    (try simp only [nfD] at h); have F := h.facts; (try simp only [nfF, emp_fact, rds_fact, frm_fact, tab_fact, chn_fact, mapX_fact, two_fact] at F); try simp -dsimp only [↓vcA, vcB, vcD, ↓pureT_lenS, ↓iteT, ↓iteF, cond_true, cond_false, eq_self, argE, Env.get, Env.push, ev, evs, evo, retV, Value.cells, Value.oneCell', setR, overR, fillL, zl, places, allSizes, heldC, ne_eq, Int.reduceLE, Int.reduceLT, Int.reduceEq, Int.reduceNe, Int.reduceToNat, Int.cast_ofNat_Int, Nat.reduceMul, Nat.reduceLeDiff, reduceIte, Nat.reduceEqDiff, Nat.reduceAdd, ↓reduceIte, Try.vcT, F, h.cell0, gets, vsD, if_true, if_false, Bool.false_eq_true,  en]
    refine ⟨_, ?_, n, sRe t, sRe' t, out ++ [rRe t], a7, c7, rfl, rfl, ags, by rw [av]; exact (h.erase 6).erase 5, sRe_byt hbt, hit2, by simp; omega⟩
    omega
  intro ks hk vs w5 hi
  clear h F ag hbs hn
  obtain ⟨n, t', aRe, cRe, rfl, ag, h⟩ := hi
  simp -dsimp only [gets, argE, List.zip_cons_cons, List.zip_nil_left, List.cons_append, List.nil_append, Env.get, Env.push, Option.bind_some, Option.map_some, Option.some.injEq, reduceIte, Nat.reduceEqDiff, Nat.reduceAdd, ↓reduceIte] at hk; subst hk
  clear hN eN N
  have hbs : Byt (e4 S).l := by
    unfold e4 BS
    exact itemsB_byt (f := rRe) (g := sRe) (fun s => sRe_byt (s := s)) _ _ (numS_byt _ 2 hb3)
  have h := (h.two 3 4 rfl rfl).erase 4
  (try simp only [nfD] at h); have F := h.facts; (try simp only [nfF, emp_fact, rds_fact, frm_fact, tab_fact, chn_fact, mapX_fact, two_fact] at F); try simp -dsimp only [↓vcA, vcB, vcD, ↓pureT_lenS, ↓iteT, ↓iteF, cond_true, cond_false, eq_self, argE, Env.get, Env.push, ev, evs, evo, retV, Value.cells, Value.oneCell', setR, overR, fillL, zl, places, allSizes, heldC, ne_eq, Int.reduceLE, Int.reduceLT, Int.reduceEq, Int.reduceNe, Int.reduceToNat, Int.cast_ofNat_Int, Nat.reduceMul, Nat.reduceLeDiff, reduceIte, Nat.reduceEqDiff, Nat.reduceAdd, ↓reduceIte, Try.vcT, F, h.cell0, gets, vsD, if_true, if_false, Bool.false_eq_true]
  have hb4 := hbs
  refine Sep.rrNum 2 h rfl ?_
  clear h F
  intro w4 h
  (try simp only [nfD] at h); have F := h.facts; (try simp only [nfF, emp_fact, rds_fact, frm_fact, tab_fact, chn_fact, mapX_fact, two_fact] at F); try simp -dsimp only [↓vcA, vcB, vcD, ↓pureT_lenS, ↓iteT, ↓iteF, cond_true, cond_false, eq_self, argE, Env.get, Env.push, ev, evs, evo, retV, Value.cells, Value.oneCell', setR, overR, fillL, zl, places, allSizes, heldC, ne_eq, Int.reduceLE, Int.reduceLT, Int.reduceEq, Int.reduceNe, Int.reduceToNat, Int.cast_ofNat_Int, Nat.reduceMul, Nat.reduceLeDiff, reduceIte, Nat.reduceEqDiff, Nat.reduceAdd, ↓reduceIte, Try.vcT, F, h.cell0, gets, vsD, if_true, if_false, Bool.false_eq_true]
  have hn := num2_rng (e4 S) hbs
  have h := h.tabNil 159 9
  obtain ⟨N, hN⟩ := Int.eq_ofNat_of_zero_le hn.1
  have eN : ((e4 S).numV 2).toNat = N := by omega
  rw [hN] at hn
  rw [← (ag.num 2).1, hN]
  refine walkLoop2 8 [2, 4, 5] [13] (fun m vs w' => ∃ n t t' out a cc, m = n ∧ vs = [.int .i64 (n : Nat)] ∧ Agr t t' ∧ Sep w (fun _ => False) [blk b1 96 [.int .i64 0, .int .i64 0, .int .i64 0, .int .i64 0, .int .i64 0, .int .i64 0, .int .i64 0, .slice none 0 0, .slice none 0 0, .slice none 0 0, .slice none 0 0, .slice none 0 0, .slice none 0 0, .slice none 0 0, .slice none 0 0], blk b2 96 [.int .i64 (S.numV 3), .int .i64 ((S.numS 3).numV 3), .int .i64 (((S.numS 3).numS 3).numV 1), .int .i64 ((((S.numS 3).numS 3).numS 1).numV 2), .int .i64 (((((S.numS 3).numS 3).numS 1).numS 2).numV 2), .int .i64 ((((((S.numS 3).numS 3).numS 1).numS 2).numS 2).numV 2), .int .i64 (((((((S.numS 3).numS 3).numS 1).numS 2).numS 2).numS 2).numV 4), .slice aP (BV rP sP (dN S)).length cP, .slice aW (BV rW sW (e1 S)).length cW, .slice aPa (BV rPa sPa (e2 S)).length cPa, .slice aRe (BV rRe sRe (e3 S)).length cRe, .slice a out.length cc, .slice none 0 0, .slice none 0 0, .slice none 0 0], rdr 85 p t' Z, two (two (two (two (emp) (tab 37 2 (.slice aP (BV rP sP (dN S)).length cP) (BV rP sP (dN S)))) (tab 149 5 (.slice aW (BV rW sW (e1 S)).length cW) (BV rW sW (e1 S)))) (tab 153 2 (.slice aPa (BV rPa sPa (e2 S)).length cPa) (BV rPa sPa (e2 S)))) (tab 144 10 (.slice aRe (BV rRe sRe (e3 S)).length cRe) (BV rRe sRe (e3 S))), tab 159 9 (.slice a out.length cc) out] w' ∧
    Byt t.l ∧ itemsB rCa sCa N ((e4 S).numS 2) = (out ++ (itemsB rCa sCa n t).1, (itemsB rCa sCa n t).2) ∧ out.length + n ≤ 65535)
    (fun vs w' => ∃ n t' a cc, vs = [.int .i64 n] ∧ Agr (e5 S) t' ∧ Sep w (fun _ => False) [blk b1 96 [.int .i64 0, .int .i64 0, .int .i64 0, .int .i64 0, .int .i64 0, .int .i64 0, .int .i64 0, .slice none 0 0, .slice none 0 0, .slice none 0 0, .slice none 0 0, .slice none 0 0, .slice none 0 0, .slice none 0 0, .slice none 0 0], blk b2 96 [.int .i64 (S.numV 3), .int .i64 ((S.numS 3).numV 3), .int .i64 (((S.numS 3).numS 3).numV 1), .int .i64 ((((S.numS 3).numS 3).numS 1).numV 2), .int .i64 (((((S.numS 3).numS 3).numS 1).numS 2).numV 2), .int .i64 ((((((S.numS 3).numS 3).numS 1).numS 2).numS 2).numV 2), .int .i64 (((((((S.numS 3).numS 3).numS 1).numS 2).numS 2).numS 2).numV 4), .slice aP (BV rP sP (dN S)).length cP, .slice aW (BV rW sW (e1 S)).length cW, .slice aPa (BV rPa sPa (e2 S)).length cPa, .slice aRe (BV rRe sRe (e3 S)).length cRe, .slice a (BV rCa sCa (e4 S)).length cc, .slice none 0 0, .slice none 0 0, .slice none 0 0], rdr 85 p t' Z, two (two (two (two (emp) (tab 37 2 (.slice aP (BV rP sP (dN S)).length cP) (BV rP sP (dN S)))) (tab 149 5 (.slice aW (BV rW sW (e1 S)).length cW) (BV rW sW (e1 S)))) (tab 153 2 (.slice aPa (BV rPa sPa (e2 S)).length cPa) (BV rPa sPa (e2 S)))) (tab 144 10 (.slice aRe (BV rRe sRe (e3 S)).length cRe) (BV rRe sRe (e3 S))), tab 159 9 (.slice a (BV rCa sCa (e4 S)).length cc) (BV rCa sCa (e4 S))] w') (by kernel_rfl) ?_ ?_ ?_
  · simp -dsimp only [↓vcA, vcB, vcD, ↓pureT_lenS, ↓iteT, ↓iteF, cond_true, cond_false, eq_self, argE, Env.get, Env.push, ev, evs, evo, retV, Value.cells, Value.oneCell', setR, overR, fillL, zl, places, allSizes, heldC, ne_eq, Int.reduceLE, Int.reduceLT, Int.reduceEq, Int.reduceNe, Int.reduceToNat, Int.cast_ofNat_Int, Nat.reduceMul, Nat.reduceLeDiff, reduceIte, Nat.reduceEqDiff, Nat.reduceAdd, ↓reduceIte, Try.vcT, gets]
    exact ⟨_, N, _, _, [], none, 0, rfl, rfl, (ag.num 2).2, h, numS_byt _ 2 hbs, by simp, by simp; omega⟩
  · intro ks hk m vs w5 hi
    clear h F
    obtain ⟨n, t, t', out, a, cc, rfl, rfl, agt, h, hbt, hit, hlen⟩ := hi
    simp -dsimp only [gets, argE, List.zip_cons_cons, List.zip_nil_left, List.cons_append, List.nil_append, Env.get, Env.push, Option.bind_some, Option.map_some, Option.some.injEq, reduceIte, Nat.reduceEqDiff, Nat.reduceAdd, ↓reduceIte] at hk; subst hk
    have done : (itemsB rCa sCa m t).1 = [] ∧ (itemsB rCa sCa m t).2 = t → BV rCa sCa (e4 S) = out ∧ Agr (e5 S) t' := fun hd => by
      have x1 : BV rCa sCa (e4 S) = out := by unfold BV; rw [eN, hit, hd.1]; simp
      have x2 : e5 S = t := by unfold e5 BS; rw [eN, hit, hd.2]
      rw [x1, x2]; exact ⟨rfl, agt⟩
    obtain ⟨_, vr, hw, _⟩ := h.rdAt (i := 2) rfl
    have hc1 := hw.c1
    have hc0 := hw.c0
    have hbk := hw.bk
    match m, hit, hlen, done with
    | 0, hit, hlen, done =>
      have h0 : ¬ (0 : Int) < ((0 : Nat) : Int) := by omega
      obtain ⟨d1, d2⟩ := done ⟨rfl, rfl⟩
      (try simp only [nfD] at h); have F := h.facts; (try simp only [nfF, emp_fact, rds_fact, frm_fact, tab_fact, chn_fact, mapX_fact, two_fact] at F); try simp -dsimp only [↓vcA, vcB, vcD, ↓pureT_lenS, ↓iteT, ↓iteF, cond_true, cond_false, eq_self, argE, Env.get, Env.push, ev, evs, evo, retV, Value.cells, Value.oneCell', setR, overR, fillL, zl, places, allSizes, heldC, ne_eq, Int.reduceLE, Int.reduceLT, Int.reduceEq, Int.reduceNe, Int.reduceToNat, Int.cast_ofNat_Int, Nat.reduceMul, Nat.reduceLeDiff, reduceIte, Nat.reduceEqDiff, Nat.reduceAdd, ↓reduceIte, Try.vcT, F, h.cell0, gets, vsD, if_true, if_false, Bool.false_eq_true,  decide_eq_false h0, exitT_cut_exit, gets]
      refine ⟨0, t', a, cc, rfl, d2, ?_⟩
      rw [d1]; exact h
    | n + 1, hit, hlen, done =>
    have h0 : (0 : Int) < ((n + 1 : Nat) : Int) := by omega
    have en : IntKind.i64.wrap (((n + 1 : Nat) : Int) - 1) = (n : Int) := by rw [i64w _ (by omega) (by omega)]; omega
    cases hbad : t'.bad with
    | true =>
      rw [hbad] at hc1
      obtain ⟨d1, d2⟩ := done (by simp [itemsB, agt.bad, hbad])
      (try simp only [nfD] at h); have F := h.facts; (try simp only [nfF, emp_fact, rds_fact, frm_fact, tab_fact, chn_fact, mapX_fact, two_fact] at F); try simp -dsimp only [↓vcA, vcB, vcD, ↓pureT_lenS, ↓iteT, ↓iteF, cond_true, cond_false, eq_self, argE, Env.get, Env.push, ev, evs, evo, retV, Value.cells, Value.oneCell', setR, overR, fillL, zl, places, allSizes, heldC, ne_eq, Int.reduceLE, Int.reduceLT, Int.reduceEq, Int.reduceNe, Int.reduceToNat, Int.cast_ofNat_Int, Nat.reduceMul, Nat.reduceLeDiff, reduceIte, Nat.reduceEqDiff, Nat.reduceAdd, ↓reduceIte, Try.vcT, F, h.cell0, gets, vsD, if_true, if_false, Bool.false_eq_true,  decide_eq_true h0, hc1, exitT_cut_exit, gets]
      refine ⟨_, t', a, cc, rfl, d2, ?_⟩
      rw [d1]; exact h
    | false =>
    rw [hbad] at hc1 hbk
    have et : t = t' := agt.of_ok (by rw [agt.bad, hbad])
    subst et
    have hit2 : itemsB rCa sCa N ((e4 S).numS 2) = ((out ++ [rCa t]) ++ (itemsB rCa sCa n (sCa t)).1, (itemsB rCa sCa n (sCa t)).2) := by
      rw [hit]; simp [itemsB, hbad]
    obtain ⟨av, ags⟩ := agCa t
    (try simp only [nfD] at h); have F := h.facts; (try simp only [nfF, emp_fact, rds_fact, frm_fact, tab_fact, chn_fact, mapX_fact, two_fact] at F); try simp -dsimp only [↓vcA, vcB, vcD, ↓pureT_lenS, ↓iteT, ↓iteF, cond_true, cond_false, eq_self, argE, Env.get, Env.push, ev, evs, evo, retV, Value.cells, Value.oneCell', setR, overR, fillL, zl, places, allSizes, heldC, ne_eq, Int.reduceLE, Int.reduceLT, Int.reduceEq, Int.reduceNe, Int.reduceToNat, Int.cast_ofNat_Int, Nat.reduceMul, Nat.reduceLeDiff, reduceIte, Nat.reduceEqDiff, Nat.reduceAdd, ↓reduceIte, Try.vcT, F, h.cell0, gets, vsD, if_true, if_false, Bool.false_eq_true,  decide_eq_true h0, hc1]
    repeat ((first | refine Sep.new h ?_ | refine Sep.put 0 h rfl ?_ | refine Sep.put 1 h rfl ?_ | refine Sep.put 2 h rfl ?_ | refine Sep.put 3 h rfl ?_ | refine Sep.put 4 h rfl ?_ | refine Sep.put 5 h rfl ?_ | refine Sep.rrNum 2 h rfl ?_ | refine Sep.rrPoint 2 h rfl ?_ | refine Sep.rrTri 2 h rfl ?_ | refine Sep.put 5 h rfl ?_); (clear F; (try clear h); intros; rename_i h; (try simp only [nfD] at h); have F := h.facts; (try simp only [nfF, emp_fact, rds_fact, frm_fact, tab_fact, chn_fact, mapX_fact, two_fact] at F); try simp -dsimp only [↓vcA, vcB, vcD, ↓pureT_lenS, ↓iteT, ↓iteF, cond_true, cond_false, eq_self, argE, Env.get, Env.push, ev, evs, evo, retV, Value.cells, Value.oneCell', setR, overR, fillL, zl, places, allSizes, heldC, ne_eq, Int.reduceLE, Int.reduceLT, Int.reduceEq, Int.reduceNe, Int.reduceToNat, Int.cast_ofNat_Int, Nat.reduceMul, Nat.reduceLeDiff, reduceIte, Nat.reduceEqDiff, Nat.reduceAdd, ↓reduceIte, Try.vcT, F, h.cell0, gets, vsD, if_true, if_false, Bool.false_eq_true, cellsAt, T3.cells]))
    refine Sep.appTab 4 6 infoCa Try.underlying91 rfl (by decide) (rCa t) h rfl rfl rfl (by omega) (by simp only [maxLen]; omega) ?_
    clear h F
    intro a7 c7 w7 h
    (try simp only [nfD] at h); have F := h.facts; (try simp only [nfF, emp_fact, rds_fact, frm_fact, tab_fact, chn_fact, mapX_fact, two_fact] at F); try simp -dsimp only [↓vcA, vcB, vcD, ↓pureT_lenS, ↓iteT, ↓iteF, cond_true, cond_false, eq_self, argE, Env.get, Env.push, ev, evs, evo, retV, Value.cells, Value.oneCell', setR, overR, fillL, zl, places, allSizes, heldC, ne_eq, Int.reduceLE, Int.reduceLT, Int.reduceEq, Int.reduceNe, Int.reduceToNat, Int.cast_ofNat_Int, Nat.reduceMul, Nat.reduceLeDiff, reduceIte, Nat.reduceEqDiff, Nat.reduceAdd, ↓reduceIte, Try.vcT, F, h.cell0, gets, vsD, if_true, if_false, Bool.false_eq_true,  en]
    refine Sep.put 1 h rfl ?_
    clear h F
    intro w8 h
    (try simp only [nfD] at h); have F := h.facts; (try simp only [nfF, emp_fact, rds_fact, frm_fact, tab_fact, chn_fact, mapX_fact, two_fact] at F); try simp -dsimp only [↓vcA, vcB, vcD, ↓pureT_lenS, ↓iteT, ↓iteF, cond_true, cond_false, eq_self, argE, Env.get, Env.push, ev, evs, evo, retV, Value.cells, Value.oneCell', setR, overR, fillL, zl, places, allSizes, heldC, ne_eq, Int.reduceLE, Int.reduceLT, Int.reduceEq, Int.reduceNe, Int.reduceToNat, Int.cast_ofNat_Int, Nat.reduceMul, Nat.reduceLeDiff, reduceIte, Nat.reduceEqDiff, Nat.reduceAdd, ↓reduceIte, Try.vcT, F, h.cell0, gets, vsD, if_true, if_false, Bool.false_eq_true,  en]
    refine ⟨_, ?_, n, sCa t, sCa t, out ++ [rCa t], a7, c7, rfl, rfl, ags, by rw [av]; exact (h.erase 6).erase 5, sCa_byt hbt, hit2, by simp; omega⟩
    omega
  intro ks hk vs w5 hi
  clear h F ag hbs hn
  obtain ⟨n, t', aCa, cCa, rfl, ag, h⟩ := hi
  simp -dsimp only [gets, argE, List.zip_cons_cons, List.zip_nil_left, List.cons_append, List.nil_append, Env.get, Env.push, Option.bind_some, Option.map_some, Option.some.injEq, reduceIte, Nat.reduceEqDiff, Nat.reduceAdd, ↓reduceIte] at hk; subst hk
  clear hN eN N
  have hbs : Byt (e5 S).l := by
    unfold e5 BS
    exact itemsB_byt (f := rCa) (g := sCa) (fun s => sCa_byt (s := s)) _ _ (numS_byt _ 2 hb4)
  have h := (h.two 3 4 rfl rfl).erase 4
  (try simp only [nfD] at h); have F := h.facts; (try simp only [nfF, emp_fact, rds_fact, frm_fact, tab_fact, chn_fact, mapX_fact, two_fact] at F); try simp -dsimp only [↓vcA, vcB, vcD, ↓pureT_lenS, ↓iteT, ↓iteF, cond_true, cond_false, eq_self, argE, Env.get, Env.push, ev, evs, evo, retV, Value.cells, Value.oneCell', setR, overR, fillL, zl, places, allSizes, heldC, ne_eq, Int.reduceLE, Int.reduceLT, Int.reduceEq, Int.reduceNe, Int.reduceToNat, Int.cast_ofNat_Int, Nat.reduceMul, Nat.reduceLeDiff, reduceIte, Nat.reduceEqDiff, Nat.reduceAdd, ↓reduceIte, Try.vcT, F, h.cell0, gets, vsD, if_true, if_false, Bool.false_eq_true]
  have hb5 := hbs
  refine Sep.rrNum 2 h rfl ?_
  clear h F
  intro w4 h
  (try simp only [nfD] at h); have F := h.facts; (try simp only [nfF, emp_fact, rds_fact, frm_fact, tab_fact, chn_fact, mapX_fact, two_fact] at F); try simp -dsimp only [↓vcA, vcB, vcD, ↓pureT_lenS, ↓iteT, ↓iteF, cond_true, cond_false, eq_self, argE, Env.get, Env.push, ev, evs, evo, retV, Value.cells, Value.oneCell', setR, overR, fillL, zl, places, allSizes, heldC, ne_eq, Int.reduceLE, Int.reduceLT, Int.reduceEq, Int.reduceNe, Int.reduceToNat, Int.cast_ofNat_Int, Nat.reduceMul, Nat.reduceLeDiff, reduceIte, Nat.reduceEqDiff, Nat.reduceAdd, ↓reduceIte, Try.vcT, F, h.cell0, gets, vsD, if_true, if_false, Bool.false_eq_true]
  have hn := num2_rng (e5 S) hbs
  have h := h.tabNil 163 3
  obtain ⟨N, hN⟩ := Int.eq_ofNat_of_zero_le hn.1
  have eN : ((e5 S).numV 2).toNat = N := by omega
  rw [hN] at hn
  rw [← (ag.num 2).1, hN]
  refine walkLoop2 10 [2, 4, 5] [15] (fun m vs w' => ∃ n t t' out a cc, m = n ∧ vs = [.int .i64 (n : Nat)] ∧ Agr t t' ∧ Sep w (fun _ => False) [blk b1 96 [.int .i64 0, .int .i64 0, .int .i64 0, .int .i64 0, .int .i64 0, .int .i64 0, .int .i64 0, .slice none 0 0, .slice none 0 0, .slice none 0 0, .slice none 0 0, .slice none 0 0, .slice none 0 0, .slice none 0 0, .slice none 0 0], blk b2 96 [.int .i64 (S.numV 3), .int .i64 ((S.numS 3).numV 3), .int .i64 (((S.numS 3).numS 3).numV 1), .int .i64 ((((S.numS 3).numS 3).numS 1).numV 2), .int .i64 (((((S.numS 3).numS 3).numS 1).numS 2).numV 2), .int .i64 ((((((S.numS 3).numS 3).numS 1).numS 2).numS 2).numV 2), .int .i64 (((((((S.numS 3).numS 3).numS 1).numS 2).numS 2).numS 2).numV 4), .slice aP (BV rP sP (dN S)).length cP, .slice aW (BV rW sW (e1 S)).length cW, .slice aPa (BV rPa sPa (e2 S)).length cPa, .slice aRe (BV rRe sRe (e3 S)).length cRe, .slice aCa (BV rCa sCa (e4 S)).length cCa, .slice a out.length cc, .slice none 0 0, .slice none 0 0], rdr 85 p t' Z, two (two (two (two (two (emp) (tab 37 2 (.slice aP (BV rP sP (dN S)).length cP) (BV rP sP (dN S)))) (tab 149 5 (.slice aW (BV rW sW (e1 S)).length cW) (BV rW sW (e1 S)))) (tab 153 2 (.slice aPa (BV rPa sPa (e2 S)).length cPa) (BV rPa sPa (e2 S)))) (tab 144 10 (.slice aRe (BV rRe sRe (e3 S)).length cRe) (BV rRe sRe (e3 S)))) (tab 159 9 (.slice aCa (BV rCa sCa (e4 S)).length cCa) (BV rCa sCa (e4 S))), tab 163 3 (.slice a out.length cc) out] w' ∧
    Byt t.l ∧ itemsB rIs sIs N ((e5 S).numS 2) = (out ++ (itemsB rIs sIs n t).1, (itemsB rIs sIs n t).2) ∧ out.length + n ≤ 65535)
    (fun vs w' => ∃ n t' a cc, vs = [.int .i64 n] ∧ Agr (e6 S) t' ∧ Sep w (fun _ => False) [blk b1 96 [.int .i64 0, .int .i64 0, .int .i64 0, .int .i64 0, .int .i64 0, .int .i64 0, .int .i64 0, .slice none 0 0, .slice none 0 0, .slice none 0 0, .slice none 0 0, .slice none 0 0, .slice none 0 0, .slice none 0 0, .slice none 0 0], blk b2 96 [.int .i64 (S.numV 3), .int .i64 ((S.numS 3).numV 3), .int .i64 (((S.numS 3).numS 3).numV 1), .int .i64 ((((S.numS 3).numS 3).numS 1).numV 2), .int .i64 (((((S.numS 3).numS 3).numS 1).numS 2).numV 2), .int .i64 ((((((S.numS 3).numS 3).numS 1).numS 2).numS 2).numV 2), .int .i64 (((((((S.numS 3).numS 3).numS 1).numS 2).numS 2).numS 2).numV 4), .slice aP (BV rP sP (dN S)).length cP, .slice aW (BV rW sW (e1 S)).length cW, .slice aPa (BV rPa sPa (e2 S)).length cPa, .slice aRe (BV rRe sRe (e3 S)).length cRe, .slice aCa (BV rCa sCa (e4 S)).length cCa, .slice a (BV rIs sIs (e5 S)).length cc, .slice none 0 0, .slice none 0 0], rdr 85 p t' Z, two (two (two (two (two (emp) (tab 37 2 (.slice aP (BV rP sP (dN S)).length cP) (BV rP sP (dN S)))) (tab 149 5 (.slice aW (BV rW sW (e1 S)).length cW) (BV rW sW (e1 S)))) (tab 153 2 (.slice aPa (BV rPa sPa (e2 S)).length cPa) (BV rPa sPa (e2 S)))) (tab 144 10 (.slice aRe (BV rRe sRe (e3 S)).length cRe) (BV rRe sRe (e3 S)))) (tab 159 9 (.slice aCa (BV rCa sCa (e4 S)).length cCa) (BV rCa sCa (e4 S))), tab 163 3 (.slice a (BV rIs sIs (e5 S)).length cc) (BV rIs sIs (e5 S))] w') (by kernel_rfl) ?_ ?_ ?_
  · simp -dsimp only [↓vcA, vcB, vcD, ↓pureT_lenS, ↓iteT, ↓iteF, cond_true, cond_false, eq_self, argE, Env.get, Env.push, ev, evs, evo, retV, Value.cells, Value.oneCell', setR, overR, fillL, zl, places, allSizes, heldC, ne_eq, Int.reduceLE, Int.reduceLT, Int.reduceEq, Int.reduceNe, Int.reduceToNat, Int.cast_ofNat_Int, Nat.reduceMul, Nat.reduceLeDiff, reduceIte, Nat.reduceEqDiff, Nat.reduceAdd, ↓reduceIte, Try.vcT, gets]
    exact ⟨_, N, _, _, [], none, 0, rfl, rfl, (ag.num 2).2, h, numS_byt _ 2 hbs, by simp, by simp; omega⟩
  · intro ks hk m vs w5 hi
    clear h F
    obtain ⟨n, t, t', out, a, cc, rfl, rfl, agt, h, hbt, hit, hlen⟩ := hi
    simp -dsimp only [gets, argE, List.zip_cons_cons, List.zip_nil_left, List.cons_append, List.nil_append, Env.get, Env.push, Option.bind_some, Option.map_some, Option.some.injEq, reduceIte, Nat.reduceEqDiff, Nat.reduceAdd, ↓reduceIte] at hk; subst hk
    have done : (itemsB rIs sIs m t).1 = [] ∧ (itemsB rIs sIs m t).2 = t → BV rIs sIs (e5 S) = out ∧ Agr (e6 S) t' := fun hd => by
      have x1 : BV rIs sIs (e5 S) = out := by unfold BV; rw [eN, hit, hd.1]; simp
      have x2 : e6 S = t := by unfold e6 BS; rw [eN, hit, hd.2]
      rw [x1, x2]; exact ⟨rfl, agt⟩
    obtain ⟨_, vr, hw, _⟩ := h.rdAt (i := 2) rfl
    have hc1 := hw.c1
    have hc0 := hw.c0
    have hbk := hw.bk
    match m, hit, hlen, done with
    | 0, hit, hlen, done =>
      have h0 : ¬ (0 : Int) < ((0 : Nat) : Int) := by omega
      obtain ⟨d1, d2⟩ := done ⟨rfl, rfl⟩
      (try simp only [nfD] at h); have F := h.facts; (try simp only [nfF, emp_fact, rds_fact, frm_fact, tab_fact, chn_fact, mapX_fact, two_fact] at F); try simp -dsimp only [↓vcA, vcB, vcD, ↓pureT_lenS, ↓iteT, ↓iteF, cond_true, cond_false, eq_self, argE, Env.get, Env.push, ev, evs, evo, retV, Value.cells, Value.oneCell', setR, overR, fillL, zl, places, allSizes, heldC, ne_eq, Int.reduceLE, Int.reduceLT, Int.reduceEq, Int.reduceNe, Int.reduceToNat, Int.cast_ofNat_Int, Nat.reduceMul, Nat.reduceLeDiff, reduceIte, Nat.reduceEqDiff, Nat.reduceAdd, ↓reduceIte, Try.vcT, F, h.cell0, gets, vsD, if_true, if_false, Bool.false_eq_true,  decide_eq_false h0, exitT_cut_exit, gets]
      refine ⟨0, t', a, cc, rfl, d2, ?_⟩
      rw [d1]; exact h
    | n + 1, hit, hlen, done =>
    have h0 : (0 : Int) < ((n + 1 : Nat) : Int) := by omega
    have en : IntKind.i64.wrap (((n + 1 : Nat) : Int) - 1) = (n : Int) := by rw [i64w _ (by omega) (by omega)]; omega
    cases hbad : t'.bad with
    | true =>
      rw [hbad] at hc1
      obtain ⟨d1, d2⟩ := done (by simp [itemsB, agt.bad, hbad])
      (try simp only [nfD] at h); have F := h.facts; (try simp only [nfF, emp_fact, rds_fact, frm_fact, tab_fact, chn_fact, mapX_fact, two_fact] at F); try simp -dsimp only [↓vcA, vcB, vcD, ↓pureT_lenS, ↓iteT, ↓iteF, cond_true, cond_false, eq_self, argE, Env.get, Env.push, ev, evs, evo, retV, Value.cells, Value.oneCell', setR, overR, fillL, zl, places, allSizes, heldC, ne_eq, Int.reduceLE, Int.reduceLT, Int.reduceEq, Int.reduceNe, Int.reduceToNat, Int.cast_ofNat_Int, Nat.reduceMul, Nat.reduceLeDiff, reduceIte, Nat.reduceEqDiff, Nat.reduceAdd, ↓reduceIte, Try.vcT, F, h.cell0, gets, vsD, if_true, if_false, Bool.false_eq_true,  decide_eq_true h0, hc1, exitT_cut_exit, gets]
      refine ⟨_, t', a, cc, rfl, d2, ?_⟩
      rw [d1]; exact h
    | false =>
    rw [hbad] at hc1 hbk
    have et : t = t' := agt.of_ok (by rw [agt.bad, hbad])
    subst et
    have hit2 : itemsB rIs sIs N ((e5 S).numS 2) = ((out ++ [rIs t]) ++ (itemsB rIs sIs n (sIs t)).1, (itemsB rIs sIs n (sIs t)).2) := by
      rw [hit]; simp [itemsB, hbad]
    obtain ⟨av, ags⟩ := agIs t
    (try simp only [nfD] at h); have F := h.facts; (try simp only [nfF, emp_fact, rds_fact, frm_fact, tab_fact, chn_fact, mapX_fact, two_fact] at F); try simp -dsimp only [↓vcA, vcB, vcD, ↓pureT_lenS, ↓iteT, ↓iteF, cond_true, cond_false, eq_self, argE, Env.get, Env.push, ev, evs, evo, retV, Value.cells, Value.oneCell', setR, overR, fillL, zl, places, allSizes, heldC, ne_eq, Int.reduceLE, Int.reduceLT, Int.reduceEq, Int.reduceNe, Int.reduceToNat, Int.cast_ofNat_Int, Nat.reduceMul, Nat.reduceLeDiff, reduceIte, Nat.reduceEqDiff, Nat.reduceAdd, ↓reduceIte, Try.vcT, F, h.cell0, gets, vsD, if_true, if_false, Bool.false_eq_true,  decide_eq_true h0, hc1]
    repeat ((first | refine Sep.new h ?_ | refine Sep.put 0 h rfl ?_ | refine Sep.put 1 h rfl ?_ | refine Sep.put 2 h rfl ?_ | refine Sep.put 3 h rfl ?_ | refine Sep.put 4 h rfl ?_ | refine Sep.put 5 h rfl ?_ | refine Sep.rrNum 2 h rfl ?_ | refine Sep.rrPoint 2 h rfl ?_ | refine Sep.rrTri 2 h rfl ?_ | refine Sep.put 5 h rfl ?_); (clear F; (try clear h); intros; rename_i h; (try simp only [nfD] at h); have F := h.facts; (try simp only [nfF, emp_fact, rds_fact, frm_fact, tab_fact, chn_fact, mapX_fact, two_fact] at F); try simp -dsimp only [↓vcA, vcB, vcD, ↓pureT_lenS, ↓iteT, ↓iteF, cond_true, cond_false, eq_self, argE, Env.get, Env.push, ev, evs, evo, retV, Value.cells, Value.oneCell', setR, overR, fillL, zl, places, allSizes, heldC, ne_eq, Int.reduceLE, Int.reduceLT, Int.reduceEq, Int.reduceNe, Int.reduceToNat, Int.cast_ofNat_Int, Nat.reduceMul, Nat.reduceLeDiff, reduceIte, Nat.reduceEqDiff, Nat.reduceAdd, ↓reduceIte, Try.vcT, F, h.cell0, gets, vsD, if_true, if_false, Bool.false_eq_true, cellsAt, T3.cells]))
    refine Sep.appTab 4 6 infoIs Try.underlying92 rfl (by decide) (rIs t) h rfl rfl rfl (by omega) (by simp only [maxLen]; omega) ?_
    clear h F
    intro a7 c7 w7 h
    (try simp only [nfD] at h); have F := h.facts; (try simp only [nfF, emp_fact, rds_fact, frm_fact, tab_fact, chn_fact, mapX_fact, two_fact] at F); try simp -dsimp only [↓vcA, vcB, vcD, ↓pureT_lenS, ↓iteT, ↓iteF, cond_true, cond_false, eq_self, argE, Env.get, Env.push, ev, evs, evo, retV, Value.cells, Value.oneCell', setR, overR, fillL, zl, places, allSizes, heldC, ne_eq, Int.reduceLE, Int.reduceLT, Int.reduceEq, Int.reduceNe, Int.reduceToNat, Int.cast_ofNat_Int, Nat.reduceMul, Nat.reduceLeDiff, reduceIte, Nat.reduceEqDiff, Nat.reduceAdd, ↓reduceIte, Try.vcT, F, h.cell0, gets, vsD, if_true, if_false, Bool.false_eq_true,  en]
    refine Sep.put 1 h rfl ?_
    clear h F
    intro w8 h
    (try simp only [nfD] at h); have F := h.facts; (try simp only [nfF, emp_fact, rds_fact, frm_fact, tab_fact, chn_fact, mapX_fact, two_fact] at F); try simp -dsimp only [↓vcA, vcB, vcD, ↓pureT_lenS, ↓iteT, ↓iteF, cond_true, cond_false, eq_self, argE, Env.get, Env.push, ev, evs, evo, retV, Value.cells, Value.oneCell', setR, overR, fillL, zl, places, allSizes, heldC, ne_eq, Int.reduceLE, Int.reduceLT, Int.reduceEq, Int.reduceNe, Int.reduceToNat, Int.cast_ofNat_Int, Nat.reduceMul, Nat.reduceLeDiff, reduceIte, Nat.reduceEqDiff, Nat.reduceAdd, ↓reduceIte, Try.vcT, F, h.cell0, gets, vsD, if_true, if_false, Bool.false_eq_true,  en]
    refine ⟨_, ?_, n, sIs t, sIs t, out ++ [rIs t], a7, c7, rfl, rfl, ags, by rw [av]; exact (h.erase 6).erase 5, sIs_byt hbt, hit2, by simp; omega⟩
    omega
  intro ks hk vs w5 hi
  clear h F ag hbs hn
  obtain ⟨n, t', aIs, cIs, rfl, ag, h⟩ := hi
  simp -dsimp only [gets, argE, List.zip_cons_cons, List.zip_nil_left, List.cons_append, List.nil_append, Env.get, Env.push, Option.bind_some, Option.map_some, Option.some.injEq, reduceIte, Nat.reduceEqDiff, Nat.reduceAdd, ↓reduceIte] at hk; subst hk
  clear hN eN N
  have hbs : Byt (e6 S).l := by
    unfold e6 BS
    exact itemsB_byt (f := rIs) (g := sIs) (fun s => sIs_byt (s := s)) _ _ (numS_byt _ 2 hb5)
  have h := (h.two 3 4 rfl rfl).erase 4
  (try simp only [nfD] at h); have F := h.facts; (try simp only [nfF, emp_fact, rds_fact, frm_fact, tab_fact, chn_fact, mapX_fact, two_fact] at F); try simp -dsimp only [↓vcA, vcB, vcD, ↓pureT_lenS, ↓iteT, ↓iteF, cond_true, cond_false, eq_self, argE, Env.get, Env.push, ev, evs, evo, retV, Value.cells, Value.oneCell', setR, overR, fillL, zl, places, allSizes, heldC, ne_eq, Int.reduceLE, Int.reduceLT, Int.reduceEq, Int.reduceNe, Int.reduceToNat, Int.cast_ofNat_Int, Nat.reduceMul, Nat.reduceLeDiff, reduceIte, Nat.reduceEqDiff, Nat.reduceAdd, ↓reduceIte, Try.vcT, F, h.cell0, gets, vsD, if_true, if_false, Bool.false_eq_true]
  have hb6 := hbs
  refine Sep.rrNum 2 h rfl ?_
  clear h F
  intro w4 h
  (try simp only [nfD] at h); have F := h.facts; (try simp only [nfF, emp_fact, rds_fact, frm_fact, tab_fact, chn_fact, mapX_fact, two_fact] at F); try simp -dsimp only [↓vcA, vcB, vcD, ↓pureT_lenS, ↓iteT, ↓iteF, cond_true, cond_false, eq_self, argE, Env.get, Env.push, ev, evs, evo, retV, Value.cells, Value.oneCell', setR, overR, fillL, zl, places, allSizes, heldC, ne_eq, Int.reduceLE, Int.reduceLT, Int.reduceEq, Int.reduceNe, Int.reduceToNat, Int.cast_ofNat_Int, Nat.reduceMul, Nat.reduceLeDiff, reduceIte, Nat.reduceEqDiff, Nat.reduceAdd, ↓reduceIte, Try.vcT, F, h.cell0, gets, vsD, if_true, if_false, Bool.false_eq_true]
  have hn := num2_rng (e6 S) hbs
  have h := h.tabNil 167 3
  obtain ⟨N, hN⟩ := Int.eq_ofNat_of_zero_le hn.1
  have eN : ((e6 S).numV 2).toNat = N := by omega
  rw [hN] at hn
  rw [← (ag.num 2).1, hN]
  refine walkLoop2 12 [2, 4, 5] [17] (fun m vs w' => ∃ n t t' out a cc, m = n ∧ vs = [.int .i64 (n : Nat)] ∧ Agr t t' ∧ Sep w (fun _ => False) [blk b1 96 [.int .i64 0, .int .i64 0, .int .i64 0, .int .i64 0, .int .i64 0, .int .i64 0, .int .i64 0, .slice none 0 0, .slice none 0 0, .slice none 0 0, .slice none 0 0, .slice none 0 0, .slice none 0 0, .slice none 0 0, .slice none 0 0], blk b2 96 [.int .i64 (S.numV 3), .int .i64 ((S.numS 3).numV 3), .int .i64 (((S.numS 3).numS 3).numV 1), .int .i64 ((((S.numS 3).numS 3).numS 1).numV 2), .int .i64 (((((S.numS 3).numS 3).numS 1).numS 2).numV 2), .int .i64 ((((((S.numS 3).numS 3).numS 1).numS 2).numS 2).numV 2), .int .i64 (((((((S.numS 3).numS 3).numS 1).numS 2).numS 2).numS 2).numV 4), .slice aP (BV rP sP (dN S)).length cP, .slice aW (BV rW sW (e1 S)).length cW, .slice aPa (BV rPa sPa (e2 S)).length cPa, .slice aRe (BV rRe sRe (e3 S)).length cRe, .slice aCa (BV rCa sCa (e4 S)).length cCa, .slice aIs (BV rIs sIs (e5 S)).length cIs, .slice a out.length cc, .slice none 0 0], rdr 85 p t' Z, two (two (two (two (two (two (emp) (tab 37 2 (.slice aP (BV rP sP (dN S)).length cP) (BV rP sP (dN S)))) (tab 149 5 (.slice aW (BV rW sW (e1 S)).length cW) (BV rW sW (e1 S)))) (tab 153 2 (.slice aPa (BV rPa sPa (e2 S)).length cPa) (BV rPa sPa (e2 S)))) (tab 144 10 (.slice aRe (BV rRe sRe (e3 S)).length cRe) (BV rRe sRe (e3 S)))) (tab 159 9 (.slice aCa (BV rCa sCa (e4 S)).length cCa) (BV rCa sCa (e4 S)))) (tab 163 3 (.slice aIs (BV rIs sIs (e5 S)).length cIs) (BV rIs sIs (e5 S))), tab 167 3 (.slice a out.length cc) out] w' ∧
    Byt t.l ∧ itemsB rCo sCo N ((e6 S).numS 2) = (out ++ (itemsB rCo sCo n t).1, (itemsB rCo sCo n t).2) ∧ out.length + n ≤ 65535)
    (fun vs w' => ∃ n t' a cc, vs = [.int .i64 n] ∧ Agr (e7 S) t' ∧ Sep w (fun _ => False) [blk b1 96 [.int .i64 0, .int .i64 0, .int .i64 0, .int .i64 0, .int .i64 0, .int .i64 0, .int .i64 0, .slice none 0 0, .slice none 0 0, .slice none 0 0, .slice none 0 0, .slice none 0 0, .slice none 0 0, .slice none 0 0, .slice none 0 0], blk b2 96 [.int .i64 (S.numV 3), .int .i64 ((S.numS 3).numV 3), .int .i64 (((S.numS 3).numS 3).numV 1), .int .i64 ((((S.numS 3).numS 3).numS 1).numV 2), .int .i64 (((((S.numS 3).numS 3).numS 1).numS 2).numV 2), .int .i64 ((((((S.numS 3).numS 3).numS 1).numS 2).numS 2).numV 2), .int .i64 (((((((S.numS 3).numS 3).numS 1).numS 2).numS 2).numS 2).numV 4), .slice aP (BV rP sP (dN S)).length cP, .slice aW (BV rW sW (e1 S)).length cW, .slice aPa (BV rPa sPa (e2 S)).length cPa, .slice aRe (BV rRe sRe (e3 S)).length cRe, .slice aCa (BV rCa sCa (e4 S)).length cCa, .slice aIs (BV rIs sIs (e5 S)).length cIs, .slice a (BV rCo sCo (e6 S)).length cc, .slice none 0 0], rdr 85 p t' Z, two (two (two (two (two (two (emp) (tab 37 2 (.slice aP (BV rP sP (dN S)).length cP) (BV rP sP (dN S)))) (tab 149 5 (.slice aW (BV rW sW (e1 S)).length cW) (BV rW sW (e1 S)))) (tab 153 2 (.slice aPa (BV rPa sPa (e2 S)).length cPa) (BV rPa sPa (e2 S)))) (tab 144 10 (.slice aRe (BV rRe sRe (e3 S)).length cRe) (BV rRe sRe (e3 S)))) (tab 159 9 (.slice aCa (BV rCa sCa (e4 S)).length cCa) (BV rCa sCa (e4 S)))) (tab 163 3 (.slice aIs (BV rIs sIs (e5 S)).length cIs) (BV rIs sIs (e5 S))), tab 167 3 (.slice a (BV rCo sCo (e6 S)).length cc) (BV rCo sCo (e6 S))] w') (by kernel_rfl) ?_ ?_ ?_
  · simp -dsimp only [↓vcA, vcB, vcD, ↓pureT_lenS, ↓iteT, ↓iteF, cond_true, cond_false, eq_self, argE, Env.get, Env.push, ev, evs, evo, retV, Value.cells, Value.oneCell', setR, overR, fillL, zl, places, allSizes, heldC, ne_eq, Int.reduceLE, Int.reduceLT, Int.reduceEq, Int.reduceNe, Int.reduceToNat, Int.cast_ofNat_Int, Nat.reduceMul, Nat.reduceLeDiff, reduceIte, Nat.reduceEqDiff, Nat.reduceAdd, ↓reduceIte, Try.vcT, gets]
    exact ⟨_, N, _, _, [], none, 0, rfl, rfl, (ag.num 2).2, h, numS_byt _ 2 hbs, by simp, by simp; omega⟩
  · intro ks hk m vs w5 hi
    clear h F
    obtain ⟨n, t, t', out, a, cc, rfl, rfl, agt, h, hbt, hit, hlen⟩ := hi
    simp -dsimp only [gets, argE, List.zip_cons_cons, List.zip_nil_left, List.cons_append, List.nil_append, Env.get, Env.push, Option.bind_some, Option.map_some, Option.some.injEq, reduceIte, Nat.reduceEqDiff, Nat.reduceAdd, ↓reduceIte] at hk; subst hk
    have done : (itemsB rCo sCo m t).1 = [] ∧ (itemsB rCo sCo m t).2 = t → BV rCo sCo (e6 S) = out ∧ Agr (e7 S) t' := fun hd => by
      have x1 : BV rCo sCo (e6 S) = out := by unfold BV; rw [eN, hit, hd.1]; simp
      have x2 : e7 S = t := by unfold e7 BS; rw [eN, hit, hd.2]
      rw [x1, x2]; exact ⟨rfl, agt⟩
    obtain ⟨_, vr, hw, _⟩ := h.rdAt (i := 2) rfl
    have hc1 := hw.c1
    have hc0 := hw.c0
    have hbk := hw.bk
    match m, hit, hlen, done with
    | 0, hit, hlen, done =>
      have h0 : ¬ (0 : Int) < ((0 : Nat) : Int) := by omega
      obtain ⟨d1, d2⟩ := done ⟨rfl, rfl⟩
      (try simp only [nfD] at h); have F := h.facts; (try simp only [nfF, emp_fact, rds_fact, frm_fact, tab_fact, chn_fact, mapX_fact, two_fact] at F); try simp -dsimp only [↓vcA, vcB, vcD, ↓pureT_lenS, ↓iteT, ↓iteF, cond_true, cond_false, eq_self, argE, Env.get, Env.push, ev, evs, evo, retV, Value.cells, Value.oneCell', setR, overR, fillL, zl, places, allSizes, heldC, ne_eq, Int.reduceLE, Int.reduceLT, Int.reduceEq, Int.reduceNe, Int.reduceToNat, Int.cast_ofNat_Int, Nat.reduceMul, Nat.reduceLeDiff, reduceIte, Nat.reduceEqDiff, Nat.reduceAdd, ↓reduceIte, Try.vcT, F, h.cell0, gets, vsD, if_true, if_false, Bool.false_eq_true,  decide_eq_false h0, exitT_cut_exit, gets]
      refine ⟨0, t', a, cc, rfl, d2, ?_⟩
      rw [d1]; exact h
    | n + 1, hit, hlen, done =>
    have h0 : (0 : Int) < ((n + 1 : Nat) : Int) := by omega
    have en : IntKind.i64.wrap (((n + 1 : Nat) : Int) - 1) = (n : Int) := by rw [i64w _ (by omega) (by omega)]; omega
    cases hbad : t'.bad with
    | true =>
      rw [hbad] at hc1
      obtain ⟨d1, d2⟩ := done (by simp [itemsB, agt.bad, hbad])
      (try simp only [nfD] at h); have F := h.facts; (try simp only [nfF, emp_fact, rds_fact, frm_fact, tab_fact, chn_fact, mapX_fact, two_fact] at F); try simp -dsimp only [↓vcA, vcB, vcD, ↓pureT_lenS, ↓iteT, ↓iteF, cond_true, cond_false, eq_self, argE, Env.get, Env.push, ev, evs, evo, retV, Value.cells, Value.oneCell', setR, overR, fillL, zl, places, allSizes, heldC, ne_eq, Int.reduceLE, Int.reduceLT, Int.reduceEq, Int.reduceNe, Int.reduceToNat, Int.cast_ofNat_Int, Nat.reduceMul, Nat.reduceLeDiff, reduceIte, Nat.reduceEqDiff, Nat.reduceAdd, ↓reduceIte, Try.vcT, F, h.cell0, gets, vsD, if_true, if_false, Bool.false_eq_true,  decide_eq_true h0, hc1, exitT_cut_exit, gets]
      refine ⟨_, t', a, cc, rfl, d2, ?_⟩
      rw [d1]; exact h
    | false =>
    rw [hbad] at hc1 hbk
    have et : t = t' := agt.of_ok (by rw [agt.bad, hbad])
    subst et
    have hit2 : itemsB rCo sCo N ((e6 S).numS 2) = ((out ++ [rCo t]) ++ (itemsB rCo sCo n (sCo t)).1, (itemsB rCo sCo n (sCo t)).2) := by
      rw [hit]; simp [itemsB, hbad]
    obtain ⟨av, ags⟩ := agCo t
    (try simp only [nfD] at h); have F := h.facts; (try simp only [nfF, emp_fact, rds_fact, frm_fact, tab_fact, chn_fact, mapX_fact, two_fact] at F); try simp -dsimp only [↓vcA, vcB, vcD, ↓pureT_lenS, ↓iteT, ↓iteF, cond_true, cond_false, eq_self, argE, Env.get, Env.push, ev, evs, evo, retV, Value.cells, Value.oneCell', setR, overR, fillL, zl, places, allSizes, heldC, ne_eq, Int.reduceLE, Int.reduceLT, Int.reduceEq, Int.reduceNe, Int.reduceToNat, Int.cast_ofNat_Int, Nat.reduceMul, Nat.reduceLeDiff, reduceIte, Nat.reduceEqDiff, Nat.reduceAdd, ↓reduceIte, Try.vcT, F, h.cell0, gets, vsD, if_true, if_false, Bool.false_eq_true,  decide_eq_true h0, hc1]
    repeat ((first | refine Sep.new h ?_ | refine Sep.put 0 h rfl ?_ | refine Sep.put 1 h rfl ?_ | refine Sep.put 2 h rfl ?_ | refine Sep.put 3 h rfl ?_ | refine Sep.put 4 h rfl ?_ | refine Sep.put 5 h rfl ?_ | refine Sep.rrNum 2 h rfl ?_ | refine Sep.rrPoint 2 h rfl ?_ | refine Sep.rrTri 2 h rfl ?_ | refine Sep.put 5 h rfl ?_); (clear F; (try clear h); intros; rename_i h; (try simp only [nfD] at h); have F := h.facts; (try simp only [nfF, emp_fact, rds_fact, frm_fact, tab_fact, chn_fact, mapX_fact, two_fact] at F); try simp -dsimp only [↓vcA, vcB, vcD, ↓pureT_lenS, ↓iteT, ↓iteF, cond_true, cond_false, eq_self, argE, Env.get, Env.push, ev, evs, evo, retV, Value.cells, Value.oneCell', setR, overR, fillL, zl, places, allSizes, heldC, ne_eq, Int.reduceLE, Int.reduceLT, Int.reduceEq, Int.reduceNe, Int.reduceToNat, Int.cast_ofNat_Int, Nat.reduceMul, Nat.reduceLeDiff, reduceIte, Nat.reduceEqDiff, Nat.reduceAdd, ↓reduceIte, Try.vcT, F, h.cell0, gets, vsD, if_true, if_false, Bool.false_eq_true, cellsAt, T3.cells]))
    refine Sep.appTab 4 6 infoCo Try.underlying93 rfl (by decide) (rCo t) h rfl rfl rfl (by omega) (by simp only [maxLen]; omega) ?_
    clear h F
    intro a7 c7 w7 h
    (try simp only [nfD] at h); have F := h.facts; (try simp only [nfF, emp_fact, rds_fact, frm_fact, tab_fact, chn_fact, mapX_fact, two_fact] at F); try simp -dsimp only [↓vcA, vcB, vcD, ↓pureT_lenS, ↓iteT, ↓iteF, cond_true, cond_false, eq_self, argE, Env.get, Env.push, ev, evs, evo, retV, Value.cells, Value.oneCell', setR, overR, fillL, zl, places, allSizes, heldC, ne_eq, Int.reduceLE, Int.reduceLT, Int.reduceEq, Int.reduceNe, Int.reduceToNat, Int.cast_ofNat_Int, Nat.reduceMul, Nat.reduceLeDiff, reduceIte, Nat.reduceEqDiff, Nat.reduceAdd, ↓reduceIte, Try.vcT, F, h.cell0, gets, vsD, if_true, if_false, Bool.false_eq_true,  en]
    refine Sep.put 1 h rfl ?_
    clear h F
    intro w8 h
    (try simp only [nfD] at h); have F := h.facts; (try simp only [nfF, emp_fact, rds_fact, frm_fact, tab_fact, chn_fact, mapX_fact, two_fact] at F); try simp -dsimp only [↓vcA, vcB, vcD, ↓pureT_lenS, ↓iteT, ↓iteF, cond_true, cond_false, eq_self, argE, Env.get, Env.push, ev, evs, evo, retV, Value.cells, Value.oneCell', setR, overR, fillL, zl, places, allSizes, heldC, ne_eq, Int.reduceLE, Int.reduceLT, Int.reduceEq, Int.reduceNe, Int.reduceToNat, Int.cast_ofNat_Int, Nat.reduceMul, Nat.reduceLeDiff, reduceIte, Nat.reduceEqDiff, Nat.reduceAdd, ↓reduceIte, Try.vcT, F, h.cell0, gets, vsD, if_true, if_false, Bool.false_eq_true,  en]
    refine ⟨_, ?_, n, sCo t, sCo t, out ++ [rCo t], a7, c7, rfl, rfl, ags, by rw [av]; exact (h.erase 6).erase 5, sCo_byt hbt, hit2, by simp; omega⟩
    omega
  intro ks hk vs w5 hi
  clear h F ag hbs hn
  obtain ⟨n, t', aCo, cCo, rfl, ag, h⟩ := hi
  simp -dsimp only [gets, argE, List.zip_cons_cons, List.zip_nil_left, List.cons_append, List.nil_append, Env.get, Env.push, Option.bind_some, Option.map_some, Option.some.injEq, reduceIte, Nat.reduceEqDiff, Nat.reduceAdd, ↓reduceIte] at hk; subst hk
  clear hN eN N
  have hbs : Byt (e7 S).l := by
    unfold e7 BS
    exact itemsB_byt (f := rCo) (g := sCo) (fun s => sCo_byt (s := s)) _ _ (numS_byt _ 2 hb6)
  have h := (h.two 3 4 rfl rfl).erase 4
  (try simp only [nfD] at h); have F := h.facts; (try simp only [nfF, emp_fact, rds_fact, frm_fact, tab_fact, chn_fact, mapX_fact, two_fact] at F); try simp -dsimp only [↓vcA, vcB, vcD, ↓pureT_lenS, ↓iteT, ↓iteF, cond_true, cond_false, eq_self, argE, Env.get, Env.push, ev, evs, evo, retV, Value.cells, Value.oneCell', setR, overR, fillL, zl, places, allSizes, heldC, ne_eq, Int.reduceLE, Int.reduceLT, Int.reduceEq, Int.reduceNe, Int.reduceToNat, Int.cast_ofNat_Int, Nat.reduceMul, Nat.reduceLeDiff, reduceIte, Nat.reduceEqDiff, Nat.reduceAdd, ↓reduceIte, Try.vcT, F, h.cell0, gets, vsD, if_true, if_false, Bool.false_eq_true]
  have hb7 := hbs
  refine Sep.rrNum 2 h rfl ?_
  clear h F
  intro w4 h
  (try simp only [nfD] at h); have F := h.facts; (try simp only [nfF, emp_fact, rds_fact, frm_fact, tab_fact, chn_fact, mapX_fact, two_fact] at F); try simp -dsimp only [↓vcA, vcB, vcD, ↓pureT_lenS, ↓iteT, ↓iteF, cond_true, cond_false, eq_self, argE, Env.get, Env.push, ev, evs, evo, retV, Value.cells, Value.oneCell', setR, overR, fillL, zl, places, allSizes, heldC, ne_eq, Int.reduceLE, Int.reduceLT, Int.reduceEq, Int.reduceNe, Int.reduceToNat, Int.cast_ofNat_Int, Nat.reduceMul, Nat.reduceLeDiff, reduceIte, Nat.reduceEqDiff, Nat.reduceAdd, ↓reduceIte, Try.vcT, F, h.cell0, gets, vsD, if_true, if_false, Bool.false_eq_true]
  have hn := num2_rng (e7 S) hbs
  have h := h.chnNil
  obtain ⟨N, hN⟩ := Int.eq_ofNat_of_zero_le hn.1
  have eN : ((e7 S).numV 2).toNat = N := by omega
  rw [hN] at hn
  rw [← (ag.num 2).1, hN]
  refine walkLoop2 14 [2, 4, 5] [19] (fun m vs w' => ∃ n t t' out a cc, m = n ∧ vs = [.int .i64 (n : Nat)] ∧ Agr t t' ∧ Sep w (fun _ => False) [blk b1 96 [.int .i64 0, .int .i64 0, .int .i64 0, .int .i64 0, .int .i64 0, .int .i64 0, .int .i64 0, .slice none 0 0, .slice none 0 0, .slice none 0 0, .slice none 0 0, .slice none 0 0, .slice none 0 0, .slice none 0 0, .slice none 0 0], blk b2 96 [.int .i64 (S.numV 3), .int .i64 ((S.numS 3).numV 3), .int .i64 (((S.numS 3).numS 3).numV 1), .int .i64 ((((S.numS 3).numS 3).numS 1).numV 2), .int .i64 (((((S.numS 3).numS 3).numS 1).numS 2).numV 2), .int .i64 ((((((S.numS 3).numS 3).numS 1).numS 2).numS 2).numV 2), .int .i64 (((((((S.numS 3).numS 3).numS 1).numS 2).numS 2).numS 2).numV 4), .slice aP (BV rP sP (dN S)).length cP, .slice aW (BV rW sW (e1 S)).length cW, .slice aPa (BV rPa sPa (e2 S)).length cPa, .slice aRe (BV rRe sRe (e3 S)).length cRe, .slice aCa (BV rCa sCa (e4 S)).length cCa, .slice aIs (BV rIs sIs (e5 S)).length cIs, .slice aCo (BV rCo sCo (e6 S)).length cCo, .slice a out.length cc], rdr 85 p t' Z, two (two (two (two (two (two (two (emp) (tab 37 2 (.slice aP (BV rP sP (dN S)).length cP) (BV rP sP (dN S)))) (tab 149 5 (.slice aW (BV rW sW (e1 S)).length cW) (BV rW sW (e1 S)))) (tab 153 2 (.slice aPa (BV rPa sPa (e2 S)).length cPa) (BV rPa sPa (e2 S)))) (tab 144 10 (.slice aRe (BV rRe sRe (e3 S)).length cRe) (BV rRe sRe (e3 S)))) (tab 159 9 (.slice aCa (BV rCa sCa (e4 S)).length cCa) (BV rCa sCa (e4 S)))) (tab 163 3 (.slice aIs (BV rIs sIs (e5 S)).length cIs) (BV rIs sIs (e5 S)))) (tab 167 3 (.slice aCo (BV rCo sCo (e6 S)).length cCo) (BV rCo sCo (e6 S))), chn (.slice a out.length cc) out] w' ∧
    Byt t.l ∧ itemsB rChB sChB N ((e7 S).numS 2) = (out ++ (itemsB rChB sChB n t).1, (itemsB rChB sChB n t).2) ∧ out.length + n ≤ 65535)
    (fun vs w' => ∃ n t' a cc, vs = [.int .i64 n] ∧ Agr (eE S) t' ∧ Sep w (fun _ => False) [blk b1 96 [.int .i64 0, .int .i64 0, .int .i64 0, .int .i64 0, .int .i64 0, .int .i64 0, .int .i64 0, .slice none 0 0, .slice none 0 0, .slice none 0 0, .slice none 0 0, .slice none 0 0, .slice none 0 0, .slice none 0 0, .slice none 0 0], blk b2 96 [.int .i64 (S.numV 3), .int .i64 ((S.numS 3).numV 3), .int .i64 (((S.numS 3).numS 3).numV 1), .int .i64 ((((S.numS 3).numS 3).numS 1).numV 2), .int .i64 (((((S.numS 3).numS 3).numS 1).numS 2).numV 2), .int .i64 ((((((S.numS 3).numS 3).numS 1).numS 2).numS 2).numV 2), .int .i64 (((((((S.numS 3).numS 3).numS 1).numS 2).numS 2).numS 2).numV 4), .slice aP (BV rP sP (dN S)).length cP, .slice aW (BV rW sW (e1 S)).length cW, .slice aPa (BV rPa sPa (e2 S)).length cPa, .slice aRe (BV rRe sRe (e3 S)).length cRe, .slice aCa (BV rCa sCa (e4 S)).length cCa, .slice aIs (BV rIs sIs (e5 S)).length cIs, .slice aCo (BV rCo sCo (e6 S)).length cCo, .slice a (BV rChB sChB (e7 S)).length cc], rdr 85 p t' Z, two (two (two (two (two (two (two (emp) (tab 37 2 (.slice aP (BV rP sP (dN S)).length cP) (BV rP sP (dN S)))) (tab 149 5 (.slice aW (BV rW sW (e1 S)).length cW) (BV rW sW (e1 S)))) (tab 153 2 (.slice aPa (BV rPa sPa (e2 S)).length cPa) (BV rPa sPa (e2 S)))) (tab 144 10 (.slice aRe (BV rRe sRe (e3 S)).length cRe) (BV rRe sRe (e3 S)))) (tab 159 9 (.slice aCa (BV rCa sCa (e4 S)).length cCa) (BV rCa sCa (e4 S)))) (tab 163 3 (.slice aIs (BV rIs sIs (e5 S)).length cIs) (BV rIs sIs (e5 S)))) (tab 167 3 (.slice aCo (BV rCo sCo (e6 S)).length cCo) (BV rCo sCo (e6 S))), chn (.slice a (BV rChB sChB (e7 S)).length cc) (BV rChB sChB (e7 S))] w') (by kernel_rfl) ?_ ?_ ?_
  · simp -dsimp only [↓vcA, vcB, vcD, ↓pureT_lenS, ↓iteT, ↓iteF, cond_true, cond_false, eq_self, argE, Env.get, Env.push, ev, evs, evo, retV, Value.cells, Value.oneCell', setR, overR, fillL, zl, places, allSizes, heldC, ne_eq, Int.reduceLE, Int.reduceLT, Int.reduceEq, Int.reduceNe, Int.reduceToNat, Int.cast_ofNat_Int, Nat.reduceMul, Nat.reduceLeDiff, reduceIte, Nat.reduceEqDiff, Nat.reduceAdd, ↓reduceIte, Try.vcT, gets]
    exact ⟨_, N, _, _, [], none, 0, rfl, rfl, (ag.num 2).2, h, numS_byt _ 2 hbs, by simp, by simp; omega⟩
  · intro ks hk m vs w5 hi
    clear h F
    obtain ⟨n, t, t', out, a, cc, rfl, rfl, agt, h, hbt, hit, hlen⟩ := hi
    simp -dsimp only [gets, argE, List.zip_cons_cons, List.zip_nil_left, List.cons_append, List.nil_append, Env.get, Env.push, Option.bind_some, Option.map_some, Option.some.injEq, reduceIte, Nat.reduceEqDiff, Nat.reduceAdd, ↓reduceIte] at hk; subst hk
    have done : (itemsB rChB sChB m t).1 = [] ∧ (itemsB rChB sChB m t).2 = t → BV rChB sChB (e7 S) = out ∧ Agr (eE S) t' := fun hd => by
      have x1 : BV rChB sChB (e7 S) = out := by unfold BV; rw [eN, hit, hd.1]; simp
      have x2 : eE S = t := by unfold eE BS; rw [eN, hit, hd.2]
      rw [x1, x2]; exact ⟨rfl, agt⟩
    obtain ⟨_, vr, hw, _⟩ := h.rdAt (i := 2) rfl
    have hc1 := hw.c1
    have hc0 := hw.c0
    have hbk := hw.bk
    match m, hit, hlen, done with
    | 0, hit, hlen, done =>
      have h0 : ¬ (0 : Int) < ((0 : Nat) : Int) := by omega
      obtain ⟨d1, d2⟩ := done ⟨rfl, rfl⟩
      (try simp only [nfD] at h); have F := h.facts; (try simp only [nfF, emp_fact, rds_fact, frm_fact, tab_fact, chn_fact, mapX_fact, two_fact] at F); try simp -dsimp only [↓vcA, vcB, vcD, ↓pureT_lenS, ↓iteT, ↓iteF, cond_true, cond_false, eq_self, argE, Env.get, Env.push, ev, evs, evo, retV, Value.cells, Value.oneCell', setR, overR, fillL, zl, places, allSizes, heldC, ne_eq, Int.reduceLE, Int.reduceLT, Int.reduceEq, Int.reduceNe, Int.reduceToNat, Int.cast_ofNat_Int, Nat.reduceMul, Nat.reduceLeDiff, reduceIte, Nat.reduceEqDiff, Nat.reduceAdd, ↓reduceIte, Try.vcT, F, h.cell0, gets, vsD, if_true, if_false, Bool.false_eq_true,  decide_eq_false h0, exitT_cut_exit, gets]
      refine ⟨0, t', a, cc, rfl, d2, ?_⟩
      rw [d1]; exact h
    | n + 1, hit, hlen, done =>
    have h0 : (0 : Int) < ((n + 1 : Nat) : Int) := by omega
    have en : IntKind.i64.wrap (((n + 1 : Nat) : Int) - 1) = (n : Int) := by rw [i64w _ (by omega) (by omega)]; omega
    cases hbad : t'.bad with
    | true =>
      rw [hbad] at hc1
      obtain ⟨d1, d2⟩ := done (by simp [itemsB, agt.bad, hbad])
      (try simp only [nfD] at h); have F := h.facts; (try simp only [nfF, emp_fact, rds_fact, frm_fact, tab_fact, chn_fact, mapX_fact, two_fact] at F); try simp -dsimp only [↓vcA, vcB, vcD, ↓pureT_lenS, ↓iteT, ↓iteF, cond_true, cond_false, eq_self, argE, Env.get, Env.push, ev, evs, evo, retV, Value.cells, Value.oneCell', setR, overR, fillL, zl, places, allSizes, heldC, ne_eq, Int.reduceLE, Int.reduceLT, Int.reduceEq, Int.reduceNe, Int.reduceToNat, Int.cast_ofNat_Int, Nat.reduceMul, Nat.reduceLeDiff, reduceIte, Nat.reduceEqDiff, Nat.reduceAdd, ↓reduceIte, Try.vcT, F, h.cell0, gets, vsD, if_true, if_false, Bool.false_eq_true,  decide_eq_true h0, hc1, exitT_cut_exit, gets]
      refine ⟨_, t', a, cc, rfl, d2, ?_⟩
      rw [d1]; exact h
    | false =>
    rw [hbad] at hc1 hbk
    have et : t = t' := agt.of_ok (by rw [agt.bad, hbad])
    subst et
    have hit2 : itemsB rChB sChB N ((e7 S).numS 2) = ((out ++ [rChB t]) ++ (itemsB rChB sChB n (sChB t)).1, (itemsB rChB sChB n (sChB t)).2) := by
      rw [hit]; simp [itemsB, hbad]
    obtain ⟨av, ags⟩ := agCh t
    (try simp only [nfD] at h); have F := h.facts; (try simp only [nfF, emp_fact, rds_fact, frm_fact, tab_fact, chn_fact, mapX_fact, two_fact] at F); try simp -dsimp only [↓vcA, vcB, vcD, ↓pureT_lenS, ↓iteT, ↓iteF, cond_true, cond_false, eq_self, argE, Env.get, Env.push, ev, evs, evo, retV, Value.cells, Value.oneCell', setR, overR, fillL, zl, places, allSizes, heldC, ne_eq, Int.reduceLE, Int.reduceLT, Int.reduceEq, Int.reduceNe, Int.reduceToNat, Int.cast_ofNat_Int, Nat.reduceMul, Nat.reduceLeDiff, reduceIte, Nat.reduceEqDiff, Nat.reduceAdd, ↓reduceIte, Try.vcT, F, h.cell0, gets, vsD, if_true, if_false, Bool.false_eq_true,  decide_eq_true h0, hc1]
    repeat ((first | refine Sep.new h ?_ | refine Sep.put 0 h rfl ?_ | refine Sep.put 1 h rfl ?_ | refine Sep.put 2 h rfl ?_ | refine Sep.put 3 h rfl ?_ | refine Sep.put 4 h rfl ?_ | refine Sep.put 5 h rfl ?_ | refine Sep.rrNum 2 h rfl ?_ | refine Sep.rrPoint 2 h rfl ?_ | refine Sep.rrTri 2 h rfl ?_ | refine Sep.put 5 h rfl ?_); (clear F; (try clear h); intros; rename_i h; (try simp only [nfD] at h); have F := h.facts; (try simp only [nfF, emp_fact, rds_fact, frm_fact, tab_fact, chn_fact, mapX_fact, two_fact] at F); try simp -dsimp only [↓vcA, vcB, vcD, ↓pureT_lenS, ↓iteT, ↓iteF, cond_true, cond_false, eq_self, argE, Env.get, Env.push, ev, evs, evo, retV, Value.cells, Value.oneCell', setR, overR, fillL, zl, places, allSizes, heldC, ne_eq, Int.reduceLE, Int.reduceLT, Int.reduceEq, Int.reduceNe, Int.reduceToNat, Int.cast_ofNat_Int, Nat.reduceMul, Nat.reduceLeDiff, reduceIte, Nat.reduceEqDiff, Nat.reduceAdd, ↓reduceIte, Try.vcT, F, h.cell0, gets, vsD, if_true, if_false, Bool.false_eq_true, cellsAt, T3.cells]))
    by_cases hd1 : 1 < (t.numS 1).numV 1
    case pos =>
      have em : chMark t = ⟨((t.numS 1).numS 1).l, true⟩ := if_pos hd1
      obtain ⟨_, vq, hq, _⟩ := h.rdAt (i := 2) rfl
      have hq0 := hq.c0
      have hqb := hq.bk
      (try simp only [nfD] at h); have F := h.facts; (try simp only [nfF, emp_fact, rds_fact, frm_fact, tab_fact, chn_fact, mapX_fact, two_fact] at F); try simp -dsimp only [↓vcA, vcB, vcD, ↓pureT_lenS, ↓iteT, ↓iteF, cond_true, cond_false, eq_self, argE, Env.get, Env.push, ev, evs, evo, retV, Value.cells, Value.oneCell', setR, overR, fillL, zl, places, allSizes, heldC, ne_eq, Int.reduceLE, Int.reduceLT, Int.reduceEq, Int.reduceNe, Int.reduceToNat, Int.cast_ofNat_Int, Nat.reduceMul, Nat.reduceLeDiff, reduceIte, Nat.reduceEqDiff, Nat.reduceAdd, ↓reduceIte, Try.vcT, F, h.cell0, gets, vsD, if_true, if_false, Bool.false_eq_true,  decide_eq_true hd1, hqb]
      refine Sep.rdSpoil 2 h rfl hq0 ?_
      clear h F
      intro wq h
      have x1 : rChB t = ⟨t.numV 1, decide ((t.numS 1).numV 1 = 1), ((R8.mk ((t.numS 1).numS 1).l true).numS 2).rawV ((R8.mk ((t.numS 1).numS 1).l true).numV 2)⟩ := by unfold rChB; rw [em]
      have x2 : sChB t = ((R8.mk ((t.numS 1).numS 1).l true).numS 2).rawS ((R8.mk ((t.numS 1).numS 1).l true).numV 2) := by unfold sChB; rw [em]
      generalize R8.mk ((t.numS 1).numS 1).l true = E at *
      (try simp only [nfD] at h); have F := h.facts; (try simp only [nfF, emp_fact, rds_fact, frm_fact, tab_fact, chn_fact, mapX_fact, two_fact] at F); try simp -dsimp only [↓vcA, vcB, vcD, ↓pureT_lenS, ↓iteT, ↓iteF, cond_true, cond_false, eq_self, argE, Env.get, Env.push, ev, evs, evo, retV, Value.cells, Value.oneCell', setR, overR, fillL, zl, places, allSizes, heldC, ne_eq, Int.reduceLE, Int.reduceLT, Int.reduceEq, Int.reduceNe, Int.reduceToNat, Int.cast_ofNat_Int, Nat.reduceMul, Nat.reduceLeDiff, reduceIte, Nat.reduceEqDiff, Nat.reduceAdd, ↓reduceIte, Try.vcT, F, h.cell0, gets, vsD, if_true, if_false, Bool.false_eq_true]
      repeat ((first | refine Sep.new h ?_ | refine Sep.put 0 h rfl ?_ | refine Sep.put 1 h rfl ?_ | refine Sep.put 2 h rfl ?_ | refine Sep.put 3 h rfl ?_ | refine Sep.put 4 h rfl ?_ | refine Sep.put 5 h rfl ?_ | refine Sep.rrNum 2 h rfl ?_ | refine Sep.rrRaw 2 h rfl ?_ | refine Sep.put 5 h rfl ?_); (clear F; (try clear h); intros; rename_i h; (try simp only [nfD] at h); have F := h.facts; (try simp only [nfF, emp_fact, rds_fact, frm_fact, tab_fact, chn_fact, mapX_fact, two_fact] at F); try simp -dsimp only [↓vcA, vcB, vcD, ↓pureT_lenS, ↓iteT, ↓iteF, cond_true, cond_false, eq_self, argE, Env.get, Env.push, ev, evs, evo, retV, Value.cells, Value.oneCell', setR, overR, fillL, zl, places, allSizes, heldC, ne_eq, Int.reduceLE, Int.reduceLT, Int.reduceEq, Int.reduceNe, Int.reduceToNat, Int.cast_ofNat_Int, Nat.reduceMul, Nat.reduceLeDiff, reduceIte, Nat.reduceEqDiff, Nat.reduceAdd, ↓reduceIte, Try.vcT, F, h.cell0, gets, vsD, if_true, if_false, Bool.false_eq_true, cellsAt]))
      refine Sep.appCh 4 6 7 h rfl rfl rfl (by omega) ?_
      clear h F
      intro a7 c7 w7 h
      (try simp only [nfD] at h); have F := h.facts; (try simp only [nfF, emp_fact, rds_fact, frm_fact, tab_fact, chn_fact, mapX_fact, two_fact] at F); try simp -dsimp only [↓vcA, vcB, vcD, ↓pureT_lenS, ↓iteT, ↓iteF, cond_true, cond_false, eq_self, argE, Env.get, Env.push, ev, evs, evo, retV, Value.cells, Value.oneCell', setR, overR, fillL, zl, places, allSizes, heldC, ne_eq, Int.reduceLE, Int.reduceLT, Int.reduceEq, Int.reduceNe, Int.reduceToNat, Int.cast_ofNat_Int, Nat.reduceMul, Nat.reduceLeDiff, reduceIte, Nat.reduceEqDiff, Nat.reduceAdd, ↓reduceIte, Try.vcT, F, h.cell0, gets, vsD, if_true, if_false, Bool.false_eq_true,  en]
      refine Sep.put 1 h rfl ?_
      clear h F
      intro w8 h
      (try simp only [nfD] at h); have F := h.facts; (try simp only [nfF, emp_fact, rds_fact, frm_fact, tab_fact, chn_fact, mapX_fact, two_fact] at F); try simp -dsimp only [↓vcA, vcB, vcD, ↓pureT_lenS, ↓iteT, ↓iteF, cond_true, cond_false, eq_self, argE, Env.get, Env.push, ev, evs, evo, retV, Value.cells, Value.oneCell', setR, overR, fillL, zl, places, allSizes, heldC, ne_eq, Int.reduceLE, Int.reduceLT, Int.reduceEq, Int.reduceNe, Int.reduceToNat, Int.cast_ofNat_Int, Nat.reduceMul, Nat.reduceLeDiff, reduceIte, Nat.reduceEqDiff, Nat.reduceAdd, ↓reduceIte, Try.vcT, F, h.cell0, gets, vsD, if_true, if_false, Bool.false_eq_true,  en]
      refine ⟨_, ?_, n, sChB t, sChB t, out ++ [rChB t], a7, c7, rfl, rfl, ags, by rw [x1, x2]; exact ((h.erase 7).erase 6).erase 5, sChB_byt hbt, hit2, by simp; omega⟩
      omega
    case neg =>
      have em : chMark t = (t.numS 1).numS 1 := if_neg hd1
      have x1 : rChB t = ⟨t.numV 1, decide ((t.numS 1).numV 1 = 1), (((t.numS 1).numS 1).numS 2).rawV (((t.numS 1).numS 1).numV 2)⟩ := by unfold rChB; rw [em]
      have x2 : sChB t = (((t.numS 1).numS 1).numS 2).rawS (((t.numS 1).numS 1).numV 2) := by unfold sChB; rw [em]
      (try simp only [nfD] at h); have F := h.facts; (try simp only [nfF, emp_fact, rds_fact, frm_fact, tab_fact, chn_fact, mapX_fact, two_fact] at F); try simp -dsimp only [↓vcA, vcB, vcD, ↓pureT_lenS, ↓iteT, ↓iteF, cond_true, cond_false, eq_self, argE, Env.get, Env.push, ev, evs, evo, retV, Value.cells, Value.oneCell', setR, overR, fillL, zl, places, allSizes, heldC, ne_eq, Int.reduceLE, Int.reduceLT, Int.reduceEq, Int.reduceNe, Int.reduceToNat, Int.cast_ofNat_Int, Nat.reduceMul, Nat.reduceLeDiff, reduceIte, Nat.reduceEqDiff, Nat.reduceAdd, ↓reduceIte, Try.vcT, F, h.cell0, gets, vsD, if_true, if_false, Bool.false_eq_true,  decide_eq_false hd1]
      repeat ((first | refine Sep.new h ?_ | refine Sep.put 0 h rfl ?_ | refine Sep.put 1 h rfl ?_ | refine Sep.put 2 h rfl ?_ | refine Sep.put 3 h rfl ?_ | refine Sep.put 4 h rfl ?_ | refine Sep.put 5 h rfl ?_ | refine Sep.rrNum 2 h rfl ?_ | refine Sep.rrRaw 2 h rfl ?_ | refine Sep.put 5 h rfl ?_); (clear F; (try clear h); intros; rename_i h; (try simp only [nfD] at h); have F := h.facts; (try simp only [nfF, emp_fact, rds_fact, frm_fact, tab_fact, chn_fact, mapX_fact, two_fact] at F); try simp -dsimp only [↓vcA, vcB, vcD, ↓pureT_lenS, ↓iteT, ↓iteF, cond_true, cond_false, eq_self, argE, Env.get, Env.push, ev, evs, evo, retV, Value.cells, Value.oneCell', setR, overR, fillL, zl, places, allSizes, heldC, ne_eq, Int.reduceLE, Int.reduceLT, Int.reduceEq, Int.reduceNe, Int.reduceToNat, Int.cast_ofNat_Int, Nat.reduceMul, Nat.reduceLeDiff, reduceIte, Nat.reduceEqDiff, Nat.reduceAdd, ↓reduceIte, Try.vcT, F, h.cell0, gets, vsD, if_true, if_false, Bool.false_eq_true, cellsAt]))
      refine Sep.appCh 4 6 7 h rfl rfl rfl (by omega) ?_
      clear h F
      intro a7 c7 w7 h
      (try simp only [nfD] at h); have F := h.facts; (try simp only [nfF, emp_fact, rds_fact, frm_fact, tab_fact, chn_fact, mapX_fact, two_fact] at F); try simp -dsimp only [↓vcA, vcB, vcD, ↓pureT_lenS, ↓iteT, ↓iteF, cond_true, cond_false, eq_self, argE, Env.get, Env.push, ev, evs, evo, retV, Value.cells, Value.oneCell', setR, overR, fillL, zl, places, allSizes, heldC, ne_eq, Int.reduceLE, Int.reduceLT, Int.reduceEq, Int.reduceNe, Int.reduceToNat, Int.cast_ofNat_Int, Nat.reduceMul, Nat.reduceLeDiff, reduceIte, Nat.reduceEqDiff, Nat.reduceAdd, ↓reduceIte, Try.vcT, F, h.cell0, gets, vsD, if_true, if_false, Bool.false_eq_true,  en]
      refine Sep.put 1 h rfl ?_
      clear h F
      intro w8 h
      (try simp only [nfD] at h); have F := h.facts; (try simp only [nfF, emp_fact, rds_fact, frm_fact, tab_fact, chn_fact, mapX_fact, two_fact] at F); try simp -dsimp only [↓vcA, vcB, vcD, ↓pureT_lenS, ↓iteT, ↓iteF, cond_true, cond_false, eq_self, argE, Env.get, Env.push, ev, evs, evo, retV, Value.cells, Value.oneCell', setR, overR, fillL, zl, places, allSizes, heldC, ne_eq, Int.reduceLE, Int.reduceLT, Int.reduceEq, Int.reduceNe, Int.reduceToNat, Int.cast_ofNat_Int, Nat.reduceMul, Nat.reduceLeDiff, reduceIte, Nat.reduceEqDiff, Nat.reduceAdd, ↓reduceIte, Try.vcT, F, h.cell0, gets, vsD, if_true, if_false, Bool.false_eq_true,  en]
      refine ⟨_, ?_, n, sChB t, sChB t, out ++ [rChB t], a7, c7, rfl, rfl, ags, by rw [x1, x2]; exact ((h.erase 7).erase 6).erase 5, sChB_byt hbt, hit2, by simp; omega⟩
      omega
  intro ks hk vs w5 hi
  clear h F ag hbs hn
  obtain ⟨n, t', aCh, cCh, rfl, ag, h⟩ := hi
  simp -dsimp only [gets, argE, List.zip_cons_cons, List.zip_nil_left, List.cons_append, List.nil_append, Env.get, Env.push, Option.bind_some, Option.map_some, Option.some.injEq, reduceIte, Nat.reduceEqDiff, Nat.reduceAdd, ↓reduceIte] at hk; subst hk
  clear hN eN N
  have hbs : Byt (eE S).l := by
    unfold eE BS
    exact itemsB_byt (f := rChB) (g := sChB) (fun s => sChB_byt (s := s)) _ _ (numS_byt _ 2 hb7)
  have h := (h.two 3 4 rfl rfl).erase 4
  (try simp only [nfD] at h); have F := h.facts; (try simp only [nfF, emp_fact, rds_fact, frm_fact, tab_fact, chn_fact, mapX_fact, two_fact] at F); try simp -dsimp only [↓vcA, vcB, vcD, ↓pureT_lenS, ↓iteT, ↓iteF, cond_true, cond_false, eq_self, argE, Env.get, Env.push, ev, evs, evo, retV, Value.cells, Value.oneCell', setR, overR, fillL, zl, places, allSizes, heldC, ne_eq, Int.reduceLE, Int.reduceLT, Int.reduceEq, Int.reduceNe, Int.reduceToNat, Int.cast_ofNat_Int, Nat.reduceMul, Nat.reduceLeDiff, reduceIte, Nat.reduceEqDiff, Nat.reduceAdd, ↓reduceIte, Try.vcT, F, h.cell0, gets, vsD, if_true, if_false, Bool.false_eq_true]
  have hb8 := hbs
  have fin : ∀ {w' : World} {M : List Res}, decROk b = false → Sep w (fun _ => False) M w' → ∃ N, Sep w (fun _ => False) N w' ∧ (∀ q ∈ N, ∀ x, ¬ q.rd x) ∧
      ∃ s, Value.tuple #[.agg #[.int .i64 0, .int .i64 0, .int .i64 0, .int .i64 0, .int .i64 0, .int .i64 0, .int .i64 0, .slice none 0 0, .slice none 0 0, .slice none 0 0, .slice none 0 0, .slice none 0 0, .slice none 0 0, .slice none 0 0, .slice none 0 0], .bool false] = .tuple #[.agg ((decR b).cells s).toArray, .bool (decROk b)] ∧ N = [mapX (decR b) s] := fun hf h => by
    have e : decR b = MapV.zero := by simp [decR, hf]
    rw [e, hf]
    exact ⟨_, h.mapZero, (fun q hq x => by simp at hq; subst hq; exact mapX_rd _ _ x), MapS.zero, rfl, rfl⟩
  have eok : decROk b = (eE S).done := by rw [← hS]; rfl
  obtain ⟨_, vr, hw, _⟩ := h.rdAt (i := 2) rfl
  have hc1 := hw.c1
  have hc0 := hw.c0
  obtain ⟨ar, cr, rfl, _⟩ := hw.rd
  have ebad : (eE S).bad = t'.bad := ag.bad
  cases hbad : t'.bad with
  | true =>
    rw [hbad] at hc1
    (try simp only [nfD] at h); have F := h.facts; (try simp only [nfF, emp_fact, rds_fact, frm_fact, tab_fact, chn_fact, mapX_fact, two_fact] at F); try simp -dsimp only [↓vcA, vcB, vcD, ↓pureT_lenS, ↓iteT, ↓iteF, cond_true, cond_false, eq_self, argE, Env.get, Env.push, ev, evs, evo, retV, Value.cells, Value.oneCell', setR, overR, fillL, zl, places, allSizes, heldC, ne_eq, Int.reduceLE, Int.reduceLT, Int.reduceEq, Int.reduceNe, Int.reduceToNat, Int.cast_ofNat_Int, Nat.reduceMul, Nat.reduceLeDiff, reduceIte, Nat.reduceEqDiff, Nat.reduceAdd, ↓reduceIte, Try.vcT, F, h.cell0, gets, vsD, if_true, if_false, Bool.false_eq_true,  hc1]
    refine Sep.put 0 h rfl ?_
    clear h F
    intro w8 h
    (try simp only [nfD] at h); have F := h.facts; (try simp only [nfF, emp_fact, rds_fact, frm_fact, tab_fact, chn_fact, mapX_fact, two_fact] at F); try simp -dsimp only [↓vcA, vcB, vcD, ↓pureT_lenS, ↓iteT, ↓iteF, cond_true, cond_false, eq_self, argE, Env.get, Env.push, ev, evs, evo, retV, Value.cells, Value.oneCell', setR, overR, fillL, zl, places, allSizes, heldC, ne_eq, Int.reduceLE, Int.reduceLT, Int.reduceEq, Int.reduceNe, Int.reduceToNat, Int.cast_ofNat_Int, Nat.reduceMul, Nat.reduceLeDiff, reduceIte, Nat.reduceEqDiff, Nat.reduceAdd, ↓reduceIte, Try.vcT, F, h.cell0, gets, vsD, if_true, if_false, Bool.false_eq_true,  cellsAt]
    exact fin (by rw [eok]; simp [R8.done, ebad, hbad]) h
  | false =>
  rw [hbad] at hc1
  have et : eE S = t' := ag.of_ok (by rw [ebad, hbad])
  by_cases he : (0 : Int) < t'.l.length
  case pos =>
    (try simp only [nfD] at h); have F := h.facts; (try simp only [nfF, emp_fact, rds_fact, frm_fact, tab_fact, chn_fact, mapX_fact, two_fact] at F); try simp -dsimp only [↓vcA, vcB, vcD, ↓pureT_lenS, ↓iteT, ↓iteF, cond_true, cond_false, eq_self, argE, Env.get, Env.push, ev, evs, evo, retV, Value.cells, Value.oneCell', setR, overR, fillL, zl, places, allSizes, heldC, ne_eq, Int.reduceLE, Int.reduceLT, Int.reduceEq, Int.reduceNe, Int.reduceToNat, Int.cast_ofNat_Int, Nat.reduceMul, Nat.reduceLeDiff, reduceIte, Nat.reduceEqDiff, Nat.reduceAdd, ↓reduceIte, Try.vcT, F, h.cell0, gets, vsD, if_true, if_false, Bool.false_eq_true,  hc1, hc0, decide_eq_true he]
    refine Sep.put 0 h rfl ?_
    clear h F
    intro w8 h
    (try simp only [nfD] at h); have F := h.facts; (try simp only [nfF, emp_fact, rds_fact, frm_fact, tab_fact, chn_fact, mapX_fact, two_fact] at F); try simp -dsimp only [↓vcA, vcB, vcD, ↓pureT_lenS, ↓iteT, ↓iteF, cond_true, cond_false, eq_self, argE, Env.get, Env.push, ev, evs, evo, retV, Value.cells, Value.oneCell', setR, overR, fillL, zl, places, allSizes, heldC, ne_eq, Int.reduceLE, Int.reduceLT, Int.reduceEq, Int.reduceNe, Int.reduceToNat, Int.cast_ofNat_Int, Nat.reduceMul, Nat.reduceLeDiff, reduceIte, Nat.reduceEqDiff, Nat.reduceAdd, ↓reduceIte, Try.vcT, F, h.cell0, gets, vsD, if_true, if_false, Bool.false_eq_true,  cellsAt]
    refine fin ?_ h
    rw [eok, et]
    cases hl : t'.l with
    | nil => rw [hl] at he; simp at he
    | cons x xs => simp [R8.done, hl]
  case neg =>
    have ok : decROk b = true := by
      rw [eok, et]
      cases hl : t'.l with
      | nil => simp [R8.done, hl, hbad]
      | cons x xs => rw [hl] at he; simp at he
    have e : decR b = eV S := by rw [decR, ok, hS]; rfl
    (try simp only [nfD] at h); have F := h.facts; (try simp only [nfF, emp_fact, rds_fact, frm_fact, tab_fact, chn_fact, mapX_fact, two_fact] at F); try simp -dsimp only [↓vcA, vcB, vcD, ↓pureT_lenS, ↓iteT, ↓iteF, cond_true, cond_false, eq_self, argE, Env.get, Env.push, ev, evs, evo, retV, Value.cells, Value.oneCell', setR, overR, fillL, zl, places, allSizes, heldC, ne_eq, Int.reduceLE, Int.reduceLT, Int.reduceEq, Int.reduceNe, Int.reduceToNat, Int.cast_ofNat_Int, Nat.reduceMul, Nat.reduceLeDiff, reduceIte, Nat.reduceEqDiff, Nat.reduceAdd, ↓reduceIte, Try.vcT, F, h.cell0, gets, vsD, if_true, if_false, Bool.false_eq_true,  hc1, hc0, decide_eq_false he, cellsAt]
    refine Sep.put 0 h rfl ?_
    clear h F
    intro w8 h
    (try simp only [nfD] at h); have F := h.facts; (try simp only [nfF, emp_fact, rds_fact, frm_fact, tab_fact, chn_fact, mapX_fact, two_fact] at F); try simp -dsimp only [↓vcA, vcB, vcD, ↓pureT_lenS, ↓iteT, ↓iteF, cond_true, cond_false, eq_self, argE, Env.get, Env.push, ev, evs, evo, retV, Value.cells, Value.oneCell', setR, overR, fillL, zl, places, allSizes, heldC, ne_eq, Int.reduceLE, Int.reduceLT, Int.reduceEq, Int.reduceNe, Int.reduceToNat, Int.cast_ofNat_Int, Nat.reduceMul, Nat.reduceLeDiff, reduceIte, Nat.reduceEqDiff, Nat.reduceAdd, ↓reduceIte, Try.vcT, F, h.cell0, gets, vsD, if_true, if_false, Bool.false_eq_true,  cellsAt]
    have h := ((h.erase 0).erase 0).erase 0
    rw [e, ok]
    refine ⟨[mapX (eV S) ⟨.slice aP (BV rP sP (dN S)).length cP, .slice aW (BV rW sW (e1 S)).length cW, .slice aPa (BV rPa sPa (e2 S)).length cPa, .slice aRe (BV rRe sRe (e3 S)).length cRe, .slice aCa (BV rCa sCa (e4 S)).length cCa, .slice aIs (BV rIs sIs (e5 S)).length cIs, .slice aCo (BV rCo sCo (e6 S)).length cCo, .slice aCh (BV rChB sChB (e7 S)).length cCh⟩], ?_, (fun q hq x => by simp at hq; subst hq; exact mapX_rd _ _ x), ⟨.slice aP (BV rP sP (dN S)).length cP, .slice aW (BV rW sW (e1 S)).length cW, .slice aPa (BV rPa sPa (e2 S)).length cPa, .slice aRe (BV rRe sRe (e3 S)).length cRe, .slice aCa (BV rCa sCa (e4 S)).length cCa, .slice aIs (BV rIs sIs (e5 S)).length cIs, .slice aCo (BV rCo sCo (e6 S)).length cCo, .slice aCh (BV rChB sChB (e7 S)).length cCh⟩, ?_, rfl⟩
    · simp only [mapX, eV]
      exact h
    · simp only [MapV.cells, eV]
end Go.Proofs.Ytnhgjgoglmadnaa
