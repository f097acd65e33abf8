/- Joined texts of this claim (part 7), printed by a program of this work. The last part holds the claimed theorem: the law answers true at every input of its row. -/
import Derived.Test.YtnhgjgoglmadnaaSP13f
namespace Go.Proofs.Ytnhgjgoglmadnaa
open Go.RowKit
set_option maxRecDepth 100000
set_option linter.unusedSimpArgs false
set_option linter.unusedVariables false
set_option pp.maxSteps 1500
set_option pp.deepTerms.threshold 8

def itemsF {α : Type} (f : R8 → α) (g : R8 → R8) : Nat → R8 → List α × R8
  | 0, s => ([], s)
  | n + 1, s => if 0 < s.left then (f s :: (itemsF f g n (g s)).1, (itemsF f g n (g s)).2) else ([], s)
def itemsV {α : Type} (f : R8 → α) (g : R8 → R8) (s : R8) : List α := (itemsF f g (s.numV 2).toNat (s.numS 2)).1
def itemsS {α : Type} (f : R8 → α) (g : R8 → R8) (s : R8) : R8 := (itemsF f g (s.numV 2).toNat (s.numS 2)).2

def rP (s : R8) : List Int := [s.ptV.1, s.ptV.2]
def sP (s : R8) : R8 := (s.ptS)
theorem sP_byt {s : R8} (hb : Byt s.l) : Byt (sP s).l := ptS_byt _ (hb)
theorem infoP : (Try.prog.info? 37).map (fun i => (i.zero, i.size, i.bytes)) = some (some (.agg #[.int .i64 0, .int .i64 0]), 2, 16) := by kernel_rfl
theorem itemsP {w0 w : World} {q G : Res} {r c : Nat} {s : R8} {K : Value → World → Prop} (h : Sep w0 (fun _ => False) [q, rdr 134 r s (fun _ => False), blk c 53 [.pointer (some ⟨r, 0, none⟩)], G] w) (hb : Byt s.l)
    (hK : ∀ a cc w1, Sep w0 (fun _ => False) [q, rdr 134 r (itemsS rP sP s) (fun _ => False), blk c 53 [.pointer (some ⟨r, 0, none⟩)], G, tab 37 2 (.slice a (itemsV rP sP s).length cc) (itemsV rP sP s)] w1 → K (.slice a (itemsV rP sP s).length cc) w1) :
    callsK Try.prog 99 [.pointer (some ⟨r, 0, none⟩), .func (.func 49) #[.pointer (some ⟨r, 0, none⟩)] #[]].toArray w K := by
  refine walk Try.func99 rfl (by kernel_rfl) (by rw [Try.nt99]; simp) ?_
  have hn := num2_rng s hb
  (try simp only [nfD] at h); have F := h.facts; (try simp only [nfF, emp_fact, rds_fact, frm_fact, tab_fact] at F)
  simp -dsimp only [↓vcA, vcB, vcD, ↓pureT_lenS, ↓iteT, ↓iteF, cond_true, cond_false, eq_self, argE, Env.get, Env.push, ev, evs, evo, retV, Value.cells, Value.oneCell', setR, overR, fillL, zl, places, allSizes, heldC, ne_eq, Int.reduceLE, Int.reduceLT, Int.reduceEq, Int.reduceNe, Int.reduceToNat, Int.cast_ofNat_Int, Nat.reduceMul, Nat.reduceLeDiff, reduceIte, Nat.reduceEqDiff, Nat.reduceAdd, ↓reduceIte, Try.vcT]
  refine Sep.rdNum 1 h rfl ?_
  clear h F
  intro w1 h
  (try simp only [nfD] at h); have F := h.facts; (try simp only [nfF, emp_fact, rds_fact, frm_fact, tab_fact] at F); try simp -dsimp only [↓vcA, vcB, vcD, ↓pureT_lenS, ↓iteT, ↓iteF, cond_true, cond_false, eq_self, argE, Env.get, Env.push, ev, evs, evo, retV, Value.cells, Value.oneCell', setR, overR, fillL, zl, places, allSizes, heldC, ne_eq, Int.reduceLE, Int.reduceLT, Int.reduceEq, Int.reduceNe, Int.reduceToNat, Int.cast_ofNat_Int, Nat.reduceMul, Nat.reduceLeDiff, reduceIte, Nat.reduceEqDiff, Nat.reduceAdd, ↓reduceIte, Try.vcT, F, h.cell0, gets, vsD, if_true, if_false, Bool.false_eq_true]
  have h := h.tabNil 37 2
  obtain ⟨N, hN⟩ := Int.eq_ofNat_of_zero_le hn.1
  have eN : (s.numV 2).toNat = N := by omega
  rw [hN] at hn
  rw [hN]
  refine walkLoop [0, 1] [4, 5] (fun m vs w' => ∃ n t out a cc, m = n ∧ vs = [.slice a out.length cc, .int .i64 (n : Nat)] ∧ Sep w0 (fun _ => False) [q, rdr 134 r t (fun _ => False), blk c 53 [.pointer (some ⟨r, 0, none⟩)], G, tab 37 2 (.slice a out.length cc) out] w' ∧
    Byt t.l ∧ itemsF rP sP N (s.numS 2) = (out ++ (itemsF rP sP n t).1, (itemsF rP sP n t).2) ∧ out.length + n ≤ 65535) (by kernel_rfl) ?_ ?_
  · simp -dsimp only [↓vcA, vcB, vcD, ↓pureT_lenS, ↓iteT, ↓iteF, cond_true, cond_false, eq_self, argE, Env.get, Env.push, ev, evs, evo, retV, Value.cells, Value.oneCell', setR, overR, fillL, zl, places, allSizes, heldC, ne_eq, Int.reduceLE, Int.reduceLT, Int.reduceEq, Int.reduceNe, Int.reduceToNat, Int.cast_ofNat_Int, Nat.reduceMul, Nat.reduceLeDiff, reduceIte, Nat.reduceEqDiff, Nat.reduceAdd, ↓reduceIte, Try.vcT, gets]
    exact ⟨_, N, _, [], none, 0, rfl, rfl, h, numS_byt s 2 hb, by simp, by simp; omega⟩
  intro ks hk m vs w2 hi
  clear h F
  obtain ⟨n, t, out, a, cc, rfl, rfl, h, hbt, hit, hlen⟩ := hi
  simp -dsimp only [gets, argE, List.zip_cons_cons, List.zip_nil_left, List.cons_append, List.nil_append, Env.get, Env.push, Option.bind_some, Option.map_some, Option.some.injEq, reduceIte, Nat.reduceEqDiff, Nat.reduceAdd, ↓reduceIte] at hk; subst hk
  have done : (itemsF rP sP m t).1 = [] ∧ (itemsF rP sP m t).2 = t → ∀ {w'}, Sep w0 (fun _ => False) [q, rdr 134 r t (fun _ => False), blk c 53 [.pointer (some ⟨r, 0, none⟩)], G, tab 37 2 (.slice a out.length cc) out] w' → K (.slice a out.length cc) w' := fun hd w' h => by
    have e1 : itemsV rP sP s = out := by unfold itemsV; rw [eN, hit, hd.1]; simp
    have e2 : itemsS rP sP s = t := by unfold itemsS; rw [eN, hit, hd.2]
    have := hK a cc w'
    rw [e1, e2] at this
    exact this h
  match m, hit, hlen, done with
  | 0, hit, hlen, done =>
    have h0 : ¬ (0 : Int) < ((0 : Nat) : Int) := by omega
    (try simp only [nfD] at h); have F := h.facts; (try simp only [nfF, emp_fact, rds_fact, frm_fact, tab_fact] at F); try simp -dsimp only [↓vcA, vcB, vcD, ↓pureT_lenS, ↓iteT, ↓iteF, cond_true, cond_false, eq_self, argE, Env.get, Env.push, ev, evs, evo, retV, Value.cells, Value.oneCell', setR, overR, fillL, zl, places, allSizes, heldC, ne_eq, Int.reduceLE, Int.reduceLT, Int.reduceEq, Int.reduceNe, Int.reduceToNat, Int.cast_ofNat_Int, Nat.reduceMul, Nat.reduceLeDiff, reduceIte, Nat.reduceEqDiff, Nat.reduceAdd, ↓reduceIte, Try.vcT, F, h.cell0, gets, vsD, if_true, if_false, Bool.false_eq_true,  decide_eq_false h0]
    exact done ⟨rfl, rfl⟩ h
  | n + 1, hit, hlen, done =>
  have h0 : (0 : Int) < ((n + 1 : Nat) : Int) := by omega
  have en : IntKind.i64.wrap (((n + 1 : Nat) : Int) - 1) = (n : Int) := by rw [i64w _ (by omega) (by omega)]; omega
  (try simp only [nfD] at h); have F := h.facts; (try simp only [nfF, emp_fact, rds_fact, frm_fact, tab_fact] at F); try simp -dsimp only [↓vcA, vcB, vcD, ↓pureT_lenS, ↓iteT, ↓iteF, cond_true, cond_false, eq_self, argE, Env.get, Env.push, ev, evs, evo, retV, Value.cells, Value.oneCell', setR, overR, fillL, zl, places, allSizes, heldC, ne_eq, Int.reduceLE, Int.reduceLT, Int.reduceEq, Int.reduceNe, Int.reduceToNat, Int.cast_ofNat_Int, Nat.reduceMul, Nat.reduceLeDiff, reduceIte, Nat.reduceEqDiff, Nat.reduceAdd, ↓reduceIte, Try.vcT, F, h.cell0, gets, vsD, if_true, if_false, Bool.false_eq_true,  decide_eq_true h0]
  refine Sep.rdLeft 1 h rfl ?_
  by_cases hl : (0 : Int) < t.left
  case neg =>
    (try simp only [nfD] at h); have F := h.facts; (try simp only [nfF, emp_fact, rds_fact, frm_fact, tab_fact] at F); try simp -dsimp only [↓vcA, vcB, vcD, ↓pureT_lenS, ↓iteT, ↓iteF, cond_true, cond_false, eq_self, argE, Env.get, Env.push, ev, evs, evo, retV, Value.cells, Value.oneCell', setR, overR, fillL, zl, places, allSizes, heldC, ne_eq, Int.reduceLE, Int.reduceLT, Int.reduceEq, Int.reduceNe, Int.reduceToNat, Int.cast_ofNat_Int, Nat.reduceMul, Nat.reduceLeDiff, reduceIte, Nat.reduceEqDiff, Nat.reduceAdd, ↓reduceIte, Try.vcT, F, h.cell0, gets, vsD, if_true, if_false, Bool.false_eq_true,  decide_eq_false hl]
    exact done (by simp [itemsF, hl]) h
  have hit2 : itemsF rP sP N (s.numS 2) = ((out ++ [rP t]) ++ (itemsF rP sP n (sP t)).1, (itemsF rP sP n (sP t)).2) := by
    rw [hit]; simp [itemsF, hl]
  (try simp only [nfD] at h); have F := h.facts; (try simp only [nfF, emp_fact, rds_fact, frm_fact, tab_fact] at F); try simp -dsimp only [↓vcA, vcB, vcD, ↓pureT_lenS, ↓iteT, ↓iteF, cond_true, cond_false, eq_self, argE, Env.get, Env.push, ev, evs, evo, retV, Value.cells, Value.oneCell', setR, overR, fillL, zl, places, allSizes, heldC, ne_eq, Int.reduceLE, Int.reduceLT, Int.reduceEq, Int.reduceNe, Int.reduceToNat, Int.cast_ofNat_Int, Nat.reduceMul, Nat.reduceLeDiff, reduceIte, Nat.reduceEqDiff, Nat.reduceAdd, ↓reduceIte, Try.vcT, F, h.cell0, gets, vsD, if_true, if_false, Bool.false_eq_true,  decide_eq_true hl]
  repeat ((first | refine Sep.new h ?_ | refine Sep.put 0 h rfl ?_ | refine Sep.put 1 h rfl ?_ | refine Sep.put 2 h rfl ?_ | refine Sep.put 3 h rfl ?_ | refine Sep.put 4 h rfl ?_ | refine Sep.put 5 h rfl ?_ | refine Sep.rdNum 1 h rfl ?_ | refine Sep.rdPoint 1 h rfl ?_ | refine Sep.rdTri 1 h rfl ?_); (clear F; (try clear h); intros; rename_i h; (try simp only [nfD] at h); have F := h.facts; (try simp only [nfF, emp_fact, rds_fact, frm_fact, tab_fact] at F); try simp -dsimp only [↓vcA, vcB, vcD, ↓pureT_lenS, ↓iteT, ↓iteF, cond_true, cond_false, eq_self, argE, Env.get, Env.push, ev, evs, evo, retV, Value.cells, Value.oneCell', setR, overR, fillL, zl, places, allSizes, heldC, ne_eq, Int.reduceLE, Int.reduceLT, Int.reduceEq, Int.reduceNe, Int.reduceToNat, Int.cast_ofNat_Int, Nat.reduceMul, Nat.reduceLeDiff, reduceIte, Nat.reduceEqDiff, Nat.reduceAdd, ↓reduceIte, Try.vcT, F, h.cell0, gets, vsD, if_true, if_false, Bool.false_eq_true, cellsAt, T3.cells]))
  refine Sep.appTab 4 5 infoP Try.underlying87 rfl (by decide) (rP t) h rfl rfl rfl (by omega) (by simp only [maxLen]; omega) ?_
  clear h F
  intro a7 c7 w7 h
  (try simp only [nfD] at h); have F := h.facts; (try simp only [nfF, emp_fact, rds_fact, frm_fact, tab_fact] at F); try simp -dsimp only [↓vcA, vcB, vcD, ↓pureT_lenS, ↓iteT, ↓iteF, cond_true, cond_false, eq_self, argE, Env.get, Env.push, ev, evs, evo, retV, Value.cells, Value.oneCell', setR, overR, fillL, zl, places, allSizes, heldC, ne_eq, Int.reduceLE, Int.reduceLT, Int.reduceEq, Int.reduceNe, Int.reduceToNat, Int.cast_ofNat_Int, Nat.reduceMul, Nat.reduceLeDiff, reduceIte, Nat.reduceEqDiff, Nat.reduceAdd, ↓reduceIte, Try.vcT, F, h.cell0, gets, vsD, if_true, if_false, Bool.false_eq_true,  en]
  refine ⟨_, ?_, n, sP t, out ++ [rP t], a7, c7, rfl, rfl, h.erase 5, sP_byt hbt, hit2, by simp; omega⟩
  omega
def rW (s : R8) : List Int := [s.ptV.1, s.ptV.2, (s.ptS).ptV.1, (s.ptS).ptV.2, ((s.ptS).ptS).numV 1]
def sW (s : R8) : R8 := (((s.ptS).ptS).numS 1)
theorem sW_byt {s : R8} (hb : Byt s.l) : Byt (sW s).l := numS_byt _ 1 (ptS_byt _ (ptS_byt _ (hb)))
theorem infoW : (Try.prog.info? 149).map (fun i => (i.zero, i.size, i.bytes)) = some (some (.agg #[.int .i64 0, .int .i64 0, .int .i64 0, .int .i64 0, .int .i64 0]), 5, 40) := by kernel_rfl
theorem itemsW {w0 w : World} {q G : Res} {r c : Nat} {s : R8} {K : Value → World → Prop} (h : Sep w0 (fun _ => False) [q, rdr 134 r s (fun _ => False), blk c 53 [.pointer (some ⟨r, 0, none⟩)], G] w) (hb : Byt s.l)
    (hK : ∀ a cc w1, Sep w0 (fun _ => False) [q, rdr 134 r (itemsS rW sW s) (fun _ => False), blk c 53 [.pointer (some ⟨r, 0, none⟩)], G, tab 149 5 (.slice a (itemsV rW sW s).length cc) (itemsV rW sW s)] w1 → K (.slice a (itemsV rW sW s).length cc) w1) :
    callsK Try.prog 100 [.pointer (some ⟨r, 0, none⟩), .func (.func 101) #[] #[.pointer (some ⟨c, 0, none⟩)]].toArray w K := by
  refine walk Try.func100 rfl (by kernel_rfl) (by rw [Try.nt100]; simp) ?_
  have hn := num2_rng s hb
  (try simp only [nfD] at h); have F := h.facts; (try simp only [nfF, emp_fact, rds_fact, frm_fact, tab_fact] at F)
  simp -dsimp only [↓vcA, vcB, vcD, ↓pureT_lenS, ↓iteT, ↓iteF, cond_true, cond_false, eq_self, argE, Env.get, Env.push, ev, evs, evo, retV, Value.cells, Value.oneCell', setR, overR, fillL, zl, places, allSizes, heldC, ne_eq, Int.reduceLE, Int.reduceLT, Int.reduceEq, Int.reduceNe, Int.reduceToNat, Int.cast_ofNat_Int, Nat.reduceMul, Nat.reduceLeDiff, reduceIte, Nat.reduceEqDiff, Nat.reduceAdd, ↓reduceIte, Try.vcT]
  refine Sep.rdNum 1 h rfl ?_
  clear h F
  intro w1 h
  (try simp only [nfD] at h); have F := h.facts; (try simp only [nfF, emp_fact, rds_fact, frm_fact, tab_fact] at F); try simp -dsimp only [↓vcA, vcB, vcD, ↓pureT_lenS, ↓iteT, ↓iteF, cond_true, cond_false, eq_self, argE, Env.get, Env.push, ev, evs, evo, retV, Value.cells, Value.oneCell', setR, overR, fillL, zl, places, allSizes, heldC, ne_eq, Int.reduceLE, Int.reduceLT, Int.reduceEq, Int.reduceNe, Int.reduceToNat, Int.cast_ofNat_Int, Nat.reduceMul, Nat.reduceLeDiff, reduceIte, Nat.reduceEqDiff, Nat.reduceAdd, ↓reduceIte, Try.vcT, F, h.cell0, gets, vsD, if_true, if_false, Bool.false_eq_true]
  have h := h.tabNil 149 5
  obtain ⟨N, hN⟩ := Int.eq_ofNat_of_zero_le hn.1
  have eN : (s.numV 2).toNat = N := by omega
  rw [hN] at hn
  rw [hN]
  refine walkLoop [0, 1] [4, 5] (fun m vs w' => ∃ n t out a cc, m = n ∧ vs = [.slice a out.length cc, .int .i64 (n : Nat)] ∧ Sep w0 (fun _ => False) [q, rdr 134 r t (fun _ => False), blk c 53 [.pointer (some ⟨r, 0, none⟩)], G, tab 149 5 (.slice a out.length cc) out] w' ∧
    Byt t.l ∧ itemsF rW sW N (s.numS 2) = (out ++ (itemsF rW sW n t).1, (itemsF rW sW n t).2) ∧ out.length + n ≤ 65535) (by kernel_rfl) ?_ ?_
  · simp -dsimp only [↓vcA, vcB, vcD, ↓pureT_lenS, ↓iteT, ↓iteF, cond_true, cond_false, eq_self, argE, Env.get, Env.push, ev, evs, evo, retV, Value.cells, Value.oneCell', setR, overR, fillL, zl, places, allSizes, heldC, ne_eq, Int.reduceLE, Int.reduceLT, Int.reduceEq, Int.reduceNe, Int.reduceToNat, Int.cast_ofNat_Int, Nat.reduceMul, Nat.reduceLeDiff, reduceIte, Nat.reduceEqDiff, Nat.reduceAdd, ↓reduceIte, Try.vcT, gets]
    exact ⟨_, N, _, [], none, 0, rfl, rfl, h, numS_byt s 2 hb, by simp, by simp; omega⟩
  intro ks hk m vs w2 hi
  clear h F
  obtain ⟨n, t, out, a, cc, rfl, rfl, h, hbt, hit, hlen⟩ := hi
  simp -dsimp only [gets, argE, List.zip_cons_cons, List.zip_nil_left, List.cons_append, List.nil_append, Env.get, Env.push, Option.bind_some, Option.map_some, Option.some.injEq, reduceIte, Nat.reduceEqDiff, Nat.reduceAdd, ↓reduceIte] at hk; subst hk
  have done : (itemsF rW sW m t).1 = [] ∧ (itemsF rW sW m t).2 = t → ∀ {w'}, Sep w0 (fun _ => False) [q, rdr 134 r t (fun _ => False), blk c 53 [.pointer (some ⟨r, 0, none⟩)], G, tab 149 5 (.slice a out.length cc) out] w' → K (.slice a out.length cc) w' := fun hd w' h => by
    have e1 : itemsV rW sW s = out := by unfold itemsV; rw [eN, hit, hd.1]; simp
    have e2 : itemsS rW sW s = t := by unfold itemsS; rw [eN, hit, hd.2]
    have := hK a cc w'
    rw [e1, e2] at this
    exact this h
  match m, hit, hlen, done with
  | 0, hit, hlen, done =>
    have h0 : ¬ (0 : Int) < ((0 : Nat) : Int) := by omega
    (try simp only [nfD] at h); have F := h.facts; (try simp only [nfF, emp_fact, rds_fact, frm_fact, tab_fact] at F); try simp -dsimp only [↓vcA, vcB, vcD, ↓pureT_lenS, ↓iteT, ↓iteF, cond_true, cond_false, eq_self, argE, Env.get, Env.push, ev, evs, evo, retV, Value.cells, Value.oneCell', setR, overR, fillL, zl, places, allSizes, heldC, ne_eq, Int.reduceLE, Int.reduceLT, Int.reduceEq, Int.reduceNe, Int.reduceToNat, Int.cast_ofNat_Int, Nat.reduceMul, Nat.reduceLeDiff, reduceIte, Nat.reduceEqDiff, Nat.reduceAdd, ↓reduceIte, Try.vcT, F, h.cell0, gets, vsD, if_true, if_false, Bool.false_eq_true,  decide_eq_false h0]
    exact done ⟨rfl, rfl⟩ h
  | n + 1, hit, hlen, done =>
  have h0 : (0 : Int) < ((n + 1 : Nat) : Int) := by omega
  have en : IntKind.i64.wrap (((n + 1 : Nat) : Int) - 1) = (n : Int) := by rw [i64w _ (by omega) (by omega)]; omega
  (try simp only [nfD] at h); have F := h.facts; (try simp only [nfF, emp_fact, rds_fact, frm_fact, tab_fact] at F); try simp -dsimp only [↓vcA, vcB, vcD, ↓pureT_lenS, ↓iteT, ↓iteF, cond_true, cond_false, eq_self, argE, Env.get, Env.push, ev, evs, evo, retV, Value.cells, Value.oneCell', setR, overR, fillL, zl, places, allSizes, heldC, ne_eq, Int.reduceLE, Int.reduceLT, Int.reduceEq, Int.reduceNe, Int.reduceToNat, Int.cast_ofNat_Int, Nat.reduceMul, Nat.reduceLeDiff, reduceIte, Nat.reduceEqDiff, Nat.reduceAdd, ↓reduceIte, Try.vcT, F, h.cell0, gets, vsD, if_true, if_false, Bool.false_eq_true,  decide_eq_true h0]
  refine Sep.rdLeft 1 h rfl ?_
  by_cases hl : (0 : Int) < t.left
  case neg =>
    (try simp only [nfD] at h); have F := h.facts; (try simp only [nfF, emp_fact, rds_fact, frm_fact, tab_fact] at F); try simp -dsimp only [↓vcA, vcB, vcD, ↓pureT_lenS, ↓iteT, ↓iteF, cond_true, cond_false, eq_self, argE, Env.get, Env.push, ev, evs, evo, retV, Value.cells, Value.oneCell', setR, overR, fillL, zl, places, allSizes, heldC, ne_eq, Int.reduceLE, Int.reduceLT, Int.reduceEq, Int.reduceNe, Int.reduceToNat, Int.cast_ofNat_Int, Nat.reduceMul, Nat.reduceLeDiff, reduceIte, Nat.reduceEqDiff, Nat.reduceAdd, ↓reduceIte, Try.vcT, F, h.cell0, gets, vsD, if_true, if_false, Bool.false_eq_true,  decide_eq_false hl]
    exact done (by simp [itemsF, hl]) h
  have hit2 : itemsF rW sW N (s.numS 2) = ((out ++ [rW t]) ++ (itemsF rW sW n (sW t)).1, (itemsF rW sW n (sW t)).2) := by
    rw [hit]; simp [itemsF, hl]
  (try simp only [nfD] at h); have F := h.facts; (try simp only [nfF, emp_fact, rds_fact, frm_fact, tab_fact] at F); try simp -dsimp only [↓vcA, vcB, vcD, ↓pureT_lenS, ↓iteT, ↓iteF, cond_true, cond_false, eq_self, argE, Env.get, Env.push, ev, evs, evo, retV, Value.cells, Value.oneCell', setR, overR, fillL, zl, places, allSizes, heldC, ne_eq, Int.reduceLE, Int.reduceLT, Int.reduceEq, Int.reduceNe, Int.reduceToNat, Int.cast_ofNat_Int, Nat.reduceMul, Nat.reduceLeDiff, reduceIte, Nat.reduceEqDiff, Nat.reduceAdd, ↓reduceIte, Try.vcT, F, h.cell0, gets, vsD, if_true, if_false, Bool.false_eq_true,  decide_eq_true hl]
  refine walk Try.func101 rfl (by kernel_rfl) (by rw [Try.nt101]; simp) ?_
  (try simp only [nfD] at h); have F := h.facts; (try simp only [nfF, emp_fact, rds_fact, frm_fact, tab_fact] at F); try simp -dsimp only [↓vcA, vcB, vcD, ↓pureT_lenS, ↓iteT, ↓iteF, cond_true, cond_false, eq_self, argE, Env.get, Env.push, ev, evs, evo, retV, Value.cells, Value.oneCell', setR, overR, fillL, zl, places, allSizes, heldC, ne_eq, Int.reduceLE, Int.reduceLT, Int.reduceEq, Int.reduceNe, Int.reduceToNat, Int.cast_ofNat_Int, Nat.reduceMul, Nat.reduceLeDiff, reduceIte, Nat.reduceEqDiff, Nat.reduceAdd, ↓reduceIte, Try.vcT, F, h.cell0, gets, vsD, if_true, if_false, Bool.false_eq_true]
  refine h.new ?_
  clear h F
  intro w5 b5 h
  (try simp only [nfD] at h); have F := h.facts; (try simp only [nfF, emp_fact, rds_fact, frm_fact, tab_fact] at F); try simp -dsimp only [↓vcA, vcB, vcD, ↓pureT_lenS, ↓iteT, ↓iteF, cond_true, cond_false, eq_self, argE, Env.get, Env.push, ev, evs, evo, retV, Value.cells, Value.oneCell', setR, overR, fillL, zl, places, allSizes, heldC, ne_eq, Int.reduceLE, Int.reduceLT, Int.reduceEq, Int.reduceNe, Int.reduceToNat, Int.cast_ofNat_Int, Nat.reduceMul, Nat.reduceLeDiff, reduceIte, Nat.reduceEqDiff, Nat.reduceAdd, ↓reduceIte, Try.vcT, F, h.cell0, gets, vsD, if_true, if_false, Bool.false_eq_true]
  refine walkDraw (.h 0 0 (.h 2 1 (.h 4 2 (.l 1 (.l 3 (.l 5 (.q 6 (.l 7 .fin)))))))) [(c, 0, .pointer (some ⟨r, 0, none⟩)), (c, 0, .pointer (some ⟨r, 0, none⟩)), (c, 0, .pointer (some ⟨r, 0, none⟩))] (by kernel_rfl) (by simp [Holds_nil, Holds_cons, F]) ?_
  refine h.draw ?_
  clear h F
  intro w6 h
  (try simp only [nfD] at h); have F := h.facts; (try simp only [nfF, emp_fact, rds_fact, frm_fact, tab_fact] at F); try simp -dsimp only [↓vcA, vcB, vcD, ↓pureT_lenS, ↓iteT, ↓iteF, cond_true, cond_false, eq_self, argE, Env.get, Env.push, ev, evs, evo, retV, Value.cells, Value.oneCell', setR, overR, fillL, zl, places, allSizes, heldC, ne_eq, Int.reduceLE, Int.reduceLT, Int.reduceEq, Int.reduceNe, Int.reduceToNat, Int.cast_ofNat_Int, Nat.reduceMul, Nat.reduceLeDiff, reduceIte, Nat.reduceEqDiff, Nat.reduceAdd, ↓reduceIte, Try.vcT, F, h.cell0, gets, vsD, if_true, if_false, Bool.false_eq_true]
  repeat ((first | refine Sep.new h ?_ | refine Sep.put 0 h rfl ?_ | refine Sep.put 1 h rfl ?_ | refine Sep.put 2 h rfl ?_ | refine Sep.put 3 h rfl ?_ | refine Sep.put 4 h rfl ?_ | refine Sep.put 5 h rfl ?_ | refine Sep.rdNum 1 h rfl ?_ | refine Sep.rdPoint 1 h rfl ?_ | refine Sep.rdTri 1 h rfl ?_); (clear F; (try clear h); intros; rename_i h; (try simp only [nfD] at h); have F := h.facts; (try simp only [nfF, emp_fact, rds_fact, frm_fact, tab_fact] at F); try simp -dsimp only [↓vcA, vcB, vcD, ↓pureT_lenS, ↓iteT, ↓iteF, cond_true, cond_false, eq_self, argE, Env.get, Env.push, ev, evs, evo, retV, Value.cells, Value.oneCell', setR, overR, fillL, zl, places, allSizes, heldC, ne_eq, Int.reduceLE, Int.reduceLT, Int.reduceEq, Int.reduceNe, Int.reduceToNat, Int.cast_ofNat_Int, Nat.reduceMul, Nat.reduceLeDiff, reduceIte, Nat.reduceEqDiff, Nat.reduceAdd, ↓reduceIte, Try.vcT, F, h.cell0, gets, vsD, if_true, if_false, Bool.false_eq_true, cellsAt, T3.cells]))
  refine Sep.appTab 4 6 infoW Try.underlying88 rfl (by decide) (rW t) h rfl rfl rfl (by omega) (by simp only [maxLen]; omega) ?_
  clear h F
  intro a7 c7 w7 h
  (try simp only [nfD] at h); have F := h.facts; (try simp only [nfF, emp_fact, rds_fact, frm_fact, tab_fact] at F); try simp -dsimp only [↓vcA, vcB, vcD, ↓pureT_lenS, ↓iteT, ↓iteF, cond_true, cond_false, eq_self, argE, Env.get, Env.push, ev, evs, evo, retV, Value.cells, Value.oneCell', setR, overR, fillL, zl, places, allSizes, heldC, ne_eq, Int.reduceLE, Int.reduceLT, Int.reduceEq, Int.reduceNe, Int.reduceToNat, Int.cast_ofNat_Int, Nat.reduceMul, Nat.reduceLeDiff, reduceIte, Nat.reduceEqDiff, Nat.reduceAdd, ↓reduceIte, Try.vcT, F, h.cell0, gets, vsD, if_true, if_false, Bool.false_eq_true,  en]
  refine ⟨_, ?_, n, sW t, out ++ [rW t], a7, c7, rfl, rfl, (h.erase 6).erase 5, sW_byt hbt, hit2, by simp; omega⟩
  omega
def rPa (s : R8) : List Int := [s.numV 1, (s.numS 1).numV 1]
def sPa (s : R8) : R8 := ((s.numS 1).numS 1)
theorem sPa_byt {s : R8} (hb : Byt s.l) : Byt (sPa s).l := numS_byt _ 1 (numS_byt _ 1 (hb))
theorem infoPa : (Try.prog.info? 153).map (fun i => (i.zero, i.size, i.bytes)) = some (some (.agg #[.int .i64 0, .int .i64 0]), 2, 16) := by kernel_rfl
theorem itemsPa {w0 w : World} {q G : Res} {r c : Nat} {s : R8} {K : Value → World → Prop} (h : Sep w0 (fun _ => False) [q, rdr 134 r s (fun _ => False), blk c 53 [.pointer (some ⟨r, 0, none⟩)], G] w) (hb : Byt s.l)
    (hK : ∀ a cc w1, Sep w0 (fun _ => False) [q, rdr 134 r (itemsS rPa sPa s) (fun _ => False), blk c 53 [.pointer (some ⟨r, 0, none⟩)], G, tab 153 2 (.slice a (itemsV rPa sPa s).length cc) (itemsV rPa sPa s)] w1 → K (.slice a (itemsV rPa sPa s).length cc) w1) :
    callsK Try.prog 102 [.pointer (some ⟨r, 0, none⟩), .func (.func 103) #[] #[.pointer (some ⟨c, 0, none⟩)]].toArray w K := by
  refine walk Try.func102 rfl (by kernel_rfl) (by rw [Try.nt102]; simp) ?_
  have hn := num2_rng s hb
  (try simp only [nfD] at h); have F := h.facts; (try simp only [nfF, emp_fact, rds_fact, frm_fact, tab_fact] at F)
  simp -dsimp only [↓vcA, vcB, vcD, ↓pureT_lenS, ↓iteT, ↓iteF, cond_true, cond_false, eq_self, argE, Env.get, Env.push, ev, evs, evo, retV, Value.cells, Value.oneCell', setR, overR, fillL, zl, places, allSizes, heldC, ne_eq, Int.reduceLE, Int.reduceLT, Int.reduceEq, Int.reduceNe, Int.reduceToNat, Int.cast_ofNat_Int, Nat.reduceMul, Nat.reduceLeDiff, reduceIte, Nat.reduceEqDiff, Nat.reduceAdd, ↓reduceIte, Try.vcT]
  refine Sep.rdNum 1 h rfl ?_
  clear h F
  intro w1 h
  (try simp only [nfD] at h); have F := h.facts; (try simp only [nfF, emp_fact, rds_fact, frm_fact, tab_fact] at F); try simp -dsimp only [↓vcA, vcB, vcD, ↓pureT_lenS, ↓iteT, ↓iteF, cond_true, cond_false, eq_self, argE, Env.get, Env.push, ev, evs, evo, retV, Value.cells, Value.oneCell', setR, overR, fillL, zl, places, allSizes, heldC, ne_eq, Int.reduceLE, Int.reduceLT, Int.reduceEq, Int.reduceNe, Int.reduceToNat, Int.cast_ofNat_Int, Nat.reduceMul, Nat.reduceLeDiff, reduceIte, Nat.reduceEqDiff, Nat.reduceAdd, ↓reduceIte, Try.vcT, F, h.cell0, gets, vsD, if_true, if_false, Bool.false_eq_true]
  have h := h.tabNil 153 2
  obtain ⟨N, hN⟩ := Int.eq_ofNat_of_zero_le hn.1
  have eN : (s.numV 2).toNat = N := by omega
  rw [hN] at hn
  rw [hN]
  refine walkLoop [0, 1] [4, 5] (fun m vs w' => ∃ n t out a cc, m = n ∧ vs = [.slice a out.length cc, .int .i64 (n : Nat)] ∧ Sep w0 (fun _ => False) [q, rdr 134 r t (fun _ => False), blk c 53 [.pointer (some ⟨r, 0, none⟩)], G, tab 153 2 (.slice a out.length cc) out] w' ∧
    Byt t.l ∧ itemsF rPa sPa N (s.numS 2) = (out ++ (itemsF rPa sPa n t).1, (itemsF rPa sPa n t).2) ∧ out.length + n ≤ 65535) (by kernel_rfl) ?_ ?_
  · simp -dsimp only [↓vcA, vcB, vcD, ↓pureT_lenS, ↓iteT, ↓iteF, cond_true, cond_false, eq_self, argE, Env.get, Env.push, ev, evs, evo, retV, Value.cells, Value.oneCell', setR, overR, fillL, zl, places, allSizes, heldC, ne_eq, Int.reduceLE, Int.reduceLT, Int.reduceEq, Int.reduceNe, Int.reduceToNat, Int.cast_ofNat_Int, Nat.reduceMul, Nat.reduceLeDiff, reduceIte, Nat.reduceEqDiff, Nat.reduceAdd, ↓reduceIte, Try.vcT, gets]
    exact ⟨_, N, _, [], none, 0, rfl, rfl, h, numS_byt s 2 hb, by simp, by simp; omega⟩
  intro ks hk m vs w2 hi
  clear h F
  obtain ⟨n, t, out, a, cc, rfl, rfl, h, hbt, hit, hlen⟩ := hi
  simp -dsimp only [gets, argE, List.zip_cons_cons, List.zip_nil_left, List.cons_append, List.nil_append, Env.get, Env.push, Option.bind_some, Option.map_some, Option.some.injEq, reduceIte, Nat.reduceEqDiff, Nat.reduceAdd, ↓reduceIte] at hk; subst hk
  have done : (itemsF rPa sPa m t).1 = [] ∧ (itemsF rPa sPa m t).2 = t → ∀ {w'}, Sep w0 (fun _ => False) [q, rdr 134 r t (fun _ => False), blk c 53 [.pointer (some ⟨r, 0, none⟩)], G, tab 153 2 (.slice a out.length cc) out] w' → K (.slice a out.length cc) w' := fun hd w' h => by
    have e1 : itemsV rPa sPa s = out := by unfold itemsV; rw [eN, hit, hd.1]; simp
    have e2 : itemsS rPa sPa s = t := by unfold itemsS; rw [eN, hit, hd.2]
    have := hK a cc w'
    rw [e1, e2] at this
    exact this h
  match m, hit, hlen, done with
  | 0, hit, hlen, done =>
    have h0 : ¬ (0 : Int) < ((0 : Nat) : Int) := by omega
    (try simp only [nfD] at h); have F := h.facts; (try simp only [nfF, emp_fact, rds_fact, frm_fact, tab_fact] at F); try simp -dsimp only [↓vcA, vcB, vcD, ↓pureT_lenS, ↓iteT, ↓iteF, cond_true, cond_false, eq_self, argE, Env.get, Env.push, ev, evs, evo, retV, Value.cells, Value.oneCell', setR, overR, fillL, zl, places, allSizes, heldC, ne_eq, Int.reduceLE, Int.reduceLT, Int.reduceEq, Int.reduceNe, Int.reduceToNat, Int.cast_ofNat_Int, Nat.reduceMul, Nat.reduceLeDiff, reduceIte, Nat.reduceEqDiff, Nat.reduceAdd, ↓reduceIte, Try.vcT, F, h.cell0, gets, vsD, if_true, if_false, Bool.false_eq_true,  decide_eq_false h0]
    exact done ⟨rfl, rfl⟩ h
  | n + 1, hit, hlen, done =>
  have h0 : (0 : Int) < ((n + 1 : Nat) : Int) := by omega
  have en : IntKind.i64.wrap (((n + 1 : Nat) : Int) - 1) = (n : Int) := by rw [i64w _ (by omega) (by omega)]; omega
  (try simp only [nfD] at h); have F := h.facts; (try simp only [nfF, emp_fact, rds_fact, frm_fact, tab_fact] at F); try simp -dsimp only [↓vcA, vcB, vcD, ↓pureT_lenS, ↓iteT, ↓iteF, cond_true, cond_false, eq_self, argE, Env.get, Env.push, ev, evs, evo, retV, Value.cells, Value.oneCell', setR, overR, fillL, zl, places, allSizes, heldC, ne_eq, Int.reduceLE, Int.reduceLT, Int.reduceEq, Int.reduceNe, Int.reduceToNat, Int.cast_ofNat_Int, Nat.reduceMul, Nat.reduceLeDiff, reduceIte, Nat.reduceEqDiff, Nat.reduceAdd, ↓reduceIte, Try.vcT, F, h.cell0, gets, vsD, if_true, if_false, Bool.false_eq_true,  decide_eq_true h0]
  refine Sep.rdLeft 1 h rfl ?_
  by_cases hl : (0 : Int) < t.left
  case neg =>
    (try simp only [nfD] at h); have F := h.facts; (try simp only [nfF, emp_fact, rds_fact, frm_fact, tab_fact] at F); try simp -dsimp only [↓vcA, vcB, vcD, ↓pureT_lenS, ↓iteT, ↓iteF, cond_true, cond_false, eq_self, argE, Env.get, Env.push, ev, evs, evo, retV, Value.cells, Value.oneCell', setR, overR, fillL, zl, places, allSizes, heldC, ne_eq, Int.reduceLE, Int.reduceLT, Int.reduceEq, Int.reduceNe, Int.reduceToNat, Int.cast_ofNat_Int, Nat.reduceMul, Nat.reduceLeDiff, reduceIte, Nat.reduceEqDiff, Nat.reduceAdd, ↓reduceIte, Try.vcT, F, h.cell0, gets, vsD, if_true, if_false, Bool.false_eq_true,  decide_eq_false hl]
    exact done (by simp [itemsF, hl]) h
  have hit2 : itemsF rPa sPa N (s.numS 2) = ((out ++ [rPa t]) ++ (itemsF rPa sPa n (sPa t)).1, (itemsF rPa sPa n (sPa t)).2) := by
    rw [hit]; simp [itemsF, hl]
  (try simp only [nfD] at h); have F := h.facts; (try simp only [nfF, emp_fact, rds_fact, frm_fact, tab_fact] at F); try simp -dsimp only [↓vcA, vcB, vcD, ↓pureT_lenS, ↓iteT, ↓iteF, cond_true, cond_false, eq_self, argE, Env.get, Env.push, ev, evs, evo, retV, Value.cells, Value.oneCell', setR, overR, fillL, zl, places, allSizes, heldC, ne_eq, Int.reduceLE, Int.reduceLT, Int.reduceEq, Int.reduceNe, Int.reduceToNat, Int.cast_ofNat_Int, Nat.reduceMul, Nat.reduceLeDiff, reduceIte, Nat.reduceEqDiff, Nat.reduceAdd, ↓reduceIte, Try.vcT, F, h.cell0, gets, vsD, if_true, if_false, Bool.false_eq_true,  decide_eq_true hl]
  refine walk Try.func103 rfl (by kernel_rfl) (by rw [Try.nt103]; simp) ?_
  (try simp only [nfD] at h); have F := h.facts; (try simp only [nfF, emp_fact, rds_fact, frm_fact, tab_fact] at F); try simp -dsimp only [↓vcA, vcB, vcD, ↓pureT_lenS, ↓iteT, ↓iteF, cond_true, cond_false, eq_self, argE, Env.get, Env.push, ev, evs, evo, retV, Value.cells, Value.oneCell', setR, overR, fillL, zl, places, allSizes, heldC, ne_eq, Int.reduceLE, Int.reduceLT, Int.reduceEq, Int.reduceNe, Int.reduceToNat, Int.cast_ofNat_Int, Nat.reduceMul, Nat.reduceLeDiff, reduceIte, Nat.reduceEqDiff, Nat.reduceAdd, ↓reduceIte, Try.vcT, F, h.cell0, gets, vsD, if_true, if_false, Bool.false_eq_true]
  refine h.new ?_
  clear h F
  intro w5 b5 h
  (try simp only [nfD] at h); have F := h.facts; (try simp only [nfF, emp_fact, rds_fact, frm_fact, tab_fact] at F); try simp -dsimp only [↓vcA, vcB, vcD, ↓pureT_lenS, ↓iteT, ↓iteF, cond_true, cond_false, eq_self, argE, Env.get, Env.push, ev, evs, evo, retV, Value.cells, Value.oneCell', setR, overR, fillL, zl, places, allSizes, heldC, ne_eq, Int.reduceLE, Int.reduceLT, Int.reduceEq, Int.reduceNe, Int.reduceToNat, Int.cast_ofNat_Int, Nat.reduceMul, Nat.reduceLeDiff, reduceIte, Nat.reduceEqDiff, Nat.reduceAdd, ↓reduceIte, Try.vcT, F, h.cell0, gets, vsD, if_true, if_false, Bool.false_eq_true]
  refine walkDraw (.h 0 0 (.h 2 1 (.l 1 (.l 3 (.q 4 (.l 5 .fin)))))) [(c, 0, .pointer (some ⟨r, 0, none⟩)), (c, 0, .pointer (some ⟨r, 0, none⟩))] (by kernel_rfl) (by simp [Holds_nil, Holds_cons, F]) ?_
  refine h.draw ?_
  clear h F
  intro w6 h
  (try simp only [nfD] at h); have F := h.facts; (try simp only [nfF, emp_fact, rds_fact, frm_fact, tab_fact] at F); try simp -dsimp only [↓vcA, vcB, vcD, ↓pureT_lenS, ↓iteT, ↓iteF, cond_true, cond_false, eq_self, argE, Env.get, Env.push, ev, evs, evo, retV, Value.cells, Value.oneCell', setR, overR, fillL, zl, places, allSizes, heldC, ne_eq, Int.reduceLE, Int.reduceLT, Int.reduceEq, Int.reduceNe, Int.reduceToNat, Int.cast_ofNat_Int, Nat.reduceMul, Nat.reduceLeDiff, reduceIte, Nat.reduceEqDiff, Nat.reduceAdd, ↓reduceIte, Try.vcT, F, h.cell0, gets, vsD, if_true, if_false, Bool.false_eq_true]
  repeat ((first | refine Sep.new h ?_ | refine Sep.put 0 h rfl ?_ | refine Sep.put 1 h rfl ?_ | refine Sep.put 2 h rfl ?_ | refine Sep.put 3 h rfl ?_ | refine Sep.put 4 h rfl ?_ | refine Sep.put 5 h rfl ?_ | refine Sep.rdNum 1 h rfl ?_ | refine Sep.rdPoint 1 h rfl ?_ | refine Sep.rdTri 1 h rfl ?_); (clear F; (try clear h); intros; rename_i h; (try simp only [nfD] at h); have F := h.facts; (try simp only [nfF, emp_fact, rds_fact, frm_fact, tab_fact] at F); try simp -dsimp only [↓vcA, vcB, vcD, ↓pureT_lenS, ↓iteT, ↓iteF, cond_true, cond_false, eq_self, argE, Env.get, Env.push, ev, evs, evo, retV, Value.cells, Value.oneCell', setR, overR, fillL, zl, places, allSizes, heldC, ne_eq, Int.reduceLE, Int.reduceLT, Int.reduceEq, Int.reduceNe, Int.reduceToNat, Int.cast_ofNat_Int, Nat.reduceMul, Nat.reduceLeDiff, reduceIte, Nat.reduceEqDiff, Nat.reduceAdd, ↓reduceIte, Try.vcT, F, h.cell0, gets, vsD, if_true, if_false, Bool.false_eq_true, cellsAt, T3.cells]))
  refine Sep.appTab 4 6 infoPa Try.underlying89 rfl (by decide) (rPa t) h rfl rfl rfl (by omega) (by simp only [maxLen]; omega) ?_
  clear h F
  intro a7 c7 w7 h
  (try simp only [nfD] at h); have F := h.facts; (try simp only [nfF, emp_fact, rds_fact, frm_fact, tab_fact] at F); try simp -dsimp only [↓vcA, vcB, vcD, ↓pureT_lenS, ↓iteT, ↓iteF, cond_true, cond_false, eq_self, argE, Env.get, Env.push, ev, evs, evo, retV, Value.cells, Value.oneCell', setR, overR, fillL, zl, places, allSizes, heldC, ne_eq, Int.reduceLE, Int.reduceLT, Int.reduceEq, Int.reduceNe, Int.reduceToNat, Int.cast_ofNat_Int, Nat.reduceMul, Nat.reduceLeDiff, reduceIte, Nat.reduceEqDiff, Nat.reduceAdd, ↓reduceIte, Try.vcT, F, h.cell0, gets, vsD, if_true, if_false, Bool.false_eq_true,  en]
  refine ⟨_, ?_, n, sPa t, out ++ [rPa t], a7, c7, rfl, rfl, (h.erase 6).erase 5, sPa_byt hbt, hit2, by simp; omega⟩
  omega
def rRe (s : R8) : List Int := [s.numV 1, (s.numS 1).numV 2, ((s.numS 1).numS 2).numV 1, (((s.numS 1).numS 2).numS 1).numV 1, ((((s.numS 1).numS 2).numS 1).numS 1).triV.ax, ((((s.numS 1).numS 2).numS 1).numS 1).triV.ay, ((((s.numS 1).numS 2).numS 1).numS 1).triV.bx, ((((s.numS 1).numS 2).numS 1).numS 1).triV.by', ((((s.numS 1).numS 2).numS 1).numS 1).triV.cx, ((((s.numS 1).numS 2).numS 1).numS 1).triV.cy]
def sRe (s : R8) : R8 := (((((s.numS 1).numS 2).numS 1).numS 1).triS)
theorem sRe_byt {s : R8} (hb : Byt s.l) : Byt (sRe s).l := triS_byt _ (numS_byt _ 1 (numS_byt _ 1 (numS_byt _ 2 (numS_byt _ 1 (hb)))))
theorem infoRe : (Try.prog.info? 144).map (fun i => (i.zero, i.size, i.bytes)) = some (some (.agg #[.int .i64 0, .int .i64 0, .int .i64 0, .int .i64 0, .int .i64 0, .int .i64 0, .int .i64 0, .int .i64 0, .int .i64 0, .int .i64 0]), 10, 80) := by kernel_rfl
theorem itemsRe {w0 w : World} {q G : Res} {r c : Nat} {s : R8} {K : Value → World → Prop} (h : Sep w0 (fun _ => False) [q, rdr 134 r s (fun _ => False), blk c 53 [.pointer (some ⟨r, 0, none⟩)], G] w) (hb : Byt s.l)
    (hK : ∀ a cc w1, Sep w0 (fun _ => False) [q, rdr 134 r (itemsS rRe sRe s) (fun _ => False), blk c 53 [.pointer (some ⟨r, 0, none⟩)], G, tab 144 10 (.slice a (itemsV rRe sRe s).length cc) (itemsV rRe sRe s)] w1 → K (.slice a (itemsV rRe sRe s).length cc) w1) :
    callsK Try.prog 104 [.pointer (some ⟨r, 0, none⟩), .func (.func 105) #[] #[.pointer (some ⟨c, 0, none⟩)]].toArray w K := by
  refine walk Try.func104 rfl (by kernel_rfl) (by rw [Try.nt104]; simp) ?_
  have hn := num2_rng s hb
  (try simp only [nfD] at h); have F := h.facts; (try simp only [nfF, emp_fact, rds_fact, frm_fact, tab_fact] at F)
  simp -dsimp only [↓vcA, vcB, vcD, ↓pureT_lenS, ↓iteT, ↓iteF, cond_true, cond_false, eq_self, argE, Env.get, Env.push, ev, evs, evo, retV, Value.cells, Value.oneCell', setR, overR, fillL, zl, places, allSizes, heldC, ne_eq, Int.reduceLE, Int.reduceLT, Int.reduceEq, Int.reduceNe, Int.reduceToNat, Int.cast_ofNat_Int, Nat.reduceMul, Nat.reduceLeDiff, reduceIte, Nat.reduceEqDiff, Nat.reduceAdd, ↓reduceIte, Try.vcT]
  refine Sep.rdNum 1 h rfl ?_
  clear h F
  intro w1 h
  (try simp only [nfD] at h); have F := h.facts; (try simp only [nfF, emp_fact, rds_fact, frm_fact, tab_fact] at F); try simp -dsimp only [↓vcA, vcB, vcD, ↓pureT_lenS, ↓iteT, ↓iteF, cond_true, cond_false, eq_self, argE, Env.get, Env.push, ev, evs, evo, retV, Value.cells, Value.oneCell', setR, overR, fillL, zl, places, allSizes, heldC, ne_eq, Int.reduceLE, Int.reduceLT, Int.reduceEq, Int.reduceNe, Int.reduceToNat, Int.cast_ofNat_Int, Nat.reduceMul, Nat.reduceLeDiff, reduceIte, Nat.reduceEqDiff, Nat.reduceAdd, ↓reduceIte, Try.vcT, F, h.cell0, gets, vsD, if_true, if_false, Bool.false_eq_true]
  have h := h.tabNil 144 10
  obtain ⟨N, hN⟩ := Int.eq_ofNat_of_zero_le hn.1
  have eN : (s.numV 2).toNat = N := by omega
  rw [hN] at hn
  rw [hN]
  refine walkLoop [0, 1] [4, 5] (fun m vs w' => ∃ n t out a cc, m = n ∧ vs = [.slice a out.length cc, .int .i64 (n : Nat)] ∧ Sep w0 (fun _ => False) [q, rdr 134 r t (fun _ => False), blk c 53 [.pointer (some ⟨r, 0, none⟩)], G, tab 144 10 (.slice a out.length cc) out] w' ∧
    Byt t.l ∧ itemsF rRe sRe N (s.numS 2) = (out ++ (itemsF rRe sRe n t).1, (itemsF rRe sRe n t).2) ∧ out.length + n ≤ 65535) (by kernel_rfl) ?_ ?_
  · simp -dsimp only [↓vcA, vcB, vcD, ↓pureT_lenS, ↓iteT, ↓iteF, cond_true, cond_false, eq_self, argE, Env.get, Env.push, ev, evs, evo, retV, Value.cells, Value.oneCell', setR, overR, fillL, zl, places, allSizes, heldC, ne_eq, Int.reduceLE, Int.reduceLT, Int.reduceEq, Int.reduceNe, Int.reduceToNat, Int.cast_ofNat_Int, Nat.reduceMul, Nat.reduceLeDiff, reduceIte, Nat.reduceEqDiff, Nat.reduceAdd, ↓reduceIte, Try.vcT, gets]
    exact ⟨_, N, _, [], none, 0, rfl, rfl, h, numS_byt s 2 hb, by simp, by simp; omega⟩
  intro ks hk m vs w2 hi
  clear h F
  obtain ⟨n, t, out, a, cc, rfl, rfl, h, hbt, hit, hlen⟩ := hi
  simp -dsimp only [gets, argE, List.zip_cons_cons, List.zip_nil_left, List.cons_append, List.nil_append, Env.get, Env.push, Option.bind_some, Option.map_some, Option.some.injEq, reduceIte, Nat.reduceEqDiff, Nat.reduceAdd, ↓reduceIte] at hk; subst hk
  have done : (itemsF rRe sRe m t).1 = [] ∧ (itemsF rRe sRe m t).2 = t → ∀ {w'}, Sep w0 (fun _ => False) [q, rdr 134 r t (fun _ => False), blk c 53 [.pointer (some ⟨r, 0, none⟩)], G, tab 144 10 (.slice a out.length cc) out] w' → K (.slice a out.length cc) w' := fun hd w' h => by
    have e1 : itemsV rRe sRe s = out := by unfold itemsV; rw [eN, hit, hd.1]; simp
    have e2 : itemsS rRe sRe s = t := by unfold itemsS; rw [eN, hit, hd.2]
    have := hK a cc w'
    rw [e1, e2] at this
    exact this h
  match m, hit, hlen, done with
  | 0, hit, hlen, done =>
    have h0 : ¬ (0 : Int) < ((0 : Nat) : Int) := by omega
    (try simp only [nfD] at h); have F := h.facts; (try simp only [nfF, emp_fact, rds_fact, frm_fact, tab_fact] at F); try simp -dsimp only [↓vcA, vcB, vcD, ↓pureT_lenS, ↓iteT, ↓iteF, cond_true, cond_false, eq_self, argE, Env.get, Env.push, ev, evs, evo, retV, Value.cells, Value.oneCell', setR, overR, fillL, zl, places, allSizes, heldC, ne_eq, Int.reduceLE, Int.reduceLT, Int.reduceEq, Int.reduceNe, Int.reduceToNat, Int.cast_ofNat_Int, Nat.reduceMul, Nat.reduceLeDiff, reduceIte, Nat.reduceEqDiff, Nat.reduceAdd, ↓reduceIte, Try.vcT, F, h.cell0, gets, vsD, if_true, if_false, Bool.false_eq_true,  decide_eq_false h0]
    exact done ⟨rfl, rfl⟩ h
  | n + 1, hit, hlen, done =>
  have h0 : (0 : Int) < ((n + 1 : Nat) : Int) := by omega
  have en : IntKind.i64.wrap (((n + 1 : Nat) : Int) - 1) = (n : Int) := by rw [i64w _ (by omega) (by omega)]; omega
  (try simp only [nfD] at h); have F := h.facts; (try simp only [nfF, emp_fact, rds_fact, frm_fact, tab_fact] at F); try simp -dsimp only [↓vcA, vcB, vcD, ↓pureT_lenS, ↓iteT, ↓iteF, cond_true, cond_false, eq_self, argE, Env.get, Env.push, ev, evs, evo, retV, Value.cells, Value.oneCell', setR, overR, fillL, zl, places, allSizes, heldC, ne_eq, Int.reduceLE, Int.reduceLT, Int.reduceEq, Int.reduceNe, Int.reduceToNat, Int.cast_ofNat_Int, Nat.reduceMul, Nat.reduceLeDiff, reduceIte, Nat.reduceEqDiff, Nat.reduceAdd, ↓reduceIte, Try.vcT, F, h.cell0, gets, vsD, if_true, if_false, Bool.false_eq_true,  decide_eq_true h0]
  refine Sep.rdLeft 1 h rfl ?_
  by_cases hl : (0 : Int) < t.left
  case neg =>
    (try simp only [nfD] at h); have F := h.facts; (try simp only [nfF, emp_fact, rds_fact, frm_fact, tab_fact] at F); try simp -dsimp only [↓vcA, vcB, vcD, ↓pureT_lenS, ↓iteT, ↓iteF, cond_true, cond_false, eq_self, argE, Env.get, Env.push, ev, evs, evo, retV, Value.cells, Value.oneCell', setR, overR, fillL, zl, places, allSizes, heldC, ne_eq, Int.reduceLE, Int.reduceLT, Int.reduceEq, Int.reduceNe, Int.reduceToNat, Int.cast_ofNat_Int, Nat.reduceMul, Nat.reduceLeDiff, reduceIte, Nat.reduceEqDiff, Nat.reduceAdd, ↓reduceIte, Try.vcT, F, h.cell0, gets, vsD, if_true, if_false, Bool.false_eq_true,  decide_eq_false hl]
    exact done (by simp [itemsF, hl]) h
  have hit2 : itemsF rRe sRe N (s.numS 2) = ((out ++ [rRe t]) ++ (itemsF rRe sRe n (sRe t)).1, (itemsF rRe sRe n (sRe t)).2) := by
    rw [hit]; simp [itemsF, hl]
  (try simp only [nfD] at h); have F := h.facts; (try simp only [nfF, emp_fact, rds_fact, frm_fact, tab_fact] at F); try simp -dsimp only [↓vcA, vcB, vcD, ↓pureT_lenS, ↓iteT, ↓iteF, cond_true, cond_false, eq_self, argE, Env.get, Env.push, ev, evs, evo, retV, Value.cells, Value.oneCell', setR, overR, fillL, zl, places, allSizes, heldC, ne_eq, Int.reduceLE, Int.reduceLT, Int.reduceEq, Int.reduceNe, Int.reduceToNat, Int.cast_ofNat_Int, Nat.reduceMul, Nat.reduceLeDiff, reduceIte, Nat.reduceEqDiff, Nat.reduceAdd, ↓reduceIte, Try.vcT, F, h.cell0, gets, vsD, if_true, if_false, Bool.false_eq_true,  decide_eq_true hl]
  refine walk Try.func105 rfl (by kernel_rfl) (by rw [Try.nt105]; simp) ?_
  (try simp only [nfD] at h); have F := h.facts; (try simp only [nfF, emp_fact, rds_fact, frm_fact, tab_fact] at F); try simp -dsimp only [↓vcA, vcB, vcD, ↓pureT_lenS, ↓iteT, ↓iteF, cond_true, cond_false, eq_self, argE, Env.get, Env.push, ev, evs, evo, retV, Value.cells, Value.oneCell', setR, overR, fillL, zl, places, allSizes, heldC, ne_eq, Int.reduceLE, Int.reduceLT, Int.reduceEq, Int.reduceNe, Int.reduceToNat, Int.cast_ofNat_Int, Nat.reduceMul, Nat.reduceLeDiff, reduceIte, Nat.reduceEqDiff, Nat.reduceAdd, ↓reduceIte, Try.vcT, F, h.cell0, gets, vsD, if_true, if_false, Bool.false_eq_true]
  refine h.new ?_
  clear h F
  intro w5 b5 h
  (try simp only [nfD] at h); have F := h.facts; (try simp only [nfF, emp_fact, rds_fact, frm_fact, tab_fact] at F); try simp -dsimp only [↓vcA, vcB, vcD, ↓pureT_lenS, ↓iteT, ↓iteF, cond_true, cond_false, eq_self, argE, Env.get, Env.push, ev, evs, evo, retV, Value.cells, Value.oneCell', setR, overR, fillL, zl, places, allSizes, heldC, ne_eq, Int.reduceLE, Int.reduceLT, Int.reduceEq, Int.reduceNe, Int.reduceToNat, Int.cast_ofNat_Int, Nat.reduceMul, Nat.reduceLeDiff, reduceIte, Nat.reduceEqDiff, Nat.reduceAdd, ↓reduceIte, Try.vcT, F, h.cell0, gets, vsD, if_true, if_false, Bool.false_eq_true]
  refine walkDraw (.h 0 0 (.h 2 1 (.h 4 2 (.h 6 3 (.h 8 4 (.l 1 (.l 3 (.l 5 (.l 7 (.l 9 (.q 10 (.l 11 .fin)))))))))))) [(c, 0, .pointer (some ⟨r, 0, none⟩)), (c, 0, .pointer (some ⟨r, 0, none⟩)), (c, 0, .pointer (some ⟨r, 0, none⟩)), (c, 0, .pointer (some ⟨r, 0, none⟩)), (c, 0, .pointer (some ⟨r, 0, none⟩))] (by kernel_rfl) (by simp [Holds_nil, Holds_cons, F]) ?_
  refine h.draw ?_
  clear h F
  intro w6 h
  (try simp only [nfD] at h); have F := h.facts; (try simp only [nfF, emp_fact, rds_fact, frm_fact, tab_fact] at F); try simp -dsimp only [↓vcA, vcB, vcD, ↓pureT_lenS, ↓iteT, ↓iteF, cond_true, cond_false, eq_self, argE, Env.get, Env.push, ev, evs, evo, retV, Value.cells, Value.oneCell', setR, overR, fillL, zl, places, allSizes, heldC, ne_eq, Int.reduceLE, Int.reduceLT, Int.reduceEq, Int.reduceNe, Int.reduceToNat, Int.cast_ofNat_Int, Nat.reduceMul, Nat.reduceLeDiff, reduceIte, Nat.reduceEqDiff, Nat.reduceAdd, ↓reduceIte, Try.vcT, F, h.cell0, gets, vsD, if_true, if_false, Bool.false_eq_true]
  repeat ((first | refine Sep.new h ?_ | refine Sep.put 0 h rfl ?_ | refine Sep.put 1 h rfl ?_ | refine Sep.put 2 h rfl ?_ | refine Sep.put 3 h rfl ?_ | refine Sep.put 4 h rfl ?_ | refine Sep.put 5 h rfl ?_ | refine Sep.rdNum 1 h rfl ?_ | refine Sep.rdPoint 1 h rfl ?_ | refine Sep.rdTri 1 h rfl ?_); (clear F; (try clear h); intros; rename_i h; (try simp only [nfD] at h); have F := h.facts; (try simp only [nfF, emp_fact, rds_fact, frm_fact, tab_fact] at F); try simp -dsimp only [↓vcA, vcB, vcD, ↓pureT_lenS, ↓iteT, ↓iteF, cond_true, cond_false, eq_self, argE, Env.get, Env.push, ev, evs, evo, retV, Value.cells, Value.oneCell', setR, overR, fillL, zl, places, allSizes, heldC, ne_eq, Int.reduceLE, Int.reduceLT, Int.reduceEq, Int.reduceNe, Int.reduceToNat, Int.cast_ofNat_Int, Nat.reduceMul, Nat.reduceLeDiff, reduceIte, Nat.reduceEqDiff, Nat.reduceAdd, ↓reduceIte, Try.vcT, F, h.cell0, gets, vsD, if_true, if_false, Bool.false_eq_true, cellsAt, T3.cells]))
  refine Sep.appTab 4 6 infoRe Try.underlying90 rfl (by decide) (rRe t) h rfl rfl rfl (by omega) (by simp only [maxLen]; omega) ?_
  clear h F
  intro a7 c7 w7 h
  (try simp only [nfD] at h); have F := h.facts; (try simp only [nfF, emp_fact, rds_fact, frm_fact, tab_fact] at F); try simp -dsimp only [↓vcA, vcB, vcD, ↓pureT_lenS, ↓iteT, ↓iteF, cond_true, cond_false, eq_self, argE, Env.get, Env.push, ev, evs, evo, retV, Value.cells, Value.oneCell', setR, overR, fillL, zl, places, allSizes, heldC, ne_eq, Int.reduceLE, Int.reduceLT, Int.reduceEq, Int.reduceNe, Int.reduceToNat, Int.cast_ofNat_Int, Nat.reduceMul, Nat.reduceLeDiff, reduceIte, Nat.reduceEqDiff, Nat.reduceAdd, ↓reduceIte, Try.vcT, F, h.cell0, gets, vsD, if_true, if_false, Bool.false_eq_true,  en]
  refine ⟨_, ?_, n, sRe t, out ++ [rRe t], a7, c7, rfl, rfl, (h.erase 6).erase 5, sRe_byt hbt, hit2, by simp; omega⟩
  omega
def rCa (s : R8) : List Int := [s.numV 1, (s.numS 1).numV 1, ((s.numS 1).numS 1).numV 1, (((s.numS 1).numS 1).numS 1).numV 1, ((((s.numS 1).numS 1).numS 1).numS 1).numV 2, (((((s.numS 1).numS 1).numS 1).numS 1).numS 2).numV 1, ((((((s.numS 1).numS 1).numS 1).numS 1).numS 2).numS 1).numV 4, IntKind.i64.wrap ((((((((s.numS 1).numS 1).numS 1).numS 1).numS 2).numS 1).numS 4).numV 2 - 1), ((((((((s.numS 1).numS 1).numS 1).numS 1).numS 2).numS 1).numS 4).numS 2).numV 1]
def sCa (s : R8) : R8 := (((((((((s.numS 1).numS 1).numS 1).numS 1).numS 2).numS 1).numS 4).numS 2).numS 1)
theorem sCa_byt {s : R8} (hb : Byt s.l) : Byt (sCa s).l := numS_byt _ 1 (numS_byt _ 2 (numS_byt _ 4 (numS_byt _ 1 (numS_byt _ 2 (numS_byt _ 1 (numS_byt _ 1 (numS_byt _ 1 (numS_byt _ 1 (hb)))))))))
theorem infoCa : (Try.prog.info? 159).map (fun i => (i.zero, i.size, i.bytes)) = some (some (.agg #[.int .i64 0, .int .i64 0, .int .i64 0, .int .i64 0, .int .i64 0, .int .i64 0, .int .i64 0, .int .i64 0, .int .i64 0]), 9, 72) := by kernel_rfl
theorem itemsCa {w0 w : World} {q G : Res} {r c : Nat} {s : R8} {K : Value → World → Prop} (h : Sep w0 (fun _ => False) [q, rdr 134 r s (fun _ => False), blk c 53 [.pointer (some ⟨r, 0, none⟩)], G] w) (hb : Byt s.l)
    (hK : ∀ a cc w1, Sep w0 (fun _ => False) [q, rdr 134 r (itemsS rCa sCa s) (fun _ => False), blk c 53 [.pointer (some ⟨r, 0, none⟩)], G, tab 159 9 (.slice a (itemsV rCa sCa s).length cc) (itemsV rCa sCa s)] w1 → K (.slice a (itemsV rCa sCa s).length cc) w1) :
    callsK Try.prog 106 [.pointer (some ⟨r, 0, none⟩), .func (.func 107) #[] #[.pointer (some ⟨c, 0, none⟩)]].toArray w K := by
  refine walk Try.func106 rfl (by kernel_rfl) (by rw [Try.nt106]; simp) ?_
  have hn := num2_rng s hb
  (try simp only [nfD] at h); have F := h.facts; (try simp only [nfF, emp_fact, rds_fact, frm_fact, tab_fact] at F)
  simp -dsimp only [↓vcA, vcB, vcD, ↓pureT_lenS, ↓iteT, ↓iteF, cond_true, cond_false, eq_self, argE, Env.get, Env.push, ev, evs, evo, retV, Value.cells, Value.oneCell', setR, overR, fillL, zl, places, allSizes, heldC, ne_eq, Int.reduceLE, Int.reduceLT, Int.reduceEq, Int.reduceNe, Int.reduceToNat, Int.cast_ofNat_Int, Nat.reduceMul, Nat.reduceLeDiff, reduceIte, Nat.reduceEqDiff, Nat.reduceAdd, ↓reduceIte, Try.vcT]
  refine Sep.rdNum 1 h rfl ?_
  clear h F
  intro w1 h
  (try simp only [nfD] at h); have F := h.facts; (try simp only [nfF, emp_fact, rds_fact, frm_fact, tab_fact] at F); try simp -dsimp only [↓vcA, vcB, vcD, ↓pureT_lenS, ↓iteT, ↓iteF, cond_true, cond_false, eq_self, argE, Env.get, Env.push, ev, evs, evo, retV, Value.cells, Value.oneCell', setR, overR, fillL, zl, places, allSizes, heldC, ne_eq, Int.reduceLE, Int.reduceLT, Int.reduceEq, Int.reduceNe, Int.reduceToNat, Int.cast_ofNat_Int, Nat.reduceMul, Nat.reduceLeDiff, reduceIte, Nat.reduceEqDiff, Nat.reduceAdd, ↓reduceIte, Try.vcT, F, h.cell0, gets, vsD, if_true, if_false, Bool.false_eq_true]
  have h := h.tabNil 159 9
  obtain ⟨N, hN⟩ := Int.eq_ofNat_of_zero_le hn.1
  have eN : (s.numV 2).toNat = N := by omega
  rw [hN] at hn
  rw [hN]
  refine walkLoop [0, 1] [4, 5] (fun m vs w' => ∃ n t out a cc, m = n ∧ vs = [.slice a out.length cc, .int .i64 (n : Nat)] ∧ Sep w0 (fun _ => False) [q, rdr 134 r t (fun _ => False), blk c 53 [.pointer (some ⟨r, 0, none⟩)], G, tab 159 9 (.slice a out.length cc) out] w' ∧
    Byt t.l ∧ itemsF rCa sCa N (s.numS 2) = (out ++ (itemsF rCa sCa n t).1, (itemsF rCa sCa n t).2) ∧ out.length + n ≤ 65535) (by kernel_rfl) ?_ ?_
  · simp -dsimp only [↓vcA, vcB, vcD, ↓pureT_lenS, ↓iteT, ↓iteF, cond_true, cond_false, eq_self, argE, Env.get, Env.push, ev, evs, evo, retV, Value.cells, Value.oneCell', setR, overR, fillL, zl, places, allSizes, heldC, ne_eq, Int.reduceLE, Int.reduceLT, Int.reduceEq, Int.reduceNe, Int.reduceToNat, Int.cast_ofNat_Int, Nat.reduceMul, Nat.reduceLeDiff, reduceIte, Nat.reduceEqDiff, Nat.reduceAdd, ↓reduceIte, Try.vcT, gets]
    exact ⟨_, N, _, [], none, 0, rfl, rfl, h, numS_byt s 2 hb, by simp, by simp; omega⟩
  intro ks hk m vs w2 hi
  clear h F
  obtain ⟨n, t, out, a, cc, rfl, rfl, h, hbt, hit, hlen⟩ := hi
  simp -dsimp only [gets, argE, List.zip_cons_cons, List.zip_nil_left, List.cons_append, List.nil_append, Env.get, Env.push, Option.bind_some, Option.map_some, Option.some.injEq, reduceIte, Nat.reduceEqDiff, Nat.reduceAdd, ↓reduceIte] at hk; subst hk
  have done : (itemsF rCa sCa m t).1 = [] ∧ (itemsF rCa sCa m t).2 = t → ∀ {w'}, Sep w0 (fun _ => False) [q, rdr 134 r t (fun _ => False), blk c 53 [.pointer (some ⟨r, 0, none⟩)], G, tab 159 9 (.slice a out.length cc) out] w' → K (.slice a out.length cc) w' := fun hd w' h => by
    have e1 : itemsV rCa sCa s = out := by unfold itemsV; rw [eN, hit, hd.1]; simp
    have e2 : itemsS rCa sCa s = t := by unfold itemsS; rw [eN, hit, hd.2]
    have := hK a cc w'
    rw [e1, e2] at this
    exact this h
  match m, hit, hlen, done with
  | 0, hit, hlen, done =>
    have h0 : ¬ (0 : Int) < ((0 : Nat) : Int) := by omega
    (try simp only [nfD] at h); have F := h.facts; (try simp only [nfF, emp_fact, rds_fact, frm_fact, tab_fact] at F); try simp -dsimp only [↓vcA, vcB, vcD, ↓pureT_lenS, ↓iteT, ↓iteF, cond_true, cond_false, eq_self, argE, Env.get, Env.push, ev, evs, evo, retV, Value.cells, Value.oneCell', setR, overR, fillL, zl, places, allSizes, heldC, ne_eq, Int.reduceLE, Int.reduceLT, Int.reduceEq, Int.reduceNe, Int.reduceToNat, Int.cast_ofNat_Int, Nat.reduceMul, Nat.reduceLeDiff, reduceIte, Nat.reduceEqDiff, Nat.reduceAdd, ↓reduceIte, Try.vcT, F, h.cell0, gets, vsD, if_true, if_false, Bool.false_eq_true,  decide_eq_false h0]
    exact done ⟨rfl, rfl⟩ h
  | n + 1, hit, hlen, done =>
  have h0 : (0 : Int) < ((n + 1 : Nat) : Int) := by omega
  have en : IntKind.i64.wrap (((n + 1 : Nat) : Int) - 1) = (n : Int) := by rw [i64w _ (by omega) (by omega)]; omega
  (try simp only [nfD] at h); have F := h.facts; (try simp only [nfF, emp_fact, rds_fact, frm_fact, tab_fact] at F); try simp -dsimp only [↓vcA, vcB, vcD, ↓pureT_lenS, ↓iteT, ↓iteF, cond_true, cond_false, eq_self, argE, Env.get, Env.push, ev, evs, evo, retV, Value.cells, Value.oneCell', setR, overR, fillL, zl, places, allSizes, heldC, ne_eq, Int.reduceLE, Int.reduceLT, Int.reduceEq, Int.reduceNe, Int.reduceToNat, Int.cast_ofNat_Int, Nat.reduceMul, Nat.reduceLeDiff, reduceIte, Nat.reduceEqDiff, Nat.reduceAdd, ↓reduceIte, Try.vcT, F, h.cell0, gets, vsD, if_true, if_false, Bool.false_eq_true,  decide_eq_true h0]
  refine Sep.rdLeft 1 h rfl ?_
  by_cases hl : (0 : Int) < t.left
  case neg =>
    (try simp only [nfD] at h); have F := h.facts; (try simp only [nfF, emp_fact, rds_fact, frm_fact, tab_fact] at F); try simp -dsimp only [↓vcA, vcB, vcD, ↓pureT_lenS, ↓iteT, ↓iteF, cond_true, cond_false, eq_self, argE, Env.get, Env.push, ev, evs, evo, retV, Value.cells, Value.oneCell', setR, overR, fillL, zl, places, allSizes, heldC, ne_eq, Int.reduceLE, Int.reduceLT, Int.reduceEq, Int.reduceNe, Int.reduceToNat, Int.cast_ofNat_Int, Nat.reduceMul, Nat.reduceLeDiff, reduceIte, Nat.reduceEqDiff, Nat.reduceAdd, ↓reduceIte, Try.vcT, F, h.cell0, gets, vsD, if_true, if_false, Bool.false_eq_true,  decide_eq_false hl]
    exact done (by simp [itemsF, hl]) h
  have hit2 : itemsF rCa sCa N (s.numS 2) = ((out ++ [rCa t]) ++ (itemsF rCa sCa n (sCa t)).1, (itemsF rCa sCa n (sCa t)).2) := by
    rw [hit]; simp [itemsF, hl]
  (try simp only [nfD] at h); have F := h.facts; (try simp only [nfF, emp_fact, rds_fact, frm_fact, tab_fact] at F); try simp -dsimp only [↓vcA, vcB, vcD, ↓pureT_lenS, ↓iteT, ↓iteF, cond_true, cond_false, eq_self, argE, Env.get, Env.push, ev, evs, evo, retV, Value.cells, Value.oneCell', setR, overR, fillL, zl, places, allSizes, heldC, ne_eq, Int.reduceLE, Int.reduceLT, Int.reduceEq, Int.reduceNe, Int.reduceToNat, Int.cast_ofNat_Int, Nat.reduceMul, Nat.reduceLeDiff, reduceIte, Nat.reduceEqDiff, Nat.reduceAdd, ↓reduceIte, Try.vcT, F, h.cell0, gets, vsD, if_true, if_false, Bool.false_eq_true,  decide_eq_true hl]
  refine walk Try.func107 rfl (by kernel_rfl) (by rw [Try.nt107]; simp) ?_
  (try simp only [nfD] at h); have F := h.facts; (try simp only [nfF, emp_fact, rds_fact, frm_fact, tab_fact] at F); try simp -dsimp only [↓vcA, vcB, vcD, ↓pureT_lenS, ↓iteT, ↓iteF, cond_true, cond_false, eq_self, argE, Env.get, Env.push, ev, evs, evo, retV, Value.cells, Value.oneCell', setR, overR, fillL, zl, places, allSizes, heldC, ne_eq, Int.reduceLE, Int.reduceLT, Int.reduceEq, Int.reduceNe, Int.reduceToNat, Int.cast_ofNat_Int, Nat.reduceMul, Nat.reduceLeDiff, reduceIte, Nat.reduceEqDiff, Nat.reduceAdd, ↓reduceIte, Try.vcT, F, h.cell0, gets, vsD, if_true, if_false, Bool.false_eq_true]
  refine h.new ?_
  clear h F
  intro w5 b5 h
  (try simp only [nfD] at h); have F := h.facts; (try simp only [nfF, emp_fact, rds_fact, frm_fact, tab_fact] at F); try simp -dsimp only [↓vcA, vcB, vcD, ↓pureT_lenS, ↓iteT, ↓iteF, cond_true, cond_false, eq_self, argE, Env.get, Env.push, ev, evs, evo, retV, Value.cells, Value.oneCell', setR, overR, fillL, zl, places, allSizes, heldC, ne_eq, Int.reduceLE, Int.reduceLT, Int.reduceEq, Int.reduceNe, Int.reduceToNat, Int.cast_ofNat_Int, Nat.reduceMul, Nat.reduceLeDiff, reduceIte, Nat.reduceEqDiff, Nat.reduceAdd, ↓reduceIte, Try.vcT, F, h.cell0, gets, vsD, if_true, if_false, Bool.false_eq_true]
  refine walkDraw (.h 0 0 (.h 2 1 (.h 4 2 (.h 6 3 (.h 8 4 (.h 10 5 (.h 12 6 (.h 14 7 (.h 17 8 (.l 1 (.l 3 (.l 5 (.l 7 (.l 9 (.l 11 (.l 13 (.l 15 (.q 16 (.l 18 (.q 19 (.l 20 .fin))))))))))))))))))))) [(c, 0, .pointer (some ⟨r, 0, none⟩)), (c, 0, .pointer (some ⟨r, 0, none⟩)), (c, 0, .pointer (some ⟨r, 0, none⟩)), (c, 0, .pointer (some ⟨r, 0, none⟩)), (c, 0, .pointer (some ⟨r, 0, none⟩)), (c, 0, .pointer (some ⟨r, 0, none⟩)), (c, 0, .pointer (some ⟨r, 0, none⟩)), (c, 0, .pointer (some ⟨r, 0, none⟩)), (c, 0, .pointer (some ⟨r, 0, none⟩))] (by kernel_rfl) (by simp [Holds_nil, Holds_cons, F]) ?_
  refine h.draw ?_
  clear h F
  intro w6 h
  (try simp only [nfD] at h); have F := h.facts; (try simp only [nfF, emp_fact, rds_fact, frm_fact, tab_fact] at F); try simp -dsimp only [↓vcA, vcB, vcD, ↓pureT_lenS, ↓iteT, ↓iteF, cond_true, cond_false, eq_self, argE, Env.get, Env.push, ev, evs, evo, retV, Value.cells, Value.oneCell', setR, overR, fillL, zl, places, allSizes, heldC, ne_eq, Int.reduceLE, Int.reduceLT, Int.reduceEq, Int.reduceNe, Int.reduceToNat, Int.cast_ofNat_Int, Nat.reduceMul, Nat.reduceLeDiff, reduceIte, Nat.reduceEqDiff, Nat.reduceAdd, ↓reduceIte, Try.vcT, F, h.cell0, gets, vsD, if_true, if_false, Bool.false_eq_true]
  repeat ((first | refine Sep.new h ?_ | refine Sep.put 0 h rfl ?_ | refine Sep.put 1 h rfl ?_ | refine Sep.put 2 h rfl ?_ | refine Sep.put 3 h rfl ?_ | refine Sep.put 4 h rfl ?_ | refine Sep.put 5 h rfl ?_ | refine Sep.rdNum 1 h rfl ?_ | refine Sep.rdPoint 1 h rfl ?_ | refine Sep.rdTri 1 h rfl ?_); (clear F; (try clear h); intros; rename_i h; (try simp only [nfD] at h); have F := h.facts; (try simp only [nfF, emp_fact, rds_fact, frm_fact, tab_fact] at F); try simp -dsimp only [↓vcA, vcB, vcD, ↓pureT_lenS, ↓iteT, ↓iteF, cond_true, cond_false, eq_self, argE, Env.get, Env.push, ev, evs, evo, retV, Value.cells, Value.oneCell', setR, overR, fillL, zl, places, allSizes, heldC, ne_eq, Int.reduceLE, Int.reduceLT, Int.reduceEq, Int.reduceNe, Int.reduceToNat, Int.cast_ofNat_Int, Nat.reduceMul, Nat.reduceLeDiff, reduceIte, Nat.reduceEqDiff, Nat.reduceAdd, ↓reduceIte, Try.vcT, F, h.cell0, gets, vsD, if_true, if_false, Bool.false_eq_true, cellsAt, T3.cells]))
  refine Sep.appTab 4 6 infoCa Try.underlying91 rfl (by decide) (rCa t) h rfl rfl rfl (by omega) (by simp only [maxLen]; omega) ?_
  clear h F
  intro a7 c7 w7 h
  (try simp only [nfD] at h); have F := h.facts; (try simp only [nfF, emp_fact, rds_fact, frm_fact, tab_fact] at F); try simp -dsimp only [↓vcA, vcB, vcD, ↓pureT_lenS, ↓iteT, ↓iteF, cond_true, cond_false, eq_self, argE, Env.get, Env.push, ev, evs, evo, retV, Value.cells, Value.oneCell', setR, overR, fillL, zl, places, allSizes, heldC, ne_eq, Int.reduceLE, Int.reduceLT, Int.reduceEq, Int.reduceNe, Int.reduceToNat, Int.cast_ofNat_Int, Nat.reduceMul, Nat.reduceLeDiff, reduceIte, Nat.reduceEqDiff, Nat.reduceAdd, ↓reduceIte, Try.vcT, F, h.cell0, gets, vsD, if_true, if_false, Bool.false_eq_true,  en]
  refine ⟨_, ?_, n, sCa t, out ++ [rCa t], a7, c7, rfl, rfl, (h.erase 6).erase 5, sCa_byt hbt, hit2, by simp; omega⟩
  omega
def rIs (s : R8) : List Int := [s.numV 1, (s.numS 1).numV 1, ((s.numS 1).numS 1).numV 1]
def sIs (s : R8) : R8 := (((s.numS 1).numS 1).numS 1)
theorem sIs_byt {s : R8} (hb : Byt s.l) : Byt (sIs s).l := numS_byt _ 1 (numS_byt _ 1 (numS_byt _ 1 (hb)))
theorem infoIs : (Try.prog.info? 163).map (fun i => (i.zero, i.size, i.bytes)) = some (some (.agg #[.int .i64 0, .int .i64 0, .int .i64 0]), 3, 24) := by kernel_rfl
theorem itemsIs {w0 w : World} {q G : Res} {r c : Nat} {s : R8} {K : Value → World → Prop} (h : Sep w0 (fun _ => False) [q, rdr 134 r s (fun _ => False), blk c 53 [.pointer (some ⟨r, 0, none⟩)], G] w) (hb : Byt s.l)
    (hK : ∀ a cc w1, Sep w0 (fun _ => False) [q, rdr 134 r (itemsS rIs sIs s) (fun _ => False), blk c 53 [.pointer (some ⟨r, 0, none⟩)], G, tab 163 3 (.slice a (itemsV rIs sIs s).length cc) (itemsV rIs sIs s)] w1 → K (.slice a (itemsV rIs sIs s).length cc) w1) :
    callsK Try.prog 108 [.pointer (some ⟨r, 0, none⟩), .func (.func 109) #[] #[.pointer (some ⟨c, 0, none⟩)]].toArray w K := by
  refine walk Try.func108 rfl (by kernel_rfl) (by rw [Try.nt108]; simp) ?_
  have hn := num2_rng s hb
  (try simp only [nfD] at h); have F := h.facts; (try simp only [nfF, emp_fact, rds_fact, frm_fact, tab_fact] at F)
  simp -dsimp only [↓vcA, vcB, vcD, ↓pureT_lenS, ↓iteT, ↓iteF, cond_true, cond_false, eq_self, argE, Env.get, Env.push, ev, evs, evo, retV, Value.cells, Value.oneCell', setR, overR, fillL, zl, places, allSizes, heldC, ne_eq, Int.reduceLE, Int.reduceLT, Int.reduceEq, Int.reduceNe, Int.reduceToNat, Int.cast_ofNat_Int, Nat.reduceMul, Nat.reduceLeDiff, reduceIte, Nat.reduceEqDiff, Nat.reduceAdd, ↓reduceIte, Try.vcT]
  refine Sep.rdNum 1 h rfl ?_
  clear h F
  intro w1 h
  (try simp only [nfD] at h); have F := h.facts; (try simp only [nfF, emp_fact, rds_fact, frm_fact, tab_fact] at F); try simp -dsimp only [↓vcA, vcB, vcD, ↓pureT_lenS, ↓iteT, ↓iteF, cond_true, cond_false, eq_self, argE, Env.get, Env.push, ev, evs, evo, retV, Value.cells, Value.oneCell', setR, overR, fillL, zl, places, allSizes, heldC, ne_eq, Int.reduceLE, Int.reduceLT, Int.reduceEq, Int.reduceNe, Int.reduceToNat, Int.cast_ofNat_Int, Nat.reduceMul, Nat.reduceLeDiff, reduceIte, Nat.reduceEqDiff, Nat.reduceAdd, ↓reduceIte, Try.vcT, F, h.cell0, gets, vsD, if_true, if_false, Bool.false_eq_true]
  have h := h.tabNil 163 3
  obtain ⟨N, hN⟩ := Int.eq_ofNat_of_zero_le hn.1
  have eN : (s.numV 2).toNat = N := by omega
  rw [hN] at hn
  rw [hN]
  refine walkLoop [0, 1] [4, 5] (fun m vs w' => ∃ n t out a cc, m = n ∧ vs = [.slice a out.length cc, .int .i64 (n : Nat)] ∧ Sep w0 (fun _ => False) [q, rdr 134 r t (fun _ => False), blk c 53 [.pointer (some ⟨r, 0, none⟩)], G, tab 163 3 (.slice a out.length cc) out] w' ∧
    Byt t.l ∧ itemsF rIs sIs N (s.numS 2) = (out ++ (itemsF rIs sIs n t).1, (itemsF rIs sIs n t).2) ∧ out.length + n ≤ 65535) (by kernel_rfl) ?_ ?_
  · simp -dsimp only [↓vcA, vcB, vcD, ↓pureT_lenS, ↓iteT, ↓iteF, cond_true, cond_false, eq_self, argE, Env.get, Env.push, ev, evs, evo, retV, Value.cells, Value.oneCell', setR, overR, fillL, zl, places, allSizes, heldC, ne_eq, Int.reduceLE, Int.reduceLT, Int.reduceEq, Int.reduceNe, Int.reduceToNat, Int.cast_ofNat_Int, Nat.reduceMul, Nat.reduceLeDiff, reduceIte, Nat.reduceEqDiff, Nat.reduceAdd, ↓reduceIte, Try.vcT, gets]
    exact ⟨_, N, _, [], none, 0, rfl, rfl, h, numS_byt s 2 hb, by simp, by simp; omega⟩
  intro ks hk m vs w2 hi
  clear h F
  obtain ⟨n, t, out, a, cc, rfl, rfl, h, hbt, hit, hlen⟩ := hi
  simp -dsimp only [gets, argE, List.zip_cons_cons, List.zip_nil_left, List.cons_append, List.nil_append, Env.get, Env.push, Option.bind_some, Option.map_some, Option.some.injEq, reduceIte, Nat.reduceEqDiff, Nat.reduceAdd, ↓reduceIte] at hk; subst hk
  have done : (itemsF rIs sIs m t).1 = [] ∧ (itemsF rIs sIs m t).2 = t → ∀ {w'}, Sep w0 (fun _ => False) [q, rdr 134 r t (fun _ => False), blk c 53 [.pointer (some ⟨r, 0, none⟩)], G, tab 163 3 (.slice a out.length cc) out] w' → K (.slice a out.length cc) w' := fun hd w' h => by
    have e1 : itemsV rIs sIs s = out := by unfold itemsV; rw [eN, hit, hd.1]; simp
    have e2 : itemsS rIs sIs s = t := by unfold itemsS; rw [eN, hit, hd.2]
    have := hK a cc w'
    rw [e1, e2] at this
    exact this h
  match m, hit, hlen, done with
  | 0, hit, hlen, done =>
    have h0 : ¬ (0 : Int) < ((0 : Nat) : Int) := by omega
    (try simp only [nfD] at h); have F := h.facts; (try simp only [nfF, emp_fact, rds_fact, frm_fact, tab_fact] at F); try simp -dsimp only [↓vcA, vcB, vcD, ↓pureT_lenS, ↓iteT, ↓iteF, cond_true, cond_false, eq_self, argE, Env.get, Env.push, ev, evs, evo, retV, Value.cells, Value.oneCell', setR, overR, fillL, zl, places, allSizes, heldC, ne_eq, Int.reduceLE, Int.reduceLT, Int.reduceEq, Int.reduceNe, Int.reduceToNat, Int.cast_ofNat_Int, Nat.reduceMul, Nat.reduceLeDiff, reduceIte, Nat.reduceEqDiff, Nat.reduceAdd, ↓reduceIte, Try.vcT, F, h.cell0, gets, vsD, if_true, if_false, Bool.false_eq_true,  decide_eq_false h0]
    exact done ⟨rfl, rfl⟩ h
  | n + 1, hit, hlen, done =>
  have h0 : (0 : Int) < ((n + 1 : Nat) : Int) := by omega
  have en : IntKind.i64.wrap (((n + 1 : Nat) : Int) - 1) = (n : Int) := by rw [i64w _ (by omega) (by omega)]; omega
  (try simp only [nfD] at h); have F := h.facts; (try simp only [nfF, emp_fact, rds_fact, frm_fact, tab_fact] at F); try simp -dsimp only [↓vcA, vcB, vcD, ↓pureT_lenS, ↓iteT, ↓iteF, cond_true, cond_false, eq_self, argE, Env.get, Env.push, ev, evs, evo, retV, Value.cells, Value.oneCell', setR, overR, fillL, zl, places, allSizes, heldC, ne_eq, Int.reduceLE, Int.reduceLT, Int.reduceEq, Int.reduceNe, Int.reduceToNat, Int.cast_ofNat_Int, Nat.reduceMul, Nat.reduceLeDiff, reduceIte, Nat.reduceEqDiff, Nat.reduceAdd, ↓reduceIte, Try.vcT, F, h.cell0, gets, vsD, if_true, if_false, Bool.false_eq_true,  decide_eq_true h0]
  refine Sep.rdLeft 1 h rfl ?_
  by_cases hl : (0 : Int) < t.left
  case neg =>
    (try simp only [nfD] at h); have F := h.facts; (try simp only [nfF, emp_fact, rds_fact, frm_fact, tab_fact] at F); try simp -dsimp only [↓vcA, vcB, vcD, ↓pureT_lenS, ↓iteT, ↓iteF, cond_true, cond_false, eq_self, argE, Env.get, Env.push, ev, evs, evo, retV, Value.cells, Value.oneCell', setR, overR, fillL, zl, places, allSizes, heldC, ne_eq, Int.reduceLE, Int.reduceLT, Int.reduceEq, Int.reduceNe, Int.reduceToNat, Int.cast_ofNat_Int, Nat.reduceMul, Nat.reduceLeDiff, reduceIte, Nat.reduceEqDiff, Nat.reduceAdd, ↓reduceIte, Try.vcT, F, h.cell0, gets, vsD, if_true, if_false, Bool.false_eq_true,  decide_eq_false hl]
    exact done (by simp [itemsF, hl]) h
  have hit2 : itemsF rIs sIs N (s.numS 2) = ((out ++ [rIs t]) ++ (itemsF rIs sIs n (sIs t)).1, (itemsF rIs sIs n (sIs t)).2) := by
    rw [hit]; simp [itemsF, hl]
  (try simp only [nfD] at h); have F := h.facts; (try simp only [nfF, emp_fact, rds_fact, frm_fact, tab_fact] at F); try simp -dsimp only [↓vcA, vcB, vcD, ↓pureT_lenS, ↓iteT, ↓iteF, cond_true, cond_false, eq_self, argE, Env.get, Env.push, ev, evs, evo, retV, Value.cells, Value.oneCell', setR, overR, fillL, zl, places, allSizes, heldC, ne_eq, Int.reduceLE, Int.reduceLT, Int.reduceEq, Int.reduceNe, Int.reduceToNat, Int.cast_ofNat_Int, Nat.reduceMul, Nat.reduceLeDiff, reduceIte, Nat.reduceEqDiff, Nat.reduceAdd, ↓reduceIte, Try.vcT, F, h.cell0, gets, vsD, if_true, if_false, Bool.false_eq_true,  decide_eq_true hl]
  refine walk Try.func109 rfl (by kernel_rfl) (by rw [Try.nt109]; simp) ?_
  (try simp only [nfD] at h); have F := h.facts; (try simp only [nfF, emp_fact, rds_fact, frm_fact, tab_fact] at F); try simp -dsimp only [↓vcA, vcB, vcD, ↓pureT_lenS, ↓iteT, ↓iteF, cond_true, cond_false, eq_self, argE, Env.get, Env.push, ev, evs, evo, retV, Value.cells, Value.oneCell', setR, overR, fillL, zl, places, allSizes, heldC, ne_eq, Int.reduceLE, Int.reduceLT, Int.reduceEq, Int.reduceNe, Int.reduceToNat, Int.cast_ofNat_Int, Nat.reduceMul, Nat.reduceLeDiff, reduceIte, Nat.reduceEqDiff, Nat.reduceAdd, ↓reduceIte, Try.vcT, F, h.cell0, gets, vsD, if_true, if_false, Bool.false_eq_true]
  refine h.new ?_
  clear h F
  intro w5 b5 h
  (try simp only [nfD] at h); have F := h.facts; (try simp only [nfF, emp_fact, rds_fact, frm_fact, tab_fact] at F); try simp -dsimp only [↓vcA, vcB, vcD, ↓pureT_lenS, ↓iteT, ↓iteF, cond_true, cond_false, eq_self, argE, Env.get, Env.push, ev, evs, evo, retV, Value.cells, Value.oneCell', setR, overR, fillL, zl, places, allSizes, heldC, ne_eq, Int.reduceLE, Int.reduceLT, Int.reduceEq, Int.reduceNe, Int.reduceToNat, Int.cast_ofNat_Int, Nat.reduceMul, Nat.reduceLeDiff, reduceIte, Nat.reduceEqDiff, Nat.reduceAdd, ↓reduceIte, Try.vcT, F, h.cell0, gets, vsD, if_true, if_false, Bool.false_eq_true]
  refine walkDraw (.h 0 0 (.h 2 1 (.h 4 2 (.l 1 (.l 3 (.l 5 (.q 6 (.l 7 .fin)))))))) [(c, 0, .pointer (some ⟨r, 0, none⟩)), (c, 0, .pointer (some ⟨r, 0, none⟩)), (c, 0, .pointer (some ⟨r, 0, none⟩))] (by kernel_rfl) (by simp [Holds_nil, Holds_cons, F]) ?_
  refine h.draw ?_
  clear h F
  intro w6 h
  (try simp only [nfD] at h); have F := h.facts; (try simp only [nfF, emp_fact, rds_fact, frm_fact, tab_fact] at F); try simp -dsimp only [↓vcA, vcB, vcD, ↓pureT_lenS, ↓iteT, ↓iteF, cond_true, cond_false, eq_self, argE, Env.get, Env.push, ev, evs, evo, retV, Value.cells, Value.oneCell', setR, overR, fillL, zl, places, allSizes, heldC, ne_eq, Int.reduceLE, Int.reduceLT, Int.reduceEq, Int.reduceNe, Int.reduceToNat, Int.cast_ofNat_Int, Nat.reduceMul, Nat.reduceLeDiff, reduceIte, Nat.reduceEqDiff, Nat.reduceAdd, ↓reduceIte, Try.vcT, F, h.cell0, gets, vsD, if_true, if_false, Bool.false_eq_true]
  repeat ((first | refine Sep.new h ?_ | refine Sep.put 0 h rfl ?_ | refine Sep.put 1 h rfl ?_ | refine Sep.put 2 h rfl ?_ | refine Sep.put 3 h rfl ?_ | refine Sep.put 4 h rfl ?_ | refine Sep.put 5 h rfl ?_ | refine Sep.rdNum 1 h rfl ?_ | refine Sep.rdPoint 1 h rfl ?_ | refine Sep.rdTri 1 h rfl ?_); (clear F; (try clear h); intros; rename_i h; (try simp only [nfD] at h); have F := h.facts; (try simp only [nfF, emp_fact, rds_fact, frm_fact, tab_fact] at F); try simp -dsimp only [↓vcA, vcB, vcD, ↓pureT_lenS, ↓iteT, ↓iteF, cond_true, cond_false, eq_self, argE, Env.get, Env.push, ev, evs, evo, retV, Value.cells, Value.oneCell', setR, overR, fillL, zl, places, allSizes, heldC, ne_eq, Int.reduceLE, Int.reduceLT, Int.reduceEq, Int.reduceNe, Int.reduceToNat, Int.cast_ofNat_Int, Nat.reduceMul, Nat.reduceLeDiff, reduceIte, Nat.reduceEqDiff, Nat.reduceAdd, ↓reduceIte, Try.vcT, F, h.cell0, gets, vsD, if_true, if_false, Bool.false_eq_true, cellsAt, T3.cells]))
  refine Sep.appTab 4 6 infoIs Try.underlying92 rfl (by decide) (rIs t) h rfl rfl rfl (by omega) (by simp only [maxLen]; omega) ?_
  clear h F
  intro a7 c7 w7 h
  (try simp only [nfD] at h); have F := h.facts; (try simp only [nfF, emp_fact, rds_fact, frm_fact, tab_fact] at F); try simp -dsimp only [↓vcA, vcB, vcD, ↓pureT_lenS, ↓iteT, ↓iteF, cond_true, cond_false, eq_self, argE, Env.get, Env.push, ev, evs, evo, retV, Value.cells, Value.oneCell', setR, overR, fillL, zl, places, allSizes, heldC, ne_eq, Int.reduceLE, Int.reduceLT, Int.reduceEq, Int.reduceNe, Int.reduceToNat, Int.cast_ofNat_Int, Nat.reduceMul, Nat.reduceLeDiff, reduceIte, Nat.reduceEqDiff, Nat.reduceAdd, ↓reduceIte, Try.vcT, F, h.cell0, gets, vsD, if_true, if_false, Bool.false_eq_true,  en]
  refine ⟨_, ?_, n, sIs t, out ++ [rIs t], a7, c7, rfl, rfl, (h.erase 6).erase 5, sIs_byt hbt, hit2, by simp; omega⟩
  omega
def rCo (s : R8) : List Int := [s.numV 1, (s.numS 1).numV 2, ((s.numS 1).numS 2).numV 2]
def sCo (s : R8) : R8 := (((s.numS 1).numS 2).numS 2)
theorem sCo_byt {s : R8} (hb : Byt s.l) : Byt (sCo s).l := numS_byt _ 2 (numS_byt _ 2 (numS_byt _ 1 (hb)))
theorem infoCo : (Try.prog.info? 167).map (fun i => (i.zero, i.size, i.bytes)) = some (some (.agg #[.int .i64 0, .int .i64 0, .int .i64 0]), 3, 24) := by kernel_rfl
theorem itemsCo {w0 w : World} {q G : Res} {r c : Nat} {s : R8} {K : Value → World → Prop} (h : Sep w0 (fun _ => False) [q, rdr 134 r s (fun _ => False), blk c 53 [.pointer (some ⟨r, 0, none⟩)], G] w) (hb : Byt s.l)
    (hK : ∀ a cc w1, Sep w0 (fun _ => False) [q, rdr 134 r (itemsS rCo sCo s) (fun _ => False), blk c 53 [.pointer (some ⟨r, 0, none⟩)], G, tab 167 3 (.slice a (itemsV rCo sCo s).length cc) (itemsV rCo sCo s)] w1 → K (.slice a (itemsV rCo sCo s).length cc) w1) :
    callsK Try.prog 110 [.pointer (some ⟨r, 0, none⟩), .func (.func 111) #[] #[.pointer (some ⟨c, 0, none⟩)]].toArray w K := by
  refine walk Try.func110 rfl (by kernel_rfl) (by rw [Try.nt110]; simp) ?_
  have hn := num2_rng s hb
  (try simp only [nfD] at h); have F := h.facts; (try simp only [nfF, emp_fact, rds_fact, frm_fact, tab_fact] at F)
  simp -dsimp only [↓vcA, vcB, vcD, ↓pureT_lenS, ↓iteT, ↓iteF, cond_true, cond_false, eq_self, argE, Env.get, Env.push, ev, evs, evo, retV, Value.cells, Value.oneCell', setR, overR, fillL, zl, places, allSizes, heldC, ne_eq, Int.reduceLE, Int.reduceLT, Int.reduceEq, Int.reduceNe, Int.reduceToNat, Int.cast_ofNat_Int, Nat.reduceMul, Nat.reduceLeDiff, reduceIte, Nat.reduceEqDiff, Nat.reduceAdd, ↓reduceIte, Try.vcT]
  refine Sep.rdNum 1 h rfl ?_
  clear h F
  intro w1 h
  (try simp only [nfD] at h); have F := h.facts; (try simp only [nfF, emp_fact, rds_fact, frm_fact, tab_fact] at F); try simp -dsimp only [↓vcA, vcB, vcD, ↓pureT_lenS, ↓iteT, ↓iteF, cond_true, cond_false, eq_self, argE, Env.get, Env.push, ev, evs, evo, retV, Value.cells, Value.oneCell', setR, overR, fillL, zl, places, allSizes, heldC, ne_eq, Int.reduceLE, Int.reduceLT, Int.reduceEq, Int.reduceNe, Int.reduceToNat, Int.cast_ofNat_Int, Nat.reduceMul, Nat.reduceLeDiff, reduceIte, Nat.reduceEqDiff, Nat.reduceAdd, ↓reduceIte, Try.vcT, F, h.cell0, gets, vsD, if_true, if_false, Bool.false_eq_true]
  have h := h.tabNil 167 3
  obtain ⟨N, hN⟩ := Int.eq_ofNat_of_zero_le hn.1
  have eN : (s.numV 2).toNat = N := by omega
  rw [hN] at hn
  rw [hN]
  refine walkLoop [0, 1] [4, 5] (fun m vs w' => ∃ n t out a cc, m = n ∧ vs = [.slice a out.length cc, .int .i64 (n : Nat)] ∧ Sep w0 (fun _ => False) [q, rdr 134 r t (fun _ => False), blk c 53 [.pointer (some ⟨r, 0, none⟩)], G, tab 167 3 (.slice a out.length cc) out] w' ∧
    Byt t.l ∧ itemsF rCo sCo N (s.numS 2) = (out ++ (itemsF rCo sCo n t).1, (itemsF rCo sCo n t).2) ∧ out.length + n ≤ 65535) (by kernel_rfl) ?_ ?_
  · simp -dsimp only [↓vcA, vcB, vcD, ↓pureT_lenS, ↓iteT, ↓iteF, cond_true, cond_false, eq_self, argE, Env.get, Env.push, ev, evs, evo, retV, Value.cells, Value.oneCell', setR, overR, fillL, zl, places, allSizes, heldC, ne_eq, Int.reduceLE, Int.reduceLT, Int.reduceEq, Int.reduceNe, Int.reduceToNat, Int.cast_ofNat_Int, Nat.reduceMul, Nat.reduceLeDiff, reduceIte, Nat.reduceEqDiff, Nat.reduceAdd, ↓reduceIte, Try.vcT, gets]
    exact ⟨_, N, _, [], none, 0, rfl, rfl, h, numS_byt s 2 hb, by simp, by simp; omega⟩
  intro ks hk m vs w2 hi
  clear h F
  obtain ⟨n, t, out, a, cc, rfl, rfl, h, hbt, hit, hlen⟩ := hi
  simp -dsimp only [gets, argE, List.zip_cons_cons, List.zip_nil_left, List.cons_append, List.nil_append, Env.get, Env.push, Option.bind_some, Option.map_some, Option.some.injEq, reduceIte, Nat.reduceEqDiff, Nat.reduceAdd, ↓reduceIte] at hk; subst hk
  have done : (itemsF rCo sCo m t).1 = [] ∧ (itemsF rCo sCo m t).2 = t → ∀ {w'}, Sep w0 (fun _ => False) [q, rdr 134 r t (fun _ => False), blk c 53 [.pointer (some ⟨r, 0, none⟩)], G, tab 167 3 (.slice a out.length cc) out] w' → K (.slice a out.length cc) w' := fun hd w' h => by
    have e1 : itemsV rCo sCo s = out := by unfold itemsV; rw [eN, hit, hd.1]; simp
    have e2 : itemsS rCo sCo s = t := by unfold itemsS; rw [eN, hit, hd.2]
    have := hK a cc w'
    rw [e1, e2] at this
    exact this h
  match m, hit, hlen, done with
  | 0, hit, hlen, done =>
    have h0 : ¬ (0 : Int) < ((0 : Nat) : Int) := by omega
    (try simp only [nfD] at h); have F := h.facts; (try simp only [nfF, emp_fact, rds_fact, frm_fact, tab_fact] at F); try simp -dsimp only [↓vcA, vcB, vcD, ↓pureT_lenS, ↓iteT, ↓iteF, cond_true, cond_false, eq_self, argE, Env.get, Env.push, ev, evs, evo, retV, Value.cells, Value.oneCell', setR, overR, fillL, zl, places, allSizes, heldC, ne_eq, Int.reduceLE, Int.reduceLT, Int.reduceEq, Int.reduceNe, Int.reduceToNat, Int.cast_ofNat_Int, Nat.reduceMul, Nat.reduceLeDiff, reduceIte, Nat.reduceEqDiff, Nat.reduceAdd, ↓reduceIte, Try.vcT, F, h.cell0, gets, vsD, if_true, if_false, Bool.false_eq_true,  decide_eq_false h0]
    exact done ⟨rfl, rfl⟩ h
  | n + 1, hit, hlen, done =>
  have h0 : (0 : Int) < ((n + 1 : Nat) : Int) := by omega
  have en : IntKind.i64.wrap (((n + 1 : Nat) : Int) - 1) = (n : Int) := by rw [i64w _ (by omega) (by omega)]; omega
  (try simp only [nfD] at h); have F := h.facts; (try simp only [nfF, emp_fact, rds_fact, frm_fact, tab_fact] at F); try simp -dsimp only [↓vcA, vcB, vcD, ↓pureT_lenS, ↓iteT, ↓iteF, cond_true, cond_false, eq_self, argE, Env.get, Env.push, ev, evs, evo, retV, Value.cells, Value.oneCell', setR, overR, fillL, zl, places, allSizes, heldC, ne_eq, Int.reduceLE, Int.reduceLT, Int.reduceEq, Int.reduceNe, Int.reduceToNat, Int.cast_ofNat_Int, Nat.reduceMul, Nat.reduceLeDiff, reduceIte, Nat.reduceEqDiff, Nat.reduceAdd, ↓reduceIte, Try.vcT, F, h.cell0, gets, vsD, if_true, if_false, Bool.false_eq_true,  decide_eq_true h0]
  refine Sep.rdLeft 1 h rfl ?_
  by_cases hl : (0 : Int) < t.left
  case neg =>
    (try simp only [nfD] at h); have F := h.facts; (try simp only [nfF, emp_fact, rds_fact, frm_fact, tab_fact] at F); try simp -dsimp only [↓vcA, vcB, vcD, ↓pureT_lenS, ↓iteT, ↓iteF, cond_true, cond_false, eq_self, argE, Env.get, Env.push, ev, evs, evo, retV, Value.cells, Value.oneCell', setR, overR, fillL, zl, places, allSizes, heldC, ne_eq, Int.reduceLE, Int.reduceLT, Int.reduceEq, Int.reduceNe, Int.reduceToNat, Int.cast_ofNat_Int, Nat.reduceMul, Nat.reduceLeDiff, reduceIte, Nat.reduceEqDiff, Nat.reduceAdd, ↓reduceIte, Try.vcT, F, h.cell0, gets, vsD, if_true, if_false, Bool.false_eq_true,  decide_eq_false hl]
    exact done (by simp [itemsF, hl]) h
  have hit2 : itemsF rCo sCo N (s.numS 2) = ((out ++ [rCo t]) ++ (itemsF rCo sCo n (sCo t)).1, (itemsF rCo sCo n (sCo t)).2) := by
    rw [hit]; simp [itemsF, hl]
  (try simp only [nfD] at h); have F := h.facts; (try simp only [nfF, emp_fact, rds_fact, frm_fact, tab_fact] at F); try simp -dsimp only [↓vcA, vcB, vcD, ↓pureT_lenS, ↓iteT, ↓iteF, cond_true, cond_false, eq_self, argE, Env.get, Env.push, ev, evs, evo, retV, Value.cells, Value.oneCell', setR, overR, fillL, zl, places, allSizes, heldC, ne_eq, Int.reduceLE, Int.reduceLT, Int.reduceEq, Int.reduceNe, Int.reduceToNat, Int.cast_ofNat_Int, Nat.reduceMul, Nat.reduceLeDiff, reduceIte, Nat.reduceEqDiff, Nat.reduceAdd, ↓reduceIte, Try.vcT, F, h.cell0, gets, vsD, if_true, if_false, Bool.false_eq_true,  decide_eq_true hl]
  refine walk Try.func111 rfl (by kernel_rfl) (by rw [Try.nt111]; simp) ?_
  (try simp only [nfD] at h); have F := h.facts; (try simp only [nfF, emp_fact, rds_fact, frm_fact, tab_fact] at F); try simp -dsimp only [↓vcA, vcB, vcD, ↓pureT_lenS, ↓iteT, ↓iteF, cond_true, cond_false, eq_self, argE, Env.get, Env.push, ev, evs, evo, retV, Value.cells, Value.oneCell', setR, overR, fillL, zl, places, allSizes, heldC, ne_eq, Int.reduceLE, Int.reduceLT, Int.reduceEq, Int.reduceNe, Int.reduceToNat, Int.cast_ofNat_Int, Nat.reduceMul, Nat.reduceLeDiff, reduceIte, Nat.reduceEqDiff, Nat.reduceAdd, ↓reduceIte, Try.vcT, F, h.cell0, gets, vsD, if_true, if_false, Bool.false_eq_true]
  refine h.new ?_
  clear h F
  intro w5 b5 h
  (try simp only [nfD] at h); have F := h.facts; (try simp only [nfF, emp_fact, rds_fact, frm_fact, tab_fact] at F); try simp -dsimp only [↓vcA, vcB, vcD, ↓pureT_lenS, ↓iteT, ↓iteF, cond_true, cond_false, eq_self, argE, Env.get, Env.push, ev, evs, evo, retV, Value.cells, Value.oneCell', setR, overR, fillL, zl, places, allSizes, heldC, ne_eq, Int.reduceLE, Int.reduceLT, Int.reduceEq, Int.reduceNe, Int.reduceToNat, Int.cast_ofNat_Int, Nat.reduceMul, Nat.reduceLeDiff, reduceIte, Nat.reduceEqDiff, Nat.reduceAdd, ↓reduceIte, Try.vcT, F, h.cell0, gets, vsD, if_true, if_false, Bool.false_eq_true]
  refine walkDraw (.h 0 0 (.h 2 1 (.h 4 2 (.l 1 (.l 3 (.l 5 (.q 6 (.l 7 .fin)))))))) [(c, 0, .pointer (some ⟨r, 0, none⟩)), (c, 0, .pointer (some ⟨r, 0, none⟩)), (c, 0, .pointer (some ⟨r, 0, none⟩))] (by kernel_rfl) (by simp [Holds_nil, Holds_cons, F]) ?_
  refine h.draw ?_
  clear h F
  intro w6 h
  (try simp only [nfD] at h); have F := h.facts; (try simp only [nfF, emp_fact, rds_fact, frm_fact, tab_fact] at F); try simp -dsimp only [↓vcA, vcB, vcD, ↓pureT_lenS, ↓iteT, ↓iteF, cond_true, cond_false, eq_self, argE, Env.get, Env.push, ev, evs, evo, retV, Value.cells, Value.oneCell', setR, overR, fillL, zl, places, allSizes, heldC, ne_eq, Int.reduceLE, Int.reduceLT, Int.reduceEq, Int.reduceNe, Int.reduceToNat, Int.cast_ofNat_Int, Nat.reduceMul, Nat.reduceLeDiff, reduceIte, Nat.reduceEqDiff, Nat.reduceAdd, ↓reduceIte, Try.vcT, F, h.cell0, gets, vsD, if_true, if_false, Bool.false_eq_true]
  repeat ((first | refine Sep.new h ?_ | refine Sep.put 0 h rfl ?_ | refine Sep.put 1 h rfl ?_ | refine Sep.put 2 h rfl ?_ | refine Sep.put 3 h rfl ?_ | refine Sep.put 4 h rfl ?_ | refine Sep.put 5 h rfl ?_ | refine Sep.rdNum 1 h rfl ?_ | refine Sep.rdPoint 1 h rfl ?_ | refine Sep.rdTri 1 h rfl ?_); (clear F; (try clear h); intros; rename_i h; (try simp only [nfD] at h); have F := h.facts; (try simp only [nfF, emp_fact, rds_fact, frm_fact, tab_fact] at F); try simp -dsimp only [↓vcA, vcB, vcD, ↓pureT_lenS, ↓iteT, ↓iteF, cond_true, cond_false, eq_self, argE, Env.get, Env.push, ev, evs, evo, retV, Value.cells, Value.oneCell', setR, overR, fillL, zl, places, allSizes, heldC, ne_eq, Int.reduceLE, Int.reduceLT, Int.reduceEq, Int.reduceNe, Int.reduceToNat, Int.cast_ofNat_Int, Nat.reduceMul, Nat.reduceLeDiff, reduceIte, Nat.reduceEqDiff, Nat.reduceAdd, ↓reduceIte, Try.vcT, F, h.cell0, gets, vsD, if_true, if_false, Bool.false_eq_true, cellsAt, T3.cells]))
  refine Sep.appTab 4 6 infoCo Try.underlying93 rfl (by decide) (rCo t) h rfl rfl rfl (by omega) (by simp only [maxLen]; omega) ?_
  clear h F
  intro a7 c7 w7 h
  (try simp only [nfD] at h); have F := h.facts; (try simp only [nfF, emp_fact, rds_fact, frm_fact, tab_fact] at F); try simp -dsimp only [↓vcA, vcB, vcD, ↓pureT_lenS, ↓iteT, ↓iteF, cond_true, cond_false, eq_self, argE, Env.get, Env.push, ev, evs, evo, retV, Value.cells, Value.oneCell', setR, overR, fillL, zl, places, allSizes, heldC, ne_eq, Int.reduceLE, Int.reduceLT, Int.reduceEq, Int.reduceNe, Int.reduceToNat, Int.cast_ofNat_Int, Nat.reduceMul, Nat.reduceLeDiff, reduceIte, Nat.reduceEqDiff, Nat.reduceAdd, ↓reduceIte, Try.vcT, F, h.cell0, gets, vsD, if_true, if_false, Bool.false_eq_true,  en]
  refine ⟨_, ?_, n, sCo t, out ++ [rCo t], a7, c7, rfl, rfl, (h.erase 6).erase 5, sCo_byt hbt, hit2, by simp; omega⟩
  omega
end Go.Proofs.Ytnhgjgoglmadnaa
