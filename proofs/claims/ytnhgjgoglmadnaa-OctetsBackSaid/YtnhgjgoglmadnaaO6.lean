/- The contracts of the reference's writer, of the sums, and of a list of parts. -/
import Derived.Test.YtnhgjgoglmadnaaO5
namespace Go.Proofs.Ytnhgjgoglmadnaa
open Go.RowKit
set_option maxRecDepth 100000
set_option linter.unusedSimpArgs false
set_option linter.unusedVariables false
set_option pp.maxSteps 1500
set_option pp.deepTerms.threshold 8

theorem WrStep.blkOf {p b : Nat} {w w' : World} {v v' : Value} {x : List Value × TypeId} (k : WrStep p w v w' v') (hb : blkOf w b = some x) (hs : Safe p v b) : blkOf w' b = some x :=
  k.chg.blkOf hb fun e => e.elim hs.1 hs.2

theorem refPoint (p : Nat) (v : Value) (s : W8) (x y : Int) (w : World) (hw : WrS 35 w p v s) (hlen : s.l.length ≤ 900000) (hx : -9223372036854775808 ≤ x) (hx1 : x ≤ 9223372036854775807) (hy : -9223372036854775808 ≤ y) (hy1 : y ≤ 9223372036854775807) :
    Calls Try.prog 26 [.pointer (some ⟨p, 0, none⟩), .agg #[.int .i64 x, .int .i64 y]].toArray w (RetK (WrU 35 p w v (s.pt x y))) := by
  refine walk Try.func26 rfl (by kernel_rfl) (by rw [Try.nt26]; simp) ?_
  simp -dsimp only [↓vcA, vcB, vcD, ↓pureT_lenS, ↓iteT, ↓iteF, cond_true, cond_false, eq_self, argE, Env.get, Env.push, ev, evs, evo, retV, Value.cells, Value.oneCell', setR, overR, fillL, zl, places, allSizes, heldC, ne_eq, Int.reduceLE, Int.reduceLT, Int.reduceEq, Int.reduceNe, Int.reduceToNat, Int.cast_ofNat_Int, Nat.reduceMul, Nat.reduceLeDiff, reduceIte, Nat.reduceEqDiff, Nat.reduceAdd, ↓reduceIte, Try.vcT]
  intro w1 b hb
  have h1 : WrS 35 w1 p v s := hw.chg hb.chg id fun _ _ => id
  have hsf : Safe p v b := Safe.new hw.lt hw.own (by rw [hb.eq]; omega)
  try simp -dsimp only [↓vcA, vcB, vcD, ↓pureT_lenS, ↓iteT, ↓iteF, cond_true, cond_false, eq_self, argE, Env.get, Env.push, ev, evs, evo, retV, Value.cells, Value.oneCell', setR, overR, fillL, zl, places, allSizes, heldC, ne_eq, Int.reduceLE, Int.reduceLT, Int.reduceEq, Int.reduceNe, Int.reduceToNat, Int.cast_ofNat_Int, Nat.reduceMul, Nat.reduceLeDiff, reduceIte, Nat.reduceEqDiff, Nat.reduceAdd, ↓reduceIte, Try.vcT, hb.cell]
  refine callsK_use (refNum p v s x 3 w1 h1 (by omega) hx hx1) ?_
  rintro _ w2 ⟨rfl, v2, h2, k2⟩
  have hb2 := k2.blkOf hb.blkOf hsf
  simp -dsimp only [↓vcA, vcB, vcD, ↓pureT_lenS, ↓iteT, ↓iteF, cond_true, cond_false, eq_self, argE, Env.get, Env.push, ev, evs, evo, retV, Value.cells, Value.oneCell', setR, overR, fillL, zl, places, allSizes, heldC, ne_eq, Int.reduceLE, Int.reduceLT, Int.reduceEq, Int.reduceNe, Int.reduceToNat, Int.cast_ofNat_Int, Nat.reduceMul, Nat.reduceLeDiff, reduceIte, Nat.reduceEqDiff, Nat.reduceAdd, ↓reduceIte, Try.vcT, cell_of_blkOf hb2]
  have hl := s.num_len x 3
  refine callsK_use (refNum p v2 (s.num x 3) y 3 w2 h2 (by omega) hy hy1) ?_
  rintro _ w3 ⟨rfl, v3, h3, k3⟩
  simp -dsimp only [↓vcA, vcB, vcD, ↓pureT_lenS, ↓iteT, ↓iteF, cond_true, cond_false, eq_self, argE, Env.get, Env.push, ev, evs, evo, retV, Value.cells, Value.oneCell', setR, overR, fillL, zl, places, allSizes, heldC, ne_eq, Int.reduceLE, Int.reduceLT, Int.reduceEq, Int.reduceNe, Int.reduceToNat, Int.cast_ofNat_Int, Nat.reduceMul, Nat.reduceLeDiff, reduceIte, Nat.reduceEqDiff, Nat.reduceAdd, ↓reduceIte, Try.vcT]
  exact ⟨rfl, v3, h3, WrStep.pre hb.chg (k2.trans k3)⟩

theorem refTri (p : Nat) (v : Value) (s : W8) (ax ay bx by' cx cy : Int) (w : World) (hw : WrS 35 w p v s) (hlen : s.l.length ≤ 800000) (ho : Ok64 [ax, ay, bx, by', cx, cy]) :
    Calls Try.prog 28 [.pointer (some ⟨p, 0, none⟩), .agg #[.int .i64 ax, .int .i64 ay, .int .i64 bx, .int .i64 by', .int .i64 cx, .int .i64 cy]].toArray w (RetK (WrU 35 p w v (s.tri ax ay bx by' cx cy))) := by
  simp only [Ok64, List.forall_mem_cons, List.not_mem_nil, false_implies, implies_true, and_true] at ho
  obtain ⟨⟨ax0, ax1⟩, ⟨ay0, ay1⟩, ⟨bx0, bx1⟩, ⟨by0, by1⟩, ⟨cx0, cx1⟩, cy0, cy1⟩ := ho
  refine walk Try.func28 rfl (by kernel_rfl) (by rw [Try.nt28]; simp) ?_
  simp -dsimp only [↓vcA, vcB, vcD, ↓pureT_lenS, ↓iteT, ↓iteF, cond_true, cond_false, eq_self, argE, Env.get, Env.push, ev, evs, evo, retV, Value.cells, Value.oneCell', setR, overR, fillL, zl, places, allSizes, heldC, ne_eq, Int.reduceLE, Int.reduceLT, Int.reduceEq, Int.reduceNe, Int.reduceToNat, Int.cast_ofNat_Int, Nat.reduceMul, Nat.reduceLeDiff, reduceIte, Nat.reduceEqDiff, Nat.reduceAdd, ↓reduceIte, Try.vcT]
  intro w1 b hb
  have h1 : WrS 35 w1 p v s := hw.chg hb.chg id fun _ _ => id
  have hsf : Safe p v b := Safe.new hw.lt hw.own (by rw [hb.eq]; omega)
  have hl1 := s.pt_len ax ay
  have hl2 := (s.pt ax ay).pt_len bx by'
  try simp -dsimp only [↓vcA, vcB, vcD, ↓pureT_lenS, ↓iteT, ↓iteF, cond_true, cond_false, eq_self, argE, Env.get, Env.push, ev, evs, evo, retV, Value.cells, Value.oneCell', setR, overR, fillL, zl, places, allSizes, heldC, ne_eq, Int.reduceLE, Int.reduceLT, Int.reduceEq, Int.reduceNe, Int.reduceToNat, Int.cast_ofNat_Int, Nat.reduceMul, Nat.reduceLeDiff, reduceIte, Nat.reduceEqDiff, Nat.reduceAdd, ↓reduceIte, Try.vcT, hb.cell, cellsAt]
  refine callsK_use (refPoint p v s ax ay w1 h1 (by omega) ax0 ax1 ay0 ay1) ?_
  rintro _ w2 ⟨rfl, v2, h2, k2⟩
  have hb2 := k2.blkOf hb.blkOf hsf
  have s2 := k2.safe hb.lt hsf
  simp -dsimp only [↓vcA, vcB, vcD, ↓pureT_lenS, ↓iteT, ↓iteF, cond_true, cond_false, eq_self, argE, Env.get, Env.push, ev, evs, evo, retV, Value.cells, Value.oneCell', setR, overR, fillL, zl, places, allSizes, heldC, ne_eq, Int.reduceLE, Int.reduceLT, Int.reduceEq, Int.reduceNe, Int.reduceToNat, Int.cast_ofNat_Int, Nat.reduceMul, Nat.reduceLeDiff, reduceIte, Nat.reduceEqDiff, Nat.reduceAdd, ↓reduceIte, Try.vcT, cell_of_blkOf hb2, cellsAt]
  refine callsK_use (refPoint p v2 _ bx by' w2 h2 (by omega) bx0 bx1 by0 by1) ?_
  rintro _ w3 ⟨rfl, v3, h3, k3⟩
  have hb3 := k3.blkOf hb2 s2
  simp -dsimp only [↓vcA, vcB, vcD, ↓pureT_lenS, ↓iteT, ↓iteF, cond_true, cond_false, eq_self, argE, Env.get, Env.push, ev, evs, evo, retV, Value.cells, Value.oneCell', setR, overR, fillL, zl, places, allSizes, heldC, ne_eq, Int.reduceLE, Int.reduceLT, Int.reduceEq, Int.reduceNe, Int.reduceToNat, Int.cast_ofNat_Int, Nat.reduceMul, Nat.reduceLeDiff, reduceIte, Nat.reduceEqDiff, Nat.reduceAdd, ↓reduceIte, Try.vcT, cell_of_blkOf hb3, cellsAt]
  refine callsK_use (refPoint p v3 _ cx cy w3 h3 (by omega) cx0 cx1 cy0 cy1) ?_
  rintro _ w4 ⟨rfl, v4, h4, k4⟩
  simp -dsimp only [↓vcA, vcB, vcD, ↓pureT_lenS, ↓iteT, ↓iteF, cond_true, cond_false, eq_self, argE, Env.get, Env.push, ev, evs, evo, retV, Value.cells, Value.oneCell', setR, overR, fillL, zl, places, allSizes, heldC, ne_eq, Int.reduceLE, Int.reduceLT, Int.reduceEq, Int.reduceNe, Int.reduceToNat, Int.cast_ofNat_Int, Nat.reduceMul, Nat.reduceLeDiff, reduceIte, Nat.reduceEqDiff, Nat.reduceAdd, ↓reduceIte, Try.vcT]
  exact ⟨rfl, v4, h4, WrStep.pre hb.chg ((k2.trans k3).trans k4)⟩

theorem refSum (v : Value) (xs : List Int) (w : World) (h : Rd w v xs) (hl : xs.length ≤ 100000000) :
    Calls Try.prog 31 [v].toArray w (RetK fun r w' => r = .int .u64 (sumOf xs) ∧ w' = w) := by
  obtain ⟨a, c, rfl, h1, h2, h3, h4⟩ := h
  refine walk Try.func31 rfl (by kernel_rfl) (by rw [Try.nt31]; simp) ?_
  simp -dsimp only [↓vcA, vcB, vcD, ↓pureT_lenS, ↓iteT, ↓iteF, cond_true, cond_false, eq_self, argE, Env.get, Env.push, ev, evs, evo, retV, Value.cells, Value.oneCell', setR, overR, fillL, zl, places, allSizes, heldC, ne_eq, Int.reduceLE, Int.reduceLT, Int.reduceEq, Int.reduceNe, Int.reduceToNat, Int.cast_ofNat_Int, Nat.reduceMul, Nat.reduceLeDiff, reduceIte, Nat.reduceEqDiff, Nat.reduceAdd, ↓reduceIte, Try.vcT]
  refine walkLoop [0] [4, 3] (fun m vs w1 => w1 = w ∧ ∃ i, i ≤ xs.length ∧ m = xs.length - i ∧ vs = [.int .i64 i, .int .u64 ((xs.take i).foldl sumStep 14695981039346656037)]) (by kernel_rfl) ?_ ?_
  · simp -dsimp only [↓vcA, vcB, vcD, ↓pureT_lenS, ↓iteT, ↓iteF, cond_true, cond_false, eq_self, argE, Env.get, Env.push, ev, evs, evo, retV, Value.cells, Value.oneCell', setR, overR, fillL, zl, places, allSizes, heldC, ne_eq, Int.reduceLE, Int.reduceLT, Int.reduceEq, Int.reduceNe, Int.reduceToNat, Int.cast_ofNat_Int, Nat.reduceMul, Nat.reduceLeDiff, reduceIte, Nat.reduceEqDiff, Nat.reduceAdd, ↓reduceIte, Try.vcT, gets]
    exact ⟨_, 0, Nat.zero_le _, rfl, by simp⟩
  · intro ks hk m vs w1 hi
    obtain ⟨rfl, i, hi, rfl, rfl⟩ := hi
    simp -dsimp only [gets, argE, List.zip_cons_cons, List.zip_nil_left, List.cons_append, List.nil_append, Env.get, Env.push, Option.bind_some, Option.map_some, Option.some.injEq, reduceIte, Nat.reduceEqDiff, Nat.reduceAdd, ↓reduceIte] at hk; subst hk
    simp -dsimp only [↓vcA, vcB, vcD, ↓pureT_lenS, ↓iteT, ↓iteF, cond_true, cond_false, eq_self, argE, Env.get, Env.push, ev, evs, evo, retV, Value.cells, Value.oneCell', setR, overR, fillL, zl, places, allSizes, heldC, ne_eq, Int.reduceLE, Int.reduceLT, Int.reduceEq, Int.reduceNe, Int.reduceToNat, Int.cast_ofNat_Int, Nat.reduceMul, Nat.reduceLeDiff, reduceIte, Nat.reduceEqDiff, Nat.reduceAdd, ↓reduceIte, Try.vcT, gets]
    refine ifK_dec (fun hlt => ?_) (fun hge => ?_)
    · obtain ⟨b, o, rfl, hc⟩ := h4 (by omega)
      have e : IntKind.i64.wrap ((i : Int) + 1) = ((i + 1 : Nat) : Int) := by rw [i64w _ (by omega) (by omega)]; omega
      simp -dsimp only [↓vcA, vcB, vcD, ↓pureT_lenS, ↓iteT, ↓iteF, cond_true, cond_false, eq_self, argE, Env.get, Env.push, ev, evs, evo, retV, Value.cells, Value.oneCell', setR, overR, fillL, zl, places, allSizes, heldC, ne_eq, Int.reduceLE, Int.reduceLT, Int.reduceEq, Int.reduceNe, Int.reduceToNat, Int.cast_ofNat_Int, Nat.reduceMul, Nat.reduceLeDiff, reduceIte, Nat.reduceEqDiff, Nat.reduceAdd, ↓reduceIte, Try.vcT, gets]
      refine ⟨⟨by omega, by omega⟩, ?_⟩
      simp -dsimp only [↓vcA, vcB, vcD, ↓pureT_lenS, ↓iteT, ↓iteF, cond_true, cond_false, eq_self, argE, Env.get, Env.push, ev, evs, evo, retV, Value.cells, Value.oneCell', setR, overR, fillL, zl, places, allSizes, heldC, ne_eq, Int.reduceLE, Int.reduceLT, Int.reduceEq, Int.reduceNe, Int.reduceToNat, Int.cast_ofNat_Int, Nat.reduceMul, Nat.reduceLeDiff, reduceIte, Nat.reduceEqDiff, Nat.reduceAdd, ↓reduceIte, Try.vcT, gets, hc i (by omega), e]
      refine ⟨_, ?_, i + 1, by omega, rfl, ?_⟩
      · omega
      · rw [List.take_succ_eq_append_getElem (by omega), List.foldl_append]
        simp [sumStep, List.getD, show i < xs.length by omega]
    · simp -dsimp only [↓vcA, vcB, vcD, ↓pureT_lenS, ↓iteT, ↓iteF, cond_true, cond_false, eq_self, argE, Env.get, Env.push, ev, evs, evo, retV, Value.cells, Value.oneCell', setR, overR, fillL, zl, places, allSizes, heldC, ne_eq, Int.reduceLE, Int.reduceLT, Int.reduceEq, Int.reduceNe, Int.reduceToNat, Int.cast_ofNat_Int, Nat.reduceMul, Nat.reduceLeDiff, reduceIte, Nat.reduceEqDiff, Nat.reduceAdd, ↓reduceIte, Try.vcT, gets]
      have : i = xs.length := by omega
      subst this
      simp [sumOf]

/-! ### Parts -/
structure Prt where
  kind : Int
  n : Int
  size : Int
  px : Int
  py : Int
  ax : Int
  ay : Int
  bx : Int
  by' : Int
  cx : Int
  cy : Int
  b : List Int
def Prt.cells (p : Prt) (vb : Value) : List Value :=
  [.int .i64 p.kind, .int .i64 p.n, .int .i64 p.size, .int .i64 p.px, .int .i64 p.py, .int .i64 p.ax, .int .i64 p.ay, .int .i64 p.bx, .int .i64 p.by', .int .i64 p.cx, .int .i64 p.cy, vb]
def Prt.ints (p : Prt) : List Int := [p.kind, p.n, p.size, p.px, p.py, p.ax, p.ay, p.bx, p.by', p.cx, p.cy]
/-- The slice v is a list of parts; with each its own slice of bytes. -/
structure Parts (w : World) (v : Value) (ps : List (Prt × Value)) : Prop where
  shape : ∃ a c, v = .slice a ps.length c ∧ ps.length ≤ maxLen ∧ (0 < ps.length → ∃ b o, a = some ⟨b, o, none⟩ ∧ ∀ i (h : i < ps.length) j u, (ps[i].1.cells ps[i].2)[j]? = some u → w.cell? ⟨b, o + i * 12 + j, none⟩ = some u)
  each : ∀ x ∈ ps, Rd w x.2 x.1.b ∧ Byt x.1.b ∧ Ok64 x.1.ints
theorem Parts.old {w w1 : World} {v : Value} {ps : List (Prt × Value)} (h : Parts w v ps) (f : Fr w.heap.size w w1) : Parts w1 v ps := by
  obtain ⟨a, c, rfl, h2, h1⟩ := h.shape
  refine ⟨⟨a, c, rfl, h2, fun hp => ?_⟩, fun x hx => ⟨(h.each x hx).1.old f, (h.each x hx).2⟩⟩
  obtain ⟨b, o, rfl, hc⟩ := h1 hp
  exact ⟨b, o, rfl, fun i hi j u hj => f.done.cell (hc i hi j u hj) id⟩
theorem cellsAt_of {w : World} {b : Nat} : ∀ {o : Nat} (cs : List Value), (∀ j u, cs[j]? = some u → w.cell? ⟨b, o + j, none⟩ = some u) → cellsAt w b o cs.length = some cs
  | o, [], _ => rfl
  | o, x :: cs, h => by
    have h0 := h 0 x rfl
    rw [Nat.add_zero] at h0
    have := cellsAt_of (o := o + 1) cs fun j u hj => by
      have := h (j + 1) u (by simpa using hj)
      rw [show o + 1 + j = o + (j + 1) by omega]; exact this
    simp [cellsAt, h0, this]

theorem Parts.at {w : World} {a : Option Addr} {n c : Nat} {ps : List (Prt × Value)} (h : Parts w (.slice a n c) ps) {i : Nat} (hi : i < ps.length) :
    ∃ b o, a = some ⟨b, o, none⟩ ∧ cellsAt w b (o + i * 12) 12 = some (ps[i].1.cells ps[i].2) := by
  obtain ⟨a', c', e, hm, h1⟩ := h.shape
  injection e with e1 e2 e3
  obtain ⟨b, o, h2, hc⟩ := h1 (by omega)
  exact ⟨b, o, by rw [e1, h2], cellsAt_of _ (hc i hi)⟩

theorem few (v : Value) (ps : List (Prt × Value)) (w : World) (h : Parts w v ps) :
    Calls Try.prog 22 [v].toArray w (RetK fun r w' => ∃ f : Bool, r = .bool f ∧ w' = w ∧ (f = true → ps.length ≤ 30 ∧ ∀ x ∈ ps, x.1.b.length ≤ 60)) := by
  obtain ⟨a, c, rfl, hm, h1⟩ := h.shape
  refine walk Try.func22 rfl (by kernel_rfl) (by rw [Try.nt22]; simp) ?_
  simp -dsimp only [↓vcA, vcB, vcD, ↓pureT_lenS, ↓iteT, ↓iteF, cond_true, cond_false, eq_self, argE, Env.get, Env.push, ev, evs, evo, retV, Value.cells, Value.oneCell', setR, overR, fillL, zl, places, allSizes, heldC, ne_eq, Int.reduceLE, Int.reduceLT, Int.reduceEq, Int.reduceNe, Int.reduceToNat, Int.cast_ofNat_Int, Nat.reduceMul, Nat.reduceLeDiff, reduceIte, Nat.reduceEqDiff, Nat.reduceAdd, ↓reduceIte, Try.vcT]
  refine walkLoop [0] [3] (fun m vs w1 => w1 = w ∧ ∃ i, i ≤ ps.length ∧ i ≤ 40 ∧ m = ps.length - i ∧ vs = [.int .i64 i] ∧ ∀ j (hj : j < ps.length), j < i → ps[j].1.b.length ≤ 60) (by kernel_rfl) ?_ ?_
  · simp -dsimp only [↓vcA, vcB, vcD, ↓pureT_lenS, ↓iteT, ↓iteF, cond_true, cond_false, eq_self, argE, Env.get, Env.push, ev, evs, evo, retV, Value.cells, Value.oneCell', setR, overR, fillL, zl, places, allSizes, heldC, ne_eq, Int.reduceLE, Int.reduceLT, Int.reduceEq, Int.reduceNe, Int.reduceToNat, Int.cast_ofNat_Int, Nat.reduceMul, Nat.reduceLeDiff, reduceIte, Nat.reduceEqDiff, Nat.reduceAdd, ↓reduceIte, Try.vcT, gets]
    exact ⟨_, 0, Nat.zero_le _, Nat.zero_le _, rfl, by simp, fun j _ hj => by omega⟩
  · intro ks hk m vs w1 hi
    obtain ⟨rfl, i, hi, hi4, rfl, rfl, hall⟩ := hi
    simp -dsimp only [gets, argE, List.zip_cons_cons, List.zip_nil_left, List.cons_append, List.nil_append, Env.get, Env.push, Option.bind_some, Option.map_some, Option.some.injEq, reduceIte, Nat.reduceEqDiff, Nat.reduceAdd, ↓reduceIte] at hk; subst hk
    by_cases hlt : (i : Int) < ps.length
    · by_cases h40 : (i : Int) < 40
      · have hil : i < ps.length := by omega
        obtain ⟨b, o, rfl, hc⟩ := h1 (by omega)
        obtain ⟨r1, r2, r3⟩ := h.each _ (List.getElem_mem hil)
        obtain ⟨a2, c2, e2, _⟩ := r1
        have hcell := hc i hil 11 _ rfl
        rw [e2] at hcell
        have e : IntKind.i64.wrap ((i : Int) + 1) = ((i + 1 : Nat) : Int) := by rw [i64w _ (by omega) (by omega)]; omega
        simp -dsimp only [↓vcA, vcB, vcD, ↓pureT_lenS, ↓iteT, ↓iteF, cond_true, cond_false, eq_self, argE, Env.get, Env.push, ev, evs, evo, retV, Value.cells, Value.oneCell', setR, overR, fillL, zl, places, allSizes, heldC, ne_eq, Int.reduceLE, Int.reduceLT, Int.reduceEq, Int.reduceNe, Int.reduceToNat, Int.cast_ofNat_Int, Nat.reduceMul, Nat.reduceLeDiff, reduceIte, Nat.reduceEqDiff, Nat.reduceAdd, ↓reduceIte, Try.vcT, gets, decide_eq_true hlt, decide_eq_true h40, hcell]
        refine ⟨⟨by omega, by omega⟩, ?_⟩
        refine ifK_dec (fun h60 => ?_) (fun h60 => ?_)
        · simp -dsimp only [↓vcA, vcB, vcD, ↓pureT_lenS, ↓iteT, ↓iteF, cond_true, cond_false, eq_self, argE, Env.get, Env.push, ev, evs, evo, retV, Value.cells, Value.oneCell', setR, overR, fillL, zl, places, allSizes, heldC, ne_eq, Int.reduceLE, Int.reduceLT, Int.reduceEq, Int.reduceNe, Int.reduceToNat, Int.cast_ofNat_Int, Nat.reduceMul, Nat.reduceLeDiff, reduceIte, Nat.reduceEqDiff, Nat.reduceAdd, ↓reduceIte, Try.vcT]
          exact ⟨false, rfl, fun e => by cases e⟩
        · simp -dsimp only [↓vcA, vcB, vcD, ↓pureT_lenS, ↓iteT, ↓iteF, cond_true, cond_false, eq_self, argE, Env.get, Env.push, ev, evs, evo, retV, Value.cells, Value.oneCell', setR, overR, fillL, zl, places, allSizes, heldC, ne_eq, Int.reduceLE, Int.reduceLT, Int.reduceEq, Int.reduceNe, Int.reduceToNat, Int.cast_ofNat_Int, Nat.reduceMul, Nat.reduceLeDiff, reduceIte, Nat.reduceEqDiff, Nat.reduceAdd, ↓reduceIte, Try.vcT, gets, e]
          refine ⟨_, ?_, i + 1, by omega, by omega, rfl, rfl, fun j hj hj2 => ?_⟩
          · omega
          · by_cases hji : j = i
            · subst hji; omega
            · exact hall j hj (by omega)
      · simp -dsimp only [↓vcA, vcB, vcD, ↓pureT_lenS, ↓iteT, ↓iteF, cond_true, cond_false, eq_self, argE, Env.get, Env.push, ev, evs, evo, retV, Value.cells, Value.oneCell', setR, overR, fillL, zl, places, allSizes, heldC, ne_eq, Int.reduceLE, Int.reduceLT, Int.reduceEq, Int.reduceNe, Int.reduceToNat, Int.cast_ofNat_Int, Nat.reduceMul, Nat.reduceLeDiff, reduceIte, Nat.reduceEqDiff, Nat.reduceAdd, ↓reduceIte, Try.vcT, gets, decide_eq_true hlt, decide_eq_false h40]
        refine ⟨_, rfl, fun h30 => ?_⟩
        have := of_decide_eq_true h30
        omega
    · simp -dsimp only [↓vcA, vcB, vcD, ↓pureT_lenS, ↓iteT, ↓iteF, cond_true, cond_false, eq_self, argE, Env.get, Env.push, ev, evs, evo, retV, Value.cells, Value.oneCell', setR, overR, fillL, zl, places, allSizes, heldC, ne_eq, Int.reduceLE, Int.reduceLT, Int.reduceEq, Int.reduceNe, Int.reduceToNat, Int.cast_ofNat_Int, Nat.reduceMul, Nat.reduceLeDiff, reduceIte, Nat.reduceEqDiff, Nat.reduceAdd, ↓reduceIte, Try.vcT, gets, decide_eq_false hlt]
      refine ⟨_, rfl, fun h30 => ?_⟩
      have := of_decide_eq_true h30
      refine ⟨by omega, fun x hx => ?_⟩
      obtain ⟨j, hj, rfl⟩ := List.mem_iff_getElem.1 hx
      exact hall j hj (by omega)
end Go.Proofs.Ytnhgjgoglmadnaa
