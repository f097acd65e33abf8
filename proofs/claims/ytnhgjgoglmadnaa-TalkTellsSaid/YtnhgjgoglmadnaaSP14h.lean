/- Joined texts of this claim (part 8), printed by a program of this work. The last part holds the claimed theorem: the law answers true at every input of its row. -/
import Derived.Test.YtnhgjgoglmadnaaSP14g
namespace Go.Proofs.Ytnhgjgoglmadnaa
open Go.RowKit
set_option maxRecDepth 100000
set_option linter.unusedSimpArgs false
set_option linter.unusedVariables false
set_option pp.maxSteps 1500
set_option pp.deepTerms.threshold 8

theorem bclone (v : Value) (xs : List Int) (w : World) (h : Rd w v xs) (hl : xs.length ≤ 10000000) :
    Calls Try.prog 77 [v].toArray w (RetK fun r w' => Copy w w' r xs) := by
  have h0 := h
  obtain ⟨a, c, rfl, h1, h2, h3, h4⟩ := h
  refine walk Try.func77 rfl (by kernel_rfl) (by rw [Try.nt77]; simp) ?_
  cases a with
  | none =>
    obtain rfl := h3 rfl
    have hz : xs = [] := List.eq_nil_of_length_eq_zero (by omega)
    subst hz
    simp -dsimp only [↓vcA, vcB, vcD, ↓pureT_lenS, ↓iteT, ↓iteF, cond_true, cond_false, eq_self, argE, Env.get, Env.push, ev, evs, evo, retV, Value.cells, Value.oneCell', setR, overR, fillL, zl, places, allSizes, heldC, ne_eq, Int.reduceLE, Int.reduceLT, Int.reduceEq, Int.reduceNe, Int.reduceToNat, Int.cast_ofNat_Int, Nat.reduceMul, Nat.reduceLeDiff, reduceIte, Nat.reduceEqDiff, Nat.reduceAdd, ↓reduceIte, Try.vcT]
    exact ⟨Chg.refl _ _, Own.nil w, fun k hk => by simp [Value.ownBlock] at hk⟩
  | some a =>
    simp -dsimp only [↓vcA, vcB, vcD, ↓pureT_lenS, ↓iteT, ↓iteF, cond_true, cond_false, eq_self, argE, Env.get, Env.push, ev, evs, evo, retV, Value.cells, Value.oneCell', setR, overR, fillL, zl, places, allSizes, heldC, ne_eq, Int.reduceLE, Int.reduceLT, Int.reduceEq, Int.reduceNe, Int.reduceToNat, Int.cast_ofNat_Int, Nat.reduceMul, Nat.reduceLeDiff, reduceIte, Nat.reduceEqDiff, Nat.reduceAdd, ↓reduceIte, Try.vcT]
    intro w1 b hb
    have hr1 := h0.chg hb.chg (fun _ _ => id)
    have ho : Own w1 (.slice (some ⟨b, 0, none⟩) 0 0) [] := hb.owns (by simp) (by simp [maxLen])
    refine app ho hr1 (by simp; omega) ?_
    intro a1 c1 w2 h5 g5 a5
    simp -dsimp only [↓vcA, vcB, vcD, ↓pureT_lenS, ↓iteT, ↓iteF, cond_true, cond_false, eq_self, argE, Env.get, Env.push, ev, evs, evo, retV, Value.cells, Value.oneCell', setR, overR, fillL, zl, places, allSizes, heldC, ne_eq, Int.reduceLE, Int.reduceLT, Int.reduceEq, Int.reduceNe, Int.reduceToNat, Int.cast_ofNat_Int, Nat.reduceMul, Nat.reduceLeDiff, reduceIte, Nat.reduceEqDiff, Nat.reduceAdd, ↓reduceIte, Try.vcT]
    refine ⟨?_, by simpa using h5, fun k hk => ?_⟩
    · exact hb.chg.trans (Chg.ofGrown g5) (fun x hx => .inr (by simp [Value.ownBlock] at hx; have := hb.eq; omega)) |>.mono fun x hx => hx
    · have := hb.eq; have := hb.size
      rcases a5 with e | e <;> simp only [List.length_nil, Nat.zero_add] at e hk <;> rw [e] at hk <;> simp [Value.ownBlock] at hk <;> omega
theorem Sep.bclone {w0 w : World} {S : Nat → Prop} {M : List Res} {K : Value → World → Prop} {v : Value} (xs : List Int) (h : Sep w0 S M w) (hr : Rd w v xs) (hl : xs.length ≤ 10000000)
    (hk : ∀ a c w1, Sep w0 S (M ++ [byt (.slice a xs.length c) xs]) w1 → K (.slice a xs.length c) w1) : callsK Try.prog 77 [v].toArray w K := by
  refine callsK_use (Go.Proofs.Ytnhgjgoglmadnaa.bclone v xs w hr hl) ?_
  intro r w1 c1
  obtain ⟨a, c, rfl⟩ := owns_shape c1.own
  exact hk a c w1 (c1.push h)
structure S24 where
  dead : Bool
  l : List Int
def strm (p : Nat) (s : S24) : Res where
  on w A := s.l.length ≤ 1000000 ∧ ∃ v, w.heap[p]? = some (.cells #[.bool s.dead, v] 137 (0, 0)) ∧ Own w v s.l ∧ A = fun x => x = p ∨ v.ownBlock = some x
  rd _ := False
  fact _ := s.l.length ≤ 1000000
  lt := fun ⟨_, v, h, ho, e⟩ x hx => by
    subst e
    rcases hx with rfl | hx
    · exact lt_of_block h
    · exact ho.lt hx
  chg := fun {w w' A} ⟨h1, v, h, ho, e⟩ hs hc => ⟨h1, v, (hc p (lt_of_block h) (.inl (by rw [e]; exact .inl rfl))).trans h, owns_same ho fun k hk => hc k (ho.lt hk) (.inl (by rw [e]; exact .inr hk)), e⟩
  ok := fun h => h.1
theorem strm_fact (p : Nat) (s : S24) (w : World) : (strm p s).fact w = (s.l.length ≤ 1000000) := (rfl)
section
variable {w0 w : World} {S : Nat → Prop} {M : List Res} {K : Value → World → Prop}
end
end Go.Proofs.Ytnhgjgoglmadnaa
namespace Go.Proofs.Ytnhgjgoglmadnaa
open Go.RowKit
set_option maxRecDepth 100000
set_option linter.unusedSimpArgs false
set_option linter.unusedVariables false
set_option pp.maxSteps 1500
set_option pp.deepTerms.threshold 8

def encL (f : W8 → List Int → W8) (s : W8) (xs : List (List Int)) : W8 := xs.foldl f (s.num xs.length 2)
theorem len_9 {x : List Int} (h : x.length = 9) : ∃ a0 a1 a2 a3 a4 a5 a6 a7 a8, x = [a0, a1, a2, a3, a4, a5, a6, a7, a8] := by
  match x, h with
  | [a0, a1, a2, a3, a4, a5, a6, a7, a8], _ => exact ⟨_, _, _, _, _, _, _, _, _, rfl⟩
def wP (s : W8) : List Int → W8
  | [a0, a1] => s.pt a0 a1
  | _ => s
def wW (s : W8) : List Int → W8
  | [a0, a1, a2, a3, a4] => ((s.pt a0 a1).pt a2 a3).num a4 1
  | _ => s
def wPa (s : W8) : List Int → W8
  | [a0, a1] => (s.num a0 1).num a1 1
  | _ => s
def wRe (s : W8) : List Int → W8
  | [a0, a1, a2, a3, a4, a5, a6, a7, a8, a9] => ((((s.num a0 1).num a1 2).num a2 1).num a3 1).tri a4 a5 a6 a7 a8 a9
  | _ => s
def wCa (s : W8) : List Int → W8
  | [a0, a1, a2, a3, a4, a5, a6, a7, a8] => ((((((((s.num a0 1).num a1 1).num a2 1).num a3 1).num a4 2).num a5 1).num a6 4).num (IntKind.i64.wrap (a7 + 1)) 2).num a8 1
  | _ => s
def wIs (s : W8) : List Int → W8
  | [a0, a1, a2] => ((s.num a0 1).num a1 1).num a2 1
  | _ => s
def wCo (s : W8) : List Int → W8
  | [a0, a1, a2] => ((s.num a0 1).num a1 2).num a2 2
  | _ => s
end Go.Proofs.Ytnhgjgoglmadnaa
namespace Go.Proofs.Ytnhgjgoglmadnaa
open Go.RowKit
set_option maxRecDepth 100000
set_option linter.unusedSimpArgs false
set_option linter.unusedVariables false
set_option pp.maxSteps 1500
set_option pp.deepTerms.threshold 8

def itemsF {α : Type} (f : R8 → α) (g : R8 → R8) : Nat → R8 → List α × R8
  | 0, s => ([], s)
  | n + 1, s => if 0 < s.left then (f s :: (itemsF f g n (g s)).1, (itemsF f g n (g s)).2) else ([], s)
def itemsV {α : Type} (f : R8 → α) (g : R8 → R8) (s : R8) : List α := (itemsF f g (s.numV 2).toNat (s.numS 2)).1
def itemsS {α : Type} (f : R8 → α) (g : R8 → R8) (s : R8) : R8 := (itemsF f g (s.numV 2).toNat (s.numS 2)).2

def rP (s : R8) : List Int := [s.ptV.1, s.ptV.2]
def sP (s : R8) : R8 := (s.ptS)
theorem sP_byt {s : R8} (hb : Byt s.l) : Byt (sP s).l := ptS_byt _ (hb)
def rW (s : R8) : List Int := [s.ptV.1, s.ptV.2, (s.ptS).ptV.1, (s.ptS).ptV.2, ((s.ptS).ptS).numV 1]
def sW (s : R8) : R8 := (((s.ptS).ptS).numS 1)
theorem sW_byt {s : R8} (hb : Byt s.l) : Byt (sW s).l := numS_byt _ 1 (ptS_byt _ (ptS_byt _ (hb)))
def rPa (s : R8) : List Int := [s.numV 1, (s.numS 1).numV 1]
def sPa (s : R8) : R8 := ((s.numS 1).numS 1)
theorem sPa_byt {s : R8} (hb : Byt s.l) : Byt (sPa s).l := numS_byt _ 1 (numS_byt _ 1 (hb))
def rRe (s : R8) : List Int := [s.numV 1, (s.numS 1).numV 2, ((s.numS 1).numS 2).numV 1, (((s.numS 1).numS 2).numS 1).numV 1, ((((s.numS 1).numS 2).numS 1).numS 1).triV.ax, ((((s.numS 1).numS 2).numS 1).numS 1).triV.ay, ((((s.numS 1).numS 2).numS 1).numS 1).triV.bx, ((((s.numS 1).numS 2).numS 1).numS 1).triV.by', ((((s.numS 1).numS 2).numS 1).numS 1).triV.cx, ((((s.numS 1).numS 2).numS 1).numS 1).triV.cy]
def sRe (s : R8) : R8 := (((((s.numS 1).numS 2).numS 1).numS 1).triS)
theorem sRe_byt {s : R8} (hb : Byt s.l) : Byt (sRe s).l := triS_byt _ (numS_byt _ 1 (numS_byt _ 1 (numS_byt _ 2 (numS_byt _ 1 (hb)))))
def rCa (s : R8) : List Int := [s.numV 1, (s.numS 1).numV 1, ((s.numS 1).numS 1).numV 1, (((s.numS 1).numS 1).numS 1).numV 1, ((((s.numS 1).numS 1).numS 1).numS 1).numV 2, (((((s.numS 1).numS 1).numS 1).numS 1).numS 2).numV 1, ((((((s.numS 1).numS 1).numS 1).numS 1).numS 2).numS 1).numV 4, IntKind.i64.wrap ((((((((s.numS 1).numS 1).numS 1).numS 1).numS 2).numS 1).numS 4).numV 2 - 1), ((((((((s.numS 1).numS 1).numS 1).numS 1).numS 2).numS 1).numS 4).numS 2).numV 1]
def sCa (s : R8) : R8 := (((((((((s.numS 1).numS 1).numS 1).numS 1).numS 2).numS 1).numS 4).numS 2).numS 1)
theorem sCa_byt {s : R8} (hb : Byt s.l) : Byt (sCa s).l := numS_byt _ 1 (numS_byt _ 2 (numS_byt _ 4 (numS_byt _ 1 (numS_byt _ 2 (numS_byt _ 1 (numS_byt _ 1 (numS_byt _ 1 (numS_byt _ 1 (hb)))))))))
theorem infoCa : (Try.prog.info? 159).map (fun i => (i.zero, i.size, i.bytes)) = some (some (.agg #[.int .i64 0, .int .i64 0, .int .i64 0, .int .i64 0, .int .i64 0, .int .i64 0, .int .i64 0, .int .i64 0, .int .i64 0]), 9, 72) := by kernel_rfl
def rIs (s : R8) : List Int := [s.numV 1, (s.numS 1).numV 1, ((s.numS 1).numS 1).numV 1]
def sIs (s : R8) : R8 := (((s.numS 1).numS 1).numS 1)
theorem sIs_byt {s : R8} (hb : Byt s.l) : Byt (sIs s).l := numS_byt _ 1 (numS_byt _ 1 (numS_byt _ 1 (hb)))
def rCo (s : R8) : List Int := [s.numV 1, (s.numS 1).numV 2, ((s.numS 1).numS 2).numV 2]
def sCo (s : R8) : R8 := (((s.numS 1).numS 2).numS 2)
theorem sCo_byt {s : R8} (hb : Byt s.l) : Byt (sCo s).l := numS_byt _ 2 (numS_byt _ 2 (numS_byt _ 1 (hb)))
end Go.Proofs.Ytnhgjgoglmadnaa
namespace Go.Proofs.Ytnhgjgoglmadnaa
open Go.RowKit
set_option maxRecDepth 100000
set_option linter.unusedSimpArgs false
set_option linter.unusedVariables false
set_option pp.maxSteps 1500
set_option pp.deepTerms.threshold 8

theorem take_succ_eq {α : Type} {a b : List α} {i : Nat} (h : a.take i = b.take i) (ha : i < a.length) (hb : i < b.length) (he : a[i] = b[i]) : a.take (i + 1) = b.take (i + 1) := by
  rw [List.take_succ_eq_append_getElem ha, List.take_succ_eq_append_getElem hb, h, he]
section
variable {w0 w : World} {S : Nat → Prop} {M : List Res} {K : Value → World → Prop}
end
end Go.Proofs.Ytnhgjgoglmadnaa
namespace Go.Proofs.Ytnhgjgoglmadnaa
open Go.RowKit
set_option maxRecDepth 100000
set_option linter.unusedSimpArgs false
set_option linter.unusedVariables false
set_option pp.maxSteps 1500
set_option pp.deepTerms.threshold 8

structure Rq where
  k : Int
  px : Int
  py : Int
  qx : Int
  qy : Int
  ax : Int
  ay : Int
  bx : Int
  by' : Int
  cx : Int
  cy : Int
  e : Int
  c : Int
  l : Int
  o : Int
  x0 : Int
  y0 : Int
  x1 : Int
  y1 : Int
  f : Int
  m : Int
  i : Int
  n : Int
  h : Int
  b : Int
  u : Int
deriving DecidableEq
def Rq.vals (r : Rq) : List Int := [r.k, r.px, r.py, r.qx, r.qy, r.ax, r.ay, r.bx, r.by', r.cx, r.cy, r.e, r.c, r.l, r.o, r.x0, r.y0, r.x1, r.y1, r.f, r.m, r.i, r.n, r.h, r.b, r.u]
def Rq.cells (r : Rq) : List Value := [.int .i64 r.k, .int .i64 r.px, .int .i64 r.py, .int .i64 r.qx, .int .i64 r.qy, .int .i64 r.ax, .int .i64 r.ay, .int .i64 r.bx, .int .i64 r.by', .int .i64 r.cx, .int .i64 r.cy, .int .i64 r.e, .int .i64 r.c, .int .i64 r.l, .int .i64 r.o, .int .i64 r.x0, .int .i64 r.y0, .int .i64 r.x1, .int .i64 r.y1, .int .i64 r.f, .int .i64 r.m, .int .i64 r.i, .int .i64 r.n, .int .i64 r.h, .int .i64 r.b, .int .i64 r.u]
def put1 (r : Rq) (s : W8) (c : Nat) : W8 :=
  if c = 112 then s.pt r.px r.py else
  if c = 113 then s.pt r.qx r.qy else
  if c = 116 then s.tri r.ax r.ay r.bx r.by' r.cx r.cy else
  if c = 101 then s.num r.e 1 else
  if c = 99 then s.num r.c 1 else
  if c = 108 then s.num r.l 2 else
  if c = 111 then s.num r.o 2 else
  if c = 114 then (((s.num r.x0 3).num r.y0 3).num r.x1 3).num r.y1 3 else
  if c = 102 then s.num r.f 2 else
  if c = 109 then s.num r.m 1 else
  if c = 105 then s.num r.i 1 else
  if c = 110 then s.num r.n 1 else
  if c = 104 then s.num r.h 1 else
  if c = 98 then s.num r.b 1 else
  if c = 117 then s.num r.u 4 else
  s
def form (k : Int) : Option (List Nat) :=
  if k = 1 then some [112] else
  if k = 2 then some [116, 101] else
  if k = 3 then some [99, 108, 102, 109] else
  if k = 4 then some [99, 108, 114, 102, 109] else
  if k = 5 then some [112] else
  if k = 6 then some [112] else
  if k = 7 then some [112, 113] else
  if k = 8 then some [112, 113] else
  if k = 9 then some [112, 113, 108] else
  if k = 10 then some [99, 108, 111] else
  if k = 11 then some [99, 108, 111] else
  if k = 12 then some [99, 105, 110, 104, 108, 98, 117] else
  if k = 13 then some [99, 105, 110] else
  if k = 14 then some [99, 102, 109] else
  if k = 15 then some [99] else
  if k = 16 then some [] else
  none
def asksW (s : W8) (r : Rq) : W8 := ((form r.k).getD []).foldl (put1 r) s
set_option maxHeartbeats 2000000 in
theorem asks125 {w0 w : World} {q : Res} {p k : Nat} {s : W8} {r : Rq} {K : Value → World → Prop} (h : Sep w0 (fun _ => False) [q, wr 32 p s k] w) (hO : Ok64 r.vals) (hl : k ≤ 700000)
    (hK : ∀ w1, Sep w0 (fun _ => False) [q, wr 32 p (asksW s r) (k + 100)] w1 → K (.bool (form r.k).isSome) w1) :
    callsK Try.prog 125 [.pointer (some ⟨p, 0, none⟩), .agg r.cells.toArray].toArray w K := by
  obtain ⟨z0, z1, z2, z3, z4, z5, z6, z7, z8, z9, z10, z11, z12, z13, z14, z15, z16, z17, z18, z19, z20, z21, z22, z23, z24, z25⟩ := r
  simp only [Rq.vals, Ok64, List.forall_mem_cons, List.not_mem_nil, false_implies, implies_true, and_true] at hO
  refine walk Try.func125 rfl (by kernel_rfl) (by rw [Try.nt125]; simp) ?_
  (try simp only [nfD] at h); have F := h.facts; (try simp only [nfF, emp_fact, rds_fact, frm_fact, tab_fact] at F)
  simp -dsimp only [↓vcA, vcB, vcD, ↓pureT_lenS, ↓iteT, ↓iteF, cond_true, cond_false, eq_self, argE, Env.get, Env.push, ev, evs, evo, retV, Value.cells, Value.oneCell', setR, overR, fillL, zl, places, allSizes, heldC, ne_eq, Int.reduceLE, Int.reduceLT, Int.reduceEq, Int.reduceNe, Int.reduceToNat, Int.cast_ofNat_Int, Nat.reduceMul, Nat.reduceLeDiff, reduceIte, Nat.reduceEqDiff, Nat.reduceAdd, ↓reduceIte, Try.vcT, Rq.cells]
  refine h.new ?_
  clear h F
  intro w1 b1 h
  dsimp only at hK
  -- the kinds
  by_cases e1 : z0 = 1
  case pos =>
    subst e1
    (try simp only [nfD] at h); have F := h.facts; (try simp only [nfF, emp_fact, rds_fact, frm_fact, tab_fact] at F); try simp -dsimp only [↓vcA, vcB, vcD, ↓pureT_lenS, ↓iteT, ↓iteF, cond_true, cond_false, eq_self, argE, Env.get, Env.push, ev, evs, evo, retV, Value.cells, Value.oneCell', setR, overR, fillL, zl, places, allSizes, heldC, ne_eq, Int.reduceLE, Int.reduceLT, Int.reduceEq, Int.reduceNe, Int.reduceToNat, Int.cast_ofNat_Int, Nat.reduceMul, Nat.reduceLeDiff, reduceIte, Nat.reduceEqDiff, Nat.reduceAdd, ↓reduceIte, Try.vcT, F, h.cell0, gets, vsD, if_true, if_false, Bool.false_eq_true,  cellsAt]
    repeat ((first | refine Sep.new h ?_ | refine Sep.put 0 h rfl ?_ | refine Sep.put 1 h rfl ?_ | refine Sep.put 2 h rfl ?_ | refine Sep.put 3 h rfl ?_ | refine Sep.put 4 h rfl ?_ | refine Sep.put 5 h rfl ?_ | refine Sep.num 1 h rfl (by omega) (by omega) (by omega) ?_ | refine Sep.point 1 h rfl (by omega) (by omega) (by omega) (by omega) (by omega) ?_ | refine Sep.tri 1 h rfl (by omega) (by simp only [Ok64, List.forall_mem_cons, List.not_mem_nil, false_implies, implies_true, and_true]; omega) ?_); (clear F; (try clear h); intros; rename_i h; (try simp only [nfD] at h); have F := h.facts; (try simp only [nfF, emp_fact, rds_fact, frm_fact, tab_fact] at F); try simp -dsimp only [↓vcA, vcB, vcD, ↓pureT_lenS, ↓iteT, ↓iteF, cond_true, cond_false, eq_self, argE, Env.get, Env.push, ev, evs, evo, retV, Value.cells, Value.oneCell', setR, overR, fillL, zl, places, allSizes, heldC, ne_eq, Int.reduceLE, Int.reduceLT, Int.reduceEq, Int.reduceNe, Int.reduceToNat, Int.cast_ofNat_Int, Nat.reduceMul, Nat.reduceLeDiff, reduceIte, Nat.reduceEqDiff, Nat.reduceAdd, ↓reduceIte, Try.vcT, F, h.cell0, gets, vsD, if_true, if_false, Bool.false_eq_true, cellsAt]))
    have h := h.erase 2
    exact hK _ (h.wrMono' 1 (k + 100) rfl (by omega))
  by_cases e2 : z0 = 2
  case pos =>
    subst e2
    (try simp only [nfD] at h); have F := h.facts; (try simp only [nfF, emp_fact, rds_fact, frm_fact, tab_fact] at F); try simp -dsimp only [↓vcA, vcB, vcD, ↓pureT_lenS, ↓iteT, ↓iteF, cond_true, cond_false, eq_self, argE, Env.get, Env.push, ev, evs, evo, retV, Value.cells, Value.oneCell', setR, overR, fillL, zl, places, allSizes, heldC, ne_eq, Int.reduceLE, Int.reduceLT, Int.reduceEq, Int.reduceNe, Int.reduceToNat, Int.cast_ofNat_Int, Nat.reduceMul, Nat.reduceLeDiff, reduceIte, Nat.reduceEqDiff, Nat.reduceAdd, ↓reduceIte, Try.vcT, F, h.cell0, gets, vsD, if_true, if_false, Bool.false_eq_true,  cellsAt]
    refine walkDraw (.q 0 (.q 1 (.q 4 (.h 2 0 (.h 5 6 (.l 3 (.l 6 .fin))))))) [(b1, 5, .int .i64 z5), (b1, 6, .int .i64 z6), (b1, 7, .int .i64 z7), (b1, 8, .int .i64 z8), (b1, 9, .int .i64 z9), (b1, 10, .int .i64 z10), (b1, 11, .int .i64 z11)] (by kernel_rfl) (by simp [Holds_nil, Holds_cons, F]) ?_
    refine h.draw ?_
    clear h F
    intro w6 h
    (try simp only [nfD] at h); have F := h.facts; (try simp only [nfF, emp_fact, rds_fact, frm_fact, tab_fact] at F); try simp -dsimp only [↓vcA, vcB, vcD, ↓pureT_lenS, ↓iteT, ↓iteF, cond_true, cond_false, eq_self, argE, Env.get, Env.push, ev, evs, evo, retV, Value.cells, Value.oneCell', setR, overR, fillL, zl, places, allSizes, heldC, ne_eq, Int.reduceLE, Int.reduceLT, Int.reduceEq, Int.reduceNe, Int.reduceToNat, Int.cast_ofNat_Int, Nat.reduceMul, Nat.reduceLeDiff, reduceIte, Nat.reduceEqDiff, Nat.reduceAdd, ↓reduceIte, Try.vcT, F, h.cell0, gets, vsD, if_true, if_false, Bool.false_eq_true]
    repeat ((first | refine Sep.new h ?_ | refine Sep.put 0 h rfl ?_ | refine Sep.put 1 h rfl ?_ | refine Sep.put 2 h rfl ?_ | refine Sep.put 3 h rfl ?_ | refine Sep.put 4 h rfl ?_ | refine Sep.put 5 h rfl ?_ | refine Sep.num 1 h rfl (by omega) (by omega) (by omega) ?_ | refine Sep.point 1 h rfl (by omega) (by omega) (by omega) (by omega) (by omega) ?_ | refine Sep.tri 1 h rfl (by omega) (by simp only [Ok64, List.forall_mem_cons, List.not_mem_nil, false_implies, implies_true, and_true]; omega) ?_); (clear F; (try clear h); intros; rename_i h; (try simp only [nfD] at h); have F := h.facts; (try simp only [nfF, emp_fact, rds_fact, frm_fact, tab_fact] at F); try simp -dsimp only [↓vcA, vcB, vcD, ↓pureT_lenS, ↓iteT, ↓iteF, cond_true, cond_false, eq_self, argE, Env.get, Env.push, ev, evs, evo, retV, Value.cells, Value.oneCell', setR, overR, fillL, zl, places, allSizes, heldC, ne_eq, Int.reduceLE, Int.reduceLT, Int.reduceEq, Int.reduceNe, Int.reduceToNat, Int.cast_ofNat_Int, Nat.reduceMul, Nat.reduceLeDiff, reduceIte, Nat.reduceEqDiff, Nat.reduceAdd, ↓reduceIte, Try.vcT, F, h.cell0, gets, vsD, if_true, if_false, Bool.false_eq_true, cellsAt]))
    have h := h.erase 2
    exact hK _ (h.wrMono' 1 (k + 100) rfl (by omega))
  by_cases e3 : z0 = 3
  case pos =>
    subst e3
    (try simp only [nfD] at h); have F := h.facts; (try simp only [nfF, emp_fact, rds_fact, frm_fact, tab_fact] at F); try simp -dsimp only [↓vcA, vcB, vcD, ↓pureT_lenS, ↓iteT, ↓iteF, cond_true, cond_false, eq_self, argE, Env.get, Env.push, ev, evs, evo, retV, Value.cells, Value.oneCell', setR, overR, fillL, zl, places, allSizes, heldC, ne_eq, Int.reduceLE, Int.reduceLT, Int.reduceEq, Int.reduceNe, Int.reduceToNat, Int.cast_ofNat_Int, Nat.reduceMul, Nat.reduceLeDiff, reduceIte, Nat.reduceEqDiff, Nat.reduceAdd, ↓reduceIte, Try.vcT, F, h.cell0, gets, vsD, if_true, if_false, Bool.false_eq_true,  cellsAt]
    refine walkDraw (.q 0 (.q 1 (.q 4 (.q 7 (.q 10 (.h 2 0 (.h 5 1 (.h 8 2 (.h 11 3 (.l 3 (.l 6 (.l 9 (.l 12 .fin))))))))))))) [(b1, 12, .int .i64 z12), (b1, 13, .int .i64 z13), (b1, 19, .int .i64 z19), (b1, 20, .int .i64 z20)] (by kernel_rfl) (by simp [Holds_nil, Holds_cons, F]) ?_
    refine h.draw ?_
    clear h F
    intro w6 h
    (try simp only [nfD] at h); have F := h.facts; (try simp only [nfF, emp_fact, rds_fact, frm_fact, tab_fact] at F); try simp -dsimp only [↓vcA, vcB, vcD, ↓pureT_lenS, ↓iteT, ↓iteF, cond_true, cond_false, eq_self, argE, Env.get, Env.push, ev, evs, evo, retV, Value.cells, Value.oneCell', setR, overR, fillL, zl, places, allSizes, heldC, ne_eq, Int.reduceLE, Int.reduceLT, Int.reduceEq, Int.reduceNe, Int.reduceToNat, Int.cast_ofNat_Int, Nat.reduceMul, Nat.reduceLeDiff, reduceIte, Nat.reduceEqDiff, Nat.reduceAdd, ↓reduceIte, Try.vcT, F, h.cell0, gets, vsD, if_true, if_false, Bool.false_eq_true]
    repeat ((first | refine Sep.new h ?_ | refine Sep.put 0 h rfl ?_ | refine Sep.put 1 h rfl ?_ | refine Sep.put 2 h rfl ?_ | refine Sep.put 3 h rfl ?_ | refine Sep.put 4 h rfl ?_ | refine Sep.put 5 h rfl ?_ | refine Sep.num 1 h rfl (by omega) (by omega) (by omega) ?_ | refine Sep.point 1 h rfl (by omega) (by omega) (by omega) (by omega) (by omega) ?_ | refine Sep.tri 1 h rfl (by omega) (by simp only [Ok64, List.forall_mem_cons, List.not_mem_nil, false_implies, implies_true, and_true]; omega) ?_); (clear F; (try clear h); intros; rename_i h; (try simp only [nfD] at h); have F := h.facts; (try simp only [nfF, emp_fact, rds_fact, frm_fact, tab_fact] at F); try simp -dsimp only [↓vcA, vcB, vcD, ↓pureT_lenS, ↓iteT, ↓iteF, cond_true, cond_false, eq_self, argE, Env.get, Env.push, ev, evs, evo, retV, Value.cells, Value.oneCell', setR, overR, fillL, zl, places, allSizes, heldC, ne_eq, Int.reduceLE, Int.reduceLT, Int.reduceEq, Int.reduceNe, Int.reduceToNat, Int.cast_ofNat_Int, Nat.reduceMul, Nat.reduceLeDiff, reduceIte, Nat.reduceEqDiff, Nat.reduceAdd, ↓reduceIte, Try.vcT, F, h.cell0, gets, vsD, if_true, if_false, Bool.false_eq_true, cellsAt]))
    have h := h.erase 2
    exact hK _ (h.wrMono' 1 (k + 100) rfl (by omega))
  by_cases e4 : z0 = 4
  case pos =>
    subst e4
    (try simp only [nfD] at h); have F := h.facts; (try simp only [nfF, emp_fact, rds_fact, frm_fact, tab_fact] at F); try simp -dsimp only [↓vcA, vcB, vcD, ↓pureT_lenS, ↓iteT, ↓iteF, cond_true, cond_false, eq_self, argE, Env.get, Env.push, ev, evs, evo, retV, Value.cells, Value.oneCell', setR, overR, fillL, zl, places, allSizes, heldC, ne_eq, Int.reduceLE, Int.reduceLT, Int.reduceEq, Int.reduceNe, Int.reduceToNat, Int.cast_ofNat_Int, Nat.reduceMul, Nat.reduceLeDiff, reduceIte, Nat.reduceEqDiff, Nat.reduceAdd, ↓reduceIte, Try.vcT, F, h.cell0, gets, vsD, if_true, if_false, Bool.false_eq_true,  cellsAt]
    refine walkDraw (.q 0 (.q 1 (.q 4 (.q 7 (.q 8 (.q 11 (.q 12 (.q 15 (.q 16 (.q 19 (.q 20 (.q 23 (.q 26 (.h 2 0 (.h 5 1 (.h 9 2 (.h 13 3 (.h 17 4 (.h 21 5 (.h 24 6 (.h 27 7 (.l 3 (.l 6 (.l 10 (.l 14 (.l 18 (.l 22 (.l 25 (.l 28 .fin))))))))))))))))))))))))))))) [(b1, 12, .int .i64 z12), (b1, 13, .int .i64 z13), (b1, 15, .int .i64 z15), (b1, 16, .int .i64 z16), (b1, 17, .int .i64 z17), (b1, 18, .int .i64 z18), (b1, 19, .int .i64 z19), (b1, 20, .int .i64 z20)] (by kernel_rfl) (by simp [Holds_nil, Holds_cons, F]) ?_
    refine h.draw ?_
    clear h F
    intro w6 h
    (try simp only [nfD] at h); have F := h.facts; (try simp only [nfF, emp_fact, rds_fact, frm_fact, tab_fact] at F); try simp -dsimp only [↓vcA, vcB, vcD, ↓pureT_lenS, ↓iteT, ↓iteF, cond_true, cond_false, eq_self, argE, Env.get, Env.push, ev, evs, evo, retV, Value.cells, Value.oneCell', setR, overR, fillL, zl, places, allSizes, heldC, ne_eq, Int.reduceLE, Int.reduceLT, Int.reduceEq, Int.reduceNe, Int.reduceToNat, Int.cast_ofNat_Int, Nat.reduceMul, Nat.reduceLeDiff, reduceIte, Nat.reduceEqDiff, Nat.reduceAdd, ↓reduceIte, Try.vcT, F, h.cell0, gets, vsD, if_true, if_false, Bool.false_eq_true]
    repeat ((first | refine Sep.new h ?_ | refine Sep.put 0 h rfl ?_ | refine Sep.put 1 h rfl ?_ | refine Sep.put 2 h rfl ?_ | refine Sep.put 3 h rfl ?_ | refine Sep.put 4 h rfl ?_ | refine Sep.put 5 h rfl ?_ | refine Sep.num 1 h rfl (by omega) (by omega) (by omega) ?_ | refine Sep.point 1 h rfl (by omega) (by omega) (by omega) (by omega) (by omega) ?_ | refine Sep.tri 1 h rfl (by omega) (by simp only [Ok64, List.forall_mem_cons, List.not_mem_nil, false_implies, implies_true, and_true]; omega) ?_); (clear F; (try clear h); intros; rename_i h; (try simp only [nfD] at h); have F := h.facts; (try simp only [nfF, emp_fact, rds_fact, frm_fact, tab_fact] at F); try simp -dsimp only [↓vcA, vcB, vcD, ↓pureT_lenS, ↓iteT, ↓iteF, cond_true, cond_false, eq_self, argE, Env.get, Env.push, ev, evs, evo, retV, Value.cells, Value.oneCell', setR, overR, fillL, zl, places, allSizes, heldC, ne_eq, Int.reduceLE, Int.reduceLT, Int.reduceEq, Int.reduceNe, Int.reduceToNat, Int.cast_ofNat_Int, Nat.reduceMul, Nat.reduceLeDiff, reduceIte, Nat.reduceEqDiff, Nat.reduceAdd, ↓reduceIte, Try.vcT, F, h.cell0, gets, vsD, if_true, if_false, Bool.false_eq_true, cellsAt]))
    have h := h.erase 2
    exact hK _ (h.wrMono' 1 (k + 100) rfl (by omega))
  by_cases e5 : z0 = 5
  case pos =>
    subst e5
    (try simp only [nfD] at h); have F := h.facts; (try simp only [nfF, emp_fact, rds_fact, frm_fact, tab_fact] at F); try simp -dsimp only [↓vcA, vcB, vcD, ↓pureT_lenS, ↓iteT, ↓iteF, cond_true, cond_false, eq_self, argE, Env.get, Env.push, ev, evs, evo, retV, Value.cells, Value.oneCell', setR, overR, fillL, zl, places, allSizes, heldC, ne_eq, Int.reduceLE, Int.reduceLT, Int.reduceEq, Int.reduceNe, Int.reduceToNat, Int.cast_ofNat_Int, Nat.reduceMul, Nat.reduceLeDiff, reduceIte, Nat.reduceEqDiff, Nat.reduceAdd, ↓reduceIte, Try.vcT, F, h.cell0, gets, vsD, if_true, if_false, Bool.false_eq_true,  cellsAt]
    repeat ((first | refine Sep.new h ?_ | refine Sep.put 0 h rfl ?_ | refine Sep.put 1 h rfl ?_ | refine Sep.put 2 h rfl ?_ | refine Sep.put 3 h rfl ?_ | refine Sep.put 4 h rfl ?_ | refine Sep.put 5 h rfl ?_ | refine Sep.num 1 h rfl (by omega) (by omega) (by omega) ?_ | refine Sep.point 1 h rfl (by omega) (by omega) (by omega) (by omega) (by omega) ?_ | refine Sep.tri 1 h rfl (by omega) (by simp only [Ok64, List.forall_mem_cons, List.not_mem_nil, false_implies, implies_true, and_true]; omega) ?_); (clear F; (try clear h); intros; rename_i h; (try simp only [nfD] at h); have F := h.facts; (try simp only [nfF, emp_fact, rds_fact, frm_fact, tab_fact] at F); try simp -dsimp only [↓vcA, vcB, vcD, ↓pureT_lenS, ↓iteT, ↓iteF, cond_true, cond_false, eq_self, argE, Env.get, Env.push, ev, evs, evo, retV, Value.cells, Value.oneCell', setR, overR, fillL, zl, places, allSizes, heldC, ne_eq, Int.reduceLE, Int.reduceLT, Int.reduceEq, Int.reduceNe, Int.reduceToNat, Int.cast_ofNat_Int, Nat.reduceMul, Nat.reduceLeDiff, reduceIte, Nat.reduceEqDiff, Nat.reduceAdd, ↓reduceIte, Try.vcT, F, h.cell0, gets, vsD, if_true, if_false, Bool.false_eq_true, cellsAt]))
    have h := h.erase 2
    exact hK _ (h.wrMono' 1 (k + 100) rfl (by omega))
  by_cases e6 : z0 = 6
  case pos =>
    subst e6
    (try simp only [nfD] at h); have F := h.facts; (try simp only [nfF, emp_fact, rds_fact, frm_fact, tab_fact] at F); try simp -dsimp only [↓vcA, vcB, vcD, ↓pureT_lenS, ↓iteT, ↓iteF, cond_true, cond_false, eq_self, argE, Env.get, Env.push, ev, evs, evo, retV, Value.cells, Value.oneCell', setR, overR, fillL, zl, places, allSizes, heldC, ne_eq, Int.reduceLE, Int.reduceLT, Int.reduceEq, Int.reduceNe, Int.reduceToNat, Int.cast_ofNat_Int, Nat.reduceMul, Nat.reduceLeDiff, reduceIte, Nat.reduceEqDiff, Nat.reduceAdd, ↓reduceIte, Try.vcT, F, h.cell0, gets, vsD, if_true, if_false, Bool.false_eq_true,  cellsAt]
    repeat ((first | refine Sep.new h ?_ | refine Sep.put 0 h rfl ?_ | refine Sep.put 1 h rfl ?_ | refine Sep.put 2 h rfl ?_ | refine Sep.put 3 h rfl ?_ | refine Sep.put 4 h rfl ?_ | refine Sep.put 5 h rfl ?_ | refine Sep.num 1 h rfl (by omega) (by omega) (by omega) ?_ | refine Sep.point 1 h rfl (by omega) (by omega) (by omega) (by omega) (by omega) ?_ | refine Sep.tri 1 h rfl (by omega) (by simp only [Ok64, List.forall_mem_cons, List.not_mem_nil, false_implies, implies_true, and_true]; omega) ?_); (clear F; (try clear h); intros; rename_i h; (try simp only [nfD] at h); have F := h.facts; (try simp only [nfF, emp_fact, rds_fact, frm_fact, tab_fact] at F); try simp -dsimp only [↓vcA, vcB, vcD, ↓pureT_lenS, ↓iteT, ↓iteF, cond_true, cond_false, eq_self, argE, Env.get, Env.push, ev, evs, evo, retV, Value.cells, Value.oneCell', setR, overR, fillL, zl, places, allSizes, heldC, ne_eq, Int.reduceLE, Int.reduceLT, Int.reduceEq, Int.reduceNe, Int.reduceToNat, Int.cast_ofNat_Int, Nat.reduceMul, Nat.reduceLeDiff, reduceIte, Nat.reduceEqDiff, Nat.reduceAdd, ↓reduceIte, Try.vcT, F, h.cell0, gets, vsD, if_true, if_false, Bool.false_eq_true, cellsAt]))
    have h := h.erase 2
    exact hK _ (h.wrMono' 1 (k + 100) rfl (by omega))
  by_cases e7 : z0 = 7
  case pos =>
    subst e7
    (try simp only [nfD] at h); have F := h.facts; (try simp only [nfF, emp_fact, rds_fact, frm_fact, tab_fact] at F); try simp -dsimp only [↓vcA, vcB, vcD, ↓pureT_lenS, ↓iteT, ↓iteF, cond_true, cond_false, eq_self, argE, Env.get, Env.push, ev, evs, evo, retV, Value.cells, Value.oneCell', setR, overR, fillL, zl, places, allSizes, heldC, ne_eq, Int.reduceLE, Int.reduceLT, Int.reduceEq, Int.reduceNe, Int.reduceToNat, Int.cast_ofNat_Int, Nat.reduceMul, Nat.reduceLeDiff, reduceIte, Nat.reduceEqDiff, Nat.reduceAdd, ↓reduceIte, Try.vcT, F, h.cell0, gets, vsD, if_true, if_false, Bool.false_eq_true,  cellsAt]
    refine walkDraw (.q 0 (.q 1 (.q 4 (.h 2 0 (.h 5 2 (.l 3 (.l 6 .fin))))))) [(b1, 1, .int .i64 z1), (b1, 2, .int .i64 z2), (b1, 3, .int .i64 z3), (b1, 4, .int .i64 z4)] (by kernel_rfl) (by simp [Holds_nil, Holds_cons, F]) ?_
    refine h.draw ?_
    clear h F
    intro w6 h
    (try simp only [nfD] at h); have F := h.facts; (try simp only [nfF, emp_fact, rds_fact, frm_fact, tab_fact] at F); try simp -dsimp only [↓vcA, vcB, vcD, ↓pureT_lenS, ↓iteT, ↓iteF, cond_true, cond_false, eq_self, argE, Env.get, Env.push, ev, evs, evo, retV, Value.cells, Value.oneCell', setR, overR, fillL, zl, places, allSizes, heldC, ne_eq, Int.reduceLE, Int.reduceLT, Int.reduceEq, Int.reduceNe, Int.reduceToNat, Int.cast_ofNat_Int, Nat.reduceMul, Nat.reduceLeDiff, reduceIte, Nat.reduceEqDiff, Nat.reduceAdd, ↓reduceIte, Try.vcT, F, h.cell0, gets, vsD, if_true, if_false, Bool.false_eq_true]
    repeat ((first | refine Sep.new h ?_ | refine Sep.put 0 h rfl ?_ | refine Sep.put 1 h rfl ?_ | refine Sep.put 2 h rfl ?_ | refine Sep.put 3 h rfl ?_ | refine Sep.put 4 h rfl ?_ | refine Sep.put 5 h rfl ?_ | refine Sep.num 1 h rfl (by omega) (by omega) (by omega) ?_ | refine Sep.point 1 h rfl (by omega) (by omega) (by omega) (by omega) (by omega) ?_ | refine Sep.tri 1 h rfl (by omega) (by simp only [Ok64, List.forall_mem_cons, List.not_mem_nil, false_implies, implies_true, and_true]; omega) ?_); (clear F; (try clear h); intros; rename_i h; (try simp only [nfD] at h); have F := h.facts; (try simp only [nfF, emp_fact, rds_fact, frm_fact, tab_fact] at F); try simp -dsimp only [↓vcA, vcB, vcD, ↓pureT_lenS, ↓iteT, ↓iteF, cond_true, cond_false, eq_self, argE, Env.get, Env.push, ev, evs, evo, retV, Value.cells, Value.oneCell', setR, overR, fillL, zl, places, allSizes, heldC, ne_eq, Int.reduceLE, Int.reduceLT, Int.reduceEq, Int.reduceNe, Int.reduceToNat, Int.cast_ofNat_Int, Nat.reduceMul, Nat.reduceLeDiff, reduceIte, Nat.reduceEqDiff, Nat.reduceAdd, ↓reduceIte, Try.vcT, F, h.cell0, gets, vsD, if_true, if_false, Bool.false_eq_true, cellsAt]))
    have h := h.erase 2
    exact hK _ (h.wrMono' 1 (k + 100) rfl (by omega))
  by_cases e8 : z0 = 8
  case pos =>
    subst e8
    (try simp only [nfD] at h); have F := h.facts; (try simp only [nfF, emp_fact, rds_fact, frm_fact, tab_fact] at F); try simp -dsimp only [↓vcA, vcB, vcD, ↓pureT_lenS, ↓iteT, ↓iteF, cond_true, cond_false, eq_self, argE, Env.get, Env.push, ev, evs, evo, retV, Value.cells, Value.oneCell', setR, overR, fillL, zl, places, allSizes, heldC, ne_eq, Int.reduceLE, Int.reduceLT, Int.reduceEq, Int.reduceNe, Int.reduceToNat, Int.cast_ofNat_Int, Nat.reduceMul, Nat.reduceLeDiff, reduceIte, Nat.reduceEqDiff, Nat.reduceAdd, ↓reduceIte, Try.vcT, F, h.cell0, gets, vsD, if_true, if_false, Bool.false_eq_true,  cellsAt]
    refine walkDraw (.q 0 (.q 1 (.q 4 (.h 2 0 (.h 5 2 (.l 3 (.l 6 .fin))))))) [(b1, 1, .int .i64 z1), (b1, 2, .int .i64 z2), (b1, 3, .int .i64 z3), (b1, 4, .int .i64 z4)] (by kernel_rfl) (by simp [Holds_nil, Holds_cons, F]) ?_
    refine h.draw ?_
    clear h F
    intro w6 h
    (try simp only [nfD] at h); have F := h.facts; (try simp only [nfF, emp_fact, rds_fact, frm_fact, tab_fact] at F); try simp -dsimp only [↓vcA, vcB, vcD, ↓pureT_lenS, ↓iteT, ↓iteF, cond_true, cond_false, eq_self, argE, Env.get, Env.push, ev, evs, evo, retV, Value.cells, Value.oneCell', setR, overR, fillL, zl, places, allSizes, heldC, ne_eq, Int.reduceLE, Int.reduceLT, Int.reduceEq, Int.reduceNe, Int.reduceToNat, Int.cast_ofNat_Int, Nat.reduceMul, Nat.reduceLeDiff, reduceIte, Nat.reduceEqDiff, Nat.reduceAdd, ↓reduceIte, Try.vcT, F, h.cell0, gets, vsD, if_true, if_false, Bool.false_eq_true]
    repeat ((first | refine Sep.new h ?_ | refine Sep.put 0 h rfl ?_ | refine Sep.put 1 h rfl ?_ | refine Sep.put 2 h rfl ?_ | refine Sep.put 3 h rfl ?_ | refine Sep.put 4 h rfl ?_ | refine Sep.put 5 h rfl ?_ | refine Sep.num 1 h rfl (by omega) (by omega) (by omega) ?_ | refine Sep.point 1 h rfl (by omega) (by omega) (by omega) (by omega) (by omega) ?_ | refine Sep.tri 1 h rfl (by omega) (by simp only [Ok64, List.forall_mem_cons, List.not_mem_nil, false_implies, implies_true, and_true]; omega) ?_); (clear F; (try clear h); intros; rename_i h; (try simp only [nfD] at h); have F := h.facts; (try simp only [nfF, emp_fact, rds_fact, frm_fact, tab_fact] at F); try simp -dsimp only [↓vcA, vcB, vcD, ↓pureT_lenS, ↓iteT, ↓iteF, cond_true, cond_false, eq_self, argE, Env.get, Env.push, ev, evs, evo, retV, Value.cells, Value.oneCell', setR, overR, fillL, zl, places, allSizes, heldC, ne_eq, Int.reduceLE, Int.reduceLT, Int.reduceEq, Int.reduceNe, Int.reduceToNat, Int.cast_ofNat_Int, Nat.reduceMul, Nat.reduceLeDiff, reduceIte, Nat.reduceEqDiff, Nat.reduceAdd, ↓reduceIte, Try.vcT, F, h.cell0, gets, vsD, if_true, if_false, Bool.false_eq_true, cellsAt]))
    have h := h.erase 2
    exact hK _ (h.wrMono' 1 (k + 100) rfl (by omega))
  by_cases e9 : z0 = 9
  case pos =>
    subst e9
    (try simp only [nfD] at h); have F := h.facts; (try simp only [nfF, emp_fact, rds_fact, frm_fact, tab_fact] at F); try simp -dsimp only [↓vcA, vcB, vcD, ↓pureT_lenS, ↓iteT, ↓iteF, cond_true, cond_false, eq_self, argE, Env.get, Env.push, ev, evs, evo, retV, Value.cells, Value.oneCell', setR, overR, fillL, zl, places, allSizes, heldC, ne_eq, Int.reduceLE, Int.reduceLT, Int.reduceEq, Int.reduceNe, Int.reduceToNat, Int.cast_ofNat_Int, Nat.reduceMul, Nat.reduceLeDiff, reduceIte, Nat.reduceEqDiff, Nat.reduceAdd, ↓reduceIte, Try.vcT, F, h.cell0, gets, vsD, if_true, if_false, Bool.false_eq_true,  cellsAt]
    refine walkDraw (.q 0 (.q 1 (.q 4 (.q 7 (.h 2 0 (.h 5 2 (.h 8 4 (.l 3 (.l 6 (.l 9 .fin)))))))))) [(b1, 1, .int .i64 z1), (b1, 2, .int .i64 z2), (b1, 3, .int .i64 z3), (b1, 4, .int .i64 z4), (b1, 13, .int .i64 z13)] (by kernel_rfl) (by simp [Holds_nil, Holds_cons, F]) ?_
    refine h.draw ?_
    clear h F
    intro w6 h
    (try simp only [nfD] at h); have F := h.facts; (try simp only [nfF, emp_fact, rds_fact, frm_fact, tab_fact] at F); try simp -dsimp only [↓vcA, vcB, vcD, ↓pureT_lenS, ↓iteT, ↓iteF, cond_true, cond_false, eq_self, argE, Env.get, Env.push, ev, evs, evo, retV, Value.cells, Value.oneCell', setR, overR, fillL, zl, places, allSizes, heldC, ne_eq, Int.reduceLE, Int.reduceLT, Int.reduceEq, Int.reduceNe, Int.reduceToNat, Int.cast_ofNat_Int, Nat.reduceMul, Nat.reduceLeDiff, reduceIte, Nat.reduceEqDiff, Nat.reduceAdd, ↓reduceIte, Try.vcT, F, h.cell0, gets, vsD, if_true, if_false, Bool.false_eq_true]
    repeat ((first | refine Sep.new h ?_ | refine Sep.put 0 h rfl ?_ | refine Sep.put 1 h rfl ?_ | refine Sep.put 2 h rfl ?_ | refine Sep.put 3 h rfl ?_ | refine Sep.put 4 h rfl ?_ | refine Sep.put 5 h rfl ?_ | refine Sep.num 1 h rfl (by omega) (by omega) (by omega) ?_ | refine Sep.point 1 h rfl (by omega) (by omega) (by omega) (by omega) (by omega) ?_ | refine Sep.tri 1 h rfl (by omega) (by simp only [Ok64, List.forall_mem_cons, List.not_mem_nil, false_implies, implies_true, and_true]; omega) ?_); (clear F; (try clear h); intros; rename_i h; (try simp only [nfD] at h); have F := h.facts; (try simp only [nfF, emp_fact, rds_fact, frm_fact, tab_fact] at F); try simp -dsimp only [↓vcA, vcB, vcD, ↓pureT_lenS, ↓iteT, ↓iteF, cond_true, cond_false, eq_self, argE, Env.get, Env.push, ev, evs, evo, retV, Value.cells, Value.oneCell', setR, overR, fillL, zl, places, allSizes, heldC, ne_eq, Int.reduceLE, Int.reduceLT, Int.reduceEq, Int.reduceNe, Int.reduceToNat, Int.cast_ofNat_Int, Nat.reduceMul, Nat.reduceLeDiff, reduceIte, Nat.reduceEqDiff, Nat.reduceAdd, ↓reduceIte, Try.vcT, F, h.cell0, gets, vsD, if_true, if_false, Bool.false_eq_true, cellsAt]))
    have h := h.erase 2
    exact hK _ (h.wrMono' 1 (k + 100) rfl (by omega))
  by_cases e10 : z0 = 10
  case pos =>
    subst e10
    (try simp only [nfD] at h); have F := h.facts; (try simp only [nfF, emp_fact, rds_fact, frm_fact, tab_fact] at F); try simp -dsimp only [↓vcA, vcB, vcD, ↓pureT_lenS, ↓iteT, ↓iteF, cond_true, cond_false, eq_self, argE, Env.get, Env.push, ev, evs, evo, retV, Value.cells, Value.oneCell', setR, overR, fillL, zl, places, allSizes, heldC, ne_eq, Int.reduceLE, Int.reduceLT, Int.reduceEq, Int.reduceNe, Int.reduceToNat, Int.cast_ofNat_Int, Nat.reduceMul, Nat.reduceLeDiff, reduceIte, Nat.reduceEqDiff, Nat.reduceAdd, ↓reduceIte, Try.vcT, F, h.cell0, gets, vsD, if_true, if_false, Bool.false_eq_true,  cellsAt]
    refine walkDraw (.q 0 (.q 1 (.q 4 (.q 7 (.h 2 0 (.h 5 1 (.h 8 2 (.l 3 (.l 6 (.l 9 .fin)))))))))) [(b1, 12, .int .i64 z12), (b1, 13, .int .i64 z13), (b1, 14, .int .i64 z14)] (by kernel_rfl) (by simp [Holds_nil, Holds_cons, F]) ?_
    refine h.draw ?_
    clear h F
    intro w6 h
    (try simp only [nfD] at h); have F := h.facts; (try simp only [nfF, emp_fact, rds_fact, frm_fact, tab_fact] at F); try simp -dsimp only [↓vcA, vcB, vcD, ↓pureT_lenS, ↓iteT, ↓iteF, cond_true, cond_false, eq_self, argE, Env.get, Env.push, ev, evs, evo, retV, Value.cells, Value.oneCell', setR, overR, fillL, zl, places, allSizes, heldC, ne_eq, Int.reduceLE, Int.reduceLT, Int.reduceEq, Int.reduceNe, Int.reduceToNat, Int.cast_ofNat_Int, Nat.reduceMul, Nat.reduceLeDiff, reduceIte, Nat.reduceEqDiff, Nat.reduceAdd, ↓reduceIte, Try.vcT, F, h.cell0, gets, vsD, if_true, if_false, Bool.false_eq_true]
    repeat ((first | refine Sep.new h ?_ | refine Sep.put 0 h rfl ?_ | refine Sep.put 1 h rfl ?_ | refine Sep.put 2 h rfl ?_ | refine Sep.put 3 h rfl ?_ | refine Sep.put 4 h rfl ?_ | refine Sep.put 5 h rfl ?_ | refine Sep.num 1 h rfl (by omega) (by omega) (by omega) ?_ | refine Sep.point 1 h rfl (by omega) (by omega) (by omega) (by omega) (by omega) ?_ | refine Sep.tri 1 h rfl (by omega) (by simp only [Ok64, List.forall_mem_cons, List.not_mem_nil, false_implies, implies_true, and_true]; omega) ?_); (clear F; (try clear h); intros; rename_i h; (try simp only [nfD] at h); have F := h.facts; (try simp only [nfF, emp_fact, rds_fact, frm_fact, tab_fact] at F); try simp -dsimp only [↓vcA, vcB, vcD, ↓pureT_lenS, ↓iteT, ↓iteF, cond_true, cond_false, eq_self, argE, Env.get, Env.push, ev, evs, evo, retV, Value.cells, Value.oneCell', setR, overR, fillL, zl, places, allSizes, heldC, ne_eq, Int.reduceLE, Int.reduceLT, Int.reduceEq, Int.reduceNe, Int.reduceToNat, Int.cast_ofNat_Int, Nat.reduceMul, Nat.reduceLeDiff, reduceIte, Nat.reduceEqDiff, Nat.reduceAdd, ↓reduceIte, Try.vcT, F, h.cell0, gets, vsD, if_true, if_false, Bool.false_eq_true, cellsAt]))
    have h := h.erase 2
    exact hK _ (h.wrMono' 1 (k + 100) rfl (by omega))
  by_cases e11 : z0 = 11
  case pos =>
    subst e11
    (try simp only [nfD] at h); have F := h.facts; (try simp only [nfF, emp_fact, rds_fact, frm_fact, tab_fact] at F); try simp -dsimp only [↓vcA, vcB, vcD, ↓pureT_lenS, ↓iteT, ↓iteF, cond_true, cond_false, eq_self, argE, Env.get, Env.push, ev, evs, evo, retV, Value.cells, Value.oneCell', setR, overR, fillL, zl, places, allSizes, heldC, ne_eq, Int.reduceLE, Int.reduceLT, Int.reduceEq, Int.reduceNe, Int.reduceToNat, Int.cast_ofNat_Int, Nat.reduceMul, Nat.reduceLeDiff, reduceIte, Nat.reduceEqDiff, Nat.reduceAdd, ↓reduceIte, Try.vcT, F, h.cell0, gets, vsD, if_true, if_false, Bool.false_eq_true,  cellsAt]
    refine walkDraw (.q 0 (.q 1 (.q 4 (.q 7 (.h 2 0 (.h 5 1 (.h 8 2 (.l 3 (.l 6 (.l 9 .fin)))))))))) [(b1, 12, .int .i64 z12), (b1, 13, .int .i64 z13), (b1, 14, .int .i64 z14)] (by kernel_rfl) (by simp [Holds_nil, Holds_cons, F]) ?_
    refine h.draw ?_
    clear h F
    intro w6 h
    (try simp only [nfD] at h); have F := h.facts; (try simp only [nfF, emp_fact, rds_fact, frm_fact, tab_fact] at F); try simp -dsimp only [↓vcA, vcB, vcD, ↓pureT_lenS, ↓iteT, ↓iteF, cond_true, cond_false, eq_self, argE, Env.get, Env.push, ev, evs, evo, retV, Value.cells, Value.oneCell', setR, overR, fillL, zl, places, allSizes, heldC, ne_eq, Int.reduceLE, Int.reduceLT, Int.reduceEq, Int.reduceNe, Int.reduceToNat, Int.cast_ofNat_Int, Nat.reduceMul, Nat.reduceLeDiff, reduceIte, Nat.reduceEqDiff, Nat.reduceAdd, ↓reduceIte, Try.vcT, F, h.cell0, gets, vsD, if_true, if_false, Bool.false_eq_true]
    repeat ((first | refine Sep.new h ?_ | refine Sep.put 0 h rfl ?_ | refine Sep.put 1 h rfl ?_ | refine Sep.put 2 h rfl ?_ | refine Sep.put 3 h rfl ?_ | refine Sep.put 4 h rfl ?_ | refine Sep.put 5 h rfl ?_ | refine Sep.num 1 h rfl (by omega) (by omega) (by omega) ?_ | refine Sep.point 1 h rfl (by omega) (by omega) (by omega) (by omega) (by omega) ?_ | refine Sep.tri 1 h rfl (by omega) (by simp only [Ok64, List.forall_mem_cons, List.not_mem_nil, false_implies, implies_true, and_true]; omega) ?_); (clear F; (try clear h); intros; rename_i h; (try simp only [nfD] at h); have F := h.facts; (try simp only [nfF, emp_fact, rds_fact, frm_fact, tab_fact] at F); try simp -dsimp only [↓vcA, vcB, vcD, ↓pureT_lenS, ↓iteT, ↓iteF, cond_true, cond_false, eq_self, argE, Env.get, Env.push, ev, evs, evo, retV, Value.cells, Value.oneCell', setR, overR, fillL, zl, places, allSizes, heldC, ne_eq, Int.reduceLE, Int.reduceLT, Int.reduceEq, Int.reduceNe, Int.reduceToNat, Int.cast_ofNat_Int, Nat.reduceMul, Nat.reduceLeDiff, reduceIte, Nat.reduceEqDiff, Nat.reduceAdd, ↓reduceIte, Try.vcT, F, h.cell0, gets, vsD, if_true, if_false, Bool.false_eq_true, cellsAt]))
    have h := h.erase 2
    exact hK _ (h.wrMono' 1 (k + 100) rfl (by omega))
  by_cases e12 : z0 = 12
  case pos =>
    subst e12
    (try simp only [nfD] at h); have F := h.facts; (try simp only [nfF, emp_fact, rds_fact, frm_fact, tab_fact] at F); try simp -dsimp only [↓vcA, vcB, vcD, ↓pureT_lenS, ↓iteT, ↓iteF, cond_true, cond_false, eq_self, argE, Env.get, Env.push, ev, evs, evo, retV, Value.cells, Value.oneCell', setR, overR, fillL, zl, places, allSizes, heldC, ne_eq, Int.reduceLE, Int.reduceLT, Int.reduceEq, Int.reduceNe, Int.reduceToNat, Int.cast_ofNat_Int, Nat.reduceMul, Nat.reduceLeDiff, reduceIte, Nat.reduceEqDiff, Nat.reduceAdd, ↓reduceIte, Try.vcT, F, h.cell0, gets, vsD, if_true, if_false, Bool.false_eq_true,  cellsAt]
    refine walkDraw (.q 0 (.q 1 (.q 4 (.q 7 (.q 10 (.q 13 (.q 16 (.q 19 (.h 2 0 (.h 5 1 (.h 8 2 (.h 11 3 (.h 14 4 (.h 17 5 (.h 20 6 (.l 3 (.l 6 (.l 9 (.l 12 (.l 15 (.l 18 (.l 21 .fin)))))))))))))))))))))) [(b1, 12, .int .i64 z12), (b1, 21, .int .i64 z21), (b1, 22, .int .i64 z22), (b1, 23, .int .i64 z23), (b1, 13, .int .i64 z13), (b1, 24, .int .i64 z24), (b1, 25, .int .i64 z25)] (by kernel_rfl) (by simp [Holds_nil, Holds_cons, F]) ?_
    refine h.draw ?_
    clear h F
    intro w6 h
    (try simp only [nfD] at h); have F := h.facts; (try simp only [nfF, emp_fact, rds_fact, frm_fact, tab_fact] at F); try simp -dsimp only [↓vcA, vcB, vcD, ↓pureT_lenS, ↓iteT, ↓iteF, cond_true, cond_false, eq_self, argE, Env.get, Env.push, ev, evs, evo, retV, Value.cells, Value.oneCell', setR, overR, fillL, zl, places, allSizes, heldC, ne_eq, Int.reduceLE, Int.reduceLT, Int.reduceEq, Int.reduceNe, Int.reduceToNat, Int.cast_ofNat_Int, Nat.reduceMul, Nat.reduceLeDiff, reduceIte, Nat.reduceEqDiff, Nat.reduceAdd, ↓reduceIte, Try.vcT, F, h.cell0, gets, vsD, if_true, if_false, Bool.false_eq_true]
    repeat ((first | refine Sep.new h ?_ | refine Sep.put 0 h rfl ?_ | refine Sep.put 1 h rfl ?_ | refine Sep.put 2 h rfl ?_ | refine Sep.put 3 h rfl ?_ | refine Sep.put 4 h rfl ?_ | refine Sep.put 5 h rfl ?_ | refine Sep.num 1 h rfl (by omega) (by omega) (by omega) ?_ | refine Sep.point 1 h rfl (by omega) (by omega) (by omega) (by omega) (by omega) ?_ | refine Sep.tri 1 h rfl (by omega) (by simp only [Ok64, List.forall_mem_cons, List.not_mem_nil, false_implies, implies_true, and_true]; omega) ?_); (clear F; (try clear h); intros; rename_i h; (try simp only [nfD] at h); have F := h.facts; (try simp only [nfF, emp_fact, rds_fact, frm_fact, tab_fact] at F); try simp -dsimp only [↓vcA, vcB, vcD, ↓pureT_lenS, ↓iteT, ↓iteF, cond_true, cond_false, eq_self, argE, Env.get, Env.push, ev, evs, evo, retV, Value.cells, Value.oneCell', setR, overR, fillL, zl, places, allSizes, heldC, ne_eq, Int.reduceLE, Int.reduceLT, Int.reduceEq, Int.reduceNe, Int.reduceToNat, Int.cast_ofNat_Int, Nat.reduceMul, Nat.reduceLeDiff, reduceIte, Nat.reduceEqDiff, Nat.reduceAdd, ↓reduceIte, Try.vcT, F, h.cell0, gets, vsD, if_true, if_false, Bool.false_eq_true, cellsAt]))
    have h := h.erase 2
    exact hK _ (h.wrMono' 1 (k + 100) rfl (by omega))
  by_cases e13 : z0 = 13
  case pos =>
    subst e13
    (try simp only [nfD] at h); have F := h.facts; (try simp only [nfF, emp_fact, rds_fact, frm_fact, tab_fact] at F); try simp -dsimp only [↓vcA, vcB, vcD, ↓pureT_lenS, ↓iteT, ↓iteF, cond_true, cond_false, eq_self, argE, Env.get, Env.push, ev, evs, evo, retV, Value.cells, Value.oneCell', setR, overR, fillL, zl, places, allSizes, heldC, ne_eq, Int.reduceLE, Int.reduceLT, Int.reduceEq, Int.reduceNe, Int.reduceToNat, Int.cast_ofNat_Int, Nat.reduceMul, Nat.reduceLeDiff, reduceIte, Nat.reduceEqDiff, Nat.reduceAdd, ↓reduceIte, Try.vcT, F, h.cell0, gets, vsD, if_true, if_false, Bool.false_eq_true,  cellsAt]
    refine walkDraw (.q 0 (.q 1 (.q 4 (.q 7 (.h 2 0 (.h 5 1 (.h 8 2 (.l 3 (.l 6 (.l 9 .fin)))))))))) [(b1, 12, .int .i64 z12), (b1, 21, .int .i64 z21), (b1, 22, .int .i64 z22)] (by kernel_rfl) (by simp [Holds_nil, Holds_cons, F]) ?_
    refine h.draw ?_
    clear h F
    intro w6 h
    (try simp only [nfD] at h); have F := h.facts; (try simp only [nfF, emp_fact, rds_fact, frm_fact, tab_fact] at F); try simp -dsimp only [↓vcA, vcB, vcD, ↓pureT_lenS, ↓iteT, ↓iteF, cond_true, cond_false, eq_self, argE, Env.get, Env.push, ev, evs, evo, retV, Value.cells, Value.oneCell', setR, overR, fillL, zl, places, allSizes, heldC, ne_eq, Int.reduceLE, Int.reduceLT, Int.reduceEq, Int.reduceNe, Int.reduceToNat, Int.cast_ofNat_Int, Nat.reduceMul, Nat.reduceLeDiff, reduceIte, Nat.reduceEqDiff, Nat.reduceAdd, ↓reduceIte, Try.vcT, F, h.cell0, gets, vsD, if_true, if_false, Bool.false_eq_true]
    repeat ((first | refine Sep.new h ?_ | refine Sep.put 0 h rfl ?_ | refine Sep.put 1 h rfl ?_ | refine Sep.put 2 h rfl ?_ | refine Sep.put 3 h rfl ?_ | refine Sep.put 4 h rfl ?_ | refine Sep.put 5 h rfl ?_ | refine Sep.num 1 h rfl (by omega) (by omega) (by omega) ?_ | refine Sep.point 1 h rfl (by omega) (by omega) (by omega) (by omega) (by omega) ?_ | refine Sep.tri 1 h rfl (by omega) (by simp only [Ok64, List.forall_mem_cons, List.not_mem_nil, false_implies, implies_true, and_true]; omega) ?_); (clear F; (try clear h); intros; rename_i h; (try simp only [nfD] at h); have F := h.facts; (try simp only [nfF, emp_fact, rds_fact, frm_fact, tab_fact] at F); try simp -dsimp only [↓vcA, vcB, vcD, ↓pureT_lenS, ↓iteT, ↓iteF, cond_true, cond_false, eq_self, argE, Env.get, Env.push, ev, evs, evo, retV, Value.cells, Value.oneCell', setR, overR, fillL, zl, places, allSizes, heldC, ne_eq, Int.reduceLE, Int.reduceLT, Int.reduceEq, Int.reduceNe, Int.reduceToNat, Int.cast_ofNat_Int, Nat.reduceMul, Nat.reduceLeDiff, reduceIte, Nat.reduceEqDiff, Nat.reduceAdd, ↓reduceIte, Try.vcT, F, h.cell0, gets, vsD, if_true, if_false, Bool.false_eq_true, cellsAt]))
    have h := h.erase 2
    exact hK _ (h.wrMono' 1 (k + 100) rfl (by omega))
  by_cases e14 : z0 = 14
  case pos =>
    subst e14
    (try simp only [nfD] at h); have F := h.facts; (try simp only [nfF, emp_fact, rds_fact, frm_fact, tab_fact] at F); try simp -dsimp only [↓vcA, vcB, vcD, ↓pureT_lenS, ↓iteT, ↓iteF, cond_true, cond_false, eq_self, argE, Env.get, Env.push, ev, evs, evo, retV, Value.cells, Value.oneCell', setR, overR, fillL, zl, places, allSizes, heldC, ne_eq, Int.reduceLE, Int.reduceLT, Int.reduceEq, Int.reduceNe, Int.reduceToNat, Int.cast_ofNat_Int, Nat.reduceMul, Nat.reduceLeDiff, reduceIte, Nat.reduceEqDiff, Nat.reduceAdd, ↓reduceIte, Try.vcT, F, h.cell0, gets, vsD, if_true, if_false, Bool.false_eq_true,  cellsAt]
    refine walkDraw (.q 0 (.q 1 (.q 4 (.q 7 (.h 2 0 (.h 5 1 (.h 8 2 (.l 3 (.l 6 (.l 9 .fin)))))))))) [(b1, 12, .int .i64 z12), (b1, 19, .int .i64 z19), (b1, 20, .int .i64 z20)] (by kernel_rfl) (by simp [Holds_nil, Holds_cons, F]) ?_
    refine h.draw ?_
    clear h F
    intro w6 h
    (try simp only [nfD] at h); have F := h.facts; (try simp only [nfF, emp_fact, rds_fact, frm_fact, tab_fact] at F); try simp -dsimp only [↓vcA, vcB, vcD, ↓pureT_lenS, ↓iteT, ↓iteF, cond_true, cond_false, eq_self, argE, Env.get, Env.push, ev, evs, evo, retV, Value.cells, Value.oneCell', setR, overR, fillL, zl, places, allSizes, heldC, ne_eq, Int.reduceLE, Int.reduceLT, Int.reduceEq, Int.reduceNe, Int.reduceToNat, Int.cast_ofNat_Int, Nat.reduceMul, Nat.reduceLeDiff, reduceIte, Nat.reduceEqDiff, Nat.reduceAdd, ↓reduceIte, Try.vcT, F, h.cell0, gets, vsD, if_true, if_false, Bool.false_eq_true]
    repeat ((first | refine Sep.new h ?_ | refine Sep.put 0 h rfl ?_ | refine Sep.put 1 h rfl ?_ | refine Sep.put 2 h rfl ?_ | refine Sep.put 3 h rfl ?_ | refine Sep.put 4 h rfl ?_ | refine Sep.put 5 h rfl ?_ | refine Sep.num 1 h rfl (by omega) (by omega) (by omega) ?_ | refine Sep.point 1 h rfl (by omega) (by omega) (by omega) (by omega) (by omega) ?_ | refine Sep.tri 1 h rfl (by omega) (by simp only [Ok64, List.forall_mem_cons, List.not_mem_nil, false_implies, implies_true, and_true]; omega) ?_); (clear F; (try clear h); intros; rename_i h; (try simp only [nfD] at h); have F := h.facts; (try simp only [nfF, emp_fact, rds_fact, frm_fact, tab_fact] at F); try simp -dsimp only [↓vcA, vcB, vcD, ↓pureT_lenS, ↓iteT, ↓iteF, cond_true, cond_false, eq_self, argE, Env.get, Env.push, ev, evs, evo, retV, Value.cells, Value.oneCell', setR, overR, fillL, zl, places, allSizes, heldC, ne_eq, Int.reduceLE, Int.reduceLT, Int.reduceEq, Int.reduceNe, Int.reduceToNat, Int.cast_ofNat_Int, Nat.reduceMul, Nat.reduceLeDiff, reduceIte, Nat.reduceEqDiff, Nat.reduceAdd, ↓reduceIte, Try.vcT, F, h.cell0, gets, vsD, if_true, if_false, Bool.false_eq_true, cellsAt]))
    have h := h.erase 2
    exact hK _ (h.wrMono' 1 (k + 100) rfl (by omega))
  by_cases e15 : z0 = 15
  case pos =>
    subst e15
    (try simp only [nfD] at h); have F := h.facts; (try simp only [nfF, emp_fact, rds_fact, frm_fact, tab_fact] at F); try simp -dsimp only [↓vcA, vcB, vcD, ↓pureT_lenS, ↓iteT, ↓iteF, cond_true, cond_false, eq_self, argE, Env.get, Env.push, ev, evs, evo, retV, Value.cells, Value.oneCell', setR, overR, fillL, zl, places, allSizes, heldC, ne_eq, Int.reduceLE, Int.reduceLT, Int.reduceEq, Int.reduceNe, Int.reduceToNat, Int.cast_ofNat_Int, Nat.reduceMul, Nat.reduceLeDiff, reduceIte, Nat.reduceEqDiff, Nat.reduceAdd, ↓reduceIte, Try.vcT, F, h.cell0, gets, vsD, if_true, if_false, Bool.false_eq_true,  cellsAt]
    repeat ((first | refine Sep.new h ?_ | refine Sep.put 0 h rfl ?_ | refine Sep.put 1 h rfl ?_ | refine Sep.put 2 h rfl ?_ | refine Sep.put 3 h rfl ?_ | refine Sep.put 4 h rfl ?_ | refine Sep.put 5 h rfl ?_ | refine Sep.num 1 h rfl (by omega) (by omega) (by omega) ?_ | refine Sep.point 1 h rfl (by omega) (by omega) (by omega) (by omega) (by omega) ?_ | refine Sep.tri 1 h rfl (by omega) (by simp only [Ok64, List.forall_mem_cons, List.not_mem_nil, false_implies, implies_true, and_true]; omega) ?_); (clear F; (try clear h); intros; rename_i h; (try simp only [nfD] at h); have F := h.facts; (try simp only [nfF, emp_fact, rds_fact, frm_fact, tab_fact] at F); try simp -dsimp only [↓vcA, vcB, vcD, ↓pureT_lenS, ↓iteT, ↓iteF, cond_true, cond_false, eq_self, argE, Env.get, Env.push, ev, evs, evo, retV, Value.cells, Value.oneCell', setR, overR, fillL, zl, places, allSizes, heldC, ne_eq, Int.reduceLE, Int.reduceLT, Int.reduceEq, Int.reduceNe, Int.reduceToNat, Int.cast_ofNat_Int, Nat.reduceMul, Nat.reduceLeDiff, reduceIte, Nat.reduceEqDiff, Nat.reduceAdd, ↓reduceIte, Try.vcT, F, h.cell0, gets, vsD, if_true, if_false, Bool.false_eq_true, cellsAt]))
    have h := h.erase 2
    exact hK _ (h.wrMono' 1 (k + 100) rfl (by omega))
  by_cases e16 : z0 = 16
  case pos =>
    subst e16
    (try simp only [nfD] at h); have F := h.facts; (try simp only [nfF, emp_fact, rds_fact, frm_fact, tab_fact] at F); try simp -dsimp only [↓vcA, vcB, vcD, ↓pureT_lenS, ↓iteT, ↓iteF, cond_true, cond_false, eq_self, argE, Env.get, Env.push, ev, evs, evo, retV, Value.cells, Value.oneCell', setR, overR, fillL, zl, places, allSizes, heldC, ne_eq, Int.reduceLE, Int.reduceLT, Int.reduceEq, Int.reduceNe, Int.reduceToNat, Int.cast_ofNat_Int, Nat.reduceMul, Nat.reduceLeDiff, reduceIte, Nat.reduceEqDiff, Nat.reduceAdd, ↓reduceIte, Try.vcT, F, h.cell0, gets, vsD, if_true, if_false, Bool.false_eq_true,  cellsAt]
    repeat ((first | refine Sep.new h ?_ | refine Sep.put 0 h rfl ?_ | refine Sep.put 1 h rfl ?_ | refine Sep.put 2 h rfl ?_ | refine Sep.put 3 h rfl ?_ | refine Sep.put 4 h rfl ?_ | refine Sep.put 5 h rfl ?_ | refine Sep.num 1 h rfl (by omega) (by omega) (by omega) ?_ | refine Sep.point 1 h rfl (by omega) (by omega) (by omega) (by omega) (by omega) ?_ | refine Sep.tri 1 h rfl (by omega) (by simp only [Ok64, List.forall_mem_cons, List.not_mem_nil, false_implies, implies_true, and_true]; omega) ?_); (clear F; (try clear h); intros; rename_i h; (try simp only [nfD] at h); have F := h.facts; (try simp only [nfF, emp_fact, rds_fact, frm_fact, tab_fact] at F); try simp -dsimp only [↓vcA, vcB, vcD, ↓pureT_lenS, ↓iteT, ↓iteF, cond_true, cond_false, eq_self, argE, Env.get, Env.push, ev, evs, evo, retV, Value.cells, Value.oneCell', setR, overR, fillL, zl, places, allSizes, heldC, ne_eq, Int.reduceLE, Int.reduceLT, Int.reduceEq, Int.reduceNe, Int.reduceToNat, Int.cast_ofNat_Int, Nat.reduceMul, Nat.reduceLeDiff, reduceIte, Nat.reduceEqDiff, Nat.reduceAdd, ↓reduceIte, Try.vcT, F, h.cell0, gets, vsD, if_true, if_false, Bool.false_eq_true, cellsAt]))
    have h := h.erase 2
    exact hK _ (h.wrMono' 1 (k + 100) rfl (by omega))
  have ef : form z0 = none := by simp [form, e1, e2, e3, e4, e5, e6, e7, e8, e9, e10, e11, e12, e13, e14, e15, e16]
  (try simp only [nfD] at h); have F := h.facts; (try simp only [nfF, emp_fact, rds_fact, frm_fact, tab_fact] at F); try simp -dsimp only [↓vcA, vcB, vcD, ↓pureT_lenS, ↓iteT, ↓iteF, cond_true, cond_false, eq_self, argE, Env.get, Env.push, ev, evs, evo, retV, Value.cells, Value.oneCell', setR, overR, fillL, zl, places, allSizes, heldC, ne_eq, Int.reduceLE, Int.reduceLT, Int.reduceEq, Int.reduceNe, Int.reduceToNat, Int.cast_ofNat_Int, Nat.reduceMul, Nat.reduceLeDiff, reduceIte, Nat.reduceEqDiff, Nat.reduceAdd, ↓reduceIte, Try.vcT, F, h.cell0, gets, vsD, if_true, if_false, Bool.false_eq_true,  decide_eq_false e1, decide_eq_false e2, decide_eq_false e3, decide_eq_false e4, decide_eq_false e5, decide_eq_false e6, decide_eq_false e7, decide_eq_false e8, decide_eq_false e9, decide_eq_false e10, decide_eq_false e11, decide_eq_false e12, decide_eq_false e13, decide_eq_false e14, decide_eq_false e15, decide_eq_false e16]
  have h := h.erase 2
  have h := h.wrMono' 1 (k + 100) rfl (by omega)
  have k1 := hK w1 (by rw [asksW]; dsimp only; rw [ef]; exact h)
  rw [ef] at k1
  exact k1
end Go.Proofs.Ytnhgjgoglmadnaa
namespace Go.Proofs.Ytnhgjgoglmadnaa
open Go.RowKit
set_option maxRecDepth 100000
set_option linter.unusedSimpArgs false
set_option linter.unusedVariables false
set_option pp.maxSteps 1500
set_option pp.deepTerms.threshold 8

def bit (d : Bool) : Int := if d then 1 else 0
def wCh (s : W8) (c : Ch) : W8 := (((s.num c.t 1).num (bit c.d) 1).num c.b.length 2).raw c.b
def encC (s : W8) (cs : List Ch) : W8 := cs.foldl wCh (s.num cs.length 2)
def roomC : List Ch → Nat
  | [] => 0
  | c :: cs => 24 + c.b.length + roomC cs
def badRe : List Int → Bool
  | [_, _, _, _, ax, ay, bx, by', cx, cy] => !(T3.valid ⟨ax, ay, bx, by', cx, cy⟩)
  | _ => false
end Go.Proofs.Ytnhgjgoglmadnaa
namespace Go.Proofs.Ytnhgjgoglmadnaa
open Go.RowKit
set_option maxRecDepth 100000
set_option linter.unusedSimpArgs false
set_option linter.unusedVariables false
set_option pp.maxSteps 1500
set_option pp.deepTerms.threshold 8

section
variable {w0 w : World} {S : Nat → Prop} {M : List Res} {K : Value → World → Prop}
theorem Sep.dead (i : Nat) {p : Nat} {s : S24} (h : Sep w0 S M w) (hi : M[i]? = some (strm p s)) (hk : ∀ w1, Sep w0 S M w1 → K (.bool s.dead) w1) : callsK Try.prog 43 [.pointer (some ⟨p, 0, none⟩)].toArray w K := by
  obtain ⟨A, ⟨h1, v, h2, h3, rfl⟩, _, _⟩ := h.at hi
  refine callsK_pure (x := .bool s.dead) ?_ (hk w h)
  have hc : w.cell? ⟨p, 0, none⟩ = some (.bool s.dead) := by rw [cell_of_row w p 0 _ _ _ h2]; rfl
  refine walk Try.func43 rfl (by kernel_rfl) (by rw [Try.nt43]; simp) ?_
  simp -dsimp only [↓vcA, vcB, vcD, ↓pureT_lenS, ↓iteT, ↓iteF, cond_true, cond_false, eq_self, argE, Env.get, Env.push, ev, evs, evo, retV, Value.cells, Value.oneCell', setR, overR, fillL, zl, places, allSizes, heldC, ne_eq, Int.reduceLE, Int.reduceLT, Int.reduceEq, Int.reduceNe, Int.reduceToNat, Int.cast_ofNat_Int, Nat.reduceMul, Nat.reduceLeDiff, reduceIte, Nat.reduceEqDiff, Nat.reduceAdd, ↓reduceIte, Try.vcT, hc]
theorem Sep.rest (i : Nat) {p : Nat} {s : S24} (h : Sep w0 S M w) (hi : M[i]? = some (strm p s)) (hk : ∀ a c w1, Sep w0 S (M ++ [byt (.slice a s.l.length c) s.l]) w1 → K (.slice a s.l.length c) w1) : callsK Try.prog 44 [.pointer (some ⟨p, 0, none⟩)].toArray w K := by
  obtain ⟨A, ⟨h1, v, h2, h3, rfl⟩, _, _⟩ := h.at hi
  obtain ⟨a, c, rfl⟩ := owns_shape h3
  have hc : w.cell? ⟨p, 1, none⟩ = some (.slice a s.l.length c) := by rw [cell_of_row w p 1 _ _ _ h2]; rfl
  refine callsK_use (R := fun r w' => Copy w w' r s.l) ?_ ?_
  · refine walk Try.func44 rfl (by kernel_rfl) (by rw [Try.nt44]; simp) ?_
    simp -dsimp only [↓vcA, vcB, vcD, ↓pureT_lenS, ↓iteT, ↓iteF, cond_true, cond_false, eq_self, argE, Env.get, Env.push, ev, evs, evo, retV, Value.cells, Value.oneCell', setR, overR, fillL, zl, places, allSizes, heldC, ne_eq, Int.reduceLE, Int.reduceLT, Int.reduceEq, Int.reduceNe, Int.reduceToNat, Int.cast_ofNat_Int, Nat.reduceMul, Nat.reduceLeDiff, reduceIte, Nat.reduceEqDiff, Nat.reduceAdd, ↓reduceIte, Try.vcT, hc]
    refine callsK_use (Go.Proofs.Ytnhgjgoglmadnaa.bclone _ s.l w h3.rd (by omega)) ?_
    intro r w1 c1
    simp -dsimp only [↓vcA, vcB, vcD, ↓pureT_lenS, ↓iteT, ↓iteF, cond_true, cond_false, eq_self, argE, Env.get, Env.push, ev, evs, evo, retV, Value.cells, Value.oneCell', setR, overR, fillL, zl, places, allSizes, heldC, ne_eq, Int.reduceLE, Int.reduceLT, Int.reduceEq, Int.reduceNe, Int.reduceToNat, Int.cast_ofNat_Int, Nat.reduceMul, Nat.reduceLeDiff, reduceIte, Nat.reduceEqDiff, Nat.reduceAdd, ↓reduceIte, Try.vcT]
    exact c1
  · intro r w1 c1
    obtain ⟨a, c, rfl⟩ := owns_shape c1.own
    exact hk a c w1 (c1.push h)
end

def enc (xs : List Int) : List Int := (xs.length : Int) / 256 % 256 :: (xs.length : Int) % 256 :: xs
theorem be2 (n : Int) (h : 0 ≤ n) : be n 2 = [n / 256 % 256, n % 256] := by
  simp [be, List.range_succ]
theorem wframe (v : Value) (xs : List Int) (w : World) (hr : Rd w v xs) (hl : xs.length ≤ 65535) :
    Calls Try.prog 45 [v].toArray w (RetK fun r w' => ∃ N, Sep w (fun _ => False) N w' ∧ (∀ q ∈ N, ∀ x, ¬ q.rd x) ∧ ∃ a c, r = .slice a (enc xs).length c ∧ N = [byt (.slice a (enc xs).length c) (enc xs)]) := by
  have hr0 := hr
  obtain ⟨a, c, rfl, h2, _⟩ := hr
  have h := Sep.nil w
  refine walk Try.func45 rfl (by kernel_rfl) (by rw [Try.nt45]; simp) ?_
  have hb : ¬ (65535 : Int) < xs.length := by omega
  have e : (⟨[], false⟩ : W8).num (xs.length : Int) 2 = ⟨[(xs.length : Int) / 256 % 256, (xs.length : Int) % 256], false⟩ := by
    unfold W8.num fits
    rw [if_pos]
    · have : (2 : Int).toNat = 2 := rfl
      rw [this, be2 _ (by omega)]; rfl
    · have : (8 * (2 : Int)).toNat = 16 := rfl
      simp only [decide_eq_true_eq, this]
      have : (2 : Int) ^ 16 = 65536 := by decide
      rw [this]; omega
  simp -dsimp only [↓vcA, vcB, vcD, ↓pureT_lenS, ↓iteT, ↓iteF, cond_true, cond_false, eq_self, argE, Env.get, Env.push, ev, evs, evo, retV, Value.cells, Value.oneCell', setR, overR, fillL, zl, places, allSizes, heldC, ne_eq, Int.reduceLE, Int.reduceLT, Int.reduceEq, Int.reduceNe, Int.reduceToNat, Int.cast_ofNat_Int, Nat.reduceMul, Nat.reduceLeDiff, reduceIte, Nat.reduceEqDiff, Nat.reduceAdd, ↓reduceIte, Try.vcT, decide_eq_false hb]
  refine h.new ?_
  intro w1 b h
  have h := h.wrNew 0 rfl (by decide)
  (try simp only [nfD] at h); have F := h.facts; (try simp only [nfF, emp_fact, rds_fact, frm_fact, strm_fact, rdz_fact] at F)
  repeat ((first | refine Sep.new h ?_ | refine Sep.put 0 h rfl ?_ | refine Sep.put 1 h rfl ?_ | refine Sep.put 2 h rfl ?_ | refine Sep.put 3 h rfl ?_ | refine Sep.put 4 h rfl ?_ | refine Sep.put 5 h rfl ?_ | refine Sep.num 0 h rfl (by omega) (by omega) (by omega) ?_ | refine Sep.raw 0 xs h rfl (by omega) (hr0.sep h fun _ _ => id) (by omega) ?_ | refine Sep.bytes 0 h rfl (by omega) ?_); (clear F; (try clear h); intros; rename_i h; (try simp only [nfD] at h); have F := h.facts; (try simp only [nfF, emp_fact, rds_fact, frm_fact, strm_fact, rdz_fact] at F); try simp -dsimp only [↓vcA, vcB, vcD, ↓pureT_lenS, ↓iteT, ↓iteF, cond_true, cond_false, eq_self, argE, Env.get, Env.push, ev, evs, evo, retV, Value.cells, Value.oneCell', setR, overR, fillL, zl, places, allSizes, heldC, ne_eq, Int.reduceLE, Int.reduceLT, Int.reduceEq, Int.reduceNe, Int.reduceToNat, Int.cast_ofNat_Int, Nat.reduceMul, Nat.reduceLeDiff, reduceIte, Nat.reduceEqDiff, Nat.reduceAdd, ↓reduceIte, Try.vcT, F, h.cell0, gets, vsD, if_true, if_false, Bool.false_eq_true, e, W8.raw]))
  rw [e] at h
  simp only [W8.raw, Bool.false_eq_true, if_false] at h
  exact ⟨_, h.erase 0, (fun q hq x hx => by simp at hq; subst hq; exact hx), _, _, rfl, rfl⟩

section
variable {w0 w : World} {S : Nat → Prop} {M : List Res} {K : Value → World → Prop}
theorem Sep.frame {v : Value} (xs : List Int) (h : Sep w0 S M w) (hr : Rd w v xs) (hl : xs.length ≤ 65535)
    (hk : ∀ a c w1, Sep w0 S (M ++ [byt (.slice a (enc xs).length c) (enc xs)]) w1 → K (.slice a (enc xs).length c) w1) : callsK Try.prog 45 [v].toArray w K := by
  refine Sep.callN h (wframe v xs w hr hl) ?_
  rintro r N w1 ⟨a, c, rfl, rfl⟩ h
  exact hk a c w1 h
end
end Go.Proofs.Ytnhgjgoglmadnaa
