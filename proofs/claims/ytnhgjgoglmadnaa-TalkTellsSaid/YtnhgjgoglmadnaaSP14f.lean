/- Joined texts of this claim (part 6), printed by a program of this work. The last part holds the claimed theorem: the law answers true at every input of its row. -/
import Derived.Deep.Slices
import Derived.Test.YtnhgjgoglmadnaaSP14e
namespace Go.Proofs.Ytnhgjgoglmadnaa
open Go.RowKit
set_option maxRecDepth 100000
set_option linter.unusedSimpArgs false
set_option linter.unusedVariables false
set_option pp.maxSteps 1500
set_option pp.deepTerms.threshold 8

theorem cmp2_pos (x y x' y' : Int) : 0 < cmp2 x y x' y' ↔ (x' < x ∨ x = x' ∧ y' < y) := by
  unfold cmp2 cmpI
  split <;> split <;> (try split) <;> (try split) <;> omega
theorem cmp2_neg (x y x' y' : Int) : cmp2 x y x' y' < 0 ↔ (x < x' ∨ x = x' ∧ y < y') := by
  unfold cmp2 cmpI
  split <;> split <;> (try split) <;> (try split) <;> omega
def later (ax ay bx by' cx cy : Int) : Prop := (bx < ax ∨ ax = bx ∧ by' < ay) ∨ (cx < ax ∨ ax = cx ∧ cy < ay)
instance (ax ay bx by' cx cy : Int) : Decidable (later ax ay bx by' cx cy) := by unfold later; infer_instance
theorem later3 {ax ay bx by' cx cy : Int} (h1 : later ax ay bx by' cx cy) (h2 : later bx by' cx cy ax ay) (h3 : later cx cy ax ay bx by') : False := by
  unfold later at *
  omega
structure T3 where
  ax : Int
  ay : Int
  bx : Int
  by' : Int
  cx : Int
  cy : Int
def T3.turn (t : T3) : T3 := ⟨t.bx, t.by', t.cx, t.cy, t.ax, t.ay⟩
def T3.swap (t : T3) : T3 := ⟨t.ax, t.ay, t.cx, t.cy, t.bx, t.by'⟩
def T3.late (t : T3) : Prop := later t.ax t.ay t.bx t.by' t.cx t.cy
instance (t : T3) : Decidable t.late := by unfold T3.late; infer_instance
def T3.rot (t : T3) : T3 := if t.late then t.turn else t
def T3.cells (t : T3) : List Value := [.int .i64 t.ax, .int .i64 t.ay, .int .i64 t.bx, .int .i64 t.by', .int .i64 t.cx, .int .i64 t.cy]
def T3.or (t : T3) : Int := orientI t.ax t.ay t.bx t.by' t.cx t.cy
def T3.first (t : T3) : T3 := if t.or = -1 then t.swap else t
def T3.mk' (t : T3) : T3 := if t.or = 0 then ⟨0, 0, 0, 0, 0, 0⟩ else t.first.rot.rot
def T3.ok (t : T3) : Bool := !decide (t.or = 0)
theorem T3.rot_of (t : T3) (j : Nat) (u : T3) (hj : (j = 0 ∧ u = t) ∨ (j = 1 ∧ u = t.turn ∧ t.late) ∨ (j = 2 ∧ u = t.turn.turn ∧ t.late ∧ t.turn.late)) (hu : ¬ u.late) : t.rot.rot = u := by
  rcases hj with ⟨_, rfl⟩ | ⟨_, rfl, h1⟩ | ⟨_, rfl, h1, h2⟩
  · simp [T3.rot, hu]
  · simp [T3.rot, hu, h1]
  · simp [T3.rot, h1, h2]
theorem T3.last (t : T3) (h1 : t.late) (h2 : t.turn.late) : ¬ t.turn.turn.late := fun h3 => later3 h1 h2 h3

theorem make136 (t : T3) (w : World) : Calls Try.prog 136 [.agg #[.int .i64 t.ax, .int .i64 t.ay], .agg #[.int .i64 t.bx, .int .i64 t.by'], .agg #[.int .i64 t.cx, .int .i64 t.cy]].toArray w
    (RetP (.tuple #[.agg t.mk'.cells.toArray, .bool t.ok]) w) := by
  refine walk Try.func136 rfl (by kernel_rfl) (by rw [Try.nt136]; simp) ?_
  simp -dsimp only [↓vcA, vcB, vcD, ↓pureT_lenS, ↓iteT, ↓iteF, cond_true, cond_false, eq_self, argE, Env.get, Env.push, ev, evs, evo, retV, Value.cells, Value.oneCell', setR, overR, fillL, zl, places, allSizes, heldC, ne_eq, Int.reduceLE, Int.reduceLT, Int.reduceEq, Int.reduceNe, Int.reduceToNat, Int.cast_ofNat_Int, Nat.reduceMul, Nat.reduceLeDiff, reduceIte, Nat.reduceEqDiff, Nat.reduceAdd, ↓reduceIte, Try.vcT]
  intro w1 b3 n1 w2 b4 n2 w3 b5 n3 w4 b6 n4
  have h3 := chg_blk n4.chg (chg_blk n3.chg (chg_blk n2.chg n1.blkOf))
  have h4 := chg_blk n4.chg (chg_blk n3.chg n2.blkOf)
  have h5 := chg_blk n4.chg n3.blkOf
  have c14 := ((n1.chg.seq n2.chg).seq n3.chg).seq n4.chg
  have F4 : Fr w.heap.size w w4 := ⟨Nat.le_refl _, c14.mono fun _ f => f.elim⟩
  have q1 := n1.eq; have q2 := n2.eq; have q3 := n3.eq; have q4 := n4.eq
  have z1 := n1.size; have z2 := n2.size; have z3 := n3.size
  have m34 : b3 < b4 := by omega
  have m45 : b4 < b5 := by omega
  have m56 : b5 < b6 := by omega
  have m3 : w.heap.size ≤ b3 := by omega
  clear q1 q2 q3 q4 z1 z2 z3
  simp -dsimp only [↓vcA, vcB, vcD, ↓pureT_lenS, ↓iteT, ↓iteF, cond_true, cond_false, eq_self, argE, Env.get, Env.push, ev, evs, evo, retV, Value.cells, Value.oneCell', setR, overR, fillL, zl, places, allSizes, heldC, ne_eq, Int.reduceLE, Int.reduceLT, Int.reduceEq, Int.reduceNe, Int.reduceToNat, Int.cast_ofNat_Int, Nat.reduceMul, Nat.reduceLeDiff, reduceIte, Nat.reduceEqDiff, Nat.reduceAdd, ↓reduceIte, Try.vcT, cell_of_blkOf h3, cell_of_blkOf h4, cell_of_blkOf h5, cellsAt]
  refine callsK_new (orient142 _ _ _ _ _ _ w4) ?_
  intro w5 c5
  have F5 := F4.nil c5
  have k3 := chg_blk c5 h3
  have k4 := chg_blk c5 h4
  have k5 := chg_blk c5 h5
  have k6 := chg_blk c5 n4.blkOf
  have er : orientI t.ax t.ay t.bx t.by' t.cx t.cy = t.or := rfl
  rw [er]
  by_cases ho : t.or = 0
  · simp -dsimp only [↓vcA, vcB, vcD, ↓pureT_lenS, ↓iteT, ↓iteF, cond_true, cond_false, eq_self, argE, Env.get, Env.push, ev, evs, evo, retV, Value.cells, Value.oneCell', setR, overR, fillL, zl, places, allSizes, heldC, ne_eq, Int.reduceLE, Int.reduceLT, Int.reduceEq, Int.reduceNe, Int.reduceToNat, Int.cast_ofNat_Int, Nat.reduceMul, Nat.reduceLeDiff, reduceIte, Nat.reduceEqDiff, Nat.reduceAdd, ↓reduceIte, Try.vcT, decide_eq_true ho, k6]
    intro w6 p6
    simp -dsimp only [↓vcA, vcB, vcD, ↓pureT_lenS, ↓iteT, ↓iteF, cond_true, cond_false, eq_self, argE, Env.get, Env.push, ev, evs, evo, retV, Value.cells, Value.oneCell', setR, overR, fillL, zl, places, allSizes, heldC, ne_eq, Int.reduceLE, Int.reduceLT, Int.reduceEq, Int.reduceNe, Int.reduceToNat, Int.cast_ofNat_Int, Nat.reduceMul, Nat.reduceLeDiff, reduceIte, Nat.reduceEqDiff, Nat.reduceAdd, ↓reduceIte, Try.vcT, p6.cell, cellsAt]
    exact ⟨by simp [T3.mk', T3.cells, T3.ok, ho], (F5.one p6.chg (by omega)).done⟩
  have hmk : t.mk' = t.first.rot.rot := by simp [T3.mk', ho]
  have hok : t.ok = true := by simp [T3.ok, ho]
  rw [hmk, hok]
  generalize hs : t.first = s
  by_cases h1 : t.or = -1
  case' pos =>
    simp -dsimp only [↓vcA, vcB, vcD, ↓pureT_lenS, ↓iteT, ↓iteF, cond_true, cond_false, eq_self, argE, Env.get, Env.push, ev, evs, evo, retV, Value.cells, Value.oneCell', setR, overR, fillL, zl, places, allSizes, heldC, ne_eq, Int.reduceLE, Int.reduceLT, Int.reduceEq, Int.reduceNe, Int.reduceToNat, Int.cast_ofNat_Int, Nat.reduceMul, Nat.reduceLeDiff, reduceIte, Nat.reduceEqDiff, Nat.reduceAdd, ↓reduceIte, Try.vcT, decide_eq_false ho, decide_eq_true h1, cell_of_blkOf k4, cell_of_blkOf k5, cellsAt, k4, k5]
    intro w6 p6
    have f5 := p6.chg.blkOf k5 (by omega)
    simp -dsimp only [↓vcA, vcB, vcD, ↓pureT_lenS, ↓iteT, ↓iteF, cond_true, cond_false, eq_self, argE, Env.get, Env.push, ev, evs, evo, retV, Value.cells, Value.oneCell', setR, overR, fillL, zl, places, allSizes, heldC, ne_eq, Int.reduceLE, Int.reduceLT, Int.reduceEq, Int.reduceNe, Int.reduceToNat, Int.cast_ofNat_Int, Nat.reduceMul, Nat.reduceLeDiff, reduceIte, Nat.reduceEqDiff, Nat.reduceAdd, ↓reduceIte, Try.vcT, f5]
    intro w7 p7
    have hs' : s = t.swap := by rw [← hs]; simp [T3.first, h1]
    have FL : Fr w.heap.size w w7 := (F5.one p6.chg (by omega)).one p7.chg (by omega)
    have K3 : blkOf w7 b3 = some ([.int .i64 s.ax, .int .i64 s.ay], 37) := by rw [hs']; exact p7.chg.blkOf (p6.chg.blkOf k3 (by omega)) (by omega)
    have K4 : blkOf w7 b4 = some ([.int .i64 s.bx, .int .i64 s.by'], 37) := by rw [hs']; exact p7.chg.blkOf p6.blkOf (by omega)
    have K5 : blkOf w7 b5 = some ([.int .i64 s.cx, .int .i64 s.cy], 37) := by rw [hs']; exact p7.blkOf
    have K6 := p7.chg.blkOf (p6.chg.blkOf k6 (by omega)) (by omega)
  case' neg =>
    simp -dsimp only [↓vcA, vcB, vcD, ↓pureT_lenS, ↓iteT, ↓iteF, cond_true, cond_false, eq_self, argE, Env.get, Env.push, ev, evs, evo, retV, Value.cells, Value.oneCell', setR, overR, fillL, zl, places, allSizes, heldC, ne_eq, Int.reduceLE, Int.reduceLT, Int.reduceEq, Int.reduceNe, Int.reduceToNat, Int.cast_ofNat_Int, Nat.reduceMul, Nat.reduceLeDiff, reduceIte, Nat.reduceEqDiff, Nat.reduceAdd, ↓reduceIte, Try.vcT, decide_eq_false ho, decide_eq_false h1]
    have hs' : s = t := by rw [← hs]; simp [T3.first, h1]
    have FL := F5
    have K3 : blkOf w5 b3 = some ([.int .i64 s.ax, .int .i64 s.ay], 37) := by rw [hs']; exact k3
    have K4 : blkOf w5 b4 = some ([.int .i64 s.bx, .int .i64 s.by'], 37) := by rw [hs']; exact k4
    have K5 : blkOf w5 b5 = some ([.int .i64 s.cx, .int .i64 s.cy], 37) := by rw [hs']; exact k5
    have K6 := k6
  all_goals
    clear k3 k4 k5 k6 h3 h4 h5 hs'
    refine walkLoop [3, 4, 5, 6] [] (fun q vs w' => vs = [] ∧ ∃ j u, ((j = 0 ∧ u = s) ∨ (j = 1 ∧ u = s.turn ∧ s.late) ∨ (j = 2 ∧ u = s.turn.turn ∧ s.late ∧ s.turn.late)) ∧ q = 3 - j ∧ Fr w.heap.size w w' ∧
      blkOf w' b3 = some ([.int .i64 u.ax, .int .i64 u.ay], 37) ∧ blkOf w' b4 = some ([.int .i64 u.bx, .int .i64 u.by'], 37) ∧ blkOf w' b5 = some ([.int .i64 u.cx, .int .i64 u.cy], 37) ∧
      ∃ z0 z1 z2 z3 z4 z5, blkOf w' b6 = some ([z0, z1, z2, z3, z4, z5], 39)) (by kernel_rfl) ?_ ?_
    · simp -dsimp only [↓vcA, vcB, vcD, ↓pureT_lenS, ↓iteT, ↓iteF, cond_true, cond_false, eq_self, argE, Env.get, Env.push, ev, evs, evo, retV, Value.cells, Value.oneCell', setR, overR, fillL, zl, places, allSizes, heldC, ne_eq, Int.reduceLE, Int.reduceLT, Int.reduceEq, Int.reduceNe, Int.reduceToNat, Int.cast_ofNat_Int, Nat.reduceMul, Nat.reduceLeDiff, reduceIte, Nat.reduceEqDiff, Nat.reduceAdd, ↓reduceIte, Try.vcT, gets]
      exact ⟨_, 0, s, .inl ⟨rfl, rfl⟩, rfl, FL, K3, K4, K5, _, _, _, _, _, _, K6⟩
    · intro ks hk q vs wr hi
      obtain ⟨rfl, j, u, hju, rfl, Fu, U3, U4, U5, z0, z1, z2, z3, z4, z5, U6⟩ := hi
      simp -dsimp only [gets, argE, List.zip_cons_cons, List.zip_nil_left, List.cons_append, List.nil_append, Env.get, Env.push, Option.bind_some, Option.map_some, Option.some.injEq, reduceIte, Nat.reduceEqDiff, Nat.reduceAdd, ↓reduceIte] at hk; subst hk
      simp -dsimp only [↓vcA, vcB, vcD, ↓pureT_lenS, ↓iteT, ↓iteF, cond_true, cond_false, eq_self, argE, Env.get, Env.push, ev, evs, evo, retV, Value.cells, Value.oneCell', setR, overR, fillL, zl, places, allSizes, heldC, ne_eq, Int.reduceLE, Int.reduceLT, Int.reduceEq, Int.reduceNe, Int.reduceToNat, Int.cast_ofNat_Int, Nat.reduceMul, Nat.reduceLeDiff, reduceIte, Nat.reduceEqDiff, Nat.reduceAdd, ↓reduceIte, Try.vcT, gets, cell_of_blkOf U3, cell_of_blkOf U4, cellsAt]
      refine callsK_new (cmp143 u.ax u.ay u.bx u.by' wr) ?_
      intro wc cc
      have Fc := Fu.nil cc
      have V3 := chg_blk cc U3
      have V4 := chg_blk cc U4
      have V5 := chg_blk cc U5
      have V6 := chg_blk cc U6
      have key : u.late → ∃ j', 3 - j' < 3 - j ∧ ((j' = 0 ∧ u.turn = s) ∨ (j' = 1 ∧ u.turn = s.turn ∧ s.late) ∨ (j' = 2 ∧ u.turn = s.turn.turn ∧ s.late ∧ s.turn.late)) := fun hl => by
        rcases hju with ⟨rfl, rfl⟩ | ⟨rfl, rfl, g1⟩ | ⟨rfl, rfl, g1, g2⟩
        · exact ⟨1, by decide, .inr (.inl ⟨rfl, rfl, hl⟩)⟩
        · exact ⟨2, by decide, .inr (.inr ⟨rfl, rfl, g1, hl⟩)⟩
        · exact absurd hl (T3.last s g1 g2)
      by_cases e1 : 0 < cmp2 u.ax u.ay u.bx u.by'
      case' pos =>
        have hl : u.late := by unfold T3.late later; have := (cmp2_pos _ _ _ _).1 e1; omega
        simp -dsimp only [↓vcA, vcB, vcD, ↓pureT_lenS, ↓iteT, ↓iteF, cond_true, cond_false, eq_self, argE, Env.get, Env.push, ev, evs, evo, retV, Value.cells, Value.oneCell', setR, overR, fillL, zl, places, allSizes, heldC, ne_eq, Int.reduceLE, Int.reduceLT, Int.reduceEq, Int.reduceNe, Int.reduceToNat, Int.cast_ofNat_Int, Nat.reduceMul, Nat.reduceLeDiff, reduceIte, Nat.reduceEqDiff, Nat.reduceAdd, ↓reduceIte, Try.vcT, gets, decide_eq_true e1]
      case' neg =>
        simp -dsimp only [↓vcA, vcB, vcD, ↓pureT_lenS, ↓iteT, ↓iteF, cond_true, cond_false, eq_self, argE, Env.get, Env.push, ev, evs, evo, retV, Value.cells, Value.oneCell', setR, overR, fillL, zl, places, allSizes, heldC, ne_eq, Int.reduceLE, Int.reduceLT, Int.reduceEq, Int.reduceNe, Int.reduceToNat, Int.cast_ofNat_Int, Nat.reduceMul, Nat.reduceLeDiff, reduceIte, Nat.reduceEqDiff, Nat.reduceAdd, ↓reduceIte, Try.vcT, gets, decide_eq_false e1, cell_of_blkOf V3, cell_of_blkOf V5, cellsAt]
        refine callsK_new (cmp143 u.ax u.ay u.cx u.cy wc) ?_
        intro wd cd
        have W3 := chg_blk cd V3
        have W4 := chg_blk cd V4
        have W5 := chg_blk cd V5
        have W6 := chg_blk cd V6
        have Fd := Fc.nil cd
        clear V3 V4 V5 V6 Fc
        by_cases e2 : 0 < cmp2 u.ax u.ay u.cx u.cy
        case' neg =>
          have hnl : ¬ u.late := by
            unfold T3.late later
            have g1 := mt (cmp2_pos _ _ _ _).2 e1
            have g2 := mt (cmp2_pos _ _ _ _).2 e2
            omega
          have hrr := T3.rot_of s j u hju hnl
          simp -dsimp only [↓vcA, vcB, vcD, ↓pureT_lenS, ↓iteT, ↓iteF, cond_true, cond_false, eq_self, argE, Env.get, Env.push, ev, evs, evo, retV, Value.cells, Value.oneCell', setR, overR, fillL, zl, places, allSizes, heldC, ne_eq, Int.reduceLE, Int.reduceLT, Int.reduceEq, Int.reduceNe, Int.reduceToNat, Int.cast_ofNat_Int, Nat.reduceMul, Nat.reduceLeDiff, reduceIte, Nat.reduceEqDiff, Nat.reduceAdd, ↓reduceIte, Try.vcT, gets, decide_eq_false e2, cell_of_blkOf W3, cell_of_blkOf W4, cell_of_blkOf W5, cellsAt, W6]
          intro we pe
          try simp -dsimp only [↓vcA, vcB, vcD, ↓pureT_lenS, ↓iteT, ↓iteF, cond_true, cond_false, eq_self, argE, Env.get, Env.push, ev, evs, evo, retV, Value.cells, Value.oneCell', setR, overR, fillL, zl, places, allSizes, heldC, ne_eq, Int.reduceLE, Int.reduceLT, Int.reduceEq, Int.reduceNe, Int.reduceToNat, Int.cast_ofNat_Int, Nat.reduceMul, Nat.reduceLeDiff, reduceIte, Nat.reduceEqDiff, Nat.reduceAdd, ↓reduceIte, Try.vcT, gets, pe.cell, cellsAt]
          rw [hrr]
          exact ⟨rfl, (Fd.one pe.chg (by omega)).done⟩
        case' pos =>
          have hl : u.late := by unfold T3.late later; have := (cmp2_pos _ _ _ _).1 e2; omega
          have V3 := W3
          have V4 := W4
          have V5 := W5
          have V6 := W6
          have Fc := Fd
          clear W3 W4 W5 W6 Fd
          simp -dsimp only [↓vcA, vcB, vcD, ↓pureT_lenS, ↓iteT, ↓iteF, cond_true, cond_false, eq_self, argE, Env.get, Env.push, ev, evs, evo, retV, Value.cells, Value.oneCell', setR, overR, fillL, zl, places, allSizes, heldC, ne_eq, Int.reduceLE, Int.reduceLT, Int.reduceEq, Int.reduceNe, Int.reduceToNat, Int.cast_ofNat_Int, Nat.reduceMul, Nat.reduceLeDiff, reduceIte, Nat.reduceEqDiff, Nat.reduceAdd, ↓reduceIte, Try.vcT, gets, decide_eq_true e2]
          clear cc cd
          revert V3 V4 V5 V6 Fc
          generalize wd = wc
          intro V3 V4 V5 V6 Fc
      all_goals
        obtain ⟨j', hj', hju'⟩ := key hl
        clear key e1
        refine walkDraw (.lll 0 (.ll 1 (.l 2 (.l 3 (.l 4 (.l 5 .fin)))) 2 (.ll 1 (.l 3 (.l 4 (.l 5 .fin))) 3 (.l 1 (.l 4 (.l 5 .fin))))) 1 (.ll 0 (.l 2 (.l 3 (.l 4 (.l 5 .fin)))) 2 (.l 0 (.l 3 (.l 4 (.l 5 .fin))))) 2 (.ll 0 (.ll 1 (.l 3 (.l 4 (.l 5 .fin))) 3 (.l 1 (.l 4 (.l 5 .fin)))) 1 (.l 0 (.l 3 (.l 4 (.l 5 .fin)))))) [] (by kernel_rfl) (by simp [Holds_nil]) ?_
        intro wx ex cx
        have X3 := chg_blk cx V3
        have X4 := chg_blk cx V4
        have X5 := chg_blk cx V5
        have X6 := chg_blk cx V6
        have Fx := Fc.nil cx
        simp -dsimp only [↓vcA, vcB, vcD, ↓pureT_lenS, ↓iteT, ↓iteF, cond_true, cond_false, eq_self, argE, Env.get, Env.push, ev, evs, evo, retV, Value.cells, Value.oneCell', setR, overR, fillL, zl, places, allSizes, heldC, ne_eq, Int.reduceLE, Int.reduceLT, Int.reduceEq, Int.reduceNe, Int.reduceToNat, Int.cast_ofNat_Int, Nat.reduceMul, Nat.reduceLeDiff, reduceIte, Nat.reduceEqDiff, Nat.reduceAdd, ↓reduceIte, Try.vcT, Holds_nil, cell_of_blkOf X3, cell_of_blkOf X4, cell_of_blkOf X5, cellsAt, X3]
        repeat' apply And.intro
        all_goals
          intro wy py
          have Y3 := py.blkOf
          have Y4 := py.chg.blkOf X4 (by omega)
          have Y5 := py.chg.blkOf X5 (by omega)
          have Y6 := py.chg.blkOf X6 (by omega)
          try simp -dsimp only [↓vcA, vcB, vcD, ↓pureT_lenS, ↓iteT, ↓iteF, cond_true, cond_false, eq_self, argE, Env.get, Env.push, ev, evs, evo, retV, Value.cells, Value.oneCell', setR, overR, fillL, zl, places, allSizes, heldC, ne_eq, Int.reduceLE, Int.reduceLT, Int.reduceEq, Int.reduceNe, Int.reduceToNat, Int.cast_ofNat_Int, Nat.reduceMul, Nat.reduceLeDiff, reduceIte, Nat.reduceEqDiff, Nat.reduceAdd, ↓reduceIte, Try.vcT, Holds_nil, cell_of_blkOf Y5, cellsAt, Y4]
          intro wz pz
          have Z3 := pz.chg.blkOf Y3 (by omega)
          have Z4 := pz.blkOf
          have Z5 := pz.chg.blkOf Y5 (by omega)
          have Z6 := pz.chg.blkOf Y6 (by omega)
          try simp -dsimp only [↓vcA, vcB, vcD, ↓pureT_lenS, ↓iteT, ↓iteF, cond_true, cond_false, eq_self, argE, Env.get, Env.push, ev, evs, evo, retV, Value.cells, Value.oneCell', setR, overR, fillL, zl, places, allSizes, heldC, ne_eq, Int.reduceLE, Int.reduceLT, Int.reduceEq, Int.reduceNe, Int.reduceToNat, Int.cast_ofNat_Int, Nat.reduceMul, Nat.reduceLeDiff, reduceIte, Nat.reduceEqDiff, Nat.reduceAdd, ↓reduceIte, Try.vcT, Holds_nil, Z5]
          intro wq pq
          try simp -dsimp only [↓vcA, vcB, vcD, ↓pureT_lenS, ↓iteT, ↓iteF, cond_true, cond_false, eq_self, argE, Env.get, Env.push, ev, evs, evo, retV, Value.cells, Value.oneCell', setR, overR, fillL, zl, places, allSizes, heldC, ne_eq, Int.reduceLE, Int.reduceLT, Int.reduceEq, Int.reduceNe, Int.reduceToNat, Int.cast_ofNat_Int, Nat.reduceMul, Nat.reduceLeDiff, reduceIte, Nat.reduceEqDiff, Nat.reduceAdd, ↓reduceIte, Try.vcT, gets, Holds_nil]
          exact ⟨_, hj', j', u.turn, hju', rfl, ((Fx.one py.chg (by omega)).one pz.chg (by omega)).one pq.chg (by omega), pq.chg.blkOf Z3 (by omega), pq.chg.blkOf Z4 (by omega), pq.blkOf, _, _, _, _, _, _, pq.chg.blkOf Z6 (by omega)⟩
theorem make78 (t : T3) (w : World) : Calls Try.prog 78 [.agg #[.int .i64 t.ax, .int .i64 t.ay], .agg #[.int .i64 t.bx, .int .i64 t.by'], .agg #[.int .i64 t.cx, .int .i64 t.cy]].toArray w
    (RetP (.tuple #[.agg t.mk'.cells.toArray, .bool t.ok]) w) := by
  refine walk Try.func78 rfl (by kernel_rfl) (by rw [Try.nt78]; simp) ?_
  simp -dsimp only [↓vcA, vcB, vcD, ↓pureT_lenS, ↓iteT, ↓iteF, cond_true, cond_false, eq_self, argE, Env.get, Env.push, ev, evs, evo, retV, Value.cells, Value.oneCell', setR, overR, fillL, zl, places, allSizes, heldC, ne_eq, Int.reduceLE, Int.reduceLT, Int.reduceEq, Int.reduceNe, Int.reduceToNat, Int.cast_ofNat_Int, Nat.reduceMul, Nat.reduceLeDiff, reduceIte, Nat.reduceEqDiff, Nat.reduceAdd, ↓reduceIte, Try.vcT]
  intro w1 b3 n1 w2 b4 n2 w3 b5 n3 w4 b6 n4
  have h3 := chg_blk n4.chg (chg_blk n3.chg (chg_blk n2.chg n1.blkOf))
  have h4 := chg_blk n4.chg (chg_blk n3.chg n2.blkOf)
  have h5 := chg_blk n4.chg n3.blkOf
  have c14 := ((n1.chg.seq n2.chg).seq n3.chg).seq n4.chg
  have F4 : Fr w.heap.size w w4 := ⟨Nat.le_refl _, c14.mono fun _ f => f.elim⟩
  have q1 := n1.eq; have q2 := n2.eq; have q3 := n3.eq; have q4 := n4.eq
  have z1 := n1.size; have z2 := n2.size; have z3 := n3.size
  have m34 : b3 < b4 := by omega
  have m45 : b4 < b5 := by omega
  have m56 : b5 < b6 := by omega
  have m3 : w.heap.size ≤ b3 := by omega
  clear q1 q2 q3 q4 z1 z2 z3
  simp -dsimp only [↓vcA, vcB, vcD, ↓pureT_lenS, ↓iteT, ↓iteF, cond_true, cond_false, eq_self, argE, Env.get, Env.push, ev, evs, evo, retV, Value.cells, Value.oneCell', setR, overR, fillL, zl, places, allSizes, heldC, ne_eq, Int.reduceLE, Int.reduceLT, Int.reduceEq, Int.reduceNe, Int.reduceToNat, Int.cast_ofNat_Int, Nat.reduceMul, Nat.reduceLeDiff, reduceIte, Nat.reduceEqDiff, Nat.reduceAdd, ↓reduceIte, Try.vcT, cell_of_blkOf h3, cell_of_blkOf h4, cell_of_blkOf h5, cellsAt]
  refine callsK_new (orient134 _ _ _ _ _ _ w4) ?_
  intro w5 c5
  have F5 := F4.nil c5
  have k3 := chg_blk c5 h3
  have k4 := chg_blk c5 h4
  have k5 := chg_blk c5 h5
  have k6 := chg_blk c5 n4.blkOf
  have er : orientI t.ax t.ay t.bx t.by' t.cx t.cy = t.or := rfl
  rw [er]
  by_cases ho : t.or = 0
  · simp -dsimp only [↓vcA, vcB, vcD, ↓pureT_lenS, ↓iteT, ↓iteF, cond_true, cond_false, eq_self, argE, Env.get, Env.push, ev, evs, evo, retV, Value.cells, Value.oneCell', setR, overR, fillL, zl, places, allSizes, heldC, ne_eq, Int.reduceLE, Int.reduceLT, Int.reduceEq, Int.reduceNe, Int.reduceToNat, Int.cast_ofNat_Int, Nat.reduceMul, Nat.reduceLeDiff, reduceIte, Nat.reduceEqDiff, Nat.reduceAdd, ↓reduceIte, Try.vcT, decide_eq_true ho, k6]
    intro w6 p6
    simp -dsimp only [↓vcA, vcB, vcD, ↓pureT_lenS, ↓iteT, ↓iteF, cond_true, cond_false, eq_self, argE, Env.get, Env.push, ev, evs, evo, retV, Value.cells, Value.oneCell', setR, overR, fillL, zl, places, allSizes, heldC, ne_eq, Int.reduceLE, Int.reduceLT, Int.reduceEq, Int.reduceNe, Int.reduceToNat, Int.cast_ofNat_Int, Nat.reduceMul, Nat.reduceLeDiff, reduceIte, Nat.reduceEqDiff, Nat.reduceAdd, ↓reduceIte, Try.vcT, p6.cell, cellsAt]
    exact ⟨by simp [T3.mk', T3.cells, T3.ok, ho], (F5.one p6.chg (by omega)).done⟩
  have hmk : t.mk' = t.first.rot.rot := by simp [T3.mk', ho]
  have hok : t.ok = true := by simp [T3.ok, ho]
  rw [hmk, hok]
  generalize hs : t.first = s
  by_cases h1 : t.or = -1
  case' pos =>
    simp -dsimp only [↓vcA, vcB, vcD, ↓pureT_lenS, ↓iteT, ↓iteF, cond_true, cond_false, eq_self, argE, Env.get, Env.push, ev, evs, evo, retV, Value.cells, Value.oneCell', setR, overR, fillL, zl, places, allSizes, heldC, ne_eq, Int.reduceLE, Int.reduceLT, Int.reduceEq, Int.reduceNe, Int.reduceToNat, Int.cast_ofNat_Int, Nat.reduceMul, Nat.reduceLeDiff, reduceIte, Nat.reduceEqDiff, Nat.reduceAdd, ↓reduceIte, Try.vcT, decide_eq_false ho, decide_eq_true h1, cell_of_blkOf k4, cell_of_blkOf k5, cellsAt, k4, k5]
    intro w6 p6
    have f5 := p6.chg.blkOf k5 (by omega)
    simp -dsimp only [↓vcA, vcB, vcD, ↓pureT_lenS, ↓iteT, ↓iteF, cond_true, cond_false, eq_self, argE, Env.get, Env.push, ev, evs, evo, retV, Value.cells, Value.oneCell', setR, overR, fillL, zl, places, allSizes, heldC, ne_eq, Int.reduceLE, Int.reduceLT, Int.reduceEq, Int.reduceNe, Int.reduceToNat, Int.cast_ofNat_Int, Nat.reduceMul, Nat.reduceLeDiff, reduceIte, Nat.reduceEqDiff, Nat.reduceAdd, ↓reduceIte, Try.vcT, f5]
    intro w7 p7
    have hs' : s = t.swap := by rw [← hs]; simp [T3.first, h1]
    have FL : Fr w.heap.size w w7 := (F5.one p6.chg (by omega)).one p7.chg (by omega)
    have K3 : blkOf w7 b3 = some ([.int .i64 s.ax, .int .i64 s.ay], 37) := by rw [hs']; exact p7.chg.blkOf (p6.chg.blkOf k3 (by omega)) (by omega)
    have K4 : blkOf w7 b4 = some ([.int .i64 s.bx, .int .i64 s.by'], 37) := by rw [hs']; exact p7.chg.blkOf p6.blkOf (by omega)
    have K5 : blkOf w7 b5 = some ([.int .i64 s.cx, .int .i64 s.cy], 37) := by rw [hs']; exact p7.blkOf
    have K6 := p7.chg.blkOf (p6.chg.blkOf k6 (by omega)) (by omega)
  case' neg =>
    simp -dsimp only [↓vcA, vcB, vcD, ↓pureT_lenS, ↓iteT, ↓iteF, cond_true, cond_false, eq_self, argE, Env.get, Env.push, ev, evs, evo, retV, Value.cells, Value.oneCell', setR, overR, fillL, zl, places, allSizes, heldC, ne_eq, Int.reduceLE, Int.reduceLT, Int.reduceEq, Int.reduceNe, Int.reduceToNat, Int.cast_ofNat_Int, Nat.reduceMul, Nat.reduceLeDiff, reduceIte, Nat.reduceEqDiff, Nat.reduceAdd, ↓reduceIte, Try.vcT, decide_eq_false ho, decide_eq_false h1]
    have hs' : s = t := by rw [← hs]; simp [T3.first, h1]
    have FL := F5
    have K3 : blkOf w5 b3 = some ([.int .i64 s.ax, .int .i64 s.ay], 37) := by rw [hs']; exact k3
    have K4 : blkOf w5 b4 = some ([.int .i64 s.bx, .int .i64 s.by'], 37) := by rw [hs']; exact k4
    have K5 : blkOf w5 b5 = some ([.int .i64 s.cx, .int .i64 s.cy], 37) := by rw [hs']; exact k5
    have K6 := k6
  all_goals
    clear k3 k4 k5 k6 h3 h4 h5 hs'
    refine walkLoop [3, 4, 5, 6] [] (fun q vs w' => vs = [] ∧ ∃ j u, ((j = 0 ∧ u = s) ∨ (j = 1 ∧ u = s.turn ∧ s.late) ∨ (j = 2 ∧ u = s.turn.turn ∧ s.late ∧ s.turn.late)) ∧ q = 3 - j ∧ Fr w.heap.size w w' ∧
      blkOf w' b3 = some ([.int .i64 u.ax, .int .i64 u.ay], 37) ∧ blkOf w' b4 = some ([.int .i64 u.bx, .int .i64 u.by'], 37) ∧ blkOf w' b5 = some ([.int .i64 u.cx, .int .i64 u.cy], 37) ∧
      ∃ z0 z1 z2 z3 z4 z5, blkOf w' b6 = some ([z0, z1, z2, z3, z4, z5], 39)) (by kernel_rfl) ?_ ?_
    · simp -dsimp only [↓vcA, vcB, vcD, ↓pureT_lenS, ↓iteT, ↓iteF, cond_true, cond_false, eq_self, argE, Env.get, Env.push, ev, evs, evo, retV, Value.cells, Value.oneCell', setR, overR, fillL, zl, places, allSizes, heldC, ne_eq, Int.reduceLE, Int.reduceLT, Int.reduceEq, Int.reduceNe, Int.reduceToNat, Int.cast_ofNat_Int, Nat.reduceMul, Nat.reduceLeDiff, reduceIte, Nat.reduceEqDiff, Nat.reduceAdd, ↓reduceIte, Try.vcT, gets]
      exact ⟨_, 0, s, .inl ⟨rfl, rfl⟩, rfl, FL, K3, K4, K5, _, _, _, _, _, _, K6⟩
    · intro ks hk q vs wr hi
      obtain ⟨rfl, j, u, hju, rfl, Fu, U3, U4, U5, z0, z1, z2, z3, z4, z5, U6⟩ := hi
      simp -dsimp only [gets, argE, List.zip_cons_cons, List.zip_nil_left, List.cons_append, List.nil_append, Env.get, Env.push, Option.bind_some, Option.map_some, Option.some.injEq, reduceIte, Nat.reduceEqDiff, Nat.reduceAdd, ↓reduceIte] at hk; subst hk
      simp -dsimp only [↓vcA, vcB, vcD, ↓pureT_lenS, ↓iteT, ↓iteF, cond_true, cond_false, eq_self, argE, Env.get, Env.push, ev, evs, evo, retV, Value.cells, Value.oneCell', setR, overR, fillL, zl, places, allSizes, heldC, ne_eq, Int.reduceLE, Int.reduceLT, Int.reduceEq, Int.reduceNe, Int.reduceToNat, Int.cast_ofNat_Int, Nat.reduceMul, Nat.reduceLeDiff, reduceIte, Nat.reduceEqDiff, Nat.reduceAdd, ↓reduceIte, Try.vcT, gets, cell_of_blkOf U3, cell_of_blkOf U4, cellsAt]
      refine callsK_new (cmpPoint u.bx u.by' u.ax u.ay wr) ?_
      intro wc cc
      have Fc := Fu.nil cc
      have V3 := chg_blk cc U3
      have V4 := chg_blk cc U4
      have V5 := chg_blk cc U5
      have V6 := chg_blk cc U6
      have key : u.late → ∃ j', 3 - j' < 3 - j ∧ ((j' = 0 ∧ u.turn = s) ∨ (j' = 1 ∧ u.turn = s.turn ∧ s.late) ∨ (j' = 2 ∧ u.turn = s.turn.turn ∧ s.late ∧ s.turn.late)) := fun hl => by
        rcases hju with ⟨rfl, rfl⟩ | ⟨rfl, rfl, g1⟩ | ⟨rfl, rfl, g1, g2⟩
        · exact ⟨1, by decide, .inr (.inl ⟨rfl, rfl, hl⟩)⟩
        · exact ⟨2, by decide, .inr (.inr ⟨rfl, rfl, g1, hl⟩)⟩
        · exact absurd hl (T3.last s g1 g2)
      by_cases e1 : cmp2 u.bx u.by' u.ax u.ay < 0
      case' pos =>
        have hl : u.late := by unfold T3.late later; have := (cmp2_neg _ _ _ _).1 e1; omega
        simp -dsimp only [↓vcA, vcB, vcD, ↓pureT_lenS, ↓iteT, ↓iteF, cond_true, cond_false, eq_self, argE, Env.get, Env.push, ev, evs, evo, retV, Value.cells, Value.oneCell', setR, overR, fillL, zl, places, allSizes, heldC, ne_eq, Int.reduceLE, Int.reduceLT, Int.reduceEq, Int.reduceNe, Int.reduceToNat, Int.cast_ofNat_Int, Nat.reduceMul, Nat.reduceLeDiff, reduceIte, Nat.reduceEqDiff, Nat.reduceAdd, ↓reduceIte, Try.vcT, gets, decide_eq_true e1]
      case' neg =>
        simp -dsimp only [↓vcA, vcB, vcD, ↓pureT_lenS, ↓iteT, ↓iteF, cond_true, cond_false, eq_self, argE, Env.get, Env.push, ev, evs, evo, retV, Value.cells, Value.oneCell', setR, overR, fillL, zl, places, allSizes, heldC, ne_eq, Int.reduceLE, Int.reduceLT, Int.reduceEq, Int.reduceNe, Int.reduceToNat, Int.cast_ofNat_Int, Nat.reduceMul, Nat.reduceLeDiff, reduceIte, Nat.reduceEqDiff, Nat.reduceAdd, ↓reduceIte, Try.vcT, gets, decide_eq_false e1, cell_of_blkOf V3, cell_of_blkOf V5, cellsAt]
        refine callsK_new (cmpPoint u.cx u.cy u.ax u.ay wc) ?_
        intro wd cd
        have W3 := chg_blk cd V3
        have W4 := chg_blk cd V4
        have W5 := chg_blk cd V5
        have W6 := chg_blk cd V6
        have Fd := Fc.nil cd
        clear V3 V4 V5 V6 Fc
        by_cases e2 : cmp2 u.cx u.cy u.ax u.ay < 0
        case' neg =>
          have hnl : ¬ u.late := by
            unfold T3.late later
            have g1 := mt (cmp2_neg _ _ _ _).2 e1
            have g2 := mt (cmp2_neg _ _ _ _).2 e2
            omega
          have hrr := T3.rot_of s j u hju hnl
          simp -dsimp only [↓vcA, vcB, vcD, ↓pureT_lenS, ↓iteT, ↓iteF, cond_true, cond_false, eq_self, argE, Env.get, Env.push, ev, evs, evo, retV, Value.cells, Value.oneCell', setR, overR, fillL, zl, places, allSizes, heldC, ne_eq, Int.reduceLE, Int.reduceLT, Int.reduceEq, Int.reduceNe, Int.reduceToNat, Int.cast_ofNat_Int, Nat.reduceMul, Nat.reduceLeDiff, reduceIte, Nat.reduceEqDiff, Nat.reduceAdd, ↓reduceIte, Try.vcT, gets, decide_eq_false e2, cell_of_blkOf W3, cell_of_blkOf W4, cell_of_blkOf W5, cellsAt, W6]
          intro we pe
          try simp -dsimp only [↓vcA, vcB, vcD, ↓pureT_lenS, ↓iteT, ↓iteF, cond_true, cond_false, eq_self, argE, Env.get, Env.push, ev, evs, evo, retV, Value.cells, Value.oneCell', setR, overR, fillL, zl, places, allSizes, heldC, ne_eq, Int.reduceLE, Int.reduceLT, Int.reduceEq, Int.reduceNe, Int.reduceToNat, Int.cast_ofNat_Int, Nat.reduceMul, Nat.reduceLeDiff, reduceIte, Nat.reduceEqDiff, Nat.reduceAdd, ↓reduceIte, Try.vcT, gets, pe.cell, cellsAt]
          rw [hrr]
          exact ⟨rfl, (Fd.one pe.chg (by omega)).done⟩
        case' pos =>
          have hl : u.late := by unfold T3.late later; have := (cmp2_neg _ _ _ _).1 e2; omega
          have V3 := W3
          have V4 := W4
          have V5 := W5
          have V6 := W6
          have Fc := Fd
          clear W3 W4 W5 W6 Fd
          simp -dsimp only [↓vcA, vcB, vcD, ↓pureT_lenS, ↓iteT, ↓iteF, cond_true, cond_false, eq_self, argE, Env.get, Env.push, ev, evs, evo, retV, Value.cells, Value.oneCell', setR, overR, fillL, zl, places, allSizes, heldC, ne_eq, Int.reduceLE, Int.reduceLT, Int.reduceEq, Int.reduceNe, Int.reduceToNat, Int.cast_ofNat_Int, Nat.reduceMul, Nat.reduceLeDiff, reduceIte, Nat.reduceEqDiff, Nat.reduceAdd, ↓reduceIte, Try.vcT, gets, decide_eq_true e2]
          clear cc cd
          revert V3 V4 V5 V6 Fc
          generalize wd = wc
          intro V3 V4 V5 V6 Fc
      all_goals
        obtain ⟨j', hj', hju'⟩ := key hl
        clear key e1
        refine walkDraw (.lll 0 (.ll 1 (.l 2 (.l 3 (.l 4 (.l 5 .fin)))) 2 (.ll 1 (.l 3 (.l 4 (.l 5 .fin))) 3 (.l 1 (.l 4 (.l 5 .fin))))) 1 (.ll 0 (.l 2 (.l 3 (.l 4 (.l 5 .fin)))) 2 (.l 0 (.l 3 (.l 4 (.l 5 .fin))))) 2 (.ll 0 (.ll 1 (.l 3 (.l 4 (.l 5 .fin))) 3 (.l 1 (.l 4 (.l 5 .fin)))) 1 (.l 0 (.l 3 (.l 4 (.l 5 .fin)))))) [] (by kernel_rfl) (by simp [Holds_nil]) ?_
        intro wx ex cx
        have X3 := chg_blk cx V3
        have X4 := chg_blk cx V4
        have X5 := chg_blk cx V5
        have X6 := chg_blk cx V6
        have Fx := Fc.nil cx
        simp -dsimp only [↓vcA, vcB, vcD, ↓pureT_lenS, ↓iteT, ↓iteF, cond_true, cond_false, eq_self, argE, Env.get, Env.push, ev, evs, evo, retV, Value.cells, Value.oneCell', setR, overR, fillL, zl, places, allSizes, heldC, ne_eq, Int.reduceLE, Int.reduceLT, Int.reduceEq, Int.reduceNe, Int.reduceToNat, Int.cast_ofNat_Int, Nat.reduceMul, Nat.reduceLeDiff, reduceIte, Nat.reduceEqDiff, Nat.reduceAdd, ↓reduceIte, Try.vcT, Holds_nil, cell_of_blkOf X3, cell_of_blkOf X4, cell_of_blkOf X5, cellsAt, X3]
        repeat' apply And.intro
        all_goals
          intro wy py
          have Y3 := py.blkOf
          have Y4 := py.chg.blkOf X4 (by omega)
          have Y5 := py.chg.blkOf X5 (by omega)
          have Y6 := py.chg.blkOf X6 (by omega)
          try simp -dsimp only [↓vcA, vcB, vcD, ↓pureT_lenS, ↓iteT, ↓iteF, cond_true, cond_false, eq_self, argE, Env.get, Env.push, ev, evs, evo, retV, Value.cells, Value.oneCell', setR, overR, fillL, zl, places, allSizes, heldC, ne_eq, Int.reduceLE, Int.reduceLT, Int.reduceEq, Int.reduceNe, Int.reduceToNat, Int.cast_ofNat_Int, Nat.reduceMul, Nat.reduceLeDiff, reduceIte, Nat.reduceEqDiff, Nat.reduceAdd, ↓reduceIte, Try.vcT, Holds_nil, cell_of_blkOf Y5, cellsAt, Y4]
          intro wz pz
          have Z3 := pz.chg.blkOf Y3 (by omega)
          have Z4 := pz.blkOf
          have Z5 := pz.chg.blkOf Y5 (by omega)
          have Z6 := pz.chg.blkOf Y6 (by omega)
          try simp -dsimp only [↓vcA, vcB, vcD, ↓pureT_lenS, ↓iteT, ↓iteF, cond_true, cond_false, eq_self, argE, Env.get, Env.push, ev, evs, evo, retV, Value.cells, Value.oneCell', setR, overR, fillL, zl, places, allSizes, heldC, ne_eq, Int.reduceLE, Int.reduceLT, Int.reduceEq, Int.reduceNe, Int.reduceToNat, Int.cast_ofNat_Int, Nat.reduceMul, Nat.reduceLeDiff, reduceIte, Nat.reduceEqDiff, Nat.reduceAdd, ↓reduceIte, Try.vcT, Holds_nil, Z5]
          intro wq pq
          try simp -dsimp only [↓vcA, vcB, vcD, ↓pureT_lenS, ↓iteT, ↓iteF, cond_true, cond_false, eq_self, argE, Env.get, Env.push, ev, evs, evo, retV, Value.cells, Value.oneCell', setR, overR, fillL, zl, places, allSizes, heldC, ne_eq, Int.reduceLE, Int.reduceLT, Int.reduceEq, Int.reduceNe, Int.reduceToNat, Int.cast_ofNat_Int, Nat.reduceMul, Nat.reduceLeDiff, reduceIte, Nat.reduceEqDiff, Nat.reduceAdd, ↓reduceIte, Try.vcT, gets, Holds_nil]
          exact ⟨_, hj', j', u.turn, hju', rfl, ((Fx.one py.chg (by omega)).one pz.chg (by omega)).one pq.chg (by omega), pq.chg.blkOf Z3 (by omega), pq.chg.blkOf Z4 (by omega), pq.blkOf, _, _, _, _, _, _, pq.chg.blkOf Z6 (by omega)⟩
def T3.valid (t : T3) : Bool := t.ok && decide (t.mk'.ax = t.ax ∧ t.mk'.ay = t.ay ∧ t.mk'.bx = t.bx ∧ t.mk'.by' = t.by' ∧ t.mk'.cx = t.cx ∧ t.mk'.cy = t.cy)
theorem valid79 (t : T3) (w : World) : Calls Try.prog 79 [.agg #[.int .i64 t.ax, .int .i64 t.ay, .int .i64 t.bx, .int .i64 t.by', .int .i64 t.cx, .int .i64 t.cy]].toArray w (RetP (.bool t.valid) w) := by
  refine walk Try.func79 rfl (by kernel_rfl) (by rw [Try.nt79]; simp) ?_
  simp -dsimp only [↓vcA, vcB, vcD, ↓pureT_lenS, ↓iteT, ↓iteF, cond_true, cond_false, eq_self, argE, Env.get, Env.push, ev, evs, evo, retV, Value.cells, Value.oneCell', setR, overR, fillL, zl, places, allSizes, heldC, ne_eq, Int.reduceLE, Int.reduceLT, Int.reduceEq, Int.reduceNe, Int.reduceToNat, Int.cast_ofNat_Int, Nat.reduceMul, Nat.reduceLeDiff, reduceIte, Nat.reduceEqDiff, Nat.reduceAdd, ↓reduceIte, Try.vcT]
  intro w1 b1 n1
  try simp -dsimp only [↓vcA, vcB, vcD, ↓pureT_lenS, ↓iteT, ↓iteF, cond_true, cond_false, eq_self, argE, Env.get, Env.push, ev, evs, evo, retV, Value.cells, Value.oneCell', setR, overR, fillL, zl, places, allSizes, heldC, ne_eq, Int.reduceLE, Int.reduceLT, Int.reduceEq, Int.reduceNe, Int.reduceToNat, Int.cast_ofNat_Int, Nat.reduceMul, Nat.reduceLeDiff, reduceIte, Nat.reduceEqDiff, Nat.reduceAdd, ↓reduceIte, Try.vcT, n1.cell, cellsAt]
  refine callsK_new (make136 t w1) ?_
  intro w2 c2
  have h2 := chg_blk c2 n1.blkOf
  simp -dsimp only [↓vcA, vcB, vcD, ↓pureT_lenS, ↓iteT, ↓iteF, cond_true, cond_false, eq_self, argE, Env.get, Env.push, ev, evs, evo, retV, Value.cells, Value.oneCell', setR, overR, fillL, zl, places, allSizes, heldC, ne_eq, Int.reduceLE, Int.reduceLT, Int.reduceEq, Int.reduceNe, Int.reduceToNat, Int.cast_ofNat_Int, Nat.reduceMul, Nat.reduceLeDiff, reduceIte, Nat.reduceEqDiff, Nat.reduceAdd, ↓reduceIte, Try.vcT, tupK_mk]
  intro w3 b3 n3
  have h3 := chg_blk n3.chg h2
  simp -dsimp only [↓vcA, vcB, vcD, ↓pureT_lenS, ↓iteT, ↓iteF, cond_true, cond_false, eq_self, argE, Env.get, Env.push, ev, evs, evo, retV, Value.cells, Value.oneCell', setR, overR, fillL, zl, places, allSizes, heldC, ne_eq, Int.reduceLE, Int.reduceLT, Int.reduceEq, Int.reduceNe, Int.reduceToNat, Int.cast_ofNat_Int, Nat.reduceMul, Nat.reduceLeDiff, reduceIte, Nat.reduceEqDiff, Nat.reduceAdd, ↓reduceIte, Try.vcT, n3.blkOf, T3.cells]
  intro w4 p4
  have h4 := p4.chg.blkOf h3 (by have := n3.eq; have := lt_of_blkOf h2; omega)
  have F : Fr w.heap.size w w4 := (((Fr.refl w).new n1).nil c2 |>.new n3).one p4.chg ((((Fr.refl w).new n1).nil c2).newUp n3)
  cases hk : t.ok with
  | false =>
    have e : t.valid = false := by simp [T3.valid, hk]
    simp -dsimp only [↓vcA, vcB, vcD, ↓pureT_lenS, ↓iteT, ↓iteF, cond_true, cond_false, eq_self, argE, Env.get, Env.push, ev, evs, evo, retV, Value.cells, Value.oneCell', setR, overR, fillL, zl, places, allSizes, heldC, ne_eq, Int.reduceLE, Int.reduceLT, Int.reduceEq, Int.reduceNe, Int.reduceToNat, Int.cast_ofNat_Int, Nat.reduceMul, Nat.reduceLeDiff, reduceIte, Nat.reduceEqDiff, Nat.reduceAdd, ↓reduceIte, Try.vcT, e]
    exact F.done
  | true =>
    have e : t.valid = decide (t.mk'.ax = t.ax ∧ t.mk'.ay = t.ay ∧ t.mk'.bx = t.bx ∧ t.mk'.by' = t.by' ∧ t.mk'.cx = t.cx ∧ t.mk'.cy = t.cy) := by simp [T3.valid, hk]
    simp -dsimp only [↓vcA, vcB, vcD, ↓pureT_lenS, ↓iteT, ↓iteF, cond_true, cond_false, eq_self, argE, Env.get, Env.push, ev, evs, evo, retV, Value.cells, Value.oneCell', setR, overR, fillL, zl, places, allSizes, heldC, ne_eq, Int.reduceLE, Int.reduceLT, Int.reduceEq, Int.reduceNe, Int.reduceToNat, Int.cast_ofNat_Int, Nat.reduceMul, Nat.reduceLeDiff, reduceIte, Nat.reduceEqDiff, Nat.reduceAdd, ↓reduceIte, Try.vcT, p4.cell, cell_of_blkOf h4, cellsAt, eql_tri]
    exact ⟨by rw [e], F.done⟩
theorem validTri (t : T3) (w : World) : Calls Try.prog 48 [.agg #[.int .i64 t.ax, .int .i64 t.ay, .int .i64 t.bx, .int .i64 t.by', .int .i64 t.cx, .int .i64 t.cy]].toArray w (RetP (.bool t.valid) w) := by
  refine walk Try.func48 rfl (by kernel_rfl) (by rw [Try.nt48]; simp) ?_
  simp -dsimp only [↓vcA, vcB, vcD, ↓pureT_lenS, ↓iteT, ↓iteF, cond_true, cond_false, eq_self, argE, Env.get, Env.push, ev, evs, evo, retV, Value.cells, Value.oneCell', setR, overR, fillL, zl, places, allSizes, heldC, ne_eq, Int.reduceLE, Int.reduceLT, Int.reduceEq, Int.reduceNe, Int.reduceToNat, Int.cast_ofNat_Int, Nat.reduceMul, Nat.reduceLeDiff, reduceIte, Nat.reduceEqDiff, Nat.reduceAdd, ↓reduceIte, Try.vcT]
  intro w1 b1 n1
  try simp -dsimp only [↓vcA, vcB, vcD, ↓pureT_lenS, ↓iteT, ↓iteF, cond_true, cond_false, eq_self, argE, Env.get, Env.push, ev, evs, evo, retV, Value.cells, Value.oneCell', setR, overR, fillL, zl, places, allSizes, heldC, ne_eq, Int.reduceLE, Int.reduceLT, Int.reduceEq, Int.reduceNe, Int.reduceToNat, Int.cast_ofNat_Int, Nat.reduceMul, Nat.reduceLeDiff, reduceIte, Nat.reduceEqDiff, Nat.reduceAdd, ↓reduceIte, Try.vcT, n1.cell, cellsAt]
  refine callsK_new (make78 t w1) ?_
  intro w2 c2
  have h2 := chg_blk c2 n1.blkOf
  simp -dsimp only [↓vcA, vcB, vcD, ↓pureT_lenS, ↓iteT, ↓iteF, cond_true, cond_false, eq_self, argE, Env.get, Env.push, ev, evs, evo, retV, Value.cells, Value.oneCell', setR, overR, fillL, zl, places, allSizes, heldC, ne_eq, Int.reduceLE, Int.reduceLT, Int.reduceEq, Int.reduceNe, Int.reduceToNat, Int.cast_ofNat_Int, Nat.reduceMul, Nat.reduceLeDiff, reduceIte, Nat.reduceEqDiff, Nat.reduceAdd, ↓reduceIte, Try.vcT, tupK_mk]
  intro w3 b3 n3
  have h3 := chg_blk n3.chg h2
  simp -dsimp only [↓vcA, vcB, vcD, ↓pureT_lenS, ↓iteT, ↓iteF, cond_true, cond_false, eq_self, argE, Env.get, Env.push, ev, evs, evo, retV, Value.cells, Value.oneCell', setR, overR, fillL, zl, places, allSizes, heldC, ne_eq, Int.reduceLE, Int.reduceLT, Int.reduceEq, Int.reduceNe, Int.reduceToNat, Int.cast_ofNat_Int, Nat.reduceMul, Nat.reduceLeDiff, reduceIte, Nat.reduceEqDiff, Nat.reduceAdd, ↓reduceIte, Try.vcT, n3.blkOf, T3.cells]
  intro w4 p4
  have h4 := p4.chg.blkOf h3 (by have := n3.eq; have := lt_of_blkOf h2; omega)
  have F : Fr w.heap.size w w4 := (((Fr.refl w).new n1).nil c2 |>.new n3).one p4.chg ((((Fr.refl w).new n1).nil c2).newUp n3)
  cases hk : t.ok with
  | false =>
    have e : t.valid = false := by simp [T3.valid, hk]
    simp -dsimp only [↓vcA, vcB, vcD, ↓pureT_lenS, ↓iteT, ↓iteF, cond_true, cond_false, eq_self, argE, Env.get, Env.push, ev, evs, evo, retV, Value.cells, Value.oneCell', setR, overR, fillL, zl, places, allSizes, heldC, ne_eq, Int.reduceLE, Int.reduceLT, Int.reduceEq, Int.reduceNe, Int.reduceToNat, Int.cast_ofNat_Int, Nat.reduceMul, Nat.reduceLeDiff, reduceIte, Nat.reduceEqDiff, Nat.reduceAdd, ↓reduceIte, Try.vcT, e]
    exact F.done
  | true =>
    have e : t.valid = decide (t.mk'.ax = t.ax ∧ t.mk'.ay = t.ay ∧ t.mk'.bx = t.bx ∧ t.mk'.by' = t.by' ∧ t.mk'.cx = t.cx ∧ t.mk'.cy = t.cy) := by simp [T3.valid, hk]
    simp -dsimp only [↓vcA, vcB, vcD, ↓pureT_lenS, ↓iteT, ↓iteF, cond_true, cond_false, eq_self, argE, Env.get, Env.push, ev, evs, evo, retV, Value.cells, Value.oneCell', setR, overR, fillL, zl, places, allSizes, heldC, ne_eq, Int.reduceLE, Int.reduceLT, Int.reduceEq, Int.reduceNe, Int.reduceToNat, Int.cast_ofNat_Int, Nat.reduceMul, Nat.reduceLeDiff, reduceIte, Nat.reduceEqDiff, Nat.reduceAdd, ↓reduceIte, Try.vcT, p4.cell, cell_of_blkOf h4, cellsAt, eql_tri]
    exact ⟨by rw [e], F.done⟩
end Go.Proofs.Ytnhgjgoglmadnaa
namespace Go.Proofs.Ytnhgjgoglmadnaa
open Go.RowKit
set_option maxRecDepth 100000
set_option linter.unusedSimpArgs false
set_option linter.unusedVariables false
set_option pp.maxSteps 1500
set_option pp.deepTerms.threshold 8

theorem WrStep.blkOf {p b : Nat} {w w' : World} {v v' : Value} {x : List Value × TypeId} (k : WrStep p w v w' v') (hb : blkOf w b = some x) (hs : Safe p v b) : blkOf w' b = some x :=
  k.chg.blkOf hb fun e => e.elim hs.1 hs.2

theorem refPoint (p : Nat) (v : Value) (s : W8) (x y : Int) (w : World) (hw : WrS 35 w p v s) (hlen : s.l.length ≤ 900000) (hx : -9223372036854775808 ≤ x) (hx1 : x ≤ 9223372036854775807) (hy : -9223372036854775808 ≤ y) (hy1 : y ≤ 9223372036854775807) :
    Calls Try.prog 26 [.pointer (some ⟨p, 0, none⟩), .agg #[.int .i64 x, .int .i64 y]].toArray w (RetK (WrU 35 p w v (s.pt x y))) := by
  refine walk Try.func26 rfl (by kernel_rfl) (by rw [Try.nt26]; simp) ?_
  simp -dsimp only [↓vcA, vcB, vcD, ↓pureT_lenS, ↓iteT, ↓iteF, cond_true, cond_false, eq_self, argE, Env.get, Env.push, ev, evs, evo, retV, Value.cells, Value.oneCell', setR, overR, fillL, zl, places, allSizes, heldC, ne_eq, Int.reduceLE, Int.reduceLT, Int.reduceEq, Int.reduceNe, Int.reduceToNat, Int.cast_ofNat_Int, Nat.reduceMul, Nat.reduceLeDiff, reduceIte, Nat.reduceEqDiff, Nat.reduceAdd, ↓reduceIte, Try.vcT]
  intro w1 b hb
  have h1 : WrS 35 w1 p v s := hw.chg hb.chg id fun _ _ => id
  have hsf : Safe p v b := Safe.new hw.lt hw.own (by rw [hb.eq]; omega)
  try simp -dsimp only [↓vcA, vcB, vcD, ↓pureT_lenS, ↓iteT, ↓iteF, cond_true, cond_false, eq_self, argE, Env.get, Env.push, ev, evs, evo, retV, Value.cells, Value.oneCell', setR, overR, fillL, zl, places, allSizes, heldC, ne_eq, Int.reduceLE, Int.reduceLT, Int.reduceEq, Int.reduceNe, Int.reduceToNat, Int.cast_ofNat_Int, Nat.reduceMul, Nat.reduceLeDiff, reduceIte, Nat.reduceEqDiff, Nat.reduceAdd, ↓reduceIte, Try.vcT, hb.cell]
  refine callsK_use (refNum p v s x 3 w1 h1 (by omega) hx hx1) ?_
  rintro _ w2 ⟨rfl, v2, h2, k2⟩
  have hb2 := k2.blkOf hb.blkOf hsf
  simp -dsimp only [↓vcA, vcB, vcD, ↓pureT_lenS, ↓iteT, ↓iteF, cond_true, cond_false, eq_self, argE, Env.get, Env.push, ev, evs, evo, retV, Value.cells, Value.oneCell', setR, overR, fillL, zl, places, allSizes, heldC, ne_eq, Int.reduceLE, Int.reduceLT, Int.reduceEq, Int.reduceNe, Int.reduceToNat, Int.cast_ofNat_Int, Nat.reduceMul, Nat.reduceLeDiff, reduceIte, Nat.reduceEqDiff, Nat.reduceAdd, ↓reduceIte, Try.vcT, cell_of_blkOf hb2]
  have hl := s.num_len x 3
  refine callsK_use (refNum p v2 (s.num x 3) y 3 w2 h2 (by omega) hy hy1) ?_
  rintro _ w3 ⟨rfl, v3, h3, k3⟩
  simp -dsimp only [↓vcA, vcB, vcD, ↓pureT_lenS, ↓iteT, ↓iteF, cond_true, cond_false, eq_self, argE, Env.get, Env.push, ev, evs, evo, retV, Value.cells, Value.oneCell', setR, overR, fillL, zl, places, allSizes, heldC, ne_eq, Int.reduceLE, Int.reduceLT, Int.reduceEq, Int.reduceNe, Int.reduceToNat, Int.cast_ofNat_Int, Nat.reduceMul, Nat.reduceLeDiff, reduceIte, Nat.reduceEqDiff, Nat.reduceAdd, ↓reduceIte, Try.vcT]
  exact ⟨rfl, v3, h3, WrStep.pre hb.chg (k2.trans k3)⟩

theorem refTri (p : Nat) (v : Value) (s : W8) (ax ay bx by' cx cy : Int) (w : World) (hw : WrS 35 w p v s) (hlen : s.l.length ≤ 800000) (ho : Ok64 [ax, ay, bx, by', cx, cy]) :
    Calls Try.prog 28 [.pointer (some ⟨p, 0, none⟩), .agg #[.int .i64 ax, .int .i64 ay, .int .i64 bx, .int .i64 by', .int .i64 cx, .int .i64 cy]].toArray w (RetK (WrU 35 p w v (s.tri ax ay bx by' cx cy))) := by
  simp only [Ok64, List.forall_mem_cons, List.not_mem_nil, false_implies, implies_true, and_true] at ho
  obtain ⟨⟨ax0, ax1⟩, ⟨ay0, ay1⟩, ⟨bx0, bx1⟩, ⟨by0, by1⟩, ⟨cx0, cx1⟩, cy0, cy1⟩ := ho
  refine walk Try.func28 rfl (by kernel_rfl) (by rw [Try.nt28]; simp) ?_
  simp -dsimp only [↓vcA, vcB, vcD, ↓pureT_lenS, ↓iteT, ↓iteF, cond_true, cond_false, eq_self, argE, Env.get, Env.push, ev, evs, evo, retV, Value.cells, Value.oneCell', setR, overR, fillL, zl, places, allSizes, heldC, ne_eq, Int.reduceLE, Int.reduceLT, Int.reduceEq, Int.reduceNe, Int.reduceToNat, Int.cast_ofNat_Int, Nat.reduceMul, Nat.reduceLeDiff, reduceIte, Nat.reduceEqDiff, Nat.reduceAdd, ↓reduceIte, Try.vcT]
  intro w1 b hb
  have h1 : WrS 35 w1 p v s := hw.chg hb.chg id fun _ _ => id
  have hsf : Safe p v b := Safe.new hw.lt hw.own (by rw [hb.eq]; omega)
  have hl1 := s.pt_len ax ay
  have hl2 := (s.pt ax ay).pt_len bx by'
  try simp -dsimp only [↓vcA, vcB, vcD, ↓pureT_lenS, ↓iteT, ↓iteF, cond_true, cond_false, eq_self, argE, Env.get, Env.push, ev, evs, evo, retV, Value.cells, Value.oneCell', setR, overR, fillL, zl, places, allSizes, heldC, ne_eq, Int.reduceLE, Int.reduceLT, Int.reduceEq, Int.reduceNe, Int.reduceToNat, Int.cast_ofNat_Int, Nat.reduceMul, Nat.reduceLeDiff, reduceIte, Nat.reduceEqDiff, Nat.reduceAdd, ↓reduceIte, Try.vcT, hb.cell, cellsAt]
  refine callsK_use (refPoint p v s ax ay w1 h1 (by omega) ax0 ax1 ay0 ay1) ?_
  rintro _ w2 ⟨rfl, v2, h2, k2⟩
  have hb2 := k2.blkOf hb.blkOf hsf
  have s2 := k2.safe hb.lt hsf
  simp -dsimp only [↓vcA, vcB, vcD, ↓pureT_lenS, ↓iteT, ↓iteF, cond_true, cond_false, eq_self, argE, Env.get, Env.push, ev, evs, evo, retV, Value.cells, Value.oneCell', setR, overR, fillL, zl, places, allSizes, heldC, ne_eq, Int.reduceLE, Int.reduceLT, Int.reduceEq, Int.reduceNe, Int.reduceToNat, Int.cast_ofNat_Int, Nat.reduceMul, Nat.reduceLeDiff, reduceIte, Nat.reduceEqDiff, Nat.reduceAdd, ↓reduceIte, Try.vcT, cell_of_blkOf hb2, cellsAt]
  refine callsK_use (refPoint p v2 _ bx by' w2 h2 (by omega) bx0 bx1 by0 by1) ?_
  rintro _ w3 ⟨rfl, v3, h3, k3⟩
  have hb3 := k3.blkOf hb2 s2
  simp -dsimp only [↓vcA, vcB, vcD, ↓pureT_lenS, ↓iteT, ↓iteF, cond_true, cond_false, eq_self, argE, Env.get, Env.push, ev, evs, evo, retV, Value.cells, Value.oneCell', setR, overR, fillL, zl, places, allSizes, heldC, ne_eq, Int.reduceLE, Int.reduceLT, Int.reduceEq, Int.reduceNe, Int.reduceToNat, Int.cast_ofNat_Int, Nat.reduceMul, Nat.reduceLeDiff, reduceIte, Nat.reduceEqDiff, Nat.reduceAdd, ↓reduceIte, Try.vcT, cell_of_blkOf hb3, cellsAt]
  refine callsK_use (refPoint p v3 _ cx cy w3 h3 (by omega) cx0 cx1 cy0 cy1) ?_
  rintro _ w4 ⟨rfl, v4, h4, k4⟩
  simp -dsimp only [↓vcA, vcB, vcD, ↓pureT_lenS, ↓iteT, ↓iteF, cond_true, cond_false, eq_self, argE, Env.get, Env.push, ev, evs, evo, retV, Value.cells, Value.oneCell', setR, overR, fillL, zl, places, allSizes, heldC, ne_eq, Int.reduceLE, Int.reduceLT, Int.reduceEq, Int.reduceNe, Int.reduceToNat, Int.cast_ofNat_Int, Nat.reduceMul, Nat.reduceLeDiff, reduceIte, Nat.reduceEqDiff, Nat.reduceAdd, ↓reduceIte, Try.vcT]
  exact ⟨rfl, v4, h4, WrStep.pre hb.chg ((k2.trans k3).trans k4)⟩

structure Prt where
  kind : Int
  n : Int
  size : Int
  px : Int
  py : Int
  ax : Int
  ay : Int
  bx : Int
  by' : Int
  cx : Int
  cy : Int
  b : List Int
def Prt.cells (p : Prt) (vb : Value) : List Value :=
  [.int .i64 p.kind, .int .i64 p.n, .int .i64 p.size, .int .i64 p.px, .int .i64 p.py, .int .i64 p.ax, .int .i64 p.ay, .int .i64 p.bx, .int .i64 p.by', .int .i64 p.cx, .int .i64 p.cy, vb]
def Prt.ints (p : Prt) : List Int := [p.kind, p.n, p.size, p.px, p.py, p.ax, p.ay, p.bx, p.by', p.cx, p.cy]
structure Parts (w : World) (v : Value) (ps : List (Prt × Value)) : Prop where
  shape : ∃ a c, v = .slice a ps.length c ∧ ps.length ≤ maxLen ∧ (0 < ps.length → ∃ b o, a = some ⟨b, o, none⟩ ∧ ∀ i (h : i < ps.length) j u, (ps[i].1.cells ps[i].2)[j]? = some u → w.cell? ⟨b, o + i * 12 + j, none⟩ = some u)
  each : ∀ x ∈ ps, Rd w x.2 x.1.b ∧ Byt x.1.b ∧ Ok64 x.1.ints
theorem Parts.old {w w1 : World} {v : Value} {ps : List (Prt × Value)} (h : Parts w v ps) (f : Fr w.heap.size w w1) : Parts w1 v ps := by
  obtain ⟨a, c, rfl, h2, h1⟩ := h.shape
  refine ⟨⟨a, c, rfl, h2, fun hp => ?_⟩, fun x hx => ⟨(h.each x hx).1.old f, (h.each x hx).2⟩⟩
  obtain ⟨b, o, rfl, hc⟩ := h1 hp
  exact ⟨b, o, rfl, fun i hi j u hj => f.done.cell (hc i hi j u hj) id⟩
theorem cellsAt_of {w : World} {b : Nat} : ∀ {o : Nat} (cs : List Value), (∀ j u, cs[j]? = some u → w.cell? ⟨b, o + j, none⟩ = some u) → cellsAt w b o cs.length = some cs
  | o, [], _ => rfl
  | o, x :: cs, h => by
    have h0 := h 0 x rfl
    rw [Nat.add_zero] at h0
    have := cellsAt_of (o := o + 1) cs fun j u hj => by
      have := h (j + 1) u (by simpa using hj)
      rw [show o + 1 + j = o + (j + 1) by omega]; exact this
    simp [cellsAt, h0, this]

theorem Parts.at {w : World} {a : Option Addr} {n c : Nat} {ps : List (Prt × Value)} (h : Parts w (.slice a n c) ps) {i : Nat} (hi : i < ps.length) :
    ∃ b o, a = some ⟨b, o, none⟩ ∧ cellsAt w b (o + i * 12) 12 = some (ps[i].1.cells ps[i].2) := by
  obtain ⟨a', c', e, hm, h1⟩ := h.shape
  injection e with e1 e2 e3
  obtain ⟨b, o, h2, hc⟩ := h1 (by omega)
  exact ⟨b, o, by rw [e1, h2], cellsAt_of _ (hc i hi)⟩

theorem few (v : Value) (ps : List (Prt × Value)) (w : World) (h : Parts w v ps) :
    Calls Try.prog 22 [v].toArray w (RetK fun r w' => ∃ f : Bool, r = .bool f ∧ w' = w ∧ (f = true → ps.length ≤ 30 ∧ ∀ x ∈ ps, x.1.b.length ≤ 60)) := by
  obtain ⟨a, c, rfl, hm, h1⟩ := h.shape
  refine walk Try.func22 rfl (by kernel_rfl) (by rw [Try.nt22]; simp) ?_
  simp -dsimp only [↓vcA, vcB, vcD, ↓pureT_lenS, ↓iteT, ↓iteF, cond_true, cond_false, eq_self, argE, Env.get, Env.push, ev, evs, evo, retV, Value.cells, Value.oneCell', setR, overR, fillL, zl, places, allSizes, heldC, ne_eq, Int.reduceLE, Int.reduceLT, Int.reduceEq, Int.reduceNe, Int.reduceToNat, Int.cast_ofNat_Int, Nat.reduceMul, Nat.reduceLeDiff, reduceIte, Nat.reduceEqDiff, Nat.reduceAdd, ↓reduceIte, Try.vcT]
  refine walkLoop [0] [3] (fun m vs w1 => w1 = w ∧ ∃ i, i ≤ ps.length ∧ i ≤ 40 ∧ m = ps.length - i ∧ vs = [.int .i64 i] ∧ ∀ j (hj : j < ps.length), j < i → ps[j].1.b.length ≤ 60) (by kernel_rfl) ?_ ?_
  · simp -dsimp only [↓vcA, vcB, vcD, ↓pureT_lenS, ↓iteT, ↓iteF, cond_true, cond_false, eq_self, argE, Env.get, Env.push, ev, evs, evo, retV, Value.cells, Value.oneCell', setR, overR, fillL, zl, places, allSizes, heldC, ne_eq, Int.reduceLE, Int.reduceLT, Int.reduceEq, Int.reduceNe, Int.reduceToNat, Int.cast_ofNat_Int, Nat.reduceMul, Nat.reduceLeDiff, reduceIte, Nat.reduceEqDiff, Nat.reduceAdd, ↓reduceIte, Try.vcT, gets]
    exact ⟨_, 0, Nat.zero_le _, Nat.zero_le _, rfl, by simp, fun j _ hj => by omega⟩
  · intro ks hk m vs w1 hi
    obtain ⟨rfl, i, hi, hi4, rfl, rfl, hall⟩ := hi
    simp -dsimp only [gets, argE, List.zip_cons_cons, List.zip_nil_left, List.cons_append, List.nil_append, Env.get, Env.push, Option.bind_some, Option.map_some, Option.some.injEq, reduceIte, Nat.reduceEqDiff, Nat.reduceAdd, ↓reduceIte] at hk; subst hk
    by_cases hlt : (i : Int) < ps.length
    · by_cases h40 : (i : Int) < 40
      · have hil : i < ps.length := by omega
        obtain ⟨b, o, rfl, hc⟩ := h1 (by omega)
        obtain ⟨r1, r2, r3⟩ := h.each _ (List.getElem_mem hil)
        obtain ⟨a2, c2, e2, _⟩ := r1
        have hcell := hc i hil 11 _ rfl
        rw [e2] at hcell
        have e : IntKind.i64.wrap ((i : Int) + 1) = ((i + 1 : Nat) : Int) := by rw [i64w _ (by omega) (by omega)]; omega
        simp -dsimp only [↓vcA, vcB, vcD, ↓pureT_lenS, ↓iteT, ↓iteF, cond_true, cond_false, eq_self, argE, Env.get, Env.push, ev, evs, evo, retV, Value.cells, Value.oneCell', setR, overR, fillL, zl, places, allSizes, heldC, ne_eq, Int.reduceLE, Int.reduceLT, Int.reduceEq, Int.reduceNe, Int.reduceToNat, Int.cast_ofNat_Int, Nat.reduceMul, Nat.reduceLeDiff, reduceIte, Nat.reduceEqDiff, Nat.reduceAdd, ↓reduceIte, Try.vcT, gets, decide_eq_true hlt, decide_eq_true h40, hcell]
        refine ⟨⟨by omega, by omega⟩, ?_⟩
        refine ifK_dec (fun h60 => ?_) (fun h60 => ?_)
        · simp -dsimp only [↓vcA, vcB, vcD, ↓pureT_lenS, ↓iteT, ↓iteF, cond_true, cond_false, eq_self, argE, Env.get, Env.push, ev, evs, evo, retV, Value.cells, Value.oneCell', setR, overR, fillL, zl, places, allSizes, heldC, ne_eq, Int.reduceLE, Int.reduceLT, Int.reduceEq, Int.reduceNe, Int.reduceToNat, Int.cast_ofNat_Int, Nat.reduceMul, Nat.reduceLeDiff, reduceIte, Nat.reduceEqDiff, Nat.reduceAdd, ↓reduceIte, Try.vcT]
          exact ⟨false, rfl, fun e => by cases e⟩
        · simp -dsimp only [↓vcA, vcB, vcD, ↓pureT_lenS, ↓iteT, ↓iteF, cond_true, cond_false, eq_self, argE, Env.get, Env.push, ev, evs, evo, retV, Value.cells, Value.oneCell', setR, overR, fillL, zl, places, allSizes, heldC, ne_eq, Int.reduceLE, Int.reduceLT, Int.reduceEq, Int.reduceNe, Int.reduceToNat, Int.cast_ofNat_Int, Nat.reduceMul, Nat.reduceLeDiff, reduceIte, Nat.reduceEqDiff, Nat.reduceAdd, ↓reduceIte, Try.vcT, gets, e]
          refine ⟨_, ?_, i + 1, by omega, by omega, rfl, rfl, fun j hj hj2 => ?_⟩
          · omega
          · by_cases hji : j = i
            · subst hji; omega
            · exact hall j hj (by omega)
      · simp -dsimp only [↓vcA, vcB, vcD, ↓pureT_lenS, ↓iteT, ↓iteF, cond_true, cond_false, eq_self, argE, Env.get, Env.push, ev, evs, evo, retV, Value.cells, Value.oneCell', setR, overR, fillL, zl, places, allSizes, heldC, ne_eq, Int.reduceLE, Int.reduceLT, Int.reduceEq, Int.reduceNe, Int.reduceToNat, Int.cast_ofNat_Int, Nat.reduceMul, Nat.reduceLeDiff, reduceIte, Nat.reduceEqDiff, Nat.reduceAdd, ↓reduceIte, Try.vcT, gets, decide_eq_true hlt, decide_eq_false h40]
        refine ⟨_, rfl, fun h30 => ?_⟩
        have := of_decide_eq_true h30
        omega
    · simp -dsimp only [↓vcA, vcB, vcD, ↓pureT_lenS, ↓iteT, ↓iteF, cond_true, cond_false, eq_self, argE, Env.get, Env.push, ev, evs, evo, retV, Value.cells, Value.oneCell', setR, overR, fillL, zl, places, allSizes, heldC, ne_eq, Int.reduceLE, Int.reduceLT, Int.reduceEq, Int.reduceNe, Int.reduceToNat, Int.cast_ofNat_Int, Nat.reduceMul, Nat.reduceLeDiff, reduceIte, Nat.reduceEqDiff, Nat.reduceAdd, ↓reduceIte, Try.vcT, gets, decide_eq_false hlt]
      refine ⟨_, rfl, fun h30 => ?_⟩
      have := of_decide_eq_true h30
      refine ⟨by omega, fun x hx => ?_⟩
      obtain ⟨j, hj, rfl⟩ := List.mem_iff_getElem.1 hx
      exact hall j hj (by omega)
end Go.Proofs.Ytnhgjgoglmadnaa
namespace Go.Proofs.Ytnhgjgoglmadnaa
open Go.RowKit
set_option maxRecDepth 100000
set_option linter.unusedSimpArgs false
set_option linter.unusedVariables false
set_option pp.maxSteps 1500
set_option pp.deepTerms.threshold 8

theorem R8.num_no (s : R8) (n : Int) (h : s.bad = true ∨ n < 1 ∨ 7 < n ∨ (s.l.length : Int) < n) : s.numV n = 0 ∧ s.numS n = ⟨s.l, true⟩ := by
  have hl : (s.sz n).l = s.l := by unfold R8.sz; split <;> rfl
  have hno : (s.sz n).no n := by
    rcases h with h | h | h | h
    · left; unfold R8.sz; split <;> simp [h]
    · left; simp [R8.sz, h]
    · left; simp [R8.sz, h]
    · right; right; rw [hl]; exact h
  constructor
  · unfold R8.numV R8.rawV; rw [if_pos hno]; rfl
  · unfold R8.numS R8.rawS; rw [if_pos hno, hl]
theorem R8.num_yes (s : R8) (k : Nat) (hb : s.bad = false) (h1 : 1 ≤ k) (h7 : k ≤ 7) (hl : k ≤ s.l.length) : s.numV k = rval (s.l.take k) ∧ s.numS k = ⟨s.l.drop k, false⟩ := by
  have hz : s.sz k = s := by unfold R8.sz; rw [if_neg (by omega)]
  have hno : ¬ s.no k := by
    intro h
    rcases h with h | h | h
    · simp [hb] at h
    · omega
    · omega
  constructor
  · unfold R8.numV R8.rawV; rw [hz, if_neg hno]; simp
  · unfold R8.numS R8.rawS; rw [hz, if_neg hno, hb]; simp

theorem refRnum (p : Nat) (v : Value) (s : R8) (n : Int) (w : World) (hw : Rdr 85 w p v s) (hlen : s.l.length ≤ 10000000) :
    Calls Try.prog 52 [.pointer (some ⟨p, 0, none⟩), .int .i64 n].toArray w (RetK fun r w' => r = .int .i64 (s.numV n) ∧ RdQ 85 p w v (s.numS n) w') := by
  obtain ⟨a, c, rfl, e1, e2, e3, e4⟩ := hw.rd
  have hc1 := hw.c1
  refine walk Try.func52 rfl (by kernel_rfl) (by rw [Try.nt52]; simp) ?_
  have hcs : s.bad = true ∨ (s.bad = false ∧ n < 1) ∨ (s.bad = false ∧ ¬ n < 1 ∧ 7 < n) ∨ (s.bad = false ∧ ¬ n < 1 ∧ ¬ 7 < n ∧ (s.l.length : Int) < n) ∨ (s.bad = false ∧ ¬ n < 1 ∧ ¬ 7 < n ∧ ¬ (s.l.length : Int) < n) := by
    cases s.bad <;> simp <;> omega
  by_cases hno : s.bad = true ∨ n < 1 ∨ 7 < n ∨ (s.l.length : Int) < n
  case pos =>
    obtain ⟨f1, f2⟩ := s.num_no n hno
    rw [f1, f2]
    rcases hcs with h | ⟨h, a1⟩ | ⟨h, a1, a2⟩ | ⟨h, a1, a2, a3⟩ | ⟨h, a1, a2, a3⟩
    case' inl =>
      rw [h] at hc1
      simp -dsimp only [↓vcA, vcB, vcD, ↓pureT_lenS, ↓iteT, ↓iteF, cond_true, cond_false, eq_self, argE, Env.get, Env.push, ev, evs, evo, retV, Value.cells, Value.oneCell', setR, overR, fillL, zl, places, allSizes, heldC, ne_eq, Int.reduceLE, Int.reduceLT, Int.reduceEq, Int.reduceNe, Int.reduceToNat, Int.cast_ofNat_Int, Nat.reduceMul, Nat.reduceLeDiff, reduceIte, Nat.reduceEqDiff, Nat.reduceAdd, ↓reduceIte, Try.vcT, hc1, hw.bk]
    case' inr.inl =>
      rw [h] at hc1
      simp -dsimp only [↓vcA, vcB, vcD, ↓pureT_lenS, ↓iteT, ↓iteF, cond_true, cond_false, eq_self, argE, Env.get, Env.push, ev, evs, evo, retV, Value.cells, Value.oneCell', setR, overR, fillL, zl, places, allSizes, heldC, ne_eq, Int.reduceLE, Int.reduceLT, Int.reduceEq, Int.reduceNe, Int.reduceToNat, Int.cast_ofNat_Int, Nat.reduceMul, Nat.reduceLeDiff, reduceIte, Nat.reduceEqDiff, Nat.reduceAdd, ↓reduceIte, Try.vcT, hc1, decide_eq_true a1, hw.bk]
    case' inr.inr.inl =>
      rw [h] at hc1
      simp -dsimp only [↓vcA, vcB, vcD, ↓pureT_lenS, ↓iteT, ↓iteF, cond_true, cond_false, eq_self, argE, Env.get, Env.push, ev, evs, evo, retV, Value.cells, Value.oneCell', setR, overR, fillL, zl, places, allSizes, heldC, ne_eq, Int.reduceLE, Int.reduceLT, Int.reduceEq, Int.reduceNe, Int.reduceToNat, Int.cast_ofNat_Int, Nat.reduceMul, Nat.reduceLeDiff, reduceIte, Nat.reduceEqDiff, Nat.reduceAdd, ↓reduceIte, Try.vcT, hc1, decide_eq_false a1, decide_eq_true a2, hw.bk]
    case' inr.inr.inr.inl =>
      rw [h] at hc1
      simp -dsimp only [↓vcA, vcB, vcD, ↓pureT_lenS, ↓iteT, ↓iteF, cond_true, cond_false, eq_self, argE, Env.get, Env.push, ev, evs, evo, retV, Value.cells, Value.oneCell', setR, overR, fillL, zl, places, allSizes, heldC, ne_eq, Int.reduceLE, Int.reduceLT, Int.reduceEq, Int.reduceNe, Int.reduceToNat, Int.cast_ofNat_Int, Nat.reduceMul, Nat.reduceLeDiff, reduceIte, Nat.reduceEqDiff, Nat.reduceAdd, ↓reduceIte, Try.vcT, hc1, decide_eq_false a1, decide_eq_false a2, decide_eq_true a3, hw.c0, hw.bk]
    case' inr.inr.inr.inr =>
      exfalso
      rcases hno with h' | h' | h' | h'
      · rw [h] at h'; cases h'
      · omega
      · omega
      · omega
    all_goals
      intro w1 p1
      obtain ⟨q1, q2⟩ := hw.put (s' := ⟨s.l, true⟩) (Chg.refl _ _) p1 hw.rd (fun _ => id) (Nat.le_refl _)
      exact ⟨_, q1, q2, fun _ => id⟩
  case neg =>
    have hb : s.bad = false := by cases h : s.bad <;> simp [h] at hno ⊢
    have a1 : ¬ n < 1 := fun h => hno (.inr (.inl h))
    have a2 : ¬ 7 < n := fun h => hno (.inr (.inr (.inl h)))
    have a3 : ¬ (s.l.length : Int) < n := fun h => hno (.inr (.inr (.inr h)))
    obtain ⟨k, rfl⟩ := Int.eq_ofNat_of_zero_le (show 0 ≤ n by omega)
    obtain ⟨f1, f2⟩ := s.num_yes k hb (by omega) (by omega) (by omega)
    rw [f1, f2]
    rw [hb] at hc1
    simp -dsimp only [↓vcA, vcB, vcD, ↓pureT_lenS, ↓iteT, ↓iteF, cond_true, cond_false, eq_self, argE, Env.get, Env.push, ev, evs, evo, retV, Value.cells, Value.oneCell', setR, overR, fillL, zl, places, allSizes, heldC, ne_eq, Int.reduceLE, Int.reduceLT, Int.reduceEq, Int.reduceNe, Int.reduceToNat, Int.cast_ofNat_Int, Nat.reduceMul, Nat.reduceLeDiff, reduceIte, Nat.reduceEqDiff, Nat.reduceAdd, ↓reduceIte, Try.vcT, hc1, decide_eq_false a1, decide_eq_false a2, decide_eq_false a3, hw.c0]
    refine walkLoop [0, 1] [6, 5] (fun q vs w' => w' = w ∧ ∃ i, i ≤ k ∧ q = k - i ∧ vs = [.int .i64 i, .int .i64 ((s.l.take i).foldl rstep 0)]) (by kernel_rfl) ?_ ?_
    · simp -dsimp only [↓vcA, vcB, vcD, ↓pureT_lenS, ↓iteT, ↓iteF, cond_true, cond_false, eq_self, argE, Env.get, Env.push, ev, evs, evo, retV, Value.cells, Value.oneCell', setR, overR, fillL, zl, places, allSizes, heldC, ne_eq, Int.reduceLE, Int.reduceLT, Int.reduceEq, Int.reduceNe, Int.reduceToNat, Int.cast_ofNat_Int, Nat.reduceMul, Nat.reduceLeDiff, reduceIte, Nat.reduceEqDiff, Nat.reduceAdd, ↓reduceIte, Try.vcT, gets]
      exact ⟨_, 0, Nat.zero_le _, rfl, by simp⟩
    · intro ks hk q vs w3 hi
      obtain ⟨rfl, i, hi, rfl, rfl⟩ := hi
      simp -dsimp only [gets, argE, List.zip_cons_cons, List.zip_nil_left, List.cons_append, List.nil_append, Env.get, Env.push, Option.bind_some, Option.map_some, Option.some.injEq, reduceIte, Nat.reduceEqDiff, Nat.reduceAdd, ↓reduceIte] at hk; subst hk
      simp -dsimp only [↓vcA, vcB, vcD, ↓pureT_lenS, ↓iteT, ↓iteF, cond_true, cond_false, eq_self, argE, Env.get, Env.push, ev, evs, evo, retV, Value.cells, Value.oneCell', setR, overR, fillL, zl, places, allSizes, heldC, ne_eq, Int.reduceLE, Int.reduceLT, Int.reduceEq, Int.reduceNe, Int.reduceToNat, Int.cast_ofNat_Int, Nat.reduceMul, Nat.reduceLeDiff, reduceIte, Nat.reduceEqDiff, Nat.reduceAdd, ↓reduceIte, Try.vcT, gets]
      refine ifK_dec (fun hlt => ?_) (fun hge => ?_)
      · obtain ⟨b, o, rfl, hcl⟩ := e4 (by omega)
        have e : IntKind.i64.wrap ((i : Int) + 1) = ((i + 1 : Nat) : Int) := by rw [i64w _ (by omega) (by omega)]; omega
        simp -dsimp only [↓vcA, vcB, vcD, ↓pureT_lenS, ↓iteT, ↓iteF, cond_true, cond_false, eq_self, argE, Env.get, Env.push, ev, evs, evo, retV, Value.cells, Value.oneCell', setR, overR, fillL, zl, places, allSizes, heldC, ne_eq, Int.reduceLE, Int.reduceLT, Int.reduceEq, Int.reduceNe, Int.reduceToNat, Int.cast_ofNat_Int, Nat.reduceMul, Nat.reduceLeDiff, reduceIte, Nat.reduceEqDiff, Nat.reduceAdd, ↓reduceIte, Try.vcT, gets, hw.c0]
        refine ⟨⟨by omega, by omega⟩, ?_⟩
        simp -dsimp only [↓vcA, vcB, vcD, ↓pureT_lenS, ↓iteT, ↓iteF, cond_true, cond_false, eq_self, argE, Env.get, Env.push, ev, evs, evo, retV, Value.cells, Value.oneCell', setR, overR, fillL, zl, places, allSizes, heldC, ne_eq, Int.reduceLE, Int.reduceLT, Int.reduceEq, Int.reduceNe, Int.reduceToNat, Int.cast_ofNat_Int, Nat.reduceMul, Nat.reduceLeDiff, reduceIte, Nat.reduceEqDiff, Nat.reduceAdd, ↓reduceIte, Try.vcT, gets, hcl i (by omega), e]
        refine ⟨_, ?_, i + 1, by omega, rfl, ?_⟩
        · omega
        · have hli : i < s.l.length := by omega
          rw [List.take_succ_eq_append_getElem hli, List.foldl_append]
          simp [rstep, List.getD, hli]
      · have hik : i = k := by omega
        subst hik
        simp -dsimp only [↓vcA, vcB, vcD, ↓pureT_lenS, ↓iteT, ↓iteF, cond_true, cond_false, eq_self, argE, Env.get, Env.push, ev, evs, evo, retV, Value.cells, Value.oneCell', setR, overR, fillL, zl, places, allSizes, heldC, ne_eq, Int.reduceLE, Int.reduceLT, Int.reduceEq, Int.reduceNe, Int.reduceToNat, Int.cast_ofNat_Int, Nat.reduceMul, Nat.reduceLeDiff, reduceIte, Nat.reduceEqDiff, Nat.reduceAdd, ↓reduceIte, Try.vcT, gets, hw.c0]
        refine ⟨⟨by omega, by omega⟩, ?_⟩
        simp -dsimp only [↓vcA, vcB, vcD, ↓pureT_lenS, ↓iteT, ↓iteF, cond_true, cond_false, eq_self, argE, Env.get, Env.push, ev, evs, evo, retV, Value.cells, Value.oneCell', setR, overR, fillL, zl, places, allSizes, heldC, ne_eq, Int.reduceLE, Int.reduceLT, Int.reduceEq, Int.reduceNe, Int.reduceToNat, Int.cast_ofNat_Int, Nat.reduceMul, Nat.reduceLeDiff, reduceIte, Nat.reduceEqDiff, Nat.reduceAdd, ↓reduceIte, Try.vcT, gets, hw.bk]
        intro w4 p4
        have hcut := hw.rd.cut (l := i) (m := s.l.length) (by omega) (Nat.le_refl _)
        rw [List.take_of_length_le (Nat.le_refl _)] at hcut
        rw [hb] at p4
        obtain ⟨q1, q2⟩ := hw.put (s' := ⟨s.l.drop i, false⟩) (Chg.refl _ _) p4 hcut (fun k hk => cutA_block hk) (by simp)
        exact ⟨rfl, _, q1, q2, fun k hk => cutA_block hk⟩

end Go.Proofs.Ytnhgjgoglmadnaa
namespace Go.Proofs.Ytnhgjgoglmadnaa
open Go.ChangeShapes Go.WideShapes Go.ChangeAt Go.RowKit Go.Deep
set_option linter.unusedVariables false
set_option maxRecDepth 100000
instance : Inhabited Prt := ⟨⟨0, 0, 0, 0, 0, 0, 0, 0, 0, 0, 0, []⟩⟩
section
variable {H : Type} {enc : TypeId × Value → H} {w : World} {base : Nat} {spare : Nat → Bool} {held : Bool}

theorem fields_of {P : Program} {t : TypeId} {fs : Array Field} {fuel : Nat} {cs : List Value} {x : DataW H × List MemPlace} (ht : P.underlying t = some (.struct fs)) (h : DataW.trod enc P w base spare held fuel t cs = some x) :
    cs.length = P.cellsOf t ∧ ∃ n, ∀ (i off ty len : Nat), (fs[i]?).map (fun f => (f.type, f.offset)) = some (ty, off) → P.cellsOf ty = len → ∃ y, DataW.trod enc P w base spare held n ty ((cs.drop off).take len) = some y := by
  obtain ⟨xs, n, _, _, h1, h2, h3⟩ := DataW.trod_struct ht h
  refine ⟨h1, n, fun i off ty len hf hlen => ?_⟩
  obtain ⟨f, hf, he⟩ := Option.map_eq_some_iff.1 hf
  have hi : i < fs.size := (Array.getElem?_eq_some_iff.1 hf).1
  injection he with e1 e2
  refine ⟨xs[i]'(by omega), ?_⟩
  rw [← hlen, ← e1, ← e2, h3 i f hf]; exact List.getElem?_eq_getElem (by omega)
theorem int_of {P : Program} {t : TypeId} {fuel : Nat} {c : Value} {x : DataW H × List MemPlace} (ht : P.underlying t = some (.int .i64)) (h : DataW.trod enc P w base spare held fuel t [c] = some x) :
    ∃ n, c = .int .i64 n ∧ -9223372036854775808 ≤ n ∧ n ≤ 9223372036854775807 := by
  obtain ⟨n, h1, _, h2⟩ := DataW.trod_int ht h
  simp [Lit.wf, IntKind.min, IntKind.max, IntKind.signed, IntKind.bits] at h2
  injection h1 with h1
  exact ⟨n, h1, h2⟩
theorem c3 : Try.prog.cellsOf 3 = 1 := by kernel_rfl
theorem c37 : Try.prog.cellsOf 37 = 2 := by kernel_rfl
theorem c39 : Try.prog.cellsOf 39 = 6 := by kernel_rfl
theorem c22 : Try.prog.cellsOf 22 = 1 := by kernel_rfl
theorem pt_of {fuel : Nat} {c d : Value} {x : DataW H × List MemPlace} (h : DataW.trod enc Try.prog w base spare held fuel 37 [c, d] = some x) :
    ∃ a b, c = .int .i64 a ∧ d = .int .i64 b ∧ (-9223372036854775808 ≤ a ∧ a ≤ 9223372036854775807) ∧ -9223372036854775808 ≤ b ∧ b ≤ 9223372036854775807 := by
  obtain ⟨_, n, hf⟩ := fields_of Try.underlying37 h
  obtain ⟨y0, h0⟩ := hf 0 0 3 1 rfl c3
  obtain ⟨y1, h1⟩ := hf 1 1 3 1 rfl c3
  obtain ⟨a, rfl, ha⟩ := int_of Try.underlying3 h0
  obtain ⟨b, rfl, hb⟩ := int_of Try.underlying3 h1
  exact ⟨a, b, rfl, rfl, ha, hb⟩
theorem bytes_of {fuel : Nat} {c : Value} {x : DataW H × List MemPlace} (h : DataW.trod enc Try.prog w base (fun _ => true) held fuel 22 [c] = some x) : ∃ xs, Rd w c xs ∧ Byt xs := by
  rcases open_ints Try.underlying22 Try.underlying5 (by kernel_rfl) h with ⟨hcs, _⟩ | ⟨x, l, cp, zs, hcs, _, hl, hm, hz, _, hcell, hwz⟩
  · injection hcs with hcs
    subst hcs
    exact rd_of_open (.inl ⟨rfl, rfl, rfl, rfl⟩ : (_ ∧ _ ∧ _ ∧ ([] : List Int) = []) ∨ _)
  · injection hcs with hcs
    subst hcs
    exact rd_of_open (.inr ⟨_, rfl, hl, hm, by simpa using hz, hcell, hwz⟩)
end
end Go.Proofs.Ytnhgjgoglmadnaa
