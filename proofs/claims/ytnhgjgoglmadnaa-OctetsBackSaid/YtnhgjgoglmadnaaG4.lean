/- The contracts of the geometry that the bytes' package reaches, 4: how a triangle is made. PRINTED by wip/gen_G4.py. -/
import Derived.Test.YtnhgjgoglmadnaaG3
namespace Go.Proofs.Ytnhgjgoglmadnaa
open Go.RowKit
set_option maxRecDepth 100000
set_option linter.unusedSimpArgs false
set_option linter.unusedVariables false
set_option pp.maxSteps 1500
set_option pp.deepTerms.threshold 8

theorem cmp2_pos (x y x' y' : Int) : 0 < cmp2 x y x' y' ↔ (x' < x ∨ x = x' ∧ y' < y) := by
  unfold cmp2 cmpI
  split <;> split <;> (try split) <;> (try split) <;> omega
theorem cmp2_neg (x y x' y' : Int) : cmp2 x y x' y' < 0 ↔ (x < x' ∨ x = x' ∧ y < y') := by
  unfold cmp2 cmpI
  split <;> split <;> (try split) <;> (try split) <;> omega
/-- the first of three points is not the least -/
def later (ax ay bx by' cx cy : Int) : Prop := (bx < ax ∨ ax = bx ∧ by' < ay) ∨ (cx < ax ∨ ax = cx ∧ cy < ay)
instance (ax ay bx by' cx cy : Int) : Decidable (later ax ay bx by' cx cy) := by unfold later; infer_instance
theorem later3 {ax ay bx by' cx cy : Int} (h1 : later ax ay bx by' cx cy) (h2 : later bx by' cx cy ax ay) (h3 : later cx cy ax ay bx by') : False := by
  unfold later at *
  omega
/-- Three points. -/
structure T3 where
  ax : Int
  ay : Int
  bx : Int
  by' : Int
  cx : Int
  cy : Int
def T3.turn (t : T3) : T3 := ⟨t.bx, t.by', t.cx, t.cy, t.ax, t.ay⟩
def T3.swap (t : T3) : T3 := ⟨t.ax, t.ay, t.cx, t.cy, t.bx, t.by'⟩
def T3.late (t : T3) : Prop := later t.ax t.ay t.bx t.by' t.cx t.cy
instance (t : T3) : Decidable t.late := by unfold T3.late; infer_instance
def T3.rot (t : T3) : T3 := if t.late then t.turn else t
def T3.cells (t : T3) : List Value := [.int .i64 t.ax, .int .i64 t.ay, .int .i64 t.bx, .int .i64 t.by', .int .i64 t.cx, .int .i64 t.cy]
def T3.or (t : T3) : Int := orientI t.ax t.ay t.bx t.by' t.cx t.cy
def T3.first (t : T3) : T3 := if t.or = -1 then t.swap else t
def T3.mk' (t : T3) : T3 := if t.or = 0 then ⟨0, 0, 0, 0, 0, 0⟩ else t.first.rot.rot
def T3.ok (t : T3) : Bool := !decide (t.or = 0)
theorem T3.rot_of (t : T3) (j : Nat) (u : T3) (hj : (j = 0 ∧ u = t) ∨ (j = 1 ∧ u = t.turn ∧ t.late) ∨ (j = 2 ∧ u = t.turn.turn ∧ t.late ∧ t.turn.late)) (hu : ¬ u.late) : t.rot.rot = u := by
  rcases hj with ⟨_, rfl⟩ | ⟨_, rfl, h1⟩ | ⟨_, rfl, h1, h2⟩
  · simp [T3.rot, hu]
  · simp [T3.rot, hu, h1]
  · simp [T3.rot, h1, h2]
theorem T3.last (t : T3) (h1 : t.late) (h2 : t.turn.late) : ¬ t.turn.turn.late := fun h3 => later3 h1 h2 h3

theorem make136 (t : T3) (w : World) : Calls Try.prog 136 [.agg #[.int .i64 t.ax, .int .i64 t.ay], .agg #[.int .i64 t.bx, .int .i64 t.by'], .agg #[.int .i64 t.cx, .int .i64 t.cy]].toArray w
    (RetP (.tuple #[.agg t.mk'.cells.toArray, .bool t.ok]) w) := by
  refine walk Try.func136 rfl (by kernel_rfl) (by rw [Try.nt136]; simp) ?_
  simp -dsimp only [↓vcA, vcB, vcD, ↓pureT_lenS, ↓iteT, ↓iteF, cond_true, cond_false, eq_self, argE, Env.get, Env.push, ev, evs, evo, retV, Value.cells, Value.oneCell', setR, overR, fillL, zl, places, allSizes, heldC, ne_eq, Int.reduceLE, Int.reduceLT, Int.reduceEq, Int.reduceNe, Int.reduceToNat, Int.cast_ofNat_Int, Nat.reduceMul, Nat.reduceLeDiff, reduceIte, Nat.reduceEqDiff, Nat.reduceAdd, ↓reduceIte, Try.vcT]
  intro w1 b3 n1 w2 b4 n2 w3 b5 n3 w4 b6 n4
  have h3 := chg_blk n4.chg (chg_blk n3.chg (chg_blk n2.chg n1.blkOf))
  have h4 := chg_blk n4.chg (chg_blk n3.chg n2.blkOf)
  have h5 := chg_blk n4.chg n3.blkOf
  have c14 := ((n1.chg.seq n2.chg).seq n3.chg).seq n4.chg
  have F4 : Fr w.heap.size w w4 := ⟨Nat.le_refl _, c14.mono fun _ f => f.elim⟩
  have q1 := n1.eq; have q2 := n2.eq; have q3 := n3.eq; have q4 := n4.eq
  have z1 := n1.size; have z2 := n2.size; have z3 := n3.size
  have m34 : b3 < b4 := by omega
  have m45 : b4 < b5 := by omega
  have m56 : b5 < b6 := by omega
  have m3 : w.heap.size ≤ b3 := by omega
  clear q1 q2 q3 q4 z1 z2 z3
  simp -dsimp only [↓vcA, vcB, vcD, ↓pureT_lenS, ↓iteT, ↓iteF, cond_true, cond_false, eq_self, argE, Env.get, Env.push, ev, evs, evo, retV, Value.cells, Value.oneCell', setR, overR, fillL, zl, places, allSizes, heldC, ne_eq, Int.reduceLE, Int.reduceLT, Int.reduceEq, Int.reduceNe, Int.reduceToNat, Int.cast_ofNat_Int, Nat.reduceMul, Nat.reduceLeDiff, reduceIte, Nat.reduceEqDiff, Nat.reduceAdd, ↓reduceIte, Try.vcT, cell_of_blkOf h3, cell_of_blkOf h4, cell_of_blkOf h5, cellsAt]
  refine callsK_new (orient142 _ _ _ _ _ _ w4) ?_
  intro w5 c5
  have F5 := F4.nil c5
  have k3 := chg_blk c5 h3
  have k4 := chg_blk c5 h4
  have k5 := chg_blk c5 h5
  have k6 := chg_blk c5 n4.blkOf
  have er : orientI t.ax t.ay t.bx t.by' t.cx t.cy = t.or := rfl
  rw [er]
  by_cases ho : t.or = 0
  · simp -dsimp only [↓vcA, vcB, vcD, ↓pureT_lenS, ↓iteT, ↓iteF, cond_true, cond_false, eq_self, argE, Env.get, Env.push, ev, evs, evo, retV, Value.cells, Value.oneCell', setR, overR, fillL, zl, places, allSizes, heldC, ne_eq, Int.reduceLE, Int.reduceLT, Int.reduceEq, Int.reduceNe, Int.reduceToNat, Int.cast_ofNat_Int, Nat.reduceMul, Nat.reduceLeDiff, reduceIte, Nat.reduceEqDiff, Nat.reduceAdd, ↓reduceIte, Try.vcT, decide_eq_true ho, k6]
    intro w6 p6
    simp -dsimp only [↓vcA, vcB, vcD, ↓pureT_lenS, ↓iteT, ↓iteF, cond_true, cond_false, eq_self, argE, Env.get, Env.push, ev, evs, evo, retV, Value.cells, Value.oneCell', setR, overR, fillL, zl, places, allSizes, heldC, ne_eq, Int.reduceLE, Int.reduceLT, Int.reduceEq, Int.reduceNe, Int.reduceToNat, Int.cast_ofNat_Int, Nat.reduceMul, Nat.reduceLeDiff, reduceIte, Nat.reduceEqDiff, Nat.reduceAdd, ↓reduceIte, Try.vcT, p6.cell, cellsAt]
    exact ⟨by simp [T3.mk', T3.cells, T3.ok, ho], (F5.one p6.chg (by omega)).done⟩
  have hmk : t.mk' = t.first.rot.rot := by simp [T3.mk', ho]
  have hok : t.ok = true := by simp [T3.ok, ho]
  rw [hmk, hok]
  generalize hs : t.first = s
  by_cases h1 : t.or = -1
  case' pos =>
    simp -dsimp only [↓vcA, vcB, vcD, ↓pureT_lenS, ↓iteT, ↓iteF, cond_true, cond_false, eq_self, argE, Env.get, Env.push, ev, evs, evo, retV, Value.cells, Value.oneCell', setR, overR, fillL, zl, places, allSizes, heldC, ne_eq, Int.reduceLE, Int.reduceLT, Int.reduceEq, Int.reduceNe, Int.reduceToNat, Int.cast_ofNat_Int, Nat.reduceMul, Nat.reduceLeDiff, reduceIte, Nat.reduceEqDiff, Nat.reduceAdd, ↓reduceIte, Try.vcT, decide_eq_false ho, decide_eq_true h1, cell_of_blkOf k4, cell_of_blkOf k5, cellsAt, k4, k5]
    intro w6 p6
    have f5 := p6.chg.blkOf k5 (by omega)
    simp -dsimp only [↓vcA, vcB, vcD, ↓pureT_lenS, ↓iteT, ↓iteF, cond_true, cond_false, eq_self, argE, Env.get, Env.push, ev, evs, evo, retV, Value.cells, Value.oneCell', setR, overR, fillL, zl, places, allSizes, heldC, ne_eq, Int.reduceLE, Int.reduceLT, Int.reduceEq, Int.reduceNe, Int.reduceToNat, Int.cast_ofNat_Int, Nat.reduceMul, Nat.reduceLeDiff, reduceIte, Nat.reduceEqDiff, Nat.reduceAdd, ↓reduceIte, Try.vcT, f5]
    intro w7 p7
    have hs' : s = t.swap := by rw [← hs]; simp [T3.first, h1]
    have FL : Fr w.heap.size w w7 := (F5.one p6.chg (by omega)).one p7.chg (by omega)
    have K3 : blkOf w7 b3 = some ([.int .i64 s.ax, .int .i64 s.ay], 37) := by rw [hs']; exact p7.chg.blkOf (p6.chg.blkOf k3 (by omega)) (by omega)
    have K4 : blkOf w7 b4 = some ([.int .i64 s.bx, .int .i64 s.by'], 37) := by rw [hs']; exact p7.chg.blkOf p6.blkOf (by omega)
    have K5 : blkOf w7 b5 = some ([.int .i64 s.cx, .int .i64 s.cy], 37) := by rw [hs']; exact p7.blkOf
    have K6 := p7.chg.blkOf (p6.chg.blkOf k6 (by omega)) (by omega)
  case' neg =>
    simp -dsimp only [↓vcA, vcB, vcD, ↓pureT_lenS, ↓iteT, ↓iteF, cond_true, cond_false, eq_self, argE, Env.get, Env.push, ev, evs, evo, retV, Value.cells, Value.oneCell', setR, overR, fillL, zl, places, allSizes, heldC, ne_eq, Int.reduceLE, Int.reduceLT, Int.reduceEq, Int.reduceNe, Int.reduceToNat, Int.cast_ofNat_Int, Nat.reduceMul, Nat.reduceLeDiff, reduceIte, Nat.reduceEqDiff, Nat.reduceAdd, ↓reduceIte, Try.vcT, decide_eq_false ho, decide_eq_false h1]
    have hs' : s = t := by rw [← hs]; simp [T3.first, h1]
    have FL := F5
    have K3 : blkOf w5 b3 = some ([.int .i64 s.ax, .int .i64 s.ay], 37) := by rw [hs']; exact k3
    have K4 : blkOf w5 b4 = some ([.int .i64 s.bx, .int .i64 s.by'], 37) := by rw [hs']; exact k4
    have K5 : blkOf w5 b5 = some ([.int .i64 s.cx, .int .i64 s.cy], 37) := by rw [hs']; exact k5
    have K6 := k6
  all_goals
    clear k3 k4 k5 k6 h3 h4 h5 hs'
    refine walkLoop [3, 4, 5, 6] [] (fun q vs w' => vs = [] ∧ ∃ j u, ((j = 0 ∧ u = s) ∨ (j = 1 ∧ u = s.turn ∧ s.late) ∨ (j = 2 ∧ u = s.turn.turn ∧ s.late ∧ s.turn.late)) ∧ q = 3 - j ∧ Fr w.heap.size w w' ∧
      blkOf w' b3 = some ([.int .i64 u.ax, .int .i64 u.ay], 37) ∧ blkOf w' b4 = some ([.int .i64 u.bx, .int .i64 u.by'], 37) ∧ blkOf w' b5 = some ([.int .i64 u.cx, .int .i64 u.cy], 37) ∧
      ∃ z0 z1 z2 z3 z4 z5, blkOf w' b6 = some ([z0, z1, z2, z3, z4, z5], 39)) (by kernel_rfl) ?_ ?_
    · simp -dsimp only [↓vcA, vcB, vcD, ↓pureT_lenS, ↓iteT, ↓iteF, cond_true, cond_false, eq_self, argE, Env.get, Env.push, ev, evs, evo, retV, Value.cells, Value.oneCell', setR, overR, fillL, zl, places, allSizes, heldC, ne_eq, Int.reduceLE, Int.reduceLT, Int.reduceEq, Int.reduceNe, Int.reduceToNat, Int.cast_ofNat_Int, Nat.reduceMul, Nat.reduceLeDiff, reduceIte, Nat.reduceEqDiff, Nat.reduceAdd, ↓reduceIte, Try.vcT, gets]
      exact ⟨_, 0, s, .inl ⟨rfl, rfl⟩, rfl, FL, K3, K4, K5, _, _, _, _, _, _, K6⟩
    · intro ks hk q vs wr hi
      obtain ⟨rfl, j, u, hju, rfl, Fu, U3, U4, U5, z0, z1, z2, z3, z4, z5, U6⟩ := hi
      simp -dsimp only [gets, argE, List.zip_cons_cons, List.zip_nil_left, List.cons_append, List.nil_append, Env.get, Env.push, Option.bind_some, Option.map_some, Option.some.injEq, reduceIte, Nat.reduceEqDiff, Nat.reduceAdd, ↓reduceIte] at hk; subst hk
      simp -dsimp only [↓vcA, vcB, vcD, ↓pureT_lenS, ↓iteT, ↓iteF, cond_true, cond_false, eq_self, argE, Env.get, Env.push, ev, evs, evo, retV, Value.cells, Value.oneCell', setR, overR, fillL, zl, places, allSizes, heldC, ne_eq, Int.reduceLE, Int.reduceLT, Int.reduceEq, Int.reduceNe, Int.reduceToNat, Int.cast_ofNat_Int, Nat.reduceMul, Nat.reduceLeDiff, reduceIte, Nat.reduceEqDiff, Nat.reduceAdd, ↓reduceIte, Try.vcT, gets, cell_of_blkOf U3, cell_of_blkOf U4, cellsAt]
      refine callsK_new (cmp143 u.ax u.ay u.bx u.by' wr) ?_
      intro wc cc
      have Fc := Fu.nil cc
      have V3 := chg_blk cc U3
      have V4 := chg_blk cc U4
      have V5 := chg_blk cc U5
      have V6 := chg_blk cc U6
      have key : u.late → ∃ j', 3 - j' < 3 - j ∧ ((j' = 0 ∧ u.turn = s) ∨ (j' = 1 ∧ u.turn = s.turn ∧ s.late) ∨ (j' = 2 ∧ u.turn = s.turn.turn ∧ s.late ∧ s.turn.late)) := fun hl => by
        rcases hju with ⟨rfl, rfl⟩ | ⟨rfl, rfl, g1⟩ | ⟨rfl, rfl, g1, g2⟩
        · exact ⟨1, by decide, .inr (.inl ⟨rfl, rfl, hl⟩)⟩
        · exact ⟨2, by decide, .inr (.inr ⟨rfl, rfl, g1, hl⟩)⟩
        · exact absurd hl (T3.last s g1 g2)
      by_cases e1 : 0 < cmp2 u.ax u.ay u.bx u.by'
      case' pos =>
        have hl : u.late := by unfold T3.late later; have := (cmp2_pos _ _ _ _).1 e1; omega
        simp -dsimp only [↓vcA, vcB, vcD, ↓pureT_lenS, ↓iteT, ↓iteF, cond_true, cond_false, eq_self, argE, Env.get, Env.push, ev, evs, evo, retV, Value.cells, Value.oneCell', setR, overR, fillL, zl, places, allSizes, heldC, ne_eq, Int.reduceLE, Int.reduceLT, Int.reduceEq, Int.reduceNe, Int.reduceToNat, Int.cast_ofNat_Int, Nat.reduceMul, Nat.reduceLeDiff, reduceIte, Nat.reduceEqDiff, Nat.reduceAdd, ↓reduceIte, Try.vcT, gets, decide_eq_true e1]
      case' neg =>
        simp -dsimp only [↓vcA, vcB, vcD, ↓pureT_lenS, ↓iteT, ↓iteF, cond_true, cond_false, eq_self, argE, Env.get, Env.push, ev, evs, evo, retV, Value.cells, Value.oneCell', setR, overR, fillL, zl, places, allSizes, heldC, ne_eq, Int.reduceLE, Int.reduceLT, Int.reduceEq, Int.reduceNe, Int.reduceToNat, Int.cast_ofNat_Int, Nat.reduceMul, Nat.reduceLeDiff, reduceIte, Nat.reduceEqDiff, Nat.reduceAdd, ↓reduceIte, Try.vcT, gets, decide_eq_false e1, cell_of_blkOf V3, cell_of_blkOf V5, cellsAt]
        refine callsK_new (cmp143 u.ax u.ay u.cx u.cy wc) ?_
        intro wd cd
        have W3 := chg_blk cd V3
        have W4 := chg_blk cd V4
        have W5 := chg_blk cd V5
        have W6 := chg_blk cd V6
        have Fd := Fc.nil cd
        clear V3 V4 V5 V6 Fc
        by_cases e2 : 0 < cmp2 u.ax u.ay u.cx u.cy
        case' neg =>
          have hnl : ¬ u.late := by
            unfold T3.late later
            have g1 := mt (cmp2_pos _ _ _ _).2 e1
            have g2 := mt (cmp2_pos _ _ _ _).2 e2
            omega
          have hrr := T3.rot_of s j u hju hnl
          simp -dsimp only [↓vcA, vcB, vcD, ↓pureT_lenS, ↓iteT, ↓iteF, cond_true, cond_false, eq_self, argE, Env.get, Env.push, ev, evs, evo, retV, Value.cells, Value.oneCell', setR, overR, fillL, zl, places, allSizes, heldC, ne_eq, Int.reduceLE, Int.reduceLT, Int.reduceEq, Int.reduceNe, Int.reduceToNat, Int.cast_ofNat_Int, Nat.reduceMul, Nat.reduceLeDiff, reduceIte, Nat.reduceEqDiff, Nat.reduceAdd, ↓reduceIte, Try.vcT, gets, decide_eq_false e2, cell_of_blkOf W3, cell_of_blkOf W4, cell_of_blkOf W5, cellsAt, W6]
          intro we pe
          try simp -dsimp only [↓vcA, vcB, vcD, ↓pureT_lenS, ↓iteT, ↓iteF, cond_true, cond_false, eq_self, argE, Env.get, Env.push, ev, evs, evo, retV, Value.cells, Value.oneCell', setR, overR, fillL, zl, places, allSizes, heldC, ne_eq, Int.reduceLE, Int.reduceLT, Int.reduceEq, Int.reduceNe, Int.reduceToNat, Int.cast_ofNat_Int, Nat.reduceMul, Nat.reduceLeDiff, reduceIte, Nat.reduceEqDiff, Nat.reduceAdd, ↓reduceIte, Try.vcT, gets, pe.cell, cellsAt]
          rw [hrr]
          exact ⟨rfl, (Fd.one pe.chg (by omega)).done⟩
        case' pos =>
          have hl : u.late := by unfold T3.late later; have := (cmp2_pos _ _ _ _).1 e2; omega
          have V3 := W3
          have V4 := W4
          have V5 := W5
          have V6 := W6
          have Fc := Fd
          clear W3 W4 W5 W6 Fd
          simp -dsimp only [↓vcA, vcB, vcD, ↓pureT_lenS, ↓iteT, ↓iteF, cond_true, cond_false, eq_self, argE, Env.get, Env.push, ev, evs, evo, retV, Value.cells, Value.oneCell', setR, overR, fillL, zl, places, allSizes, heldC, ne_eq, Int.reduceLE, Int.reduceLT, Int.reduceEq, Int.reduceNe, Int.reduceToNat, Int.cast_ofNat_Int, Nat.reduceMul, Nat.reduceLeDiff, reduceIte, Nat.reduceEqDiff, Nat.reduceAdd, ↓reduceIte, Try.vcT, gets, decide_eq_true e2]
          clear cc cd
          revert V3 V4 V5 V6 Fc
          generalize wd = wc
          intro V3 V4 V5 V6 Fc
      all_goals
        obtain ⟨j', hj', hju'⟩ := key hl
        clear key e1
        refine walkDraw (.lll 0 (.ll 1 (.l 2 (.l 3 (.l 4 (.l 5 .fin)))) 2 (.ll 1 (.l 3 (.l 4 (.l 5 .fin))) 3 (.l 1 (.l 4 (.l 5 .fin))))) 1 (.ll 0 (.l 2 (.l 3 (.l 4 (.l 5 .fin)))) 2 (.l 0 (.l 3 (.l 4 (.l 5 .fin))))) 2 (.ll 0 (.ll 1 (.l 3 (.l 4 (.l 5 .fin))) 3 (.l 1 (.l 4 (.l 5 .fin)))) 1 (.l 0 (.l 3 (.l 4 (.l 5 .fin)))))) [] (by kernel_rfl) (by simp [Holds_nil]) ?_
        intro wx ex cx
        have X3 := chg_blk cx V3
        have X4 := chg_blk cx V4
        have X5 := chg_blk cx V5
        have X6 := chg_blk cx V6
        have Fx := Fc.nil cx
        simp -dsimp only [↓vcA, vcB, vcD, ↓pureT_lenS, ↓iteT, ↓iteF, cond_true, cond_false, eq_self, argE, Env.get, Env.push, ev, evs, evo, retV, Value.cells, Value.oneCell', setR, overR, fillL, zl, places, allSizes, heldC, ne_eq, Int.reduceLE, Int.reduceLT, Int.reduceEq, Int.reduceNe, Int.reduceToNat, Int.cast_ofNat_Int, Nat.reduceMul, Nat.reduceLeDiff, reduceIte, Nat.reduceEqDiff, Nat.reduceAdd, ↓reduceIte, Try.vcT, Holds_nil, cell_of_blkOf X3, cell_of_blkOf X4, cell_of_blkOf X5, cellsAt, X3]
        repeat' apply And.intro
        all_goals
          intro wy py
          have Y3 := py.blkOf
          have Y4 := py.chg.blkOf X4 (by omega)
          have Y5 := py.chg.blkOf X5 (by omega)
          have Y6 := py.chg.blkOf X6 (by omega)
          try simp -dsimp only [↓vcA, vcB, vcD, ↓pureT_lenS, ↓iteT, ↓iteF, cond_true, cond_false, eq_self, argE, Env.get, Env.push, ev, evs, evo, retV, Value.cells, Value.oneCell', setR, overR, fillL, zl, places, allSizes, heldC, ne_eq, Int.reduceLE, Int.reduceLT, Int.reduceEq, Int.reduceNe, Int.reduceToNat, Int.cast_ofNat_Int, Nat.reduceMul, Nat.reduceLeDiff, reduceIte, Nat.reduceEqDiff, Nat.reduceAdd, ↓reduceIte, Try.vcT, Holds_nil, cell_of_blkOf Y5, cellsAt, Y4]
          intro wz pz
          have Z3 := pz.chg.blkOf Y3 (by omega)
          have Z4 := pz.blkOf
          have Z5 := pz.chg.blkOf Y5 (by omega)
          have Z6 := pz.chg.blkOf Y6 (by omega)
          try simp -dsimp only [↓vcA, vcB, vcD, ↓pureT_lenS, ↓iteT, ↓iteF, cond_true, cond_false, eq_self, argE, Env.get, Env.push, ev, evs, evo, retV, Value.cells, Value.oneCell', setR, overR, fillL, zl, places, allSizes, heldC, ne_eq, Int.reduceLE, Int.reduceLT, Int.reduceEq, Int.reduceNe, Int.reduceToNat, Int.cast_ofNat_Int, Nat.reduceMul, Nat.reduceLeDiff, reduceIte, Nat.reduceEqDiff, Nat.reduceAdd, ↓reduceIte, Try.vcT, Holds_nil, Z5]
          intro wq pq
          try simp -dsimp only [↓vcA, vcB, vcD, ↓pureT_lenS, ↓iteT, ↓iteF, cond_true, cond_false, eq_self, argE, Env.get, Env.push, ev, evs, evo, retV, Value.cells, Value.oneCell', setR, overR, fillL, zl, places, allSizes, heldC, ne_eq, Int.reduceLE, Int.reduceLT, Int.reduceEq, Int.reduceNe, Int.reduceToNat, Int.cast_ofNat_Int, Nat.reduceMul, Nat.reduceLeDiff, reduceIte, Nat.reduceEqDiff, Nat.reduceAdd, ↓reduceIte, Try.vcT, gets, Holds_nil]
          exact ⟨_, hj', j', u.turn, hju', rfl, ((Fx.one py.chg (by omega)).one pz.chg (by omega)).one pq.chg (by omega), pq.chg.blkOf Z3 (by omega), pq.chg.blkOf Z4 (by omega), pq.blkOf, _, _, _, _, _, _, pq.chg.blkOf Z6 (by omega)⟩
theorem make78 (t : T3) (w : World) : Calls Try.prog 78 [.agg #[.int .i64 t.ax, .int .i64 t.ay], .agg #[.int .i64 t.bx, .int .i64 t.by'], .agg #[.int .i64 t.cx, .int .i64 t.cy]].toArray w
    (RetP (.tuple #[.agg t.mk'.cells.toArray, .bool t.ok]) w) := by
  refine walk Try.func78 rfl (by kernel_rfl) (by rw [Try.nt78]; simp) ?_
  simp -dsimp only [↓vcA, vcB, vcD, ↓pureT_lenS, ↓iteT, ↓iteF, cond_true, cond_false, eq_self, argE, Env.get, Env.push, ev, evs, evo, retV, Value.cells, Value.oneCell', setR, overR, fillL, zl, places, allSizes, heldC, ne_eq, Int.reduceLE, Int.reduceLT, Int.reduceEq, Int.reduceNe, Int.reduceToNat, Int.cast_ofNat_Int, Nat.reduceMul, Nat.reduceLeDiff, reduceIte, Nat.reduceEqDiff, Nat.reduceAdd, ↓reduceIte, Try.vcT]
  intro w1 b3 n1 w2 b4 n2 w3 b5 n3 w4 b6 n4
  have h3 := chg_blk n4.chg (chg_blk n3.chg (chg_blk n2.chg n1.blkOf))
  have h4 := chg_blk n4.chg (chg_blk n3.chg n2.blkOf)
  have h5 := chg_blk n4.chg n3.blkOf
  have c14 := ((n1.chg.seq n2.chg).seq n3.chg).seq n4.chg
  have F4 : Fr w.heap.size w w4 := ⟨Nat.le_refl _, c14.mono fun _ f => f.elim⟩
  have q1 := n1.eq; have q2 := n2.eq; have q3 := n3.eq; have q4 := n4.eq
  have z1 := n1.size; have z2 := n2.size; have z3 := n3.size
  have m34 : b3 < b4 := by omega
  have m45 : b4 < b5 := by omega
  have m56 : b5 < b6 := by omega
  have m3 : w.heap.size ≤ b3 := by omega
  clear q1 q2 q3 q4 z1 z2 z3
  simp -dsimp only [↓vcA, vcB, vcD, ↓pureT_lenS, ↓iteT, ↓iteF, cond_true, cond_false, eq_self, argE, Env.get, Env.push, ev, evs, evo, retV, Value.cells, Value.oneCell', setR, overR, fillL, zl, places, allSizes, heldC, ne_eq, Int.reduceLE, Int.reduceLT, Int.reduceEq, Int.reduceNe, Int.reduceToNat, Int.cast_ofNat_Int, Nat.reduceMul, Nat.reduceLeDiff, reduceIte, Nat.reduceEqDiff, Nat.reduceAdd, ↓reduceIte, Try.vcT, cell_of_blkOf h3, cell_of_blkOf h4, cell_of_blkOf h5, cellsAt]
  refine callsK_new (orient134 _ _ _ _ _ _ w4) ?_
  intro w5 c5
  have F5 := F4.nil c5
  have k3 := chg_blk c5 h3
  have k4 := chg_blk c5 h4
  have k5 := chg_blk c5 h5
  have k6 := chg_blk c5 n4.blkOf
  have er : orientI t.ax t.ay t.bx t.by' t.cx t.cy = t.or := rfl
  rw [er]
  by_cases ho : t.or = 0
  · simp -dsimp only [↓vcA, vcB, vcD, ↓pureT_lenS, ↓iteT, ↓iteF, cond_true, cond_false, eq_self, argE, Env.get, Env.push, ev, evs, evo, retV, Value.cells, Value.oneCell', setR, overR, fillL, zl, places, allSizes, heldC, ne_eq, Int.reduceLE, Int.reduceLT, Int.reduceEq, Int.reduceNe, Int.reduceToNat, Int.cast_ofNat_Int, Nat.reduceMul, Nat.reduceLeDiff, reduceIte, Nat.reduceEqDiff, Nat.reduceAdd, ↓reduceIte, Try.vcT, decide_eq_true ho, k6]
    intro w6 p6
    simp -dsimp only [↓vcA, vcB, vcD, ↓pureT_lenS, ↓iteT, ↓iteF, cond_true, cond_false, eq_self, argE, Env.get, Env.push, ev, evs, evo, retV, Value.cells, Value.oneCell', setR, overR, fillL, zl, places, allSizes, heldC, ne_eq, Int.reduceLE, Int.reduceLT, Int.reduceEq, Int.reduceNe, Int.reduceToNat, Int.cast_ofNat_Int, Nat.reduceMul, Nat.reduceLeDiff, reduceIte, Nat.reduceEqDiff, Nat.reduceAdd, ↓reduceIte, Try.vcT, p6.cell, cellsAt]
    exact ⟨by simp [T3.mk', T3.cells, T3.ok, ho], (F5.one p6.chg (by omega)).done⟩
  have hmk : t.mk' = t.first.rot.rot := by simp [T3.mk', ho]
  have hok : t.ok = true := by simp [T3.ok, ho]
  rw [hmk, hok]
  generalize hs : t.first = s
  by_cases h1 : t.or = -1
  case' pos =>
    simp -dsimp only [↓vcA, vcB, vcD, ↓pureT_lenS, ↓iteT, ↓iteF, cond_true, cond_false, eq_self, argE, Env.get, Env.push, ev, evs, evo, retV, Value.cells, Value.oneCell', setR, overR, fillL, zl, places, allSizes, heldC, ne_eq, Int.reduceLE, Int.reduceLT, Int.reduceEq, Int.reduceNe, Int.reduceToNat, Int.cast_ofNat_Int, Nat.reduceMul, Nat.reduceLeDiff, reduceIte, Nat.reduceEqDiff, Nat.reduceAdd, ↓reduceIte, Try.vcT, decide_eq_false ho, decide_eq_true h1, cell_of_blkOf k4, cell_of_blkOf k5, cellsAt, k4, k5]
    intro w6 p6
    have f5 := p6.chg.blkOf k5 (by omega)
    simp -dsimp only [↓vcA, vcB, vcD, ↓pureT_lenS, ↓iteT, ↓iteF, cond_true, cond_false, eq_self, argE, Env.get, Env.push, ev, evs, evo, retV, Value.cells, Value.oneCell', setR, overR, fillL, zl, places, allSizes, heldC, ne_eq, Int.reduceLE, Int.reduceLT, Int.reduceEq, Int.reduceNe, Int.reduceToNat, Int.cast_ofNat_Int, Nat.reduceMul, Nat.reduceLeDiff, reduceIte, Nat.reduceEqDiff, Nat.reduceAdd, ↓reduceIte, Try.vcT, f5]
    intro w7 p7
    have hs' : s = t.swap := by rw [← hs]; simp [T3.first, h1]
    have FL : Fr w.heap.size w w7 := (F5.one p6.chg (by omega)).one p7.chg (by omega)
    have K3 : blkOf w7 b3 = some ([.int .i64 s.ax, .int .i64 s.ay], 37) := by rw [hs']; exact p7.chg.blkOf (p6.chg.blkOf k3 (by omega)) (by omega)
    have K4 : blkOf w7 b4 = some ([.int .i64 s.bx, .int .i64 s.by'], 37) := by rw [hs']; exact p7.chg.blkOf p6.blkOf (by omega)
    have K5 : blkOf w7 b5 = some ([.int .i64 s.cx, .int .i64 s.cy], 37) := by rw [hs']; exact p7.blkOf
    have K6 := p7.chg.blkOf (p6.chg.blkOf k6 (by omega)) (by omega)
  case' neg =>
    simp -dsimp only [↓vcA, vcB, vcD, ↓pureT_lenS, ↓iteT, ↓iteF, cond_true, cond_false, eq_self, argE, Env.get, Env.push, ev, evs, evo, retV, Value.cells, Value.oneCell', setR, overR, fillL, zl, places, allSizes, heldC, ne_eq, Int.reduceLE, Int.reduceLT, Int.reduceEq, Int.reduceNe, Int.reduceToNat, Int.cast_ofNat_Int, Nat.reduceMul, Nat.reduceLeDiff, reduceIte, Nat.reduceEqDiff, Nat.reduceAdd, ↓reduceIte, Try.vcT, decide_eq_false ho, decide_eq_false h1]
    have hs' : s = t := by rw [← hs]; simp [T3.first, h1]
    have FL := F5
    have K3 : blkOf w5 b3 = some ([.int .i64 s.ax, .int .i64 s.ay], 37) := by rw [hs']; exact k3
    have K4 : blkOf w5 b4 = some ([.int .i64 s.bx, .int .i64 s.by'], 37) := by rw [hs']; exact k4
    have K5 : blkOf w5 b5 = some ([.int .i64 s.cx, .int .i64 s.cy], 37) := by rw [hs']; exact k5
    have K6 := k6
  all_goals
    clear k3 k4 k5 k6 h3 h4 h5 hs'
    refine walkLoop [3, 4, 5, 6] [] (fun q vs w' => vs = [] ∧ ∃ j u, ((j = 0 ∧ u = s) ∨ (j = 1 ∧ u = s.turn ∧ s.late) ∨ (j = 2 ∧ u = s.turn.turn ∧ s.late ∧ s.turn.late)) ∧ q = 3 - j ∧ Fr w.heap.size w w' ∧
      blkOf w' b3 = some ([.int .i64 u.ax, .int .i64 u.ay], 37) ∧ blkOf w' b4 = some ([.int .i64 u.bx, .int .i64 u.by'], 37) ∧ blkOf w' b5 = some ([.int .i64 u.cx, .int .i64 u.cy], 37) ∧
      ∃ z0 z1 z2 z3 z4 z5, blkOf w' b6 = some ([z0, z1, z2, z3, z4, z5], 39)) (by kernel_rfl) ?_ ?_
    · simp -dsimp only [↓vcA, vcB, vcD, ↓pureT_lenS, ↓iteT, ↓iteF, cond_true, cond_false, eq_self, argE, Env.get, Env.push, ev, evs, evo, retV, Value.cells, Value.oneCell', setR, overR, fillL, zl, places, allSizes, heldC, ne_eq, Int.reduceLE, Int.reduceLT, Int.reduceEq, Int.reduceNe, Int.reduceToNat, Int.cast_ofNat_Int, Nat.reduceMul, Nat.reduceLeDiff, reduceIte, Nat.reduceEqDiff, Nat.reduceAdd, ↓reduceIte, Try.vcT, gets]
      exact ⟨_, 0, s, .inl ⟨rfl, rfl⟩, rfl, FL, K3, K4, K5, _, _, _, _, _, _, K6⟩
    · intro ks hk q vs wr hi
      obtain ⟨rfl, j, u, hju, rfl, Fu, U3, U4, U5, z0, z1, z2, z3, z4, z5, U6⟩ := hi
      simp -dsimp only [gets, argE, List.zip_cons_cons, List.zip_nil_left, List.cons_append, List.nil_append, Env.get, Env.push, Option.bind_some, Option.map_some, Option.some.injEq, reduceIte, Nat.reduceEqDiff, Nat.reduceAdd, ↓reduceIte] at hk; subst hk
      simp -dsimp only [↓vcA, vcB, vcD, ↓pureT_lenS, ↓iteT, ↓iteF, cond_true, cond_false, eq_self, argE, Env.get, Env.push, ev, evs, evo, retV, Value.cells, Value.oneCell', setR, overR, fillL, zl, places, allSizes, heldC, ne_eq, Int.reduceLE, Int.reduceLT, Int.reduceEq, Int.reduceNe, Int.reduceToNat, Int.cast_ofNat_Int, Nat.reduceMul, Nat.reduceLeDiff, reduceIte, Nat.reduceEqDiff, Nat.reduceAdd, ↓reduceIte, Try.vcT, gets, cell_of_blkOf U3, cell_of_blkOf U4, cellsAt]
      refine callsK_new (cmpPoint u.bx u.by' u.ax u.ay wr) ?_
      intro wc cc
      have Fc := Fu.nil cc
      have V3 := chg_blk cc U3
      have V4 := chg_blk cc U4
      have V5 := chg_blk cc U5
      have V6 := chg_blk cc U6
      have key : u.late → ∃ j', 3 - j' < 3 - j ∧ ((j' = 0 ∧ u.turn = s) ∨ (j' = 1 ∧ u.turn = s.turn ∧ s.late) ∨ (j' = 2 ∧ u.turn = s.turn.turn ∧ s.late ∧ s.turn.late)) := fun hl => by
        rcases hju with ⟨rfl, rfl⟩ | ⟨rfl, rfl, g1⟩ | ⟨rfl, rfl, g1, g2⟩
        · exact ⟨1, by decide, .inr (.inl ⟨rfl, rfl, hl⟩)⟩
        · exact ⟨2, by decide, .inr (.inr ⟨rfl, rfl, g1, hl⟩)⟩
        · exact absurd hl (T3.last s g1 g2)
      by_cases e1 : cmp2 u.bx u.by' u.ax u.ay < 0
      case' pos =>
        have hl : u.late := by unfold T3.late later; have := (cmp2_neg _ _ _ _).1 e1; omega
        simp -dsimp only [↓vcA, vcB, vcD, ↓pureT_lenS, ↓iteT, ↓iteF, cond_true, cond_false, eq_self, argE, Env.get, Env.push, ev, evs, evo, retV, Value.cells, Value.oneCell', setR, overR, fillL, zl, places, allSizes, heldC, ne_eq, Int.reduceLE, Int.reduceLT, Int.reduceEq, Int.reduceNe, Int.reduceToNat, Int.cast_ofNat_Int, Nat.reduceMul, Nat.reduceLeDiff, reduceIte, Nat.reduceEqDiff, Nat.reduceAdd, ↓reduceIte, Try.vcT, gets, decide_eq_true e1]
      case' neg =>
        simp -dsimp only [↓vcA, vcB, vcD, ↓pureT_lenS, ↓iteT, ↓iteF, cond_true, cond_false, eq_self, argE, Env.get, Env.push, ev, evs, evo, retV, Value.cells, Value.oneCell', setR, overR, fillL, zl, places, allSizes, heldC, ne_eq, Int.reduceLE, Int.reduceLT, Int.reduceEq, Int.reduceNe, Int.reduceToNat, Int.cast_ofNat_Int, Nat.reduceMul, Nat.reduceLeDiff, reduceIte, Nat.reduceEqDiff, Nat.reduceAdd, ↓reduceIte, Try.vcT, gets, decide_eq_false e1, cell_of_blkOf V3, cell_of_blkOf V5, cellsAt]
        refine callsK_new (cmpPoint u.cx u.cy u.ax u.ay wc) ?_
        intro wd cd
        have W3 := chg_blk cd V3
        have W4 := chg_blk cd V4
        have W5 := chg_blk cd V5
        have W6 := chg_blk cd V6
        have Fd := Fc.nil cd
        clear V3 V4 V5 V6 Fc
        by_cases e2 : cmp2 u.cx u.cy u.ax u.ay < 0
        case' neg =>
          have hnl : ¬ u.late := by
            unfold T3.late later
            have g1 := mt (cmp2_neg _ _ _ _).2 e1
            have g2 := mt (cmp2_neg _ _ _ _).2 e2
            omega
          have hrr := T3.rot_of s j u hju hnl
          simp -dsimp only [↓vcA, vcB, vcD, ↓pureT_lenS, ↓iteT, ↓iteF, cond_true, cond_false, eq_self, argE, Env.get, Env.push, ev, evs, evo, retV, Value.cells, Value.oneCell', setR, overR, fillL, zl, places, allSizes, heldC, ne_eq, Int.reduceLE, Int.reduceLT, Int.reduceEq, Int.reduceNe, Int.reduceToNat, Int.cast_ofNat_Int, Nat.reduceMul, Nat.reduceLeDiff, reduceIte, Nat.reduceEqDiff, Nat.reduceAdd, ↓reduceIte, Try.vcT, gets, decide_eq_false e2, cell_of_blkOf W3, cell_of_blkOf W4, cell_of_blkOf W5, cellsAt, W6]
          intro we pe
          try simp -dsimp only [↓vcA, vcB, vcD, ↓pureT_lenS, ↓iteT, ↓iteF, cond_true, cond_false, eq_self, argE, Env.get, Env.push, ev, evs, evo, retV, Value.cells, Value.oneCell', setR, overR, fillL, zl, places, allSizes, heldC, ne_eq, Int.reduceLE, Int.reduceLT, Int.reduceEq, Int.reduceNe, Int.reduceToNat, Int.cast_ofNat_Int, Nat.reduceMul, Nat.reduceLeDiff, reduceIte, Nat.reduceEqDiff, Nat.reduceAdd, ↓reduceIte, Try.vcT, gets, pe.cell, cellsAt]
          rw [hrr]
          exact ⟨rfl, (Fd.one pe.chg (by omega)).done⟩
        case' pos =>
          have hl : u.late := by unfold T3.late later; have := (cmp2_neg _ _ _ _).1 e2; omega
          have V3 := W3
          have V4 := W4
          have V5 := W5
          have V6 := W6
          have Fc := Fd
          clear W3 W4 W5 W6 Fd
          simp -dsimp only [↓vcA, vcB, vcD, ↓pureT_lenS, ↓iteT, ↓iteF, cond_true, cond_false, eq_self, argE, Env.get, Env.push, ev, evs, evo, retV, Value.cells, Value.oneCell', setR, overR, fillL, zl, places, allSizes, heldC, ne_eq, Int.reduceLE, Int.reduceLT, Int.reduceEq, Int.reduceNe, Int.reduceToNat, Int.cast_ofNat_Int, Nat.reduceMul, Nat.reduceLeDiff, reduceIte, Nat.reduceEqDiff, Nat.reduceAdd, ↓reduceIte, Try.vcT, gets, decide_eq_true e2]
          clear cc cd
          revert V3 V4 V5 V6 Fc
          generalize wd = wc
          intro V3 V4 V5 V6 Fc
      all_goals
        obtain ⟨j', hj', hju'⟩ := key hl
        clear key e1
        refine walkDraw (.lll 0 (.ll 1 (.l 2 (.l 3 (.l 4 (.l 5 .fin)))) 2 (.ll 1 (.l 3 (.l 4 (.l 5 .fin))) 3 (.l 1 (.l 4 (.l 5 .fin))))) 1 (.ll 0 (.l 2 (.l 3 (.l 4 (.l 5 .fin)))) 2 (.l 0 (.l 3 (.l 4 (.l 5 .fin))))) 2 (.ll 0 (.ll 1 (.l 3 (.l 4 (.l 5 .fin))) 3 (.l 1 (.l 4 (.l 5 .fin)))) 1 (.l 0 (.l 3 (.l 4 (.l 5 .fin)))))) [] (by kernel_rfl) (by simp [Holds_nil]) ?_
        intro wx ex cx
        have X3 := chg_blk cx V3
        have X4 := chg_blk cx V4
        have X5 := chg_blk cx V5
        have X6 := chg_blk cx V6
        have Fx := Fc.nil cx
        simp -dsimp only [↓vcA, vcB, vcD, ↓pureT_lenS, ↓iteT, ↓iteF, cond_true, cond_false, eq_self, argE, Env.get, Env.push, ev, evs, evo, retV, Value.cells, Value.oneCell', setR, overR, fillL, zl, places, allSizes, heldC, ne_eq, Int.reduceLE, Int.reduceLT, Int.reduceEq, Int.reduceNe, Int.reduceToNat, Int.cast_ofNat_Int, Nat.reduceMul, Nat.reduceLeDiff, reduceIte, Nat.reduceEqDiff, Nat.reduceAdd, ↓reduceIte, Try.vcT, Holds_nil, cell_of_blkOf X3, cell_of_blkOf X4, cell_of_blkOf X5, cellsAt, X3]
        repeat' apply And.intro
        all_goals
          intro wy py
          have Y3 := py.blkOf
          have Y4 := py.chg.blkOf X4 (by omega)
          have Y5 := py.chg.blkOf X5 (by omega)
          have Y6 := py.chg.blkOf X6 (by omega)
          try simp -dsimp only [↓vcA, vcB, vcD, ↓pureT_lenS, ↓iteT, ↓iteF, cond_true, cond_false, eq_self, argE, Env.get, Env.push, ev, evs, evo, retV, Value.cells, Value.oneCell', setR, overR, fillL, zl, places, allSizes, heldC, ne_eq, Int.reduceLE, Int.reduceLT, Int.reduceEq, Int.reduceNe, Int.reduceToNat, Int.cast_ofNat_Int, Nat.reduceMul, Nat.reduceLeDiff, reduceIte, Nat.reduceEqDiff, Nat.reduceAdd, ↓reduceIte, Try.vcT, Holds_nil, cell_of_blkOf Y5, cellsAt, Y4]
          intro wz pz
          have Z3 := pz.chg.blkOf Y3 (by omega)
          have Z4 := pz.blkOf
          have Z5 := pz.chg.blkOf Y5 (by omega)
          have Z6 := pz.chg.blkOf Y6 (by omega)
          try simp -dsimp only [↓vcA, vcB, vcD, ↓pureT_lenS, ↓iteT, ↓iteF, cond_true, cond_false, eq_self, argE, Env.get, Env.push, ev, evs, evo, retV, Value.cells, Value.oneCell', setR, overR, fillL, zl, places, allSizes, heldC, ne_eq, Int.reduceLE, Int.reduceLT, Int.reduceEq, Int.reduceNe, Int.reduceToNat, Int.cast_ofNat_Int, Nat.reduceMul, Nat.reduceLeDiff, reduceIte, Nat.reduceEqDiff, Nat.reduceAdd, ↓reduceIte, Try.vcT, Holds_nil, Z5]
          intro wq pq
          try simp -dsimp only [↓vcA, vcB, vcD, ↓pureT_lenS, ↓iteT, ↓iteF, cond_true, cond_false, eq_self, argE, Env.get, Env.push, ev, evs, evo, retV, Value.cells, Value.oneCell', setR, overR, fillL, zl, places, allSizes, heldC, ne_eq, Int.reduceLE, Int.reduceLT, Int.reduceEq, Int.reduceNe, Int.reduceToNat, Int.cast_ofNat_Int, Nat.reduceMul, Nat.reduceLeDiff, reduceIte, Nat.reduceEqDiff, Nat.reduceAdd, ↓reduceIte, Try.vcT, gets, Holds_nil]
          exact ⟨_, hj', j', u.turn, hju', rfl, ((Fx.one py.chg (by omega)).one pz.chg (by omega)).one pq.chg (by omega), pq.chg.blkOf Z3 (by omega), pq.chg.blkOf Z4 (by omega), pq.blkOf, _, _, _, _, _, _, pq.chg.blkOf Z6 (by omega)⟩
/-- a triangle is valid: it is what is made of its points -/
def T3.valid (t : T3) : Bool := t.ok && decide (t.mk'.ax = t.ax ∧ t.mk'.ay = t.ay ∧ t.mk'.bx = t.bx ∧ t.mk'.by' = t.by' ∧ t.mk'.cx = t.cx ∧ t.mk'.cy = t.cy)
theorem valid79 (t : T3) (w : World) : Calls Try.prog 79 [.agg #[.int .i64 t.ax, .int .i64 t.ay, .int .i64 t.bx, .int .i64 t.by', .int .i64 t.cx, .int .i64 t.cy]].toArray w (RetP (.bool t.valid) w) := by
  refine walk Try.func79 rfl (by kernel_rfl) (by rw [Try.nt79]; simp) ?_
  simp -dsimp only [↓vcA, vcB, vcD, ↓pureT_lenS, ↓iteT, ↓iteF, cond_true, cond_false, eq_self, argE, Env.get, Env.push, ev, evs, evo, retV, Value.cells, Value.oneCell', setR, overR, fillL, zl, places, allSizes, heldC, ne_eq, Int.reduceLE, Int.reduceLT, Int.reduceEq, Int.reduceNe, Int.reduceToNat, Int.cast_ofNat_Int, Nat.reduceMul, Nat.reduceLeDiff, reduceIte, Nat.reduceEqDiff, Nat.reduceAdd, ↓reduceIte, Try.vcT]
  intro w1 b1 n1
  try simp -dsimp only [↓vcA, vcB, vcD, ↓pureT_lenS, ↓iteT, ↓iteF, cond_true, cond_false, eq_self, argE, Env.get, Env.push, ev, evs, evo, retV, Value.cells, Value.oneCell', setR, overR, fillL, zl, places, allSizes, heldC, ne_eq, Int.reduceLE, Int.reduceLT, Int.reduceEq, Int.reduceNe, Int.reduceToNat, Int.cast_ofNat_Int, Nat.reduceMul, Nat.reduceLeDiff, reduceIte, Nat.reduceEqDiff, Nat.reduceAdd, ↓reduceIte, Try.vcT, n1.cell, cellsAt]
  refine callsK_new (make136 t w1) ?_
  intro w2 c2
  have h2 := chg_blk c2 n1.blkOf
  simp -dsimp only [↓vcA, vcB, vcD, ↓pureT_lenS, ↓iteT, ↓iteF, cond_true, cond_false, eq_self, argE, Env.get, Env.push, ev, evs, evo, retV, Value.cells, Value.oneCell', setR, overR, fillL, zl, places, allSizes, heldC, ne_eq, Int.reduceLE, Int.reduceLT, Int.reduceEq, Int.reduceNe, Int.reduceToNat, Int.cast_ofNat_Int, Nat.reduceMul, Nat.reduceLeDiff, reduceIte, Nat.reduceEqDiff, Nat.reduceAdd, ↓reduceIte, Try.vcT, tupK_mk]
  intro w3 b3 n3
  have h3 := chg_blk n3.chg h2
  simp -dsimp only [↓vcA, vcB, vcD, ↓pureT_lenS, ↓iteT, ↓iteF, cond_true, cond_false, eq_self, argE, Env.get, Env.push, ev, evs, evo, retV, Value.cells, Value.oneCell', setR, overR, fillL, zl, places, allSizes, heldC, ne_eq, Int.reduceLE, Int.reduceLT, Int.reduceEq, Int.reduceNe, Int.reduceToNat, Int.cast_ofNat_Int, Nat.reduceMul, Nat.reduceLeDiff, reduceIte, Nat.reduceEqDiff, Nat.reduceAdd, ↓reduceIte, Try.vcT, n3.blkOf, T3.cells]
  intro w4 p4
  have h4 := p4.chg.blkOf h3 (by have := n3.eq; have := lt_of_blkOf h2; omega)
  have F : Fr w.heap.size w w4 := (((Fr.refl w).new n1).nil c2 |>.new n3).one p4.chg ((((Fr.refl w).new n1).nil c2).newUp n3)
  cases hk : t.ok with
  | false =>
    have e : t.valid = false := by simp [T3.valid, hk]
    simp -dsimp only [↓vcA, vcB, vcD, ↓pureT_lenS, ↓iteT, ↓iteF, cond_true, cond_false, eq_self, argE, Env.get, Env.push, ev, evs, evo, retV, Value.cells, Value.oneCell', setR, overR, fillL, zl, places, allSizes, heldC, ne_eq, Int.reduceLE, Int.reduceLT, Int.reduceEq, Int.reduceNe, Int.reduceToNat, Int.cast_ofNat_Int, Nat.reduceMul, Nat.reduceLeDiff, reduceIte, Nat.reduceEqDiff, Nat.reduceAdd, ↓reduceIte, Try.vcT, e]
    exact F.done
  | true =>
    have e : t.valid = decide (t.mk'.ax = t.ax ∧ t.mk'.ay = t.ay ∧ t.mk'.bx = t.bx ∧ t.mk'.by' = t.by' ∧ t.mk'.cx = t.cx ∧ t.mk'.cy = t.cy) := by simp [T3.valid, hk]
    simp -dsimp only [↓vcA, vcB, vcD, ↓pureT_lenS, ↓iteT, ↓iteF, cond_true, cond_false, eq_self, argE, Env.get, Env.push, ev, evs, evo, retV, Value.cells, Value.oneCell', setR, overR, fillL, zl, places, allSizes, heldC, ne_eq, Int.reduceLE, Int.reduceLT, Int.reduceEq, Int.reduceNe, Int.reduceToNat, Int.cast_ofNat_Int, Nat.reduceMul, Nat.reduceLeDiff, reduceIte, Nat.reduceEqDiff, Nat.reduceAdd, ↓reduceIte, Try.vcT, p4.cell, cell_of_blkOf h4, cellsAt, eql_tri]
    exact ⟨by rw [e], F.done⟩
theorem validTri (t : T3) (w : World) : Calls Try.prog 48 [.agg #[.int .i64 t.ax, .int .i64 t.ay, .int .i64 t.bx, .int .i64 t.by', .int .i64 t.cx, .int .i64 t.cy]].toArray w (RetP (.bool t.valid) w) := by
  refine walk Try.func48 rfl (by kernel_rfl) (by rw [Try.nt48]; simp) ?_
  simp -dsimp only [↓vcA, vcB, vcD, ↓pureT_lenS, ↓iteT, ↓iteF, cond_true, cond_false, eq_self, argE, Env.get, Env.push, ev, evs, evo, retV, Value.cells, Value.oneCell', setR, overR, fillL, zl, places, allSizes, heldC, ne_eq, Int.reduceLE, Int.reduceLT, Int.reduceEq, Int.reduceNe, Int.reduceToNat, Int.cast_ofNat_Int, Nat.reduceMul, Nat.reduceLeDiff, reduceIte, Nat.reduceEqDiff, Nat.reduceAdd, ↓reduceIte, Try.vcT]
  intro w1 b1 n1
  try simp -dsimp only [↓vcA, vcB, vcD, ↓pureT_lenS, ↓iteT, ↓iteF, cond_true, cond_false, eq_self, argE, Env.get, Env.push, ev, evs, evo, retV, Value.cells, Value.oneCell', setR, overR, fillL, zl, places, allSizes, heldC, ne_eq, Int.reduceLE, Int.reduceLT, Int.reduceEq, Int.reduceNe, Int.reduceToNat, Int.cast_ofNat_Int, Nat.reduceMul, Nat.reduceLeDiff, reduceIte, Nat.reduceEqDiff, Nat.reduceAdd, ↓reduceIte, Try.vcT, n1.cell, cellsAt]
  refine callsK_new (make78 t w1) ?_
  intro w2 c2
  have h2 := chg_blk c2 n1.blkOf
  simp -dsimp only [↓vcA, vcB, vcD, ↓pureT_lenS, ↓iteT, ↓iteF, cond_true, cond_false, eq_self, argE, Env.get, Env.push, ev, evs, evo, retV, Value.cells, Value.oneCell', setR, overR, fillL, zl, places, allSizes, heldC, ne_eq, Int.reduceLE, Int.reduceLT, Int.reduceEq, Int.reduceNe, Int.reduceToNat, Int.cast_ofNat_Int, Nat.reduceMul, Nat.reduceLeDiff, reduceIte, Nat.reduceEqDiff, Nat.reduceAdd, ↓reduceIte, Try.vcT, tupK_mk]
  intro w3 b3 n3
  have h3 := chg_blk n3.chg h2
  simp -dsimp only [↓vcA, vcB, vcD, ↓pureT_lenS, ↓iteT, ↓iteF, cond_true, cond_false, eq_self, argE, Env.get, Env.push, ev, evs, evo, retV, Value.cells, Value.oneCell', setR, overR, fillL, zl, places, allSizes, heldC, ne_eq, Int.reduceLE, Int.reduceLT, Int.reduceEq, Int.reduceNe, Int.reduceToNat, Int.cast_ofNat_Int, Nat.reduceMul, Nat.reduceLeDiff, reduceIte, Nat.reduceEqDiff, Nat.reduceAdd, ↓reduceIte, Try.vcT, n3.blkOf, T3.cells]
  intro w4 p4
  have h4 := p4.chg.blkOf h3 (by have := n3.eq; have := lt_of_blkOf h2; omega)
  have F : Fr w.heap.size w w4 := (((Fr.refl w).new n1).nil c2 |>.new n3).one p4.chg ((((Fr.refl w).new n1).nil c2).newUp n3)
  cases hk : t.ok with
  | false =>
    have e : t.valid = false := by simp [T3.valid, hk]
    simp -dsimp only [↓vcA, vcB, vcD, ↓pureT_lenS, ↓iteT, ↓iteF, cond_true, cond_false, eq_self, argE, Env.get, Env.push, ev, evs, evo, retV, Value.cells, Value.oneCell', setR, overR, fillL, zl, places, allSizes, heldC, ne_eq, Int.reduceLE, Int.reduceLT, Int.reduceEq, Int.reduceNe, Int.reduceToNat, Int.cast_ofNat_Int, Nat.reduceMul, Nat.reduceLeDiff, reduceIte, Nat.reduceEqDiff, Nat.reduceAdd, ↓reduceIte, Try.vcT, e]
    exact F.done
  | true =>
    have e : t.valid = decide (t.mk'.ax = t.ax ∧ t.mk'.ay = t.ay ∧ t.mk'.bx = t.bx ∧ t.mk'.by' = t.by' ∧ t.mk'.cx = t.cx ∧ t.mk'.cy = t.cy) := by simp [T3.valid, hk]
    simp -dsimp only [↓vcA, vcB, vcD, ↓pureT_lenS, ↓iteT, ↓iteF, cond_true, cond_false, eq_self, argE, Env.get, Env.push, ev, evs, evo, retV, Value.cells, Value.oneCell', setR, overR, fillL, zl, places, allSizes, heldC, ne_eq, Int.reduceLE, Int.reduceLT, Int.reduceEq, Int.reduceNe, Int.reduceToNat, Int.cast_ofNat_Int, Nat.reduceMul, Nat.reduceLeDiff, reduceIte, Nat.reduceEqDiff, Nat.reduceAdd, ↓reduceIte, Try.vcT, p4.cell, cell_of_blkOf h4, cellsAt, eql_tri]
    exact ⟨by rw [e], F.done⟩
end Go.Proofs.Ytnhgjgoglmadnaa
