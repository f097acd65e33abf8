import Derived.Test.YtnhgjgoglmadnaaTypes
import Derived.Test.YtnhgjgoglmadnaaVB
import Derived.Test.YtnhgjgoglmadnaaT3
namespace Go.Proofs.Ytnhgjgoglmadnaa
open Go.RowKit
set_option maxRecDepth 100000
set_option linter.unusedSimpArgs false
set_option linter.unusedVariables false
set_option pp.maxSteps 1500
set_option pp.deepTerms.threshold 8

theorem WrStep.pre {p : Nat} {w w1 w' : World} {v v' : Value} (h : Chg (fun _ => False) w w1) (k : WrStep p w1 v w' v') : WrStep p w v w' v' :=
  ⟨(h.mono (fun _ f => f.elim)).trans k.chg (fun x hx => .inl hx), fun b hb => (k.new b hb).imp id fun hle => Nat.le_trans h.size hle⟩
theorem WrStep.holds {p : Nat} {w w' : World} {v v' : Value} {L : Held} (k : WrStep p w v w' v') (h : Holds L w) (hs : ∀ x ∈ L, Safe p v x.1) : Holds L w' :=
  fun b o u hm => k.cell (h b o u hm) (hs _ hm)
theorem Chg.holds {w w' : World} {L : Held} (k : Chg (fun _ => False) w w') (h : Holds L w) : Holds L w' := fun b o u hm => k.cell (h b o u hm) id
theorem safeAll {p b : Nat} {v : Value} (h : Safe p v b) (L : List (Nat × Value)) : ∀ x ∈ L.map (fun y => (b, y.1, y.2)), Safe p v x.1 := by
  intro x hx
  obtain ⟨y, _, rfl⟩ := List.mem_map.1 hx
  exact h
/-- What a writer's call does: the writer itself is handed back. -/
def WrQ (t p : Nat) (w : World) (v : Value) (s' : W8) (r : Value) (w' : World) : Prop := r = .pointer (some ⟨p, 0, none⟩) ∧ ∃ v', WrS t w' p v' s' ∧ WrStep p w v w' v'
theorem num (p : Nat) (v : Value) (s : W8) (n size : Int) (w : World) (hw : WrS 32 w p v s) (hlen : s.l.length ≤ 1000000) (hn : -9223372036854775808 ≤ n) (hn1 : n ≤ 9223372036854775807) :
    Calls Try.prog 23 [.pointer (some ⟨p, 0, none⟩), .int .i64 n, .int .i64 size].toArray w (RetK (WrQ 32 p w v (s.num n size))) :=
  (num_any p v s n size w hw hlen hn hn1).mono fun e w' ⟨h1, h2⟩ => ⟨_, h1, rfl, h2⟩

def W8.pt (s : W8) (x y : Int) : W8 := (s.num x 3).num y 3
theorem W8.pt_len (s : W8) (x y : Int) : (s.pt x y).l.length ≤ s.l.length + 16 := by
  have := s.num_len x 3
  have := (s.num x 3).num_len y 3
  unfold W8.pt; omega

theorem point (p : Nat) (v : Value) (s : W8) (x y : Int) (w : World) (hw : WrS 32 w p v s) (hlen : s.l.length ≤ 900000) (hx : -9223372036854775808 ≤ x) (hx1 : x ≤ 9223372036854775807) (hy : -9223372036854775808 ≤ y) (hy1 : y ≤ 9223372036854775807) :
    Calls Try.prog 25 [.pointer (some ⟨p, 0, none⟩), .agg #[.int .i64 x, .int .i64 y]].toArray w (RetK (WrQ 32 p w v (s.pt x y))) := by
  refine walk Try.func25 rfl (by kernel_rfl) (by rw [Try.nt25]; simp) ?_
  simp -dsimp only [↓vcA, vcB, vcD, ↓pureT_lenS, ↓iteT, ↓iteF, cond_true, cond_false, eq_self, argE, Env.get, Env.push, ev, evs, evo, retV, Value.cells, Value.oneCell', setR, overR, fillL, zl, places, allSizes, heldC, ne_eq, Int.reduceLE, Int.reduceLT, Int.reduceEq, Int.reduceNe, Int.reduceToNat, Int.cast_ofNat_Int, Nat.reduceMul, Nat.reduceLeDiff, reduceIte, Nat.reduceEqDiff, Nat.reduceAdd, ↓reduceIte, Try.vcT]
  intro w1 b hb
  have hL : Holds [(b, 0, .int .i64 x), (b, 1, .int .i64 y)] w1 := by simp [Holds_nil, Holds_cons, hb.cell]
  refine walkDraw (.q 0 (.q 1 (.q 4 (.h 2 0 (.h 5 1 (.l 3 (.l 6 (.q 7 .fin)))))))) [(b, 0, .int .i64 x), (b, 1, .int .i64 y)] (by kernel_rfl) hL ?_
  intro w2 e2 c2
  simp -dsimp only [↓vcA, vcB, vcD, ↓pureT_lenS, ↓iteT, ↓iteF, cond_true, cond_false, eq_self, argE, Env.get, Env.push, ev, evs, evo, retV, Value.cells, Value.oneCell', setR, overR, fillL, zl, places, allSizes, heldC, ne_eq, Int.reduceLE, Int.reduceLT, Int.reduceEq, Int.reduceNe, Int.reduceToNat, Int.cast_ofNat_Int, Nat.reduceMul, Nat.reduceLeDiff, reduceIte, Nat.reduceEqDiff, Nat.reduceAdd, ↓reduceIte, Try.vcT]
  have h1 : WrS 32 w1 p v s := hw.chg hb.chg id fun _ _ => id
  have h2 : WrS 32 w2 p v s := h1.chg c2 id fun _ _ => id
  have hsf : Safe p v b := Safe.new hw.lt hw.own (by rw [hb.eq]; omega)
  have hb2 : b < w2.heap.size := by rw [e2]; exact hb.lt
  refine callsK_use (num p v s x 3 w2 h2 (by omega) hx hx1) ?_
  rintro _ w3 ⟨rfl, v3, h3, k3⟩
  have L3 := k3.holds (c2.holds hL) (safeAll hsf [(0, .int .i64 x), (1, .int .i64 y)])
  simp -dsimp only [↓vcA, vcB, vcD, ↓pureT_lenS, ↓iteT, ↓iteF, cond_true, cond_false, eq_self, argE, Env.get, Env.push, ev, evs, evo, retV, Value.cells, Value.oneCell', setR, overR, fillL, zl, places, allSizes, heldC, ne_eq, Int.reduceLE, Int.reduceLT, Int.reduceEq, Int.reduceNe, Int.reduceToNat, Int.cast_ofNat_Int, Nat.reduceMul, Nat.reduceLeDiff, reduceIte, Nat.reduceEqDiff, Nat.reduceAdd, ↓reduceIte, Try.vcT, L3]
  have hl := s.num_len x 3
  refine callsK_use (num p v3 (s.num x 3) y 3 w3 h3 (by omega) hy hy1) ?_
  rintro _ w4 ⟨rfl, v4, h4, k4⟩
  have L4 := k4.holds L3 (safeAll (k3.safe hb2 hsf) [(0, .int .i64 x), (1, .int .i64 y)])
  simp -dsimp only [↓vcA, vcB, vcD, ↓pureT_lenS, ↓iteT, ↓iteF, cond_true, cond_false, eq_self, argE, Env.get, Env.push, ev, evs, evo, retV, Value.cells, Value.oneCell', setR, overR, fillL, zl, places, allSizes, heldC, ne_eq, Int.reduceLE, Int.reduceLT, Int.reduceEq, Int.reduceNe, Int.reduceToNat, Int.cast_ofNat_Int, Nat.reduceMul, Nat.reduceLeDiff, reduceIte, Nat.reduceEqDiff, Nat.reduceAdd, ↓reduceIte, Try.vcT, L4]
  exact ⟨rfl, v4, h4, WrStep.pre (hb.chg.seq c2) (k3.trans k4)⟩

def W8.tri (s : W8) (ax ay bx by' cx cy : Int) : W8 := ((s.pt ax ay).pt bx by').pt cx cy
theorem W8.tri_len (s : W8) (ax ay bx by' cx cy : Int) : (s.tri ax ay bx by' cx cy).l.length ≤ s.l.length + 48 := by
  have := s.pt_len ax ay
  have := (s.pt ax ay).pt_len bx by'
  have := ((s.pt ax ay).pt bx by').pt_len cx cy
  unfold W8.tri; omega
/-- each of the numbers is an int of Go -/
def Ok64 (l : List Int) : Prop := ∀ x ∈ l, -9223372036854775808 ≤ x ∧ x ≤ 9223372036854775807

theorem tri (p : Nat) (v : Value) (s : W8) (ax ay bx by' cx cy : Int) (w : World) (hw : WrS 32 w p v s) (hlen : s.l.length ≤ 800000) (ho : Ok64 [ax, ay, bx, by', cx, cy]) :
    Calls Try.prog 27 [.pointer (some ⟨p, 0, none⟩), .agg #[.int .i64 ax, .int .i64 ay, .int .i64 bx, .int .i64 by', .int .i64 cx, .int .i64 cy]].toArray w (RetK (WrQ 32 p w v (s.tri ax ay bx by' cx cy))) := by
  simp only [Ok64, List.forall_mem_cons, List.not_mem_nil, false_implies, implies_true, and_true] at ho
  obtain ⟨⟨ax0, ax1⟩, ⟨ay0, ay1⟩, ⟨bx0, bx1⟩, ⟨by0, by1⟩, ⟨cx0, cx1⟩, cy0, cy1⟩ := ho
  refine walk Try.func27 rfl (by kernel_rfl) (by rw [Try.nt27]; simp) ?_
  simp -dsimp only [↓vcA, vcB, vcD, ↓pureT_lenS, ↓iteT, ↓iteF, cond_true, cond_false, eq_self, argE, Env.get, Env.push, ev, evs, evo, retV, Value.cells, Value.oneCell', setR, overR, fillL, zl, places, allSizes, heldC, ne_eq, Int.reduceLE, Int.reduceLT, Int.reduceEq, Int.reduceNe, Int.reduceToNat, Int.cast_ofNat_Int, Nat.reduceMul, Nat.reduceLeDiff, reduceIte, Nat.reduceEqDiff, Nat.reduceAdd, ↓reduceIte, Try.vcT]
  intro w1 b hb
  refine walkDraw (.q 0 (.q 1 (.q 4 (.q 7 (.h 2 0 (.h 5 2 (.h 8 4 (.l 3 (.l 6 (.l 9 (.q 10 .fin))))))))))) [(b, 0, .int .i64 ax), (b, 1, .int .i64 ay), (b, 2, .int .i64 bx), (b, 3, .int .i64 by'), (b, 4, .int .i64 cx), (b, 5, .int .i64 cy)] (by kernel_rfl) (by simp [Holds_nil, Holds_cons, hb.cell]) ?_
  intro w2 e2 c2
  have hL : Holds [(b, 0, .int .i64 ax), (b, 1, .int .i64 ay), (b, 2, .int .i64 bx), (b, 3, .int .i64 by'), (b, 4, .int .i64 cx), (b, 5, .int .i64 cy)] w1 := by simp [Holds_nil, Holds_cons, hb.cell]
  simp -dsimp only [↓vcA, vcB, vcD, ↓pureT_lenS, ↓iteT, ↓iteF, cond_true, cond_false, eq_self, argE, Env.get, Env.push, ev, evs, evo, retV, Value.cells, Value.oneCell', setR, overR, fillL, zl, places, allSizes, heldC, ne_eq, Int.reduceLE, Int.reduceLT, Int.reduceEq, Int.reduceNe, Int.reduceToNat, Int.cast_ofNat_Int, Nat.reduceMul, Nat.reduceLeDiff, reduceIte, Nat.reduceEqDiff, Nat.reduceAdd, ↓reduceIte, Try.vcT]
  have h1 : WrS 32 w1 p v s := hw.chg hb.chg id fun _ _ => id
  have h2 : WrS 32 w2 p v s := h1.chg c2 id fun _ _ => id
  have hsf : Safe p v b := Safe.new hw.lt hw.own (by rw [hb.eq]; omega)
  have hb2 : b < w2.heap.size := by rw [e2]; exact hb.lt
  have hl1 := s.pt_len ax ay
  have hl2 := (s.pt ax ay).pt_len bx by'
  refine callsK_use (point p v s ax ay w2 h2 (by omega) ax0 ax1 ay0 ay1) ?_
  rintro _ w3 ⟨rfl, v3, h3, k3⟩
  have L3 := k3.holds (c2.holds hL) (safeAll hsf [(0, .int .i64 ax), (1, .int .i64 ay), (2, .int .i64 bx), (3, .int .i64 by'), (4, .int .i64 cx), (5, .int .i64 cy)])
  simp -dsimp only [↓vcA, vcB, vcD, ↓pureT_lenS, ↓iteT, ↓iteF, cond_true, cond_false, eq_self, argE, Env.get, Env.push, ev, evs, evo, retV, Value.cells, Value.oneCell', setR, overR, fillL, zl, places, allSizes, heldC, ne_eq, Int.reduceLE, Int.reduceLT, Int.reduceEq, Int.reduceNe, Int.reduceToNat, Int.cast_ofNat_Int, Nat.reduceMul, Nat.reduceLeDiff, reduceIte, Nat.reduceEqDiff, Nat.reduceAdd, ↓reduceIte, Try.vcT, L3]
  have hsf3 := k3.safe hb2 hsf
  have hb3 : b < w3.heap.size := Nat.lt_of_lt_of_le hb2 k3.chg.size
  refine callsK_use (point p v3 (s.pt ax ay) bx by' w3 h3 (by omega) bx0 bx1 by0 by1) ?_
  rintro _ w4 ⟨rfl, v4, h4, k4⟩
  have L4 := k4.holds L3 (safeAll hsf3 [(0, .int .i64 ax), (1, .int .i64 ay), (2, .int .i64 bx), (3, .int .i64 by'), (4, .int .i64 cx), (5, .int .i64 cy)])
  simp -dsimp only [↓vcA, vcB, vcD, ↓pureT_lenS, ↓iteT, ↓iteF, cond_true, cond_false, eq_self, argE, Env.get, Env.push, ev, evs, evo, retV, Value.cells, Value.oneCell', setR, overR, fillL, zl, places, allSizes, heldC, ne_eq, Int.reduceLE, Int.reduceLT, Int.reduceEq, Int.reduceNe, Int.reduceToNat, Int.cast_ofNat_Int, Nat.reduceMul, Nat.reduceLeDiff, reduceIte, Nat.reduceEqDiff, Nat.reduceAdd, ↓reduceIte, Try.vcT, L4]
  refine callsK_use (point p v4 ((s.pt ax ay).pt bx by') cx cy w4 h4 (by omega) cx0 cx1 cy0 cy1) ?_
  rintro _ w5 ⟨rfl, v5, h5, k5⟩
  have L5 := k5.holds L4 (safeAll (k4.safe hb3 hsf3) [(0, .int .i64 ax), (1, .int .i64 ay), (2, .int .i64 bx), (3, .int .i64 by'), (4, .int .i64 cx), (5, .int .i64 cy)])
  simp -dsimp only [↓vcA, vcB, vcD, ↓pureT_lenS, ↓iteT, ↓iteF, cond_true, cond_false, eq_self, argE, Env.get, Env.push, ev, evs, evo, retV, Value.cells, Value.oneCell', setR, overR, fillL, zl, places, allSizes, heldC, ne_eq, Int.reduceLE, Int.reduceLT, Int.reduceEq, Int.reduceNe, Int.reduceToNat, Int.cast_ofNat_Int, Nat.reduceMul, Nat.reduceLeDiff, reduceIte, Nat.reduceEqDiff, Nat.reduceAdd, ↓reduceIte, Try.vcT, L5]
  exact ⟨rfl, v5, h5, WrStep.pre (hb.chg.seq c2) ((k3.trans k4).trans k5)⟩
end Go.Proofs.Ytnhgjgoglmadnaa
