/- The contracts of the bytes' package: writers, readers, sums. -/
import Derived.Test.YtnhgjgoglmadnaaT4
namespace Go.Proofs.Ytnhgjgoglmadnaa
open Go.RowKit
set_option maxRecDepth 100000
set_option linter.unusedSimpArgs false
set_option linter.unusedVariables false
set_option pp.maxSteps 1500
set_option pp.deepTerms.threshold 8

theorem owns_shape {w : World} {e : TypeId} {s : Nat} {v : Value} {n : Nat} {xs : List Value} (h : w.ownsRow 0 e s v n xs) : ∃ a c, v = .slice a n c := by
  rcases h.2 with ⟨rfl, hz⟩ | ⟨g, cap, cur, rfl, _⟩
  · exact ⟨none, 0, by rw [hz]⟩
  · exact ⟨_, _, rfl⟩

/-- An append to the writer's row, and the store of the new slice. -/
theorem Wr.put {t p : Nat} {w w1 w2 : World} {v v' : Value} {xs ys : List Int} {bad : Bool} (h : Wr t w p v xs bad) (ht : t ≠ 5) (hown : Own w1 v' ys) (hg : w.grownBy w1 v.ownBlock)
    (hat : v'.ownBlock = v.ownBlock ∨ v'.ownBlock = some w.heap.size) (hp : Put w1 w2 p [v', .bool bad] t) : Wr t w2 p v' ys bad ∧ WrStep p w v w2 v' := by
  have hne := h.own.ne h.blk ht
  have hc : Chg (fun k => v.ownBlock = some k) w w1 := Chg.ofGrown hg
  have hb1 : w1.heap[p]? = some (.cells #[v, .bool bad] t (0, 0)) := hc.at h.blk hne
  refine ⟨⟨hp.blk, hown.chg hp.chg fun k hk e => hown.ne hb1 ht (e ▸ hk)⟩, ?_, fun k hk => ?_⟩
  · exact ((hc.mono fun x hx => Or.inr hx).trans hp.chg fun x hx => .inl (.inl hx))
  · rcases hat with e | e
    · exact .inl (e ▸ hk)
    · rw [e] at hk; injection hk with hk; exact .inr (by omega)
theorem Wr.bk {t p : Nat} {w : World} {v : Value} {xs : List Int} {bad : Bool} (h : Wr t w p v xs bad) : blkOf w p = some ([v, .bool bad], t) := by simpa using blkOf_of h.blk

theorem num_nil (n size : Int) (w : World) : Calls Try.prog 23 [.pointer none, .int .i64 n, .int .i64 size].toArray w (RetK fun r w' => r = .pointer none ∧ w' = w) := by
  refine walk Try.func23 rfl (by kernel_rfl) (by rw [Try.nt23]; simp) ?_
  simp -dsimp only [↓vcA, vcB, vcD, ↓pureT_lenS, ↓iteT, ↓iteF, cond_true, cond_false, eq_self, argE, Env.get, Env.push, ev, evs, evo, retV, Value.cells, Value.oneCell', setR, overR, fillL, zl, places, allSizes, heldC, ne_eq, Int.reduceLE, Int.reduceLT, Int.reduceEq, Int.reduceNe, Int.reduceToNat, Int.cast_ofNat_Int, Nat.reduceMul, Nat.reduceLeDiff, reduceIte, Nat.reduceEqDiff, Nat.reduceAdd, ↓reduceIte, Try.vcT]

theorem app {w : World} {v src : Value} {xs ys : List Int} {ty : TypeId} {K : Value → World → Prop} (own : Own w v xs) (hr : Rd w src ys) (hl : xs.length + ys.length ≤ 100000000)
    (hK : ∀ a c w', Own w' (.slice a (xs.length + ys.length) c) (xs ++ ys) → w.grownBy w' v.ownBlock → ((Value.slice a (xs.length + ys.length) c).ownBlock = v.ownBlock ∨ (Value.slice a (xs.length + ys.length) c).ownBlock = some w.heap.size) → K (.slice a (xs.length + ys.length) c) w') :
    RunK Try.prog (Builtin.append_ #[22, 22] ty #[v, src]) w K := by
  refine append_rule Try.info5 Try.underlying22 rfl (by decide) own hr.row (by omega) (by simp only [maxLen]; omega) ?_
  intro v1 w1 h1 g1 a1
  obtain ⟨a, c, rfl⟩ := owns_shape h1
  exact hK a c w1 (by unfold Own; rw [u8s_append, List.length_append]; exact h1) g1 a1

def W8.raw (s : W8) (xs : List Int) : W8 := ⟨s.l ++ xs, s.bad⟩
theorem raw (p : Nat) (v : Value) (s : W8) (src : Value) (ys : List Int) (w : World) (hw : WrS 32 w p v s) (hr : Rd w src ys) (hlen : s.l.length ≤ 1000000) (hlen' : ys.length ≤ 10000000) :
    Calls Try.prog 29 [.pointer (some ⟨p, 0, none⟩), src].toArray w (RetK (WrQ 32 p w v (s.raw ys))) := by
  refine walk Try.func29 rfl (by kernel_rfl) (by rw [Try.nt29]; simp) ?_
  simp -dsimp only [↓vcA, vcB, vcD, ↓pureT_lenS, ↓iteT, ↓iteF, cond_true, cond_false, eq_self, argE, Env.get, Env.push, ev, evs, evo, retV, Value.cells, Value.oneCell', setR, overR, fillL, zl, places, allSizes, heldC, ne_eq, Int.reduceLE, Int.reduceLT, Int.reduceEq, Int.reduceNe, Int.reduceToNat, Int.cast_ofNat_Int, Nat.reduceMul, Nat.reduceLeDiff, reduceIte, Nat.reduceEqDiff, Nat.reduceAdd, ↓reduceIte, Try.vcT, hw.c0]
  refine app hw.own hr (by omega) ?_
  intro a c w1 h1 g1 a1
  have hb1 : blkOf w1 p = some ([v, .bool s.bad], 32) := (Chg.ofGrown g1).blkOf hw.bk (hw.own.ne hw.blk (by decide))
  simp -dsimp only [↓vcA, vcB, vcD, ↓pureT_lenS, ↓iteT, ↓iteF, cond_true, cond_false, eq_self, argE, Env.get, Env.push, ev, evs, evo, retV, Value.cells, Value.oneCell', setR, overR, fillL, zl, places, allSizes, heldC, ne_eq, Int.reduceLE, Int.reduceLT, Int.reduceEq, Int.reduceNe, Int.reduceToNat, Int.cast_ofNat_Int, Nat.reduceMul, Nat.reduceLeDiff, reduceIte, Nat.reduceEqDiff, Nat.reduceAdd, ↓reduceIte, Try.vcT, hb1]
  intro w2 p2
  obtain ⟨h2, k2⟩ := hw.put (by decide) h1 g1 a1 p2
  exact ⟨rfl, _, h2, k2⟩

/-- A copy: a row of one's own in a new block, or nil. -/
structure Copy (w w' : World) (r : Value) (xs : List Int) : Prop where
  chg : Chg (fun _ => False) w w'
  own : Own w' r xs
  new : ∀ k, r.ownBlock = some k → w.heap.size ≤ k
theorem clone (v : Value) (xs : List Int) (w : World) (h : Rd w v xs) (hl : xs.length ≤ 10000000) :
    Calls Try.prog 75 [v].toArray w (RetK fun r w' => Copy w w' r xs ∧ (v = .slice none 0 0 → r = .slice none 0 0)) := by
  have h0 := h
  obtain ⟨a, c, rfl, h1, h2, h3, h4⟩ := h
  refine walk Try.func75 rfl (by kernel_rfl) (by rw [Try.nt75]; simp) ?_
  cases a with
  | none =>
    obtain rfl := h3 rfl
    have hz : xs = [] := List.eq_nil_of_length_eq_zero (by omega)
    subst hz
    simp -dsimp only [↓vcA, vcB, vcD, ↓pureT_lenS, ↓iteT, ↓iteF, cond_true, cond_false, eq_self, argE, Env.get, Env.push, ev, evs, evo, retV, Value.cells, Value.oneCell', setR, overR, fillL, zl, places, allSizes, heldC, ne_eq, Int.reduceLE, Int.reduceLT, Int.reduceEq, Int.reduceNe, Int.reduceToNat, Int.cast_ofNat_Int, Nat.reduceMul, Nat.reduceLeDiff, reduceIte, Nat.reduceEqDiff, Nat.reduceAdd, ↓reduceIte, Try.vcT]
    exact ⟨⟨Chg.refl _ _, Own.nil w, fun k hk => by simp [Value.ownBlock] at hk⟩, fun _ => trivial⟩
  | some a =>
    simp -dsimp only [↓vcA, vcB, vcD, ↓pureT_lenS, ↓iteT, ↓iteF, cond_true, cond_false, eq_self, argE, Env.get, Env.push, ev, evs, evo, retV, Value.cells, Value.oneCell', setR, overR, fillL, zl, places, allSizes, heldC, ne_eq, Int.reduceLE, Int.reduceLT, Int.reduceEq, Int.reduceNe, Int.reduceToNat, Int.cast_ofNat_Int, Nat.reduceMul, Nat.reduceLeDiff, reduceIte, Nat.reduceEqDiff, Nat.reduceAdd, ↓reduceIte, Try.vcT]
    intro w1 b hb
    have hr1 := h0.chg hb.chg (fun _ _ => id)
    have ho : Own w1 (.slice (some ⟨b, 0, none⟩) 0 0) [] := hb.owns (by simp) (by simp [maxLen])
    refine app ho hr1 (by simp; omega) ?_
    intro a1 c1 w2 h5 g5 a5
    simp -dsimp only [↓vcA, vcB, vcD, ↓pureT_lenS, ↓iteT, ↓iteF, cond_true, cond_false, eq_self, argE, Env.get, Env.push, ev, evs, evo, retV, Value.cells, Value.oneCell', setR, overR, fillL, zl, places, allSizes, heldC, ne_eq, Int.reduceLE, Int.reduceLT, Int.reduceEq, Int.reduceNe, Int.reduceToNat, Int.cast_ofNat_Int, Nat.reduceMul, Nat.reduceLeDiff, reduceIte, Nat.reduceEqDiff, Nat.reduceAdd, ↓reduceIte, Try.vcT]
    refine ⟨⟨?_, by simpa using h5, fun k hk => ?_⟩, fun e => by cases e⟩
    · exact hb.chg.trans (Chg.ofGrown g5) (fun x hx => .inr (by simp [Value.ownBlock] at hx; have := hb.eq; omega)) |>.mono fun x hx => hx
    · have := hb.eq; have := hb.size
      rcases a5 with e | e <;> simp only [List.length_nil, Nat.zero_add] at e hk <;> rw [e] at hk <;> simp [Value.ownBlock] at hk <;> omega

theorem bytes_nil (w : World) : Calls Try.prog 30 [.pointer none].toArray w (RetK fun r w' => r = .tuple #[.slice none 0 0, .int .i64 2] ∧ w' = w) := by
  refine walk Try.func30 rfl (by kernel_rfl) (by rw [Try.nt30]; simp) ?_
  simp -dsimp only [↓vcA, vcB, vcD, ↓pureT_lenS, ↓iteT, ↓iteF, cond_true, cond_false, eq_self, argE, Env.get, Env.push, ev, evs, evo, retV, Value.cells, Value.oneCell', setR, overR, fillL, zl, places, allSizes, heldC, ne_eq, Int.reduceLE, Int.reduceLT, Int.reduceEq, Int.reduceNe, Int.reduceToNat, Int.cast_ofNat_Int, Nat.reduceMul, Nat.reduceLeDiff, reduceIte, Nat.reduceEqDiff, Nat.reduceAdd, ↓reduceIte, Try.vcT]
/-- All that was written: the bytes and the number of the answer. -/
theorem bytes (p : Nat) (v : Value) (s : W8) (w : World) (hw : WrS 32 w p v s) (hl : s.l.length ≤ 1000000) :
    Calls Try.prog 30 [.pointer (some ⟨p, 0, none⟩)].toArray w (RetK fun r w' => ∃ v', r = .tuple #[v', .int .i64 (if s.bad then 2 else 0)] ∧ Copy w w' v' (if s.bad then [] else s.l)) := by
  refine walk Try.func30 rfl (by kernel_rfl) (by rw [Try.nt30]; simp) ?_
  cases hb : s.bad with
  | true =>
    have h1 := hw.c1
    rw [hb] at h1
    simp -dsimp only [↓vcA, vcB, vcD, ↓pureT_lenS, ↓iteT, ↓iteF, cond_true, cond_false, eq_self, argE, Env.get, Env.push, ev, evs, evo, retV, Value.cells, Value.oneCell', setR, overR, fillL, zl, places, allSizes, heldC, ne_eq, Int.reduceLE, Int.reduceLT, Int.reduceEq, Int.reduceNe, Int.reduceToNat, Int.cast_ofNat_Int, Nat.reduceMul, Nat.reduceLeDiff, reduceIte, Nat.reduceEqDiff, Nat.reduceAdd, ↓reduceIte, Try.vcT, h1]
    exact ⟨_, rfl, Chg.refl _ _, Own.nil w, fun k hk => by simp [Value.ownBlock] at hk⟩
  | false =>
    have h1 := hw.c1
    rw [hb] at h1
    simp -dsimp only [↓vcA, vcB, vcD, ↓pureT_lenS, ↓iteT, ↓iteF, cond_true, cond_false, eq_self, argE, Env.get, Env.push, ev, evs, evo, retV, Value.cells, Value.oneCell', setR, overR, fillL, zl, places, allSizes, heldC, ne_eq, Int.reduceLE, Int.reduceLT, Int.reduceEq, Int.reduceNe, Int.reduceToNat, Int.cast_ofNat_Int, Nat.reduceMul, Nat.reduceLeDiff, reduceIte, Nat.reduceEqDiff, Nat.reduceAdd, ↓reduceIte, Try.vcT, h1, hw.c0]
    refine callsK_use (clone v s.l w hw.own.rd (by omega)) ?_
    rintro r w1 ⟨hc, _⟩
    simp -dsimp only [↓vcA, vcB, vcD, ↓pureT_lenS, ↓iteT, ↓iteF, cond_true, cond_false, eq_self, argE, Env.get, Env.push, ev, evs, evo, retV, Value.cells, Value.oneCell', setR, overR, fillL, zl, places, allSizes, heldC, ne_eq, Int.reduceLE, Int.reduceLT, Int.reduceEq, Int.reduceNe, Int.reduceToNat, Int.cast_ofNat_Int, Nat.reduceMul, Nat.reduceLeDiff, reduceIte, Nat.reduceEqDiff, Nat.reduceAdd, ↓reduceIte, Try.vcT]
    exact ⟨_, rfl, by simpa using hc⟩

/-- the sum of a row -/
def sumStep (a x : Int) : Int := IntKind.u64.wrap (IntKind.u64.wrap (BitVec.ofInt IntKind.u64.bits a ^^^ BitVec.ofInt IntKind.u64.bits (IntKind.u64.wrap x)).toNat * 1099511628211)
def sumOf (xs : List Int) : Int := xs.foldl sumStep 14695981039346656037
theorem sum (v : Value) (xs : List Int) (w : World) (h : Rd w v xs) (hl : xs.length ≤ 100000000) :
    Calls Try.prog 20 [v].toArray w (RetK fun r w' => r = .int .u64 (sumOf xs) ∧ w' = w) := by
  obtain ⟨a, c, rfl, h1, h2, h3, h4⟩ := h
  refine walk Try.func20 rfl (by kernel_rfl) (by rw [Try.nt20]; simp) ?_
  simp -dsimp only [↓vcA, vcB, vcD, ↓pureT_lenS, ↓iteT, ↓iteF, cond_true, cond_false, eq_self, argE, Env.get, Env.push, ev, evs, evo, retV, Value.cells, Value.oneCell', setR, overR, fillL, zl, places, allSizes, heldC, ne_eq, Int.reduceLE, Int.reduceLT, Int.reduceEq, Int.reduceNe, Int.reduceToNat, Int.cast_ofNat_Int, Nat.reduceMul, Nat.reduceLeDiff, reduceIte, Nat.reduceEqDiff, Nat.reduceAdd, ↓reduceIte, Try.vcT]
  refine walkLoop [6, 7] [8, 3] (fun m vs w1 => w1 = w ∧ ∃ i, i ≤ xs.length ∧ m = xs.length - i ∧ vs = [.int .i64 i, .int .u64 ((xs.take i).foldl sumStep 14695981039346656037)]) (by kernel_rfl) ?_ ?_
  · simp -dsimp only [↓vcA, vcB, vcD, ↓pureT_lenS, ↓iteT, ↓iteF, cond_true, cond_false, eq_self, argE, Env.get, Env.push, ev, evs, evo, retV, Value.cells, Value.oneCell', setR, overR, fillL, zl, places, allSizes, heldC, ne_eq, Int.reduceLE, Int.reduceLT, Int.reduceEq, Int.reduceNe, Int.reduceToNat, Int.cast_ofNat_Int, Nat.reduceMul, Nat.reduceLeDiff, reduceIte, Nat.reduceEqDiff, Nat.reduceAdd, ↓reduceIte, Try.vcT, gets]
    exact ⟨_, 0, Nat.zero_le _, rfl, by simp⟩
  · intro ks hk m vs w1 hi
    obtain ⟨rfl, i, hi, rfl, rfl⟩ := hi
    simp [gets, Env.get, Env.push] at hk
    subst hk
    simp -dsimp only [↓vcA, vcB, vcD, ↓pureT_lenS, ↓iteT, ↓iteF, cond_true, cond_false, eq_self, argE, Env.get, Env.push, ev, evs, evo, retV, Value.cells, Value.oneCell', setR, overR, fillL, zl, places, allSizes, heldC, ne_eq, Int.reduceLE, Int.reduceLT, Int.reduceEq, Int.reduceNe, Int.reduceToNat, Int.cast_ofNat_Int, Nat.reduceMul, Nat.reduceLeDiff, reduceIte, Nat.reduceEqDiff, Nat.reduceAdd, ↓reduceIte, Try.vcT, gets]
    refine ifK_dec (fun hlt => ?_) (fun hge => ?_)
    · obtain ⟨b, o, rfl, hc⟩ := h4 (by omega)
      have e : IntKind.i64.wrap ((i : Int) + 1) = ((i + 1 : Nat) : Int) := by rw [IntWalk.i64_in _ (by simp only [maxLen] at h2; omega)]; omega
      simp -dsimp only [↓vcA, vcB, vcD, ↓pureT_lenS, ↓iteT, ↓iteF, cond_true, cond_false, eq_self, argE, Env.get, Env.push, ev, evs, evo, retV, Value.cells, Value.oneCell', setR, overR, fillL, zl, places, allSizes, heldC, ne_eq, Int.reduceLE, Int.reduceLT, Int.reduceEq, Int.reduceNe, Int.reduceToNat, Int.cast_ofNat_Int, Nat.reduceMul, Nat.reduceLeDiff, reduceIte, Nat.reduceEqDiff, Nat.reduceAdd, ↓reduceIte, Try.vcT, gets]
      refine ⟨⟨by omega, by omega⟩, ?_⟩
      simp -dsimp only [↓vcA, vcB, vcD, ↓pureT_lenS, ↓iteT, ↓iteF, cond_true, cond_false, eq_self, argE, Env.get, Env.push, ev, evs, evo, retV, Value.cells, Value.oneCell', setR, overR, fillL, zl, places, allSizes, heldC, ne_eq, Int.reduceLE, Int.reduceLT, Int.reduceEq, Int.reduceNe, Int.reduceToNat, Int.cast_ofNat_Int, Nat.reduceMul, Nat.reduceLeDiff, reduceIte, Nat.reduceEqDiff, Nat.reduceAdd, ↓reduceIte, Try.vcT, gets, hc i (by omega), e]
      refine ⟨_, ?_, i + 1, by omega, rfl, ?_⟩
      · omega
      · rw [List.take_succ_eq_append_getElem (by omega), List.foldl_append]
        simp [sumStep, List.getD, show i < xs.length by omega]
    · simp -dsimp only [↓vcA, vcB, vcD, ↓pureT_lenS, ↓iteT, ↓iteF, cond_true, cond_false, eq_self, argE, Env.get, Env.push, ev, evs, evo, retV, Value.cells, Value.oneCell', setR, overR, fillL, zl, places, allSizes, heldC, ne_eq, Int.reduceLE, Int.reduceLT, Int.reduceEq, Int.reduceNe, Int.reduceToNat, Int.cast_ofNat_Int, Nat.reduceMul, Nat.reduceLeDiff, reduceIte, Nat.reduceEqDiff, Nat.reduceAdd, ↓reduceIte, Try.vcT, gets]
      have : i = xs.length := by omega
      subst this
      simp [sumOf]
end Go.Proofs.Ytnhgjgoglmadnaa
