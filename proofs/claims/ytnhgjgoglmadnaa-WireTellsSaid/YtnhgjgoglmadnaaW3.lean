/- The contracts of the frames' package, 3. -/
import Derived.Test.YtnhgjgoglmadnaaW2
namespace Go.Proofs.Ytnhgjgoglmadnaa
open Go.RowKit
-- FACTS emp_fact, rds_fact, frm_fact, strm_fact, rdz_fact
set_option maxRecDepth 100000
set_option linter.unusedSimpArgs false
set_option linter.unusedVariables false
set_option pp.maxSteps 1500
set_option pp.deepTerms.threshold 8

section
variable {w0 w : World} {S : Nat → Prop} {M : List Res} {K : Value → World → Prop}
theorem Sep.wnew (d : Bool) {v : Value} (xs : List Int) (h : Sep w0 S M w) (hr : Rd w v xs) (hb : Byt xs) (hl : xs.length ≤ 1000000) (hm : may24 d xs = true)
    (hk : ∀ p w1, Sep w0 S (M ++ [strm p ⟨d, xs⟩]) w1 → K (.tuple #[.pointer (some ⟨p, 0, none⟩), .int .i64 0]) w1) : callsK Try.prog 37 [.bool d, v].toArray w K := by
  refine Sep.callN h (Go.Proofs.Ytnhgjgoglmadnaa.wnew d v xs w hr hb hl) ?_
  intro r N w1 hq h
  rw [if_pos hm] at hq
  obtain ⟨p, rfl, rfl⟩ := hq
  exact hk p w1 h
theorem Sep.wnewNo (d : Bool) {v : Value} (xs : List Int) (h : Sep w0 S M w) (hr : Rd w v xs) (hb : Byt xs) (hl : xs.length ≤ 1000000) (hm : may24 d xs = false)
    (hk : ∀ w1, Sep w0 S M w1 → K (.tuple #[.pointer none, .int .i64 2]) w1) : callsK Try.prog 37 [.bool d, v].toArray w K := by
  refine Sep.callN h (Go.Proofs.Ytnhgjgoglmadnaa.wnew d v xs w hr hb hl) ?_
  intro r N w1 hq h
  rw [if_neg (by simp [hm])] at hq
  obtain ⟨rfl, rfl⟩ := hq
  exact hk w1 (by simpa using h)
theorem Sep.feed (i : Nat) {p : Nat} {s : S24} {v : Value} (b : List Int) (h : Sep w0 S M w) (hi : M[i]? = some (strm p s)) (hr : Rd w v b) (hb : Byt (s.l ++ b)) (hl : s.l.length + b.length ≤ 1000000)
    (hk : ∀ a c w1, Sep w0 S (M.set i (strm p (s.feedS b)) ++ [frm (.slice a (s.feedF b).length c) (s.feedF b)]) w1 → K (.tuple #[.slice a (s.feedF b).length c, .int .i64 (s.feedC b)]) w1) : callsK Try.prog 40 [.pointer (some ⟨p, 0, none⟩), v].toArray w K := by
  refine Sep.call1 i h hi (fun A _ hA => Go.Proofs.Ytnhgjgoglmadnaa.feed p s v b w A hA hr hb (by omega) hl) ?_
  rintro v r' N w1 ⟨a, c, rfl, rfl, rfl⟩ h
  exact hk a c w1 h
theorem wfeedNil (v : Value) (w : World) : Calls Try.prog 40 [.pointer none, v].toArray w (RetK fun r w' => r = .tuple #[.slice none 0 0, .int .i64 2] ∧ Chg (fun _ => False) w w') := by
  refine walk Try.func40 rfl (by kernel_rfl) (by rw [Try.nt40]; simp) ?_
  simp -dsimp only [↓vcA, vcB, vcD, ↓pureT_lenS, ↓iteT, ↓iteF, cond_true, cond_false, eq_self, argE, Env.get, Env.push, ev, evs, evo, retV, Value.cells, Value.oneCell', setR, overR, fillL, zl, places, allSizes, heldC, ne_eq, Int.reduceLE, Int.reduceLT, Int.reduceEq, Int.reduceNe, Int.reduceToNat, Int.cast_ofNat_Int, Nat.reduceMul, Nat.reduceLeDiff, reduceIte, Nat.reduceEqDiff, Nat.reduceAdd, ↓reduceIte, Try.vcT]
  exact Chg.refl _ _
theorem Sep.reset (i : Nat) {p : Nat} {s : S24} (h : Sep w0 S M w) (hi : M[i]? = some (strm p s))
    (hk : ∀ w1, Sep w0 S (M.set i (strm p ⟨false, []⟩)) w1 → K (.tuple #[]) w1) : callsK Try.prog 39 [.pointer (some ⟨p, 0, none⟩)].toArray w K := by
  refine Sep.call1 (Q := fun v r' N => v = .tuple #[] ∧ r' = strm p ⟨false, []⟩ ∧ N = []) i h hi (fun A _ h => ?_) ?_
  · obtain ⟨a0, c0, h⟩ := h.strmOpen 0 rfl
    (try simp only [nfD] at h); have F := h.facts; (try simp only [nfF, emp_fact, rds_fact, frm_fact, strm_fact, rdz_fact] at F)
    refine walk Try.func39 rfl (by kernel_rfl) (by rw [Try.nt39]; simp) ?_
    (try simp only [nfD] at h); have F := h.facts; (try simp only [nfF, emp_fact, rds_fact, frm_fact, strm_fact, rdz_fact] at F); try simp -dsimp only [↓vcA, vcB, vcD, ↓pureT_lenS, ↓iteT, ↓iteF, cond_true, cond_false, eq_self, argE, Env.get, Env.push, ev, evs, evo, retV, Value.cells, Value.oneCell', setR, overR, fillL, zl, places, allSizes, heldC, ne_eq, Int.reduceLE, Int.reduceLT, Int.reduceEq, Int.reduceNe, Int.reduceToNat, Int.cast_ofNat_Int, Nat.reduceMul, Nat.reduceLeDiff, reduceIte, Nat.reduceEqDiff, Nat.reduceAdd, ↓reduceIte, Try.vcT, F, h.cell0, gets, vsD, if_true, if_false, Bool.false_eq_true]
    repeat ((first | refine Sep.new h ?_ | refine Sep.put 0 h rfl ?_ | refine Sep.put 1 h rfl ?_ | refine Sep.put 2 h rfl ?_ | refine Sep.put 3 h rfl ?_ | refine Sep.put 4 h rfl ?_ | refine Sep.put 5 h rfl ?_); (clear F; (try clear h); intros; rename_i h; (try simp only [nfD] at h); have F := h.facts; (try simp only [nfF, emp_fact, rds_fact, frm_fact, strm_fact, rdz_fact] at F); try simp -dsimp only [↓vcA, vcB, vcD, ↓pureT_lenS, ↓iteT, ↓iteF, cond_true, cond_false, eq_self, argE, Env.get, Env.push, ev, evs, evo, retV, Value.cells, Value.oneCell', setR, overR, fillL, zl, places, allSizes, heldC, ne_eq, Int.reduceLE, Int.reduceLT, Int.reduceEq, Int.reduceNe, Int.reduceToNat, Int.cast_ofNat_Int, Nat.reduceMul, Nat.reduceLeDiff, reduceIte, Nat.reduceEqDiff, Nat.reduceAdd, ↓reduceIte, Try.vcT, F, h.cell0, gets, vsD, if_true, if_false, Bool.false_eq_true]))
    have h := ((h.bytNil.strmClose 0 2 rfl rfl (by simp)).erase 2).erase 1
    exact ⟨_, _, h, fun _ f => f, (fun q hq => by cases hq), rfl, rfl⟩
  · rintro v r' N w1 ⟨rfl, rfl, rfl⟩ h
    exact hk w1 (by simpa using h)
theorem Sep.dead (i : Nat) {p : Nat} {s : S24} (h : Sep w0 S M w) (hi : M[i]? = some (strm p s)) (hk : ∀ w1, Sep w0 S M w1 → K (.bool s.dead) w1) : callsK Try.prog 43 [.pointer (some ⟨p, 0, none⟩)].toArray w K := by
  obtain ⟨A, ⟨h1, v, h2, h3, rfl⟩, _, _⟩ := h.at hi
  refine callsK_pure (x := .bool s.dead) ?_ (hk w h)
  have hc : w.cell? ⟨p, 0, none⟩ = some (.bool s.dead) := by rw [cell_of_row w p 0 _ _ _ h2]; rfl
  refine walk Try.func43 rfl (by kernel_rfl) (by rw [Try.nt43]; simp) ?_
  simp -dsimp only [↓vcA, vcB, vcD, ↓pureT_lenS, ↓iteT, ↓iteF, cond_true, cond_false, eq_self, argE, Env.get, Env.push, ev, evs, evo, retV, Value.cells, Value.oneCell', setR, overR, fillL, zl, places, allSizes, heldC, ne_eq, Int.reduceLE, Int.reduceLT, Int.reduceEq, Int.reduceNe, Int.reduceToNat, Int.cast_ofNat_Int, Nat.reduceMul, Nat.reduceLeDiff, reduceIte, Nat.reduceEqDiff, Nat.reduceAdd, ↓reduceIte, Try.vcT, hc]
theorem Sep.rest (i : Nat) {p : Nat} {s : S24} (h : Sep w0 S M w) (hi : M[i]? = some (strm p s)) (hk : ∀ a c w1, Sep w0 S (M ++ [byt (.slice a s.l.length c) s.l]) w1 → K (.slice a s.l.length c) w1) : callsK Try.prog 44 [.pointer (some ⟨p, 0, none⟩)].toArray w K := by
  obtain ⟨A, ⟨h1, v, h2, h3, rfl⟩, _, _⟩ := h.at hi
  obtain ⟨a, c, rfl⟩ := owns_shape h3
  have hc : w.cell? ⟨p, 1, none⟩ = some (.slice a s.l.length c) := by rw [cell_of_row w p 1 _ _ _ h2]; rfl
  refine callsK_use (R := fun r w' => Copy w w' r s.l) ?_ ?_
  · refine walk Try.func44 rfl (by kernel_rfl) (by rw [Try.nt44]; simp) ?_
    simp -dsimp only [↓vcA, vcB, vcD, ↓pureT_lenS, ↓iteT, ↓iteF, cond_true, cond_false, eq_self, argE, Env.get, Env.push, ev, evs, evo, retV, Value.cells, Value.oneCell', setR, overR, fillL, zl, places, allSizes, heldC, ne_eq, Int.reduceLE, Int.reduceLT, Int.reduceEq, Int.reduceNe, Int.reduceToNat, Int.cast_ofNat_Int, Nat.reduceMul, Nat.reduceLeDiff, reduceIte, Nat.reduceEqDiff, Nat.reduceAdd, ↓reduceIte, Try.vcT, hc]
    refine callsK_use (Go.Proofs.Ytnhgjgoglmadnaa.bclone _ s.l w h3.rd (by omega)) ?_
    intro r w1 c1
    simp -dsimp only [↓vcA, vcB, vcD, ↓pureT_lenS, ↓iteT, ↓iteF, cond_true, cond_false, eq_self, argE, Env.get, Env.push, ev, evs, evo, retV, Value.cells, Value.oneCell', setR, overR, fillL, zl, places, allSizes, heldC, ne_eq, Int.reduceLE, Int.reduceLT, Int.reduceEq, Int.reduceNe, Int.reduceToNat, Int.cast_ofNat_Int, Nat.reduceMul, Nat.reduceLeDiff, reduceIte, Nat.reduceEqDiff, Nat.reduceAdd, ↓reduceIte, Try.vcT]
    exact c1
  · intro r w1 c1
    obtain ⟨a, c, rfl⟩ := owns_shape c1.own
    exact hk a c w1 (c1.push h)
end

/-- a frame -/
def enc (xs : List Int) : List Int := (xs.length : Int) / 256 % 256 :: (xs.length : Int) % 256 :: xs
theorem be2 (n : Int) (h : 0 ≤ n) : be n 2 = [n / 256 % 256, n % 256] := by
  simp [be, List.range_succ]
theorem wframe (v : Value) (xs : List Int) (w : World) (hr : Rd w v xs) (hl : xs.length ≤ 65535) :
    Calls Try.prog 45 [v].toArray w (RetK fun r w' => ∃ N, Sep w (fun _ => False) N w' ∧ (∀ q ∈ N, ∀ x, ¬ q.rd x) ∧ ∃ a c, r = .slice a (enc xs).length c ∧ N = [byt (.slice a (enc xs).length c) (enc xs)]) := by
  have hr0 := hr
  obtain ⟨a, c, rfl, h2, _⟩ := hr
  have h := Sep.nil w
  refine walk Try.func45 rfl (by kernel_rfl) (by rw [Try.nt45]; simp) ?_
  have hb : ¬ (65535 : Int) < xs.length := by omega
  have e : (⟨[], false⟩ : W8).num (xs.length : Int) 2 = ⟨[(xs.length : Int) / 256 % 256, (xs.length : Int) % 256], false⟩ := by
    unfold W8.num fits
    rw [if_pos]
    · have : (2 : Int).toNat = 2 := rfl
      rw [this, be2 _ (by omega)]; rfl
    · have : (8 * (2 : Int)).toNat = 16 := rfl
      simp only [decide_eq_true_eq, this]
      have : (2 : Int) ^ 16 = 65536 := by decide
      rw [this]; omega
  simp -dsimp only [↓vcA, vcB, vcD, ↓pureT_lenS, ↓iteT, ↓iteF, cond_true, cond_false, eq_self, argE, Env.get, Env.push, ev, evs, evo, retV, Value.cells, Value.oneCell', setR, overR, fillL, zl, places, allSizes, heldC, ne_eq, Int.reduceLE, Int.reduceLT, Int.reduceEq, Int.reduceNe, Int.reduceToNat, Int.cast_ofNat_Int, Nat.reduceMul, Nat.reduceLeDiff, reduceIte, Nat.reduceEqDiff, Nat.reduceAdd, ↓reduceIte, Try.vcT, decide_eq_false hb]
  refine h.new ?_
  intro w1 b h
  have h := h.wrNew 0 rfl (by decide)
  (try simp only [nfD] at h); have F := h.facts; (try simp only [nfF, emp_fact, rds_fact, frm_fact, strm_fact, rdz_fact] at F)
  repeat ((first | refine Sep.new h ?_ | refine Sep.put 0 h rfl ?_ | refine Sep.put 1 h rfl ?_ | refine Sep.put 2 h rfl ?_ | refine Sep.put 3 h rfl ?_ | refine Sep.put 4 h rfl ?_ | refine Sep.put 5 h rfl ?_ | refine Sep.num 0 h rfl (by omega) (by omega) (by omega) ?_ | refine Sep.raw 0 xs h rfl (by omega) (hr0.sep h fun _ _ => id) (by omega) ?_ | refine Sep.bytes 0 h rfl (by omega) ?_); (clear F; (try clear h); intros; rename_i h; (try simp only [nfD] at h); have F := h.facts; (try simp only [nfF, emp_fact, rds_fact, frm_fact, strm_fact, rdz_fact] at F); try simp -dsimp only [↓vcA, vcB, vcD, ↓pureT_lenS, ↓iteT, ↓iteF, cond_true, cond_false, eq_self, argE, Env.get, Env.push, ev, evs, evo, retV, Value.cells, Value.oneCell', setR, overR, fillL, zl, places, allSizes, heldC, ne_eq, Int.reduceLE, Int.reduceLT, Int.reduceEq, Int.reduceNe, Int.reduceToNat, Int.cast_ofNat_Int, Nat.reduceMul, Nat.reduceLeDiff, reduceIte, Nat.reduceEqDiff, Nat.reduceAdd, ↓reduceIte, Try.vcT, F, h.cell0, gets, vsD, if_true, if_false, Bool.false_eq_true, e, W8.raw]))
  rw [e] at h
  simp only [W8.raw, Bool.false_eq_true, if_false] at h
  exact ⟨_, h.erase 0, (fun q hq x hx => by simp at hq; subst hq; exact hx), _, _, rfl, rfl⟩

theorem rwframe (v : Value) (xs : List Int) (w : World) (hr : Rd w v xs) (hl : xs.length ≤ 65535) :
    Calls Try.prog 46 [v].toArray w (RetK fun r w' => ∃ N, Sep w (fun _ => False) N w' ∧ (∀ q ∈ N, ∀ x, ¬ q.rd x) ∧ ∃ a c, r = .slice a (enc xs).length c ∧ N = [byt (.slice a (enc xs).length c) (enc xs)]) := by
  have hr0 := hr
  obtain ⟨a, c, rfl, h2, _⟩ := hr
  have h := Sep.nil w
  refine walk Try.func46 rfl (by kernel_rfl) (by rw [Try.nt46]; simp) ?_
  have hb : ¬ (65535 : Int) < xs.length := by omega
  simp -dsimp only [↓vcA, vcB, vcD, ↓pureT_lenS, ↓iteT, ↓iteF, cond_true, cond_false, eq_self, argE, Env.get, Env.push, ev, evs, evo, retV, Value.cells, Value.oneCell', setR, overR, fillL, zl, places, allSizes, heldC, ne_eq, Int.reduceLE, Int.reduceLT, Int.reduceEq, Int.reduceNe, Int.reduceToNat, Int.cast_ofNat_Int, Nat.reduceMul, Nat.reduceLeDiff, reduceIte, Nat.reduceEqDiff, Nat.reduceAdd, ↓reduceIte, Try.vcT, decide_eq_false hb]
  refine h.new ?_
  intro w1 b h
  simp only [u8wrap] at h
  have e3 : (xs.length : Int) / 2 ^ min 8 IntKind.i64.bits = (xs.length : Int) / 256 := rfl
  rw [e3] at h
  have h := h.toByt 0 [(xs.length : Int) / 256 % 256, (xs.length : Int) % 256] rfl (by simp [maxLen])
  refine Sep.appB 0 xs h rfl (hr0.sep h fun _ _ => id) (by simp; omega) ?_
  intro a c w2 h
  (try simp only [nfD] at h); have F := h.facts; (try simp only [nfF, emp_fact, rds_fact, frm_fact, strm_fact, rdz_fact] at F); try simp -dsimp only [↓vcA, vcB, vcD, ↓pureT_lenS, ↓iteT, ↓iteF, cond_true, cond_false, eq_self, argE, Env.get, Env.push, ev, evs, evo, retV, Value.cells, Value.oneCell', setR, overR, fillL, zl, places, allSizes, heldC, ne_eq, Int.reduceLE, Int.reduceLT, Int.reduceEq, Int.reduceNe, Int.reduceToNat, Int.cast_ofNat_Int, Nat.reduceMul, Nat.reduceLeDiff, reduceIte, Nat.reduceEqDiff, Nat.reduceAdd, ↓reduceIte, Try.vcT, F, h.cell0, gets, vsD, if_true, if_false, Bool.false_eq_true]
  exact ⟨_, h, (fun q hq x hx => by simp at hq; subst hq; exact hx), _, _, rfl, rfl⟩
section
variable {w0 w : World} {S : Nat → Prop} {M : List Res} {K : Value → World → Prop}
theorem Sep.frame {v : Value} (xs : List Int) (h : Sep w0 S M w) (hr : Rd w v xs) (hl : xs.length ≤ 65535)
    (hk : ∀ a c w1, Sep w0 S (M ++ [byt (.slice a (enc xs).length c) (enc xs)]) w1 → K (.slice a (enc xs).length c) w1) : callsK Try.prog 45 [v].toArray w K := by
  refine Sep.callN h (wframe v xs w hr hl) ?_
  rintro r N w1 ⟨a, c, rfl, rfl⟩ h
  exact hk a c w1 h
theorem Sep.rframe {v : Value} (xs : List Int) (h : Sep w0 S M w) (hr : Rd w v xs) (hl : xs.length ≤ 65535)
    (hk : ∀ a c w1, Sep w0 S (M ++ [byt (.slice a (enc xs).length c) (enc xs)]) w1 → K (.slice a (enc xs).length c) w1) : callsK Try.prog 46 [v].toArray w K := by
  refine Sep.callN h (rwframe v xs w hr hl) ?_
  rintro r N w1 ⟨a, c, rfl, rfl⟩ h
  exact hk a c w1 h
end
end Go.Proofs.Ytnhgjgoglmadnaa
