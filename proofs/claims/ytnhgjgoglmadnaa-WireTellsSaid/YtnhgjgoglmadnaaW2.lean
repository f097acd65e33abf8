/- The contracts of the frames' package, 2. -/
import Derived.Test.YtnhgjgoglmadnaaW1
import Derived.Test.YtnhgjgoglmadnaaK3
namespace Go.Proofs.Ytnhgjgoglmadnaa
open Go.RowKit
-- FACTS emp_fact, rds_fact, frm_fact, strm_fact, strr_fact, rdz_fact
set_option maxRecDepth 100000
set_option linter.unusedSimpArgs false
set_option linter.unusedVariables false
set_option pp.maxSteps 1500
set_option pp.deepTerms.threshold 8

def BytL (ls : List (List Int)) : Prop := ∀ l ∈ ls, Byt l
theorem take_succ_eq {α : Type} {a b : List α} {i : Nat} (h : a.take i = b.take i) (ha : i < a.length) (hb : i < b.length) (he : a[i] = b[i]) : a.take (i + 1) = b.take (i + 1) := by
  rw [List.take_succ_eq_append_getElem ha, List.take_succ_eq_append_getElem hb, h, he]
theorem same24 (v u : Value) (ls ms : List (List Int)) (w : World) (h1 : Frs w v ls) (h2 : Frs w u ms) (b1 : BytL ls) (b2 : BytL ms) :
    Calls Try.prog 42 [v, u].toArray w (RetK fun r w' => r = .bool (decide (ls = ms)) ∧ Chg (fun _ => False) w w') := by
  obtain ⟨a, c, rfl⟩ := h1.shape
  obtain ⟨a', c', rfl⟩ := h2.shape
  have l1 := h1.len
  have l2 := h2.len
  simp only [maxLen] at l1 l2
  refine walk Try.func42 rfl (by kernel_rfl) (by rw [Try.nt42]; simp) ?_
  by_cases hlen : (ls.length : Int) = ms.length
  case neg =>
    simp -dsimp only [↓vcA, vcB, vcD, ↓pureT_lenS, ↓iteT, ↓iteF, cond_true, cond_false, eq_self, argE, Env.get, Env.push, ev, evs, evo, retV, Value.cells, Value.oneCell', setR, overR, fillL, zl, places, allSizes, heldC, ne_eq, Int.reduceLE, Int.reduceLT, Int.reduceEq, Int.reduceNe, Int.reduceToNat, Int.cast_ofNat_Int, Nat.reduceMul, Nat.reduceLeDiff, reduceIte, Nat.reduceEqDiff, Nat.reduceAdd, ↓reduceIte, Try.vcT, decide_eq_false hlen]
    have : ls ≠ ms := fun e => hlen (by rw [e])
    exact ⟨by simp [this], Chg.refl _ _⟩
  simp -dsimp only [↓vcA, vcB, vcD, ↓pureT_lenS, ↓iteT, ↓iteF, cond_true, cond_false, eq_self, argE, Env.get, Env.push, ev, evs, evo, retV, Value.cells, Value.oneCell', setR, overR, fillL, zl, places, allSizes, heldC, ne_eq, Int.reduceLE, Int.reduceLT, Int.reduceEq, Int.reduceNe, Int.reduceToNat, Int.cast_ofNat_Int, Nat.reduceMul, Nat.reduceLeDiff, reduceIte, Nat.reduceEqDiff, Nat.reduceAdd, ↓reduceIte, Try.vcT, decide_eq_true hlen]
  refine walkLoop [0, 1] [5] (fun m vs w' => Chg (fun _ => False) w w' ∧ ∃ i, i ≤ ls.length ∧ m = ls.length - i ∧ vs = [.int .i64 i] ∧ ls.take i = ms.take i) (by kernel_rfl) ?_ ?_
  · simp -dsimp only [↓vcA, vcB, vcD, ↓pureT_lenS, ↓iteT, ↓iteF, cond_true, cond_false, eq_self, argE, Env.get, Env.push, ev, evs, evo, retV, Value.cells, Value.oneCell', setR, overR, fillL, zl, places, allSizes, heldC, ne_eq, Int.reduceLE, Int.reduceLT, Int.reduceEq, Int.reduceNe, Int.reduceToNat, Int.cast_ofNat_Int, Nat.reduceMul, Nat.reduceLeDiff, reduceIte, Nat.reduceEqDiff, Nat.reduceAdd, ↓reduceIte, Try.vcT, gets]
    exact ⟨_, Chg.refl _ _, 0, Nat.zero_le _, rfl, by simp, by simp⟩
  · intro ks hk m vs w1 hi
    obtain ⟨c1, i, hi, rfl, rfl, he⟩ := hi
    simp -dsimp only [gets, argE, List.zip_cons_cons, List.zip_nil_left, List.cons_append, List.nil_append, Env.get, Env.push, Option.bind_some, Option.map_some, Option.some.injEq, reduceIte, Nat.reduceEqDiff, Nat.reduceAdd, ↓reduceIte] at hk; subst hk
    by_cases hlt : (i : Int) < ls.length
    case neg =>
      simp -dsimp only [↓vcA, vcB, vcD, ↓pureT_lenS, ↓iteT, ↓iteF, cond_true, cond_false, eq_self, argE, Env.get, Env.push, ev, evs, evo, retV, Value.cells, Value.oneCell', setR, overR, fillL, zl, places, allSizes, heldC, ne_eq, Int.reduceLE, Int.reduceLT, Int.reduceEq, Int.reduceNe, Int.reduceToNat, Int.cast_ofNat_Int, Nat.reduceMul, Nat.reduceLeDiff, reduceIte, Nat.reduceEqDiff, Nat.reduceAdd, ↓reduceIte, Try.vcT, gets, decide_eq_false hlt]
      have e1 : ls = ms := by
        have := he
        rwa [List.take_of_length_le (by omega), List.take_of_length_le (by omega)] at this
      exact ⟨by simp [e1], c1⟩
    have hi1 : i < ls.length := by omega
    have hi2 : i < ms.length := by omega
    obtain ⟨b, o, u1, rfl, k1, r1⟩ := h1.at hi1
    obtain ⟨b', o', u2, rfl, k2, r2⟩ := h2.at hi2
    have e : IntKind.i64.wrap ((i : Int) + 1) = ((i + 1 : Nat) : Int) := by rw [i64w _ (by omega) (by omega)]; omega
    simp -dsimp only [↓vcA, vcB, vcD, ↓pureT_lenS, ↓iteT, ↓iteF, cond_true, cond_false, eq_self, argE, Env.get, Env.push, ev, evs, evo, retV, Value.cells, Value.oneCell', setR, overR, fillL, zl, places, allSizes, heldC, ne_eq, Int.reduceLE, Int.reduceLT, Int.reduceEq, Int.reduceNe, Int.reduceToNat, Int.cast_ofNat_Int, Nat.reduceMul, Nat.reduceLeDiff, reduceIte, Nat.reduceEqDiff, Nat.reduceAdd, ↓reduceIte, Try.vcT, gets, decide_eq_true hlt]
    have L1 : Holds [(b, o + i, u1), (b', o' + i, u2)] w1 := by simp [Holds_nil, Holds_cons, c1.cell k1 id, c1.cell k2 id]
    refine walkDraw (.q 0 (.q 1 (.q 2 (.q 5 (.q 6 (.q 7 (.h 3 0 (.h 8 1 (.ll 4 (.l 9 (.q 10 .fin)) 9 (.l 4 (.q 10 .fin)))))))))))  [(b, o + i, u1), (b', o' + i, u2)] (by kernel_rfl) L1 ?_
    intro w2 e2 c2
    have L2 := c2.holds L1
    have c12 : Chg (fun _ => False) w w2 := c1.trans c2 fun _ f => f.elim
    have r1 := r1.chg c12 fun _ _ => id
    have r2 := r2.chg c12 fun _ _ => id
    simp -dsimp only [↓vcA, vcB, vcD, ↓pureT_lenS, ↓iteT, ↓iteF, cond_true, cond_false, eq_self, argE, Env.get, Env.push, ev, evs, evo, retV, Value.cells, Value.oneCell', setR, overR, fillL, zl, places, allSizes, heldC, ne_eq, Int.reduceLE, Int.reduceLT, Int.reduceEq, Int.reduceNe, Int.reduceToNat, Int.cast_ofNat_Int, Nat.reduceMul, Nat.reduceLeDiff, reduceIte, Nat.reduceEqDiff, Nat.reduceAdd, ↓reduceIte, Try.vcT, L2]
    refine ⟨⟨by omega, by omega⟩, ⟨by omega, by omega⟩, ?_⟩
    have es : ((strOfNums ls[i]).toList == (strOfNums ms[i]).toList) = decide (ls[i] = ms[i]) := strOfNums_eq (b1 _ (List.getElem_mem hi1)) (b2 _ (List.getElem_mem hi2))
    try simp -dsimp only [↓vcA, vcB, vcD, ↓pureT_lenS, ↓iteT, ↓iteF, cond_true, cond_false, eq_self, argE, Env.get, Env.push, ev, evs, evo, retV, Value.cells, Value.oneCell', setR, overR, fillL, zl, places, allSizes, heldC, ne_eq, Int.reduceLE, Int.reduceLT, Int.reduceEq, Int.reduceNe, Int.reduceToNat, Int.cast_ofNat_Int, Nat.reduceMul, Nat.reduceLeDiff, reduceIte, Nat.reduceEqDiff, Nat.reduceAdd, ↓reduceIte, Try.vcT, L2]
    apply And.intro
    case' left =>
      refine str_rule r1 ?_
      simp -dsimp only [↓vcA, vcB, vcD, ↓pureT_lenS, ↓iteT, ↓iteF, cond_true, cond_false, eq_self, argE, Env.get, Env.push, ev, evs, evo, retV, Value.cells, Value.oneCell', setR, overR, fillL, zl, places, allSizes, heldC, ne_eq, Int.reduceLE, Int.reduceLT, Int.reduceEq, Int.reduceNe, Int.reduceToNat, Int.cast_ofNat_Int, Nat.reduceMul, Nat.reduceLeDiff, reduceIte, Nat.reduceEqDiff, Nat.reduceAdd, ↓reduceIte, Try.vcT, L2]
      refine str_rule r2 ?_
    case' right =>
      refine str_rule r2 ?_
      simp -dsimp only [↓vcA, vcB, vcD, ↓pureT_lenS, ↓iteT, ↓iteF, cond_true, cond_false, eq_self, argE, Env.get, Env.push, ev, evs, evo, retV, Value.cells, Value.oneCell', setR, overR, fillL, zl, places, allSizes, heldC, ne_eq, Int.reduceLE, Int.reduceLT, Int.reduceEq, Int.reduceNe, Int.reduceToNat, Int.cast_ofNat_Int, Nat.reduceMul, Nat.reduceLeDiff, reduceIte, Nat.reduceEqDiff, Nat.reduceAdd, ↓reduceIte, Try.vcT, L2]
      refine str_rule r1 ?_
    all_goals
      by_cases hii : ls[i] = ms[i]
      · simp -dsimp only [↓vcA, vcB, vcD, ↓pureT_lenS, ↓iteT, ↓iteF, cond_true, cond_false, eq_self, argE, Env.get, Env.push, ev, evs, evo, retV, Value.cells, Value.oneCell', setR, overR, fillL, zl, places, allSizes, heldC, ne_eq, Int.reduceLE, Int.reduceLT, Int.reduceEq, Int.reduceNe, Int.reduceToNat, Int.cast_ofNat_Int, Nat.reduceMul, Nat.reduceLeDiff, reduceIte, Nat.reduceEqDiff, Nat.reduceAdd, ↓reduceIte, Try.vcT, L2, es, decide_eq_true hii, gets, e]
        exact ⟨_, by omega, c12, i + 1, by omega, rfl, rfl, take_succ_eq he hi1 hi2 hii⟩
      · simp -dsimp only [↓vcA, vcB, vcD, ↓pureT_lenS, ↓iteT, ↓iteF, cond_true, cond_false, eq_self, argE, Env.get, Env.push, ev, evs, evo, retV, Value.cells, Value.oneCell', setR, overR, fillL, zl, places, allSizes, heldC, ne_eq, Int.reduceLE, Int.reduceLT, Int.reduceEq, Int.reduceNe, Int.reduceToNat, Int.cast_ofNat_Int, Nat.reduceMul, Nat.reduceLeDiff, reduceIte, Nat.reduceEqDiff, Nat.reduceAdd, ↓reduceIte, Try.vcT, L2, es, decide_eq_false hii]
        have : ls ≠ ms := fun e => hii (by simp [e])
        exact ⟨by simp [this], c12⟩

section
variable {w0 w : World} {S : Nat → Prop} {M : List Res} {K : Value → World → Prop}
/-- may a stream begin so? -/
def may24 (d : Bool) (xs : List Int) : Bool := if d then xs.isEmpty else decide (xs.length < 2) || (decide (lenOf xs ≤ 256) && decide ((xs.length : Int) - 2 < lenOf xs))
theorem lenOf_ge {xs : List Int} (h : 2 ≤ xs.length) (hb : Byt xs) : 0 ≤ lenOf xs ∧ lenOf xs ≤ 65535 := by
  match xs, h with
  | x :: y :: zs, _ =>
    have hx := hb x (by simp)
    have hy := hb y (by simp)
    simp only [lenOf]; omega
theorem wnew (d : Bool) (v : Value) (xs : List Int) (w : World) (hr : Rd w v xs) (hb : Byt xs) (hl : xs.length ≤ 1000000) :
    Calls Try.prog 37 [.bool d, v].toArray w (RetK fun r w' => ∃ N, Sep w (fun _ => False) N w' ∧ (∀ q ∈ N, ∀ x, ¬ q.rd x) ∧
      if may24 d xs then ∃ p, r = .tuple #[.pointer (some ⟨p, 0, none⟩), .int .i64 0] ∧ N = [strm p ⟨d, xs⟩] else r = .tuple #[.pointer none, .int .i64 2] ∧ N = []) := by
  have hr0 := hr
  obtain ⟨a, c, rfl, h2, _⟩ := hr
  have h := Sep.nil w
  refine walk Try.func37 rfl (by kernel_rfl) (by rw [Try.nt37]; simp) ?_
  have ew : lenOf xs ≤ 65535 → -1 ≤ lenOf xs → IntKind.i64.wrap (2 + lenOf xs) = 2 + lenOf xs := fun h1 h2 => i64w _ (by omega) (by omega)
  have hL : (2 ≤ xs.length ∧ 0 ≤ lenOf xs ∧ lenOf xs ≤ 65535) ∨ (xs.length < 2 ∧ lenOf xs = -1) := by
    by_cases h2 : 2 ≤ xs.length
    · exact .inl ⟨h2, lenOf_ge h2 hb⟩
    · exact .inr ⟨by omega, lenOf_short (by omega)⟩
  replace ew := ew (by omega) (by omega)
  (try simp only [nfD] at h); have F := h.facts; (try simp only [nfF, emp_fact, rds_fact, frm_fact, strm_fact, strr_fact, rdz_fact] at F)
  simp -dsimp only [↓vcA, vcB, vcD, ↓pureT_lenS, ↓iteT, ↓iteF, cond_true, cond_false, eq_self, argE, Env.get, Env.push, ev, evs, evo, retV, Value.cells, Value.oneCell', setR, overR, fillL, zl, places, allSizes, heldC, ne_eq, Int.reduceLE, Int.reduceLT, Int.reduceEq, Int.reduceNe, Int.reduceToNat, Int.cast_ofNat_Int, Nat.reduceMul, Nat.reduceLeDiff, reduceIte, Nat.reduceEqDiff, Nat.reduceAdd, ↓reduceIte, Try.vcT]
  refine Sep.callp h (wlen _ _ _ hr0 hb (by omega)) ?_
  intro w1 h
  have hr1 := hr0.sep h fun _ _ => id
  cases hm : may24 d xs with
  | false =>
    have key : ∀ {w'}, Sep w (fun _ => False) [] w' → ∃ N, Sep w (fun _ => False) N w' ∧ (∀ q ∈ N, ∀ x, ¬ q.rd x) ∧ N = [] := fun h => ⟨_, h, (fun q hq => by cases hq), rfl⟩
    unfold may24 at hm
    cases d with
    | true =>
      have hp : (0 : Int) < xs.length := by
        have : xs ≠ [] := by simpa using hm
        have := List.length_pos_iff.2 this
        omega
      (try simp only [nfD] at h); have F := h.facts; (try simp only [nfF, emp_fact, rds_fact, frm_fact, strm_fact, strr_fact, rdz_fact] at F); try simp -dsimp only [↓vcA, vcB, vcD, ↓pureT_lenS, ↓iteT, ↓iteF, cond_true, cond_false, eq_self, argE, Env.get, Env.push, ev, evs, evo, retV, Value.cells, Value.oneCell', setR, overR, fillL, zl, places, allSizes, heldC, ne_eq, Int.reduceLE, Int.reduceLT, Int.reduceEq, Int.reduceNe, Int.reduceToNat, Int.cast_ofNat_Int, Nat.reduceMul, Nat.reduceLeDiff, reduceIte, Nat.reduceEqDiff, Nat.reduceAdd, ↓reduceIte, Try.vcT, F, h.cell0, gets, vsD, if_true, if_false, Bool.false_eq_true,  decide_eq_true hp]
      exact key h
    | false =>
      by_cases h256 : (256 : Int) < lenOf xs
      · (try simp only [nfD] at h); have F := h.facts; (try simp only [nfF, emp_fact, rds_fact, frm_fact, strm_fact, strr_fact, rdz_fact] at F); try simp -dsimp only [↓vcA, vcB, vcD, ↓pureT_lenS, ↓iteT, ↓iteF, cond_true, cond_false, eq_self, argE, Env.get, Env.push, ev, evs, evo, retV, Value.cells, Value.oneCell', setR, overR, fillL, zl, places, allSizes, heldC, ne_eq, Int.reduceLE, Int.reduceLT, Int.reduceEq, Int.reduceNe, Int.reduceToNat, Int.cast_ofNat_Int, Nat.reduceMul, Nat.reduceLeDiff, reduceIte, Nat.reduceEqDiff, Nat.reduceAdd, ↓reduceIte, Try.vcT, F, h.cell0, gets, vsD, if_true, if_false, Bool.false_eq_true,  decide_eq_true h256]
        exact key h
      · have h0 : (0 : Int) ≤ lenOf xs ∧ 2 + lenOf xs ≤ (xs.length : Int) := by
          simp only [Bool.false_eq_true, if_false, Bool.or_eq_false_iff, decide_eq_false_iff_not, Bool.and_eq_false_iff] at hm
          omega
        (try simp only [nfD] at h); have F := h.facts; (try simp only [nfF, emp_fact, rds_fact, frm_fact, strm_fact, strr_fact, rdz_fact] at F); try simp -dsimp only [↓vcA, vcB, vcD, ↓pureT_lenS, ↓iteT, ↓iteF, cond_true, cond_false, eq_self, argE, Env.get, Env.push, ev, evs, evo, retV, Value.cells, Value.oneCell', setR, overR, fillL, zl, places, allSizes, heldC, ne_eq, Int.reduceLE, Int.reduceLT, Int.reduceEq, Int.reduceNe, Int.reduceToNat, Int.cast_ofNat_Int, Nat.reduceMul, Nat.reduceLeDiff, reduceIte, Nat.reduceEqDiff, Nat.reduceAdd, ↓reduceIte, Try.vcT, F, h.cell0, gets, vsD, if_true, if_false, Bool.false_eq_true,  decide_eq_false h256, decide_eq_true h0.1, decide_eq_true h0.2, ew]
        exact key h
  | true =>
    unfold may24 at hm
    have key : ∀ {w' p}, Sep w (fun _ => False) [strm p ⟨d, xs⟩] w' → ∃ N, Sep w (fun _ => False) N w' ∧ (∀ q ∈ N, ∀ x, ¬ q.rd x) ∧ ∃ p', Value.tuple #[.pointer (some ⟨p, 0, none⟩), .int .i64 0] = .tuple #[.pointer (some ⟨p', 0, none⟩), .int .i64 0] ∧ N = [strm p' ⟨d, xs⟩] := fun h => ⟨_, h, (fun q hq x hx => by simp at hq; subst hq; exact hx), _, rfl, rfl⟩
    cases d with
    | true =>
      have hz : xs = [] := by simpa using hm
      subst hz
      have h256 : ¬ (256 : Int) < lenOf [] := by simp [lenOf]
      have h0 : ¬ (0 : Int) ≤ lenOf [] := by simp [lenOf]
      have hp : ¬ (0 : Int) < ([] : List Int).length := by simp
      (try simp only [nfD] at h); have F := h.facts; (try simp only [nfF, emp_fact, rds_fact, frm_fact, strm_fact, strr_fact, rdz_fact] at F); try simp -dsimp only [↓vcA, vcB, vcD, ↓pureT_lenS, ↓iteT, ↓iteF, cond_true, cond_false, eq_self, argE, Env.get, Env.push, ev, evs, evo, retV, Value.cells, Value.oneCell', setR, overR, fillL, zl, places, allSizes, heldC, ne_eq, Int.reduceLE, Int.reduceLT, Int.reduceEq, Int.reduceNe, Int.reduceToNat, Int.cast_ofNat_Int, Nat.reduceMul, Nat.reduceLeDiff, reduceIte, Nat.reduceEqDiff, Nat.reduceAdd, ↓reduceIte, Try.vcT, F, h.cell0, gets, vsD, if_true, if_false, Bool.false_eq_true,  decide_eq_false hp, decide_eq_false h256, decide_eq_false h0]
      repeat ((first | refine Sep.new h ?_ | refine Sep.put 0 h rfl ?_ | refine Sep.put 1 h rfl ?_ | refine Sep.put 2 h rfl ?_ | refine Sep.put 3 h rfl ?_ | refine Sep.put 4 h rfl ?_ | refine Sep.put 5 h rfl ?_ | refine Sep.bclone [] h hr1 (by simp) ?_); (clear F; (try clear h); intros; rename_i h; (try simp only [nfD] at h); have F := h.facts; (try simp only [nfF, emp_fact, rds_fact, frm_fact, strm_fact, strr_fact, rdz_fact] at F); try simp -dsimp only [↓vcA, vcB, vcD, ↓pureT_lenS, ↓iteT, ↓iteF, cond_true, cond_false, eq_self, argE, Env.get, Env.push, ev, evs, evo, retV, Value.cells, Value.oneCell', setR, overR, fillL, zl, places, allSizes, heldC, ne_eq, Int.reduceLE, Int.reduceLT, Int.reduceEq, Int.reduceNe, Int.reduceToNat, Int.cast_ofNat_Int, Nat.reduceMul, Nat.reduceLeDiff, reduceIte, Nat.reduceEqDiff, Nat.reduceAdd, ↓reduceIte, Try.vcT, F, h.cell0, gets, vsD, if_true, if_false, Bool.false_eq_true, decide_eq_false h256, decide_eq_false h0]))
      have h := (h.strmClose 1 0 rfl rfl (by simp)).erase 0
      exact key h
    | false =>
      simp only [Bool.false_eq_true, if_false, Bool.or_eq_true, decide_eq_true_eq, Bool.and_eq_true] at hm
      have h256 : ¬ (256 : Int) < lenOf xs := by omega
      by_cases h0 : (0 : Int) ≤ lenOf xs
      · have h1 : ¬ 2 + lenOf xs ≤ (xs.length : Int) := by omega
        (try simp only [nfD] at h); have F := h.facts; (try simp only [nfF, emp_fact, rds_fact, frm_fact, strm_fact, strr_fact, rdz_fact] at F); try simp -dsimp only [↓vcA, vcB, vcD, ↓pureT_lenS, ↓iteT, ↓iteF, cond_true, cond_false, eq_self, argE, Env.get, Env.push, ev, evs, evo, retV, Value.cells, Value.oneCell', setR, overR, fillL, zl, places, allSizes, heldC, ne_eq, Int.reduceLE, Int.reduceLT, Int.reduceEq, Int.reduceNe, Int.reduceToNat, Int.cast_ofNat_Int, Nat.reduceMul, Nat.reduceLeDiff, reduceIte, Nat.reduceEqDiff, Nat.reduceAdd, ↓reduceIte, Try.vcT, F, h.cell0, gets, vsD, if_true, if_false, Bool.false_eq_true,  decide_eq_false h256, decide_eq_true h0, decide_eq_false h1, ew]
        repeat ((first | refine Sep.new h ?_ | refine Sep.put 0 h rfl ?_ | refine Sep.put 1 h rfl ?_ | refine Sep.put 2 h rfl ?_ | refine Sep.put 3 h rfl ?_ | refine Sep.put 4 h rfl ?_ | refine Sep.put 5 h rfl ?_ | refine Sep.bclone xs h hr1 (by omega) ?_); (clear F; (try clear h); intros; rename_i h; (try simp only [nfD] at h); have F := h.facts; (try simp only [nfF, emp_fact, rds_fact, frm_fact, strm_fact, strr_fact, rdz_fact] at F); try simp -dsimp only [↓vcA, vcB, vcD, ↓pureT_lenS, ↓iteT, ↓iteF, cond_true, cond_false, eq_self, argE, Env.get, Env.push, ev, evs, evo, retV, Value.cells, Value.oneCell', setR, overR, fillL, zl, places, allSizes, heldC, ne_eq, Int.reduceLE, Int.reduceLT, Int.reduceEq, Int.reduceNe, Int.reduceToNat, Int.cast_ofNat_Int, Nat.reduceMul, Nat.reduceLeDiff, reduceIte, Nat.reduceEqDiff, Nat.reduceAdd, ↓reduceIte, Try.vcT, F, h.cell0, gets, vsD, if_true, if_false, Bool.false_eq_true]))
        have h := (h.strmClose 1 0 rfl rfl hl).erase 0
        exact key h
      · (try simp only [nfD] at h); have F := h.facts; (try simp only [nfF, emp_fact, rds_fact, frm_fact, strm_fact, strr_fact, rdz_fact] at F); try simp -dsimp only [↓vcA, vcB, vcD, ↓pureT_lenS, ↓iteT, ↓iteF, cond_true, cond_false, eq_self, argE, Env.get, Env.push, ev, evs, evo, retV, Value.cells, Value.oneCell', setR, overR, fillL, zl, places, allSizes, heldC, ne_eq, Int.reduceLE, Int.reduceLT, Int.reduceEq, Int.reduceNe, Int.reduceToNat, Int.cast_ofNat_Int, Nat.reduceMul, Nat.reduceLeDiff, reduceIte, Nat.reduceEqDiff, Nat.reduceAdd, ↓reduceIte, Try.vcT, F, h.cell0, gets, vsD, if_true, if_false, Bool.false_eq_true,  decide_eq_false h256, decide_eq_false h0]
        repeat ((first | refine Sep.new h ?_ | refine Sep.put 0 h rfl ?_ | refine Sep.put 1 h rfl ?_ | refine Sep.put 2 h rfl ?_ | refine Sep.put 3 h rfl ?_ | refine Sep.put 4 h rfl ?_ | refine Sep.put 5 h rfl ?_ | refine Sep.bclone xs h hr1 (by omega) ?_); (clear F; (try clear h); intros; rename_i h; (try simp only [nfD] at h); have F := h.facts; (try simp only [nfF, emp_fact, rds_fact, frm_fact, strm_fact, strr_fact, rdz_fact] at F); try simp -dsimp only [↓vcA, vcB, vcD, ↓pureT_lenS, ↓iteT, ↓iteF, cond_true, cond_false, eq_self, argE, Env.get, Env.push, ev, evs, evo, retV, Value.cells, Value.oneCell', setR, overR, fillL, zl, places, allSizes, heldC, ne_eq, Int.reduceLE, Int.reduceLT, Int.reduceEq, Int.reduceNe, Int.reduceToNat, Int.cast_ofNat_Int, Nat.reduceMul, Nat.reduceLeDiff, reduceIte, Nat.reduceEqDiff, Nat.reduceAdd, ↓reduceIte, Try.vcT, F, h.cell0, gets, vsD, if_true, if_false, Bool.false_eq_true]))
        have h := (h.strmClose 1 0 rfl rfl hl).erase 0
        exact key h
end
end Go.Proofs.Ytnhgjgoglmadnaa
