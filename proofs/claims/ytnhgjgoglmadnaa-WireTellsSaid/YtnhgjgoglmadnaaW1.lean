/- The contracts of the frames' package, 1. -/
import Derived.Test.YtnhgjgoglmadnaaVU
namespace Go.Proofs.Ytnhgjgoglmadnaa
open Go.RowKit
-- FACTS emp_fact, rds_fact, frm_fact, strm_fact
set_option maxRecDepth 100000
set_option linter.unusedSimpArgs false
set_option linter.unusedVariables false
set_option pp.maxSteps 1500
set_option pp.deepTerms.threshold 8

/-- What a frame's first two bytes say; -1: they are not there. -/
def lenOf : List Int → Int
  | a :: b :: _ => a * 256 + b
  | _ => -1
theorem lenOf_short {xs : List Int} (h : xs.length < 2) : lenOf xs = -1 := by
  match xs, h with
  | [], _ => rfl
  | [_], _ => rfl
theorem rval2 (a b : Int) (ha : 0 ≤ a ∧ a ≤ 255) (hb : 0 ≤ b ∧ b ≤ 255) : rval [a, b] = a * 256 + b := by
  simp only [rval, List.foldl_cons, List.foldl_nil]
  rw [rstep_eq (by omega) ha (by omega), rstep_eq (by omega) hb (by omega)]
  omega
theorem wlen (v : Value) (xs : List Int) (w : World) (h0 : Rd w v xs) (hb : Byt xs) (hl : xs.length ≤ 10000000) :
    Calls Try.prog 76 [v].toArray w (RetP (.int .i64 (lenOf xs)) w) := by
  have h1 := h0
  obtain ⟨a, c, rfl, h2, _⟩ := h0
  have h := Sep.nil w
  have F := h.facts
  refine walk Try.func76 rfl (by kernel_rfl) (by rw [Try.nt76]; simp) ?_
  by_cases hs : (xs.length : Int) < 2
  · simp -dsimp only [↓vcA, vcB, vcD, ↓pureT_lenS, ↓iteT, ↓iteF, cond_true, cond_false, eq_self, argE, Env.get, Env.push, ev, evs, evo, retV, Value.cells, Value.oneCell', setR, overR, fillL, zl, places, allSizes, heldC, ne_eq, Int.reduceLE, Int.reduceLT, Int.reduceEq, Int.reduceNe, Int.reduceToNat, Int.cast_ofNat_Int, Nat.reduceMul, Nat.reduceLeDiff, reduceIte, Nat.reduceEqDiff, Nat.reduceAdd, ↓reduceIte, Try.vcT, decide_eq_true hs]
    exact ⟨by rw [lenOf_short (by omega)], h.done⟩
  · simp -dsimp only [↓vcA, vcB, vcD, ↓pureT_lenS, ↓iteT, ↓iteF, cond_true, cond_false, eq_self, argE, Env.get, Env.push, ev, evs, evo, retV, Value.cells, Value.oneCell', setR, overR, fillL, zl, places, allSizes, heldC, ne_eq, Int.reduceLE, Int.reduceLT, Int.reduceEq, Int.reduceNe, Int.reduceToNat, Int.cast_ofNat_Int, Nat.reduceMul, Nat.reduceLeDiff, reduceIte, Nat.reduceEqDiff, Nat.reduceAdd, ↓reduceIte, Try.vcT, decide_eq_false hs]
    refine ⟨by omega, ?_⟩
    have hcut := h1.cut (l := 0) (m := 2) (by omega) (by omega)
    repeat ((first | refine Sep.new h ?_ | refine Sep.put 0 h rfl ?_ | refine Sep.put 1 h rfl ?_ | refine Sep.put 2 h rfl ?_ | refine Sep.put 3 h rfl ?_ | refine Sep.put 4 h rfl ?_ | refine Sep.put 5 h rfl ?_ | refine Sep.read (xs.take 2) h hcut (by simp; omega) ?_ | refine Sep.rdNum 0 h rfl ?_); (clear F; (try clear h); intros; rename_i h; (try simp only [nfD] at h); have F := h.facts; (try simp only [nfF, emp_fact, rds_fact, frm_fact, strm_fact] at F); try simp -dsimp only [↓vcA, vcB, vcD, ↓pureT_lenS, ↓iteT, ↓iteF, cond_true, cond_false, eq_self, argE, Env.get, Env.push, ev, evs, evo, retV, Value.cells, Value.oneCell', setR, overR, fillL, zl, places, allSizes, heldC, ne_eq, Int.reduceLE, Int.reduceLT, Int.reduceEq, Int.reduceNe, Int.reduceToNat, Int.cast_ofNat_Int, Nat.reduceMul, Nat.reduceLeDiff, reduceIte, Nat.reduceEqDiff, Nat.reduceAdd, ↓reduceIte, Try.vcT, F, h.cell0, gets, vsD, if_true, if_false, Bool.false_eq_true]))
    refine ⟨?_, h.done⟩
    match xs, hb, hs with
    | x :: y :: zs, hb, _ =>
      have hx := hb x (by simp)
      have hy := hb y (by simp)
      have e : (R8.mk [x, y] false).numV 2 = x * 256 + y := by
        have := rval2 x y hx hy
        simpa [R8.numV, R8.sz, R8.rawV, R8.no] using this
      show Value.int .i64 ((R8.mk [x, y] false).numV 2) = _
      rw [e]; rfl
    | [x], _, hs => simp at hs
    | [], _, hs => simp at hs

theorem bclone (v : Value) (xs : List Int) (w : World) (h : Rd w v xs) (hl : xs.length ≤ 10000000) :
    Calls Try.prog 77 [v].toArray w (RetK fun r w' => Copy w w' r xs) := by
  have h0 := h
  obtain ⟨a, c, rfl, h1, h2, h3, h4⟩ := h
  refine walk Try.func77 rfl (by kernel_rfl) (by rw [Try.nt77]; simp) ?_
  cases a with
  | none =>
    obtain rfl := h3 rfl
    have hz : xs = [] := List.eq_nil_of_length_eq_zero (by omega)
    subst hz
    simp -dsimp only [↓vcA, vcB, vcD, ↓pureT_lenS, ↓iteT, ↓iteF, cond_true, cond_false, eq_self, argE, Env.get, Env.push, ev, evs, evo, retV, Value.cells, Value.oneCell', setR, overR, fillL, zl, places, allSizes, heldC, ne_eq, Int.reduceLE, Int.reduceLT, Int.reduceEq, Int.reduceNe, Int.reduceToNat, Int.cast_ofNat_Int, Nat.reduceMul, Nat.reduceLeDiff, reduceIte, Nat.reduceEqDiff, Nat.reduceAdd, ↓reduceIte, Try.vcT]
    exact ⟨Chg.refl _ _, Own.nil w, fun k hk => by simp [Value.ownBlock] at hk⟩
  | some a =>
    simp -dsimp only [↓vcA, vcB, vcD, ↓pureT_lenS, ↓iteT, ↓iteF, cond_true, cond_false, eq_self, argE, Env.get, Env.push, ev, evs, evo, retV, Value.cells, Value.oneCell', setR, overR, fillL, zl, places, allSizes, heldC, ne_eq, Int.reduceLE, Int.reduceLT, Int.reduceEq, Int.reduceNe, Int.reduceToNat, Int.cast_ofNat_Int, Nat.reduceMul, Nat.reduceLeDiff, reduceIte, Nat.reduceEqDiff, Nat.reduceAdd, ↓reduceIte, Try.vcT]
    intro w1 b hb
    have hr1 := h0.chg hb.chg (fun _ _ => id)
    have ho : Own w1 (.slice (some ⟨b, 0, none⟩) 0 0) [] := hb.owns (by simp) (by simp [maxLen])
    refine app ho hr1 (by simp; omega) ?_
    intro a1 c1 w2 h5 g5 a5
    simp -dsimp only [↓vcA, vcB, vcD, ↓pureT_lenS, ↓iteT, ↓iteF, cond_true, cond_false, eq_self, argE, Env.get, Env.push, ev, evs, evo, retV, Value.cells, Value.oneCell', setR, overR, fillL, zl, places, allSizes, heldC, ne_eq, Int.reduceLE, Int.reduceLT, Int.reduceEq, Int.reduceNe, Int.reduceToNat, Int.cast_ofNat_Int, Nat.reduceMul, Nat.reduceLeDiff, reduceIte, Nat.reduceEqDiff, Nat.reduceAdd, ↓reduceIte, Try.vcT]
    refine ⟨?_, by simpa using h5, fun k hk => ?_⟩
    · exact hb.chg.trans (Chg.ofGrown g5) (fun x hx => .inr (by simp [Value.ownBlock] at hx; have := hb.eq; omega)) |>.mono fun x hx => hx
    · have := hb.eq; have := hb.size
      rcases a5 with e | e <;> simp only [List.length_nil, Nat.zero_add] at e hk <;> rw [e] at hk <;> simp [Value.ownBlock] at hk <;> omega
theorem Sep.bclone {w0 w : World} {S : Nat → Prop} {M : List Res} {K : Value → World → Prop} {v : Value} (xs : List Int) (h : Sep w0 S M w) (hr : Rd w v xs) (hl : xs.length ≤ 10000000)
    (hk : ∀ a c w1, Sep w0 S (M ++ [byt (.slice a xs.length c) xs]) w1 → K (.slice a xs.length c) w1) : callsK Try.prog 77 [v].toArray w K := by
  refine callsK_use (Go.Proofs.Ytnhgjgoglmadnaa.bclone v xs w hr hl) ?_
  intro r w1 c1
  obtain ⟨a, c, rfl⟩ := owns_shape c1.own
  exact hk a c w1 (c1.push h)
/-- append to bytes of one's own -/
theorem Sep.appB (i : Nat) {w0 w : World} {S : Nat → Prop} {M : List Res} {v src : Value} {xs : List Int} (ys : List Int) {ty : TypeId} {K : Value → World → Prop} (h : Sep w0 S M w) (hi : M[i]? = some (byt v xs)) (hr : Rd w src ys) (hl : xs.length + ys.length ≤ 100000000)
    (hK : ∀ a c w', Sep w0 S (M.set i (byt (.slice a (xs ++ ys).length c) (xs ++ ys))) w' → K (.slice a (xs ++ ys).length c) w') : RunK Try.prog (Builtin.append_ #[22, 22] ty #[v, src]) w K := by
  obtain ⟨A, ⟨h1, rfl⟩, _, h3⟩ := h.at hi
  refine Go.Proofs.Ytnhgjgoglmadnaa.app h1 hr hl ?_
  intro a c w' ho hg hat
  rw [← List.length_append] at ho hat ⊢
  refine hK a c w' (h3 _ _ w' ⟨ho, rfl⟩ (fun x hx => ?_) (Chg.ofGrown hg) (fun _ f => f))
  rcases hat with e | e
  · exact .inl (by rw [← e]; exact hx)
  · rw [hx] at e; injection e with e; exact .inr (by omega)
/-- a literal of bytes -/
theorem Sep.toByt (i : Nat) {w0 w : World} {S : Nat → Prop} {M : List Res} {b : Nat} (xs : List Int) (h : Sep w0 S M w) (hi : M[i]? = some (blk b 5 (u8s xs))) (hm : xs.length ≤ maxLen) : Sep w0 S (M.set i (byt (.slice (some ⟨b, 0, none⟩) xs.length xs.length) xs)) w :=
  h.conv i hi (fun A ⟨h1, e⟩ => ⟨⟨by simp [u8s], .inr ⟨b, xs.length, (u8s xs).toArray, rfl, Nat.zero_le _, h1, Nat.le_refl _, hm, by simp [u8s], List.take_of_length_le (by simp [u8s])⟩⟩, by rw [e]; funext x; simp [Value.ownBlock, eq_comm]⟩) (fun _ f => f)

theorem Sep.bytNil {w0 w : World} {S : Nat → Prop} {M : List Res} (h : Sep w0 S M w) : Sep w0 S (M ++ [byt (.slice none 0 0) []]) w :=
  h.push (Chg.refl _ _) (A := fun _ => False) ⟨Own.nil _, by funext x; simp [Value.ownBlock]⟩ (fun _ f => f.elim) (fun _ f => f.elim)

/-! ### What is fed -/
def parse (xs : List Int) : List (List Int) × Bool × List Int :=
  if h : 0 ≤ lenOf xs ∧ lenOf xs ≤ 256 ∧ 2 + (lenOf xs).toNat ≤ xs.length then
    ((xs.drop 2).take (lenOf xs).toNat :: (parse (xs.drop (2 + (lenOf xs).toNat))).1, (parse (xs.drop (2 + (lenOf xs).toNat))).2)
  else if 256 < lenOf xs then ([], true, []) else ([], false, xs)
termination_by xs.length
decreasing_by all_goals (simp; omega)
theorem parse_yes {xs : List Int} (h0 : 0 ≤ lenOf xs) (h1 : lenOf xs ≤ 256) (h2 : 2 + (lenOf xs).toNat ≤ xs.length) :
    parse xs = ((xs.drop 2).take (lenOf xs).toNat :: (parse (xs.drop (2 + (lenOf xs).toNat))).1, (parse (xs.drop (2 + (lenOf xs).toNat))).2) := by
  rw [parse, dif_pos ⟨h0, h1, h2⟩]
theorem parse_big {xs : List Int} (h : 256 < lenOf xs) : parse xs = ([], true, []) := by
  rw [parse, dif_neg (by omega), if_pos h]
theorem parse_no {xs : List Int} (h : lenOf xs < 0 ∨ xs.length < 2 + (lenOf xs).toNat) (h1 : lenOf xs ≤ 256) : parse xs = ([], false, xs) := by
  rw [parse, dif_neg (by omega), if_neg (by omega)]
structure S24 where
  dead : Bool
  l : List Int
def S24.feedF (s : S24) (b : List Int) : List (List Int) := if s.dead then [] else (parse (s.l ++ b)).1
def S24.feedS (s : S24) (b : List Int) : S24 := if s.dead then s else ⟨(parse (s.l ++ b)).2.1, (parse (s.l ++ b)).2.2⟩
def S24.feedC (s : S24) (b : List Int) : Int := if s.dead then 0 else if (parse (s.l ++ b)).2.1 then 3 else 0

/-- a stream of the program's -/
def strm (p : Nat) (s : S24) : Res where
  on w A := s.l.length ≤ 1000000 ∧ ∃ v, w.heap[p]? = some (.cells #[.bool s.dead, v] 137 (0, 0)) ∧ Own w v s.l ∧ A = fun x => x = p ∨ v.ownBlock = some x
  rd _ := False
  fact _ := s.l.length ≤ 1000000
  lt := fun ⟨_, v, h, ho, e⟩ x hx => by
    subst e
    rcases hx with rfl | hx
    · exact lt_of_block h
    · exact ho.lt hx
  chg := fun {w w' A} ⟨h1, v, h, ho, e⟩ hs hc => ⟨h1, v, (hc p (lt_of_block h) (.inl (by rw [e]; exact .inl rfl))).trans h, owns_same ho fun k hk => hc k (ho.lt hk) (.inl (by rw [e]; exact .inr hk)), e⟩
  ok := fun h => h.1
theorem strm_fact (p : Nat) (s : S24) (w : World) : (strm p s).fact w = (s.l.length ≤ 1000000) := (rfl)
section
variable {w0 w : World} {S : Nat → Prop} {M : List Res} {K : Value → World → Prop}
theorem Sep.strmOpen (i : Nat) {p : Nat} {s : S24} (h : Sep w0 S M w) (hi : M[i]? = some (strm p s)) : ∃ a c, Sep w0 S (M.set i (blk p 137 [.bool s.dead, .slice a s.l.length c]) ++ [byt (.slice a s.l.length c) s.l]) w := by
  obtain ⟨A, ⟨h1, v, h2, h3, rfl⟩, h4⟩ := h.split i hi
  obtain ⟨a, c, rfl⟩ := owns_shape h3
  exact ⟨a, c, h4 _ _ (fun x => x = p) (fun x => (Value.slice a s.l.length c).ownBlock = some x) ⟨h2, rfl⟩ ⟨h3, rfl⟩ (fun x hx => .inl hx) (fun x hx => ⟨.inr hx, fun e => by subst e; exact h3.ne h2 (by decide) hx⟩) (fun _ f => f) (fun _ f => f)⟩
theorem Sep.strmClose (i j : Nat) {p : Nat} {d : Bool} {v : Value} {xs : List Int} (h : Sep w0 S M w) (hi : (M.set j emp)[i]? = some (blk p 137 [.bool d, v])) (hj : M[j]? = some (byt v xs)) (hl : xs.length ≤ 1000000) : Sep w0 S ((M.set j emp).set i (strm p ⟨d, xs⟩)) w :=
  h.join i j hi hj (fun A B ⟨h1, e1⟩ ⟨h2, e2⟩ _ => ⟨hl, v, h1, h2, by subst e1 e2; rfl⟩) (fun _ f => f.elim)
end
theorem feed (p : Nat) (s : S24) (v : Value) (b : List Int) (w : World) (A : Nat → Prop) (h : Sep w A [strm p s] w) (hr : Rd w v b) (hb : Byt (s.l ++ b)) (hl : b.length ≤ 1000000) (hl2 : s.l.length + b.length ≤ 1000000) :
    Calls Try.prog 40 [.pointer (some ⟨p, 0, none⟩), v].toArray w (RetK fun r w' => ∃ r' N, Sep w A (r' :: N) w' ∧ (∀ x, r'.rd x → (strm p s).rd x) ∧ (∀ q ∈ N, ∀ x, ¬ q.rd x) ∧
      ∃ a c, r = .tuple #[.slice a (s.feedF b).length c, .int .i64 (s.feedC b)] ∧ r' = strm p (s.feedS b) ∧ N = [frm (.slice a (s.feedF b).length c) (s.feedF b)]) := by
  obtain ⟨d, l⟩ := s
  obtain ⟨a0, c0, h⟩ := h.strmOpen 0 rfl
  (try simp only [nfD] at h); have F := h.facts; (try simp only [nfF, emp_fact, rds_fact, frm_fact, strm_fact] at F)
  refine walk Try.func40 rfl (by kernel_rfl) (by rw [Try.nt40]; simp) ?_
  cases d with
  | true =>
    simp -dsimp only [↓vcA, vcB, vcD, ↓pureT_lenS, ↓iteT, ↓iteF, cond_true, cond_false, eq_self, argE, Env.get, Env.push, ev, evs, evo, retV, Value.cells, Value.oneCell', setR, overR, fillL, zl, places, allSizes, heldC, ne_eq, Int.reduceLE, Int.reduceLT, Int.reduceEq, Int.reduceNe, Int.reduceToNat, Int.cast_ofNat_Int, Nat.reduceMul, Nat.reduceLeDiff, reduceIte, Nat.reduceEqDiff, Nat.reduceAdd, ↓reduceIte, Try.vcT, F]
    have h := ((h.strmClose 0 1 rfl rfl (by simp only at hl2; omega)).erase 1).frmNil
    exact ⟨_, _, h, fun _ f => f, fun q hq x hx => by simp at hq; subst hq; exact hx, none, 0, rfl, rfl, rfl⟩
  | false =>
    simp -dsimp only [↓vcA, vcB, vcD, ↓pureT_lenS, ↓iteT, ↓iteF, cond_true, cond_false, eq_self, argE, Env.get, Env.push, ev, evs, evo, retV, Value.cells, Value.oneCell', setR, overR, fillL, zl, places, allSizes, heldC, ne_eq, Int.reduceLE, Int.reduceLT, Int.reduceEq, Int.reduceNe, Int.reduceToNat, Int.cast_ofNat_Int, Nat.reduceMul, Nat.reduceLeDiff, reduceIte, Nat.reduceEqDiff, Nat.reduceAdd, ↓reduceIte, Try.vcT, F]
    refine Sep.appB 1 b h rfl hr (by simp only at hl2; omega) ?_
    intro a1 c1 w1 h
    have h := (h.conv 1 (r' := rds (.slice a1 (l ++ b).length c1) (l ++ b)) rfl (fun A h => byt_rds h) (fun _ f => f)).frmNil
    (try simp only [nfD] at h); have F := h.facts; (try simp only [nfF, emp_fact, rds_fact, frm_fact, strm_fact] at F); try simp -dsimp only [↓vcA, vcB, vcD, ↓pureT_lenS, ↓iteT, ↓iteF, cond_true, cond_false, eq_self, argE, Env.get, Env.push, ev, evs, evo, retV, Value.cells, Value.oneCell', setR, overR, fillL, zl, places, allSizes, heldC, ne_eq, Int.reduceLE, Int.reduceLT, Int.reduceEq, Int.reduceNe, Int.reduceToNat, Int.cast_ofNat_Int, Nat.reduceMul, Nat.reduceLeDiff, reduceIte, Nat.reduceEqDiff, Nat.reduceAdd, ↓reduceIte, Try.vcT, F, h.cell0, gets, vsD, if_true, if_false, Bool.false_eq_true]
    dsimp only at hb hl2
    have hall : (l ++ b).length ≤ 1000000 := by simp; omega
    repeat ((first | refine Sep.new h ?_ | refine Sep.put 0 h rfl ?_ | refine Sep.put 1 h rfl ?_ | refine Sep.put 2 h rfl ?_ | refine Sep.put 3 h rfl ?_ | refine Sep.put 4 h rfl ?_ | refine Sep.put 5 h rfl ?_ | refine Sep.callp h (wlen _ _ _ F.2.1 hb (by omega)) ?_); (clear F; (try clear h); intros; rename_i h; (try simp only [nfD] at h); have F := h.facts; (try simp only [nfF, emp_fact, rds_fact, frm_fact, strm_fact] at F); try simp -dsimp only [↓vcA, vcB, vcD, ↓pureT_lenS, ↓iteT, ↓iteF, cond_true, cond_false, eq_self, argE, Env.get, Env.push, ev, evs, evo, retV, Value.cells, Value.oneCell', setR, overR, fillL, zl, places, allSizes, heldC, ne_eq, Int.reduceLE, Int.reduceLT, Int.reduceEq, Int.reduceNe, Int.reduceToNat, Int.cast_ofNat_Int, Nat.reduceMul, Nat.reduceLeDiff, reduceIte, Nat.reduceEqDiff, Nat.reduceAdd, ↓reduceIte, Try.vcT, F, h.cell0, gets, vsD, if_true, if_false, Bool.false_eq_true]))
    generalize hxs : l ++ b = xs0 at *
    refine walkLoop [0] [4, 6, 7] (fun m vs w' => ∃ fa fc fs a c xs, m = xs.length ∧ vs = [.slice fa fs.length fc, .slice a xs.length c, .int .i64 (lenOf xs)] ∧
      Sep w A [blk p 137 [.bool false, .slice a0 l.length c0], rds (.slice a xs.length c) xs, frm (.slice fa fs.length fc) fs] w' ∧ parse xs0 = (fs ++ (parse xs).1, (parse xs).2) ∧ Byt xs ∧ xs.length ≤ 1000000 ∧ fs.length + xs.length ≤ 1000000) (by kernel_rfl) ?_ ?_
    · simp -dsimp only [↓vcA, vcB, vcD, ↓pureT_lenS, ↓iteT, ↓iteF, cond_true, cond_false, eq_self, argE, Env.get, Env.push, ev, evs, evo, retV, Value.cells, Value.oneCell', setR, overR, fillL, zl, places, allSizes, heldC, ne_eq, Int.reduceLE, Int.reduceLT, Int.reduceEq, Int.reduceNe, Int.reduceToNat, Int.cast_ofNat_Int, Nat.reduceMul, Nat.reduceLeDiff, reduceIte, Nat.reduceEqDiff, Nat.reduceAdd, ↓reduceIte, Try.vcT, gets]
      exact ⟨_, none, 0, [], _, _, xs0, rfl, rfl, h, by simp, hb, hall, by simpa using hall⟩
    · intro ks hk m vs w2 hi
      clear h F
      obtain ⟨fa, fc, fs, a, c, xs, rfl, rfl, h, hp, hbx, hlx, hlf⟩ := hi
      simp -dsimp only [gets, argE, List.zip_cons_cons, List.zip_nil_left, List.cons_append, List.nil_append, Env.get, Env.push, Option.bind_some, Option.map_some, Option.some.injEq, reduceIte, Nat.reduceEqDiff, Nat.reduceAdd, ↓reduceIte] at hk; subst hk
      (try simp only [nfD] at h); have F := h.facts; (try simp only [nfF, emp_fact, rds_fact, frm_fact, strm_fact] at F)
      by_cases hn : (0 : Int) ≤ lenOf xs
      case neg =>
        (try simp only [nfD] at h); have F := h.facts; (try simp only [nfF, emp_fact, rds_fact, frm_fact, strm_fact] at F); try simp -dsimp only [↓vcA, vcB, vcD, ↓pureT_lenS, ↓iteT, ↓iteF, cond_true, cond_false, eq_self, argE, Env.get, Env.push, ev, evs, evo, retV, Value.cells, Value.oneCell', setR, overR, fillL, zl, places, allSizes, heldC, ne_eq, Int.reduceLE, Int.reduceLT, Int.reduceEq, Int.reduceNe, Int.reduceToNat, Int.cast_ofNat_Int, Nat.reduceMul, Nat.reduceLeDiff, reduceIte, Nat.reduceEqDiff, Nat.reduceAdd, ↓reduceIte, Try.vcT, F, h.cell0, gets, vsD, if_true, if_false, Bool.false_eq_true,  decide_eq_false hn]
        repeat ((first | refine Sep.new h ?_ | refine Sep.put 0 h rfl ?_ | refine Sep.put 1 h rfl ?_ | refine Sep.put 2 h rfl ?_ | refine Sep.put 3 h rfl ?_ | refine Sep.put 4 h rfl ?_ | refine Sep.put 5 h rfl ?_ | refine Sep.bclone xs h F.2.1 (by omega) ?_); (clear F; (try clear h); intros; rename_i h; (try simp only [nfD] at h); have F := h.facts; (try simp only [nfF, emp_fact, rds_fact, frm_fact, strm_fact] at F); try simp -dsimp only [↓vcA, vcB, vcD, ↓pureT_lenS, ↓iteT, ↓iteF, cond_true, cond_false, eq_self, argE, Env.get, Env.push, ev, evs, evo, retV, Value.cells, Value.oneCell', setR, overR, fillL, zl, places, allSizes, heldC, ne_eq, Int.reduceLE, Int.reduceLT, Int.reduceEq, Int.reduceNe, Int.reduceToNat, Int.cast_ofNat_Int, Nat.reduceMul, Nat.reduceLeDiff, reduceIte, Nat.reduceEqDiff, Nat.reduceAdd, ↓reduceIte, Try.vcT, F, h.cell0, gets, vsD, if_true, if_false, Bool.false_eq_true, decide_eq_false hn]))
        have e := parse_no (xs := xs) (.inl (by omega)) (by omega)
        rw [e] at hp
        have h := ((h.strmClose 0 3 rfl rfl hlx).erase 3).erase 1
        simp only [List.append_nil] at hp
        have e1 : S24.feedF ⟨false, l⟩ b = fs := by simp [S24.feedF, hxs, hp]
        have e2 : S24.feedS ⟨false, l⟩ b = ⟨false, xs⟩ := by simp [S24.feedS, hxs, hp]
        have e3 : S24.feedC ⟨false, l⟩ b = 0 := by simp [S24.feedC, hxs, hp]
        rw [e1, e2, e3]
        exact ⟨_, _, h, fun _ f => f, fun q hq x hx => by simp at hq; subst hq; exact hx, fa, fc, rfl, rfl, rfl⟩
      by_cases hbig : (256 : Int) < lenOf xs
      case pos =>
        (try simp only [nfD] at h); have F := h.facts; (try simp only [nfF, emp_fact, rds_fact, frm_fact, strm_fact] at F); try simp -dsimp only [↓vcA, vcB, vcD, ↓pureT_lenS, ↓iteT, ↓iteF, cond_true, cond_false, eq_self, argE, Env.get, Env.push, ev, evs, evo, retV, Value.cells, Value.oneCell', setR, overR, fillL, zl, places, allSizes, heldC, ne_eq, Int.reduceLE, Int.reduceLT, Int.reduceEq, Int.reduceNe, Int.reduceToNat, Int.cast_ofNat_Int, Nat.reduceMul, Nat.reduceLeDiff, reduceIte, Nat.reduceEqDiff, Nat.reduceAdd, ↓reduceIte, Try.vcT, F, h.cell0, gets, vsD, if_true, if_false, Bool.false_eq_true,  decide_eq_true hn, decide_eq_true hbig]
        repeat ((first | refine Sep.new h ?_ | refine Sep.put 0 h rfl ?_ | refine Sep.put 1 h rfl ?_ | refine Sep.put 2 h rfl ?_ | refine Sep.put 3 h rfl ?_ | refine Sep.put 4 h rfl ?_ | refine Sep.put 5 h rfl ?_); (clear F; (try clear h); intros; rename_i h; (try simp only [nfD] at h); have F := h.facts; (try simp only [nfF, emp_fact, rds_fact, frm_fact, strm_fact] at F); try simp -dsimp only [↓vcA, vcB, vcD, ↓pureT_lenS, ↓iteT, ↓iteF, cond_true, cond_false, eq_self, argE, Env.get, Env.push, ev, evs, evo, retV, Value.cells, Value.oneCell', setR, overR, fillL, zl, places, allSizes, heldC, ne_eq, Int.reduceLE, Int.reduceLT, Int.reduceEq, Int.reduceNe, Int.reduceToNat, Int.cast_ofNat_Int, Nat.reduceMul, Nat.reduceLeDiff, reduceIte, Nat.reduceEqDiff, Nat.reduceAdd, ↓reduceIte, Try.vcT, F, h.cell0, gets, vsD, if_true, if_false, Bool.false_eq_true, decide_eq_true hn, decide_eq_true hbig]))
        have e := parse_big (xs := xs) hbig
        rw [e] at hp
        have h := ((h.bytNil.strmClose 0 3 rfl rfl (by simp)).erase 3).erase 1
        simp only [List.append_nil] at hp
        have e1 : S24.feedF ⟨false, l⟩ b = fs := by simp [S24.feedF, hxs, hp]
        have e2 : S24.feedS ⟨false, l⟩ b = ⟨true, []⟩ := by simp [S24.feedS, hxs, hp]
        have e3 : S24.feedC ⟨false, l⟩ b = 3 := by simp [S24.feedC, hxs, hp]
        rw [e1, e2, e3]
        exact ⟨_, _, h, fun _ f => f, fun q hq x hx => by simp at hq; subst hq; exact hx, fa, fc, rfl, rfl, rfl⟩
      have ew : IntKind.i64.wrap (2 + lenOf xs) = 2 + lenOf xs := i64w _ (by omega) (by omega)
      by_cases hsh : (xs.length : Int) < 2 + lenOf xs
      case pos =>
        (try simp only [nfD] at h); have F := h.facts; (try simp only [nfF, emp_fact, rds_fact, frm_fact, strm_fact] at F); try simp -dsimp only [↓vcA, vcB, vcD, ↓pureT_lenS, ↓iteT, ↓iteF, cond_true, cond_false, eq_self, argE, Env.get, Env.push, ev, evs, evo, retV, Value.cells, Value.oneCell', setR, overR, fillL, zl, places, allSizes, heldC, ne_eq, Int.reduceLE, Int.reduceLT, Int.reduceEq, Int.reduceNe, Int.reduceToNat, Int.cast_ofNat_Int, Nat.reduceMul, Nat.reduceLeDiff, reduceIte, Nat.reduceEqDiff, Nat.reduceAdd, ↓reduceIte, Try.vcT, F, h.cell0, gets, vsD, if_true, if_false, Bool.false_eq_true,  decide_eq_true hn, decide_eq_false hbig, ew, decide_eq_true hsh]
        repeat ((first | refine Sep.new h ?_ | refine Sep.put 0 h rfl ?_ | refine Sep.put 1 h rfl ?_ | refine Sep.put 2 h rfl ?_ | refine Sep.put 3 h rfl ?_ | refine Sep.put 4 h rfl ?_ | refine Sep.put 5 h rfl ?_ | refine Sep.bclone xs h F.2.1 (by omega) ?_); (clear F; (try clear h); intros; rename_i h; (try simp only [nfD] at h); have F := h.facts; (try simp only [nfF, emp_fact, rds_fact, frm_fact, strm_fact] at F); try simp -dsimp only [↓vcA, vcB, vcD, ↓pureT_lenS, ↓iteT, ↓iteF, cond_true, cond_false, eq_self, argE, Env.get, Env.push, ev, evs, evo, retV, Value.cells, Value.oneCell', setR, overR, fillL, zl, places, allSizes, heldC, ne_eq, Int.reduceLE, Int.reduceLT, Int.reduceEq, Int.reduceNe, Int.reduceToNat, Int.cast_ofNat_Int, Nat.reduceMul, Nat.reduceLeDiff, reduceIte, Nat.reduceEqDiff, Nat.reduceAdd, ↓reduceIte, Try.vcT, F, h.cell0, gets, vsD, if_true, if_false, Bool.false_eq_true]))
        have e := parse_no (xs := xs) (.inr (by omega)) (by omega)
        rw [e] at hp
        have h := ((h.strmClose 0 3 rfl rfl hlx).erase 3).erase 1
        simp only [List.append_nil] at hp
        have e1 : S24.feedF ⟨false, l⟩ b = fs := by simp [S24.feedF, hxs, hp]
        have e2 : S24.feedS ⟨false, l⟩ b = ⟨false, xs⟩ := by simp [S24.feedS, hxs, hp]
        have e3 : S24.feedC ⟨false, l⟩ b = 0 := by simp [S24.feedC, hxs, hp]
        rw [e1, e2, e3]
        exact ⟨_, _, h, fun _ f => f, fun q hq x hx => by simp at hq; subst hq; exact hx, fa, fc, rfl, rfl, rfl⟩
      case neg =>
        obtain ⟨n, hN⟩ := Int.eq_ofNat_of_zero_le hn
        have hcl : xs.length ≤ c := by
          obtain ⟨_, _, e, hc1, _⟩ := F.2.1
          injection e with _ _ e; omega
        have ew2 : IntKind.i64.wrap (2 + (n : Int)) = ((2 + n : Nat) : Int) := by rw [i64w _ (by omega) (by omega)]; omega
        rw [hN] at hsh hbig hn
        have hsh : ¬ (xs.length : Int) < ((2 + n : Nat) : Int) := by omega
        (try simp only [nfD] at h); have F := h.facts; (try simp only [nfF, emp_fact, rds_fact, frm_fact, strm_fact] at F); try simp -dsimp only [↓vcA, vcB, vcD, ↓pureT_lenS, ↓iteT, ↓iteF, cond_true, cond_false, eq_self, argE, Env.get, Env.push, ev, evs, evo, retV, Value.cells, Value.oneCell', setR, overR, fillL, zl, places, allSizes, heldC, ne_eq, Int.reduceLE, Int.reduceLT, Int.reduceEq, Int.reduceNe, Int.reduceToNat, Int.cast_ofNat_Int, Nat.reduceMul, Nat.reduceLeDiff, reduceIte, Nat.reduceEqDiff, Nat.reduceAdd, ↓reduceIte, Try.vcT, F, h.cell0, gets, vsD, if_true, if_false, Bool.false_eq_true,  decide_eq_true hn, decide_eq_false hbig, hN, ew2, decide_eq_false hsh]
        refine ⟨⟨by omega, by omega⟩, by omega, ?_⟩
        repeat ((first | refine Sep.new h ?_ | refine Sep.put 0 h rfl ?_ | refine Sep.put 1 h rfl ?_ | refine Sep.put 2 h rfl ?_ | refine Sep.put 3 h rfl ?_ | refine Sep.put 4 h rfl ?_ | refine Sep.put 5 h rfl ?_ | refine Sep.bclone ((xs.take (2 + n)).drop 2) h (by have := F.2.1.cut (l := 2) (m := 2 + n) (by omega) (by omega); exact this) (by simp; omega) ?_); (clear F; (try clear h); intros; rename_i h; (try simp only [nfD] at h); have F := h.facts; (try simp only [nfF, emp_fact, rds_fact, frm_fact, strm_fact] at F); try simp -dsimp only [↓vcA, vcB, vcD, ↓pureT_lenS, ↓iteT, ↓iteF, cond_true, cond_false, eq_self, argE, Env.get, Env.push, ev, evs, evo, retV, Value.cells, Value.oneCell', setR, overR, fillL, zl, places, allSizes, heldC, ne_eq, Int.reduceLE, Int.reduceLT, Int.reduceEq, Int.reduceNe, Int.reduceToNat, Int.cast_ofNat_Int, Nat.reduceMul, Nat.reduceLeDiff, reduceIte, Nat.reduceEqDiff, Nat.reduceAdd, ↓reduceIte, Try.vcT, F, h.cell0, gets, vsD, if_true, if_false, Bool.false_eq_true, decide_eq_true hn, decide_eq_false hbig, hN, ew2, decide_eq_false hsh]))
        refine Sep.appOne 2 3 4 h rfl rfl rfl (by omega) ?_
        intro fa' fc' w3 h
        have hcut : ∀ A, (rds (.slice a xs.length c) xs).on w3 A → (rds (.slice (cutA a c (2 + n) 1) (xs.length - (2 + n)) (c - (2 + n))) (xs.drop (2 + n))).on w3 A := fun A hA => by
          have := rds_cut (l := 2 + n) (m := xs.length) (by omega) (Nat.le_refl _) hA
          rwa [List.take_of_length_le (Nat.le_refl _)] at this
        have h := ((h.conv 1 rfl hcut (fun _ f => f)).erase 4).erase 3
        have hbd : Byt (xs.drop (2 + n)) := fun x hx => hbx x (List.mem_of_mem_drop hx)
        (try simp only [nfD] at h); have F := h.facts; (try simp only [nfF, emp_fact, rds_fact, frm_fact, strm_fact] at F); try simp -dsimp only [↓vcA, vcB, vcD, ↓pureT_lenS, ↓iteT, ↓iteF, cond_true, cond_false, eq_self, argE, Env.get, Env.push, ev, evs, evo, retV, Value.cells, Value.oneCell', setR, overR, fillL, zl, places, allSizes, heldC, ne_eq, Int.reduceLE, Int.reduceLT, Int.reduceEq, Int.reduceNe, Int.reduceToNat, Int.cast_ofNat_Int, Nat.reduceMul, Nat.reduceLeDiff, reduceIte, Nat.reduceEqDiff, Nat.reduceAdd, ↓reduceIte, Try.vcT, F, h.cell0, gets, vsD, if_true, if_false, Bool.false_eq_true,  hN, ew2]
        refine ⟨⟨by omega, by omega⟩, ?_⟩
        rw [← List.length_drop] at h F ⊢
        repeat ((first | refine Sep.new h ?_ | refine Sep.put 0 h rfl ?_ | refine Sep.put 1 h rfl ?_ | refine Sep.put 2 h rfl ?_ | refine Sep.put 3 h rfl ?_ | refine Sep.put 4 h rfl ?_ | refine Sep.put 5 h rfl ?_ | refine Sep.callp h (wlen _ _ _ F.2.1 hbd (by simp; omega)) ?_); (clear F; (try clear h); intros; rename_i h; (try simp only [nfD] at h); have F := h.facts; (try simp only [nfF, emp_fact, rds_fact, frm_fact, strm_fact] at F); try simp -dsimp only [↓vcA, vcB, vcD, ↓pureT_lenS, ↓iteT, ↓iteF, cond_true, cond_false, eq_self, argE, Env.get, Env.push, ev, evs, evo, retV, Value.cells, Value.oneCell', setR, overR, fillL, zl, places, allSizes, heldC, ne_eq, Int.reduceLE, Int.reduceLT, Int.reduceEq, Int.reduceNe, Int.reduceToNat, Int.cast_ofNat_Int, Nat.reduceMul, Nat.reduceLeDiff, reduceIte, Nat.reduceEqDiff, Nat.reduceAdd, ↓reduceIte, Try.vcT, F, h.cell0, gets, vsD, if_true, if_false, Bool.false_eq_true, hN, ew2]))
        have e := parse_yes (xs := xs) (by omega) (by omega) (by omega)
        rw [hN, Int.toNat_natCast] at e
        refine ⟨_, ?_, fa', fc', fs ++ [(xs.drop 2).take n], cutA a c (2 + n) 1, c - (2 + n), xs.drop (2 + n), rfl, by simp, ?_, ?_, hbd, by simp; omega, by simp; omega⟩
        · simp; omega
        · have e3 : (xs.take (2 + n)).drop 2 = (xs.drop 2).take n := by rw [List.drop_take]; congr 1; omega
          rw [e3] at h
          simpa using h
        · rw [hp, e]; simp
end Go.Proofs.Ytnhgjgoglmadnaa
