/- The contracts of the frames' reference. -/
import Derived.Test.YtnhgjgoglmadnaaW3
namespace Go.Proofs.Ytnhgjgoglmadnaa
open Go.RowKit
-- FACTS emp_fact, rds_fact, frm_fact, strm_fact, strr_fact, rdz_fact
set_option maxRecDepth 100000
set_option linter.unusedSimpArgs false
set_option linter.unusedVariables false
set_option pp.maxSteps 1500
set_option pp.deepTerms.threshold 8

theorem or_len (x y : Int) (hx : 0 ≤ x ∧ x ≤ 255) (hy : 0 ≤ y ∧ y ≤ 255) : IntKind.i64.wrap (BitVec.ofInt IntKind.i64.bits (IntKind.i64.wrap (IntKind.i64.wrap x * 2 ^ min 8 IntKind.i64.bits)) ||| BitVec.ofInt IntKind.i64.bits (IntKind.i64.wrap y)).toNat = x * 256 + y := by
  have e : IntKind.i64.wrap x = x := i64w _ (by omega) (by omega)
  rw [e]
  exact rstep_eq hx.1 hy (by omega)
theorem lenOf_eq {xs : List Int} (h : 2 ≤ xs.length) (hb : Byt xs) : (0 ≤ xs.getD 0 0 ∧ xs.getD 0 0 ≤ 255) ∧ (0 ≤ xs.getD 1 0 ∧ xs.getD 1 0 ≤ 255) ∧ lenOf xs = xs.getD 0 0 * 256 + xs.getD 1 0 := by
  match xs, h with
  | x :: y :: zs, _ => exact ⟨hb x (by simp), hb y (by simp), rfl⟩
theorem wmay (d : Bool) (v : Value) (xs : List Int) (w : World) (hr : Rd w v xs) (hb : Byt xs) (hl : xs.length ≤ 1000000) :
    Calls Try.prog 38 [.bool d, v].toArray w (RetK fun r w' => r = .bool (may24 d xs) ∧ Chg (fun _ => False) w w') := by
  have hr0 := hr
  obtain ⟨a, c, rfl, h2, h3, h4, h5⟩ := hr
  refine walk Try.func38 rfl (by kernel_rfl) (by rw [Try.nt38]; simp) ?_
  cases d with
  | true =>
    have e : may24 true xs = decide ((xs.length : Int) = 0) := by
      cases xs <;> simp [may24]
      omega
    simp -dsimp only [↓vcA, vcB, vcD, ↓pureT_lenS, ↓iteT, ↓iteF, cond_true, cond_false, eq_self, argE, Env.get, Env.push, ev, evs, evo, retV, Value.cells, Value.oneCell', setR, overR, fillL, zl, places, allSizes, heldC, ne_eq, Int.reduceLE, Int.reduceLT, Int.reduceEq, Int.reduceNe, Int.reduceToNat, Int.cast_ofNat_Int, Nat.reduceMul, Nat.reduceLeDiff, reduceIte, Nat.reduceEqDiff, Nat.reduceAdd, ↓reduceIte, Try.vcT, e]
    exact Chg.refl _ _
  | false =>
    by_cases hs : (xs.length : Int) < 2
    · have e : may24 false xs = true := by simp [may24]; omega
      simp -dsimp only [↓vcA, vcB, vcD, ↓pureT_lenS, ↓iteT, ↓iteF, cond_true, cond_false, eq_self, argE, Env.get, Env.push, ev, evs, evo, retV, Value.cells, Value.oneCell', setR, overR, fillL, zl, places, allSizes, heldC, ne_eq, Int.reduceLE, Int.reduceLT, Int.reduceEq, Int.reduceNe, Int.reduceToNat, Int.cast_ofNat_Int, Nat.reduceMul, Nat.reduceLeDiff, reduceIte, Nat.reduceEqDiff, Nat.reduceAdd, ↓reduceIte, Try.vcT, decide_eq_true hs, e]
      exact Chg.refl _ _
    · obtain ⟨b, o, rfl, hc⟩ := h5 (by omega)
      obtain ⟨hx, hy, el⟩ := lenOf_eq (xs := xs) (by omega) hb
      have c0 : w.cell? ⟨b, o, none⟩ = some (.int .u8 (xs.getD 0 0)) := by have := hc 0 (by omega); simpa using this
      have c1 : w.cell? ⟨b, o + 1, none⟩ = some (.int .u8 (xs.getD 1 0)) := by have := hc 1 (by omega); simpa using this
      generalize xs.getD 0 0 = x at *
      generalize xs.getD 1 0 = y at *
      simp -dsimp only [↓vcA, vcB, vcD, ↓pureT_lenS, ↓iteT, ↓iteF, cond_true, cond_false, eq_self, argE, Env.get, Env.push, ev, evs, evo, retV, Value.cells, Value.oneCell', setR, overR, fillL, zl, places, allSizes, heldC, ne_eq, Int.reduceLE, Int.reduceLT, Int.reduceEq, Int.reduceNe, Int.reduceToNat, Int.cast_ofNat_Int, Nat.reduceMul, Nat.reduceLeDiff, reduceIte, Nat.reduceEqDiff, Nat.reduceAdd, ↓reduceIte, Try.vcT, decide_eq_false hs]
      have L : Holds [(b, o, .int .u8 x), (b, o + 1, .int .u8 y)] w := by simp [Holds_nil, Holds_cons, c0, c1]
      refine walkDraw (.q 0 (.q 1 (.q 5 (.q 6 (.h 2 0 (.q 3 (.q 4 (.h 7 1 (.q 8 (.q 9 (.q 10 .fin))))))))))) [(b, o, .int .u8 x), (b, o + 1, .int .u8 y)] (by kernel_rfl) L ?_
      intro w1 e1 k1
      have eo := or_len x y hx hy
      try simp -dsimp only [↓vcA, vcB, vcD, ↓pureT_lenS, ↓iteT, ↓iteF, cond_true, cond_false, eq_self, argE, Env.get, Env.push, ev, evs, evo, retV, Value.cells, Value.oneCell', setR, overR, fillL, zl, places, allSizes, heldC, ne_eq, Int.reduceLE, Int.reduceLT, Int.reduceEq, Int.reduceNe, Int.reduceToNat, Int.cast_ofNat_Int, Nat.reduceMul, Nat.reduceLeDiff, reduceIte, Nat.reduceEqDiff, Nat.reduceAdd, ↓reduceIte, Try.vcT, Int.toNat_zero, Int.toNat_one, Int.natCast_zero, Int.natCast_one]
      refine ⟨by omega, by omega, ?_⟩
      have ew : IntKind.i64.wrap ((xs.length : Int) - 2) = (xs.length : Int) - 2 := i64w _ (by omega) (by omega)
      by_cases h1 : x * 256 + y ≤ 256
      · by_cases h2 : (xs.length : Int) - 2 < x * 256 + y
        · have e : may24 false xs = true := by simp [may24, el]; omega
          simp -dsimp only [↓vcA, vcB, vcD, ↓pureT_lenS, ↓iteT, ↓iteF, cond_true, cond_false, eq_self, argE, Env.get, Env.push, ev, evs, evo, retV, Value.cells, Value.oneCell', setR, overR, fillL, zl, places, allSizes, heldC, ne_eq, Int.reduceLE, Int.reduceLT, Int.reduceEq, Int.reduceNe, Int.reduceToNat, Int.cast_ofNat_Int, Nat.reduceMul, Nat.reduceLeDiff, reduceIte, Nat.reduceEqDiff, Nat.reduceAdd, ↓reduceIte, Try.vcT, eo, ew, decide_eq_true h1, decide_eq_true h2, e]
          exact k1
        · have e : may24 false xs = false := by simp [may24, el]; omega
          simp -dsimp only [↓vcA, vcB, vcD, ↓pureT_lenS, ↓iteT, ↓iteF, cond_true, cond_false, eq_self, argE, Env.get, Env.push, ev, evs, evo, retV, Value.cells, Value.oneCell', setR, overR, fillL, zl, places, allSizes, heldC, ne_eq, Int.reduceLE, Int.reduceLT, Int.reduceEq, Int.reduceNe, Int.reduceToNat, Int.cast_ofNat_Int, Nat.reduceMul, Nat.reduceLeDiff, reduceIte, Nat.reduceEqDiff, Nat.reduceAdd, ↓reduceIte, Try.vcT, eo, ew, decide_eq_true h1, decide_eq_false h2, e]
          exact k1
      · have e : may24 false xs = false := by simp [may24, el]; omega
        simp -dsimp only [↓vcA, vcB, vcD, ↓pureT_lenS, ↓iteT, ↓iteF, cond_true, cond_false, eq_self, argE, Env.get, Env.push, ev, evs, evo, retV, Value.cells, Value.oneCell', setR, overR, fillL, zl, places, allSizes, heldC, ne_eq, Int.reduceLE, Int.reduceLT, Int.reduceEq, Int.reduceNe, Int.reduceToNat, Int.cast_ofNat_Int, Nat.reduceMul, Nat.reduceLeDiff, reduceIte, Nat.reduceEqDiff, Nat.reduceAdd, ↓reduceIte, Try.vcT, eo, ew, decide_eq_false h1, e]
        exact k1

/-- a stream of the reference's; Z: where what is left lies, if not on its own -/
def strr (p : Nat) (s : S24) (Z : Nat → Prop) : Res where
  on w A := s.l.length ≤ 1000000 ∧ (∀ x, A x → x < w.heap.size) ∧ A p ∧ ∃ v, w.heap[p]? = some (.cells #[.bool s.dead, v] 67 (0, 0)) ∧ Rd w v s.l ∧ (0 < s.l.length → ∀ k, v.ownBlock = some k → A k ∨ Z k)
  rd := Z
  fact _ := s.l.length ≤ 1000000
  lt := fun h => h.2.1
  chg := fun {w w' A} ⟨h1, h2, h3, v, h4, h5, h6⟩ hs hc => ⟨h1, fun x hx => Nat.lt_of_lt_of_le (h2 x hx) hs, h3, v, (hc p (h2 p h3) (.inl h3)).trans h4, h5.same fun hp k hk hl => hc k hl (h6 hp k hk), h6⟩
  ok := fun h => h.1
theorem strr_fact (p : Nat) (s : S24) (Z : Nat → Prop) (w : World) : (strr p s Z).fact w = (s.l.length ≤ 1000000) := (rfl)
section
variable {w0 w : World} {S : Nat → Prop} {M : List Res} {K : Value → World → Prop}
theorem Sep.strrOpen (i : Nat) {p : Nat} {s : S24} {Z : Nat → Prop} (h : Sep w0 S M w) (hi : M[i]? = some (strr p s Z)) : ∃ a c, Sep w0 S (M.set i (blk p 67 [.bool s.dead, .slice a s.l.length c]) ++ [rdz (.slice a s.l.length c) s.l Z]) w := by
  obtain ⟨A, ⟨h1, h2, h3, v, h4, h5, h6⟩, h7⟩ := h.split i hi
  have h50 := h5
  obtain ⟨a, c, rfl, g1, g2, g3, g4⟩ := h5
  have hne : 0 < s.l.length → ∀ k, (Value.slice a s.l.length c).ownBlock = some k → k ≠ p := fun hp k hk e => by
    subst e
    obtain ⟨b, o, rfl, hc⟩ := g4 hp
    simp [Value.ownBlock] at hk
    subst hk
    have hcell := hc 0 hp
    rw [cell_of_row w b _ _ _ _ h4] at hcell
    match o, hcell with
    | 0, hcell => simp at hcell
    | 1, hcell => simp at hcell
    | o + 2, hcell => simp at hcell
  exact ⟨a, c, h7 _ _ (fun x => x = p) (fun x => A x ∧ x ≠ p) ⟨h4, rfl⟩ ⟨fun x hx => h2 x hx.1, h50, fun hp k hk => (h6 hp k hk).imp (fun hA => ⟨hA, hne hp k hk⟩) id⟩ (fun x hx => by subst hx; exact h3) (fun x hx => hx) (fun _ f => f.elim) (fun _ hx => hx)⟩
theorem Sep.strrClose (i j : Nat) {p : Nat} {d : Bool} {v : Value} {xs : List Int} {Z : Nat → Prop} (h : Sep w0 S M w) (hi : (M.set j emp)[i]? = some (blk p 67 [.bool d, v])) (hj : M[j]? = some (rdz v xs Z)) (hl : xs.length ≤ 1000000) : Sep w0 S ((M.set j emp).set i (strr p ⟨d, xs⟩ Z)) w :=
  h.join i j hi hj (fun A B ⟨h1, e1⟩ ⟨h2, h3, h4⟩ _ => ⟨hl, fun x hx => hx.elim (fun hx => by subst e1; subst hx; exact lt_of_block h1) (h2 x), .inl (by subst e1; rfl), v, h1, h3, fun hp k hk => (h4 hp k hk).imp .inr id⟩) (fun _ hx => .inr hx)
theorem byt_rdz {v : Value} {xs : List Int} (Z : Nat → Prop) : ∀ {w A}, (byt v xs).on w A → (rdz v xs Z).on w A := fun {w A} ⟨h, e⟩ => ⟨fun x hx => by rw [e] at hx; exact h.lt hx, h.rd, fun _ k hk => .inl (by rw [e]; exact hk)⟩
end
theorem Rd.sepp {w0 w : World} {S : Nat → Prop} {M : List Res} {v : Value} {xs : List Int} (h : Rd w0 v xs) (hh : Sep w0 S M w) (hS : 0 < xs.length → ∀ k, v.ownBlock = some k → ¬ S k) : Rd w v xs := by
  obtain ⟨a, c, rfl, h1, h2, h3, h4⟩ := h
  refine ⟨a, c, rfl, h1, h2, h3, fun hp => ?_⟩
  obtain ⟨b, o, rfl, hc⟩ := h4 hp
  refine ⟨b, o, rfl, fun j hj => hh.chg.cell (hc j hj) ?_⟩
  have := World.block_lt_of_cell? w0 _ (hc j hj)
  exact fun hx => hx.elim (hS hp b (by simp [Value.ownBlock])) fun hx => by dsimp only at this hx; omega
theorem rfeed (p : Nat) (s : S24) (Z : Nat → Prop) (v : Value) (b : List Int) (w : World) (A : Nat → Prop) (h : Sep w A [strr p s Z] w) (hr : Rd w v b) (hA : 0 < b.length → ∀ k, v.ownBlock = some k → ¬ A k) (hb : Byt (s.l ++ b)) (hl : b.length ≤ 1000000) (hl2 : s.l.length + b.length ≤ 1000000) :
    Calls Try.prog 41 [.pointer (some ⟨p, 0, none⟩), v].toArray w (RetK fun r w' => ∃ r' N, Sep w A (r' :: N) w' ∧ (∀ x, r'.rd x → (strr p s Z).rd x) ∧ (∀ q ∈ N, ∀ x, ¬ q.rd x) ∧
      ∃ a c Z', r = .tuple #[.slice a (s.feedF b).length c, .int .i64 (s.feedC b)] ∧ r' = strr p (s.feedS b) Z' ∧ N = [frm (.slice a (s.feedF b).length c) (s.feedF b)]) := by
  obtain ⟨d, l⟩ := s
  obtain ⟨a0, c0, h⟩ := h.strrOpen 0 rfl
  (try simp only [nfD] at h); have F := h.facts; (try simp only [nfF, emp_fact, rds_fact, frm_fact, strm_fact, strr_fact, rdz_fact] at F)
  refine walk Try.func41 rfl (by kernel_rfl) (by rw [Try.nt41]; simp) ?_
  cases d with
  | true =>
    simp -dsimp only [↓vcA, vcB, vcD, ↓pureT_lenS, ↓iteT, ↓iteF, cond_true, cond_false, eq_self, argE, Env.get, Env.push, ev, evs, evo, retV, Value.cells, Value.oneCell', setR, overR, fillL, zl, places, allSizes, heldC, ne_eq, Int.reduceLE, Int.reduceLT, Int.reduceEq, Int.reduceNe, Int.reduceToNat, Int.cast_ofNat_Int, Nat.reduceMul, Nat.reduceLeDiff, reduceIte, Nat.reduceEqDiff, Nat.reduceAdd, ↓reduceIte, Try.vcT, F]
    have h := ((h.strrClose 0 1 rfl rfl (by simp only at hl2; omega)).erase 1).frmNil
    exact ⟨_, _, h, fun _ f => f, fun q hq x hx => by simp at hq; subst hq; exact hx, none, 0, Z, rfl, rfl, rfl⟩
  | false =>
    simp -dsimp only [↓vcA, vcB, vcD, ↓pureT_lenS, ↓iteT, ↓iteF, cond_true, cond_false, eq_self, argE, Env.get, Env.push, ev, evs, evo, retV, Value.cells, Value.oneCell', setR, overR, fillL, zl, places, allSizes, heldC, ne_eq, Int.reduceLE, Int.reduceLT, Int.reduceEq, Int.reduceNe, Int.reduceToNat, Int.cast_ofNat_Int, Nat.reduceMul, Nat.reduceLeDiff, reduceIte, Nat.reduceEqDiff, Nat.reduceAdd, ↓reduceIte, Try.vcT, F]
    refine h.new ?_
    intro w1 b1 h
    have h := h.toByt 2 [] rfl (by simp [maxLen])
    (try simp only [nfD] at h); have F := h.facts; (try simp only [nfF, emp_fact, rds_fact, frm_fact, strm_fact, strr_fact, rdz_fact] at F); try simp -dsimp only [↓vcA, vcB, vcD, ↓pureT_lenS, ↓iteT, ↓iteF, cond_true, cond_false, eq_self, argE, Env.get, Env.push, ev, evs, evo, retV, Value.cells, Value.oneCell', setR, overR, fillL, zl, places, allSizes, heldC, ne_eq, Int.reduceLE, Int.reduceLT, Int.reduceEq, Int.reduceNe, Int.reduceToNat, Int.cast_ofNat_Int, Nat.reduceMul, Nat.reduceLeDiff, reduceIte, Nat.reduceEqDiff, Nat.reduceAdd, ↓reduceIte, Try.vcT, F, h.cell0, gets, vsD, if_true, if_false, Bool.false_eq_true]
    refine Sep.appB 2 l h rfl F.2.1 (by simp only at hl2; simp; omega) ?_
    intro a1 c1 w2 h
    simp only [List.nil_append] at h
    (try simp only [nfD] at h); have F := h.facts; (try simp only [nfF, emp_fact, rds_fact, frm_fact, strm_fact, strr_fact, rdz_fact] at F); try simp -dsimp only [↓vcA, vcB, vcD, ↓pureT_lenS, ↓iteT, ↓iteF, cond_true, cond_false, eq_self, argE, Env.get, Env.push, ev, evs, evo, retV, Value.cells, Value.oneCell', setR, overR, fillL, zl, places, allSizes, heldC, ne_eq, Int.reduceLE, Int.reduceLT, Int.reduceEq, Int.reduceNe, Int.reduceToNat, Int.cast_ofNat_Int, Nat.reduceMul, Nat.reduceLeDiff, reduceIte, Nat.reduceEqDiff, Nat.reduceAdd, ↓reduceIte, Try.vcT, F, h.cell0, gets, vsD, if_true, if_false, Bool.false_eq_true,  List.nil_append]
    refine Sep.appB 2 b h rfl (hr.sepp h hA) (by simp only at hl2; omega) ?_
    intro a2 c2 w3 h
    have h := ((h.conv 2 (r' := rds (.slice a2 (l ++ b).length c2) (l ++ b)) rfl (fun A h => byt_rds h) (fun _ f => f)).frmNil).erase 1
    (try simp only [nfD] at h); have F := h.facts; (try simp only [nfF, emp_fact, rds_fact, frm_fact, strm_fact, strr_fact, rdz_fact] at F); try simp -dsimp only [↓vcA, vcB, vcD, ↓pureT_lenS, ↓iteT, ↓iteF, cond_true, cond_false, eq_self, argE, Env.get, Env.push, ev, evs, evo, retV, Value.cells, Value.oneCell', setR, overR, fillL, zl, places, allSizes, heldC, ne_eq, Int.reduceLE, Int.reduceLT, Int.reduceEq, Int.reduceNe, Int.reduceToNat, Int.cast_ofNat_Int, Nat.reduceMul, Nat.reduceLeDiff, reduceIte, Nat.reduceEqDiff, Nat.reduceAdd, ↓reduceIte, Try.vcT, F, h.cell0, gets, vsD, if_true, if_false, Bool.false_eq_true]
    dsimp only at hb hl2
    have hall : (l ++ b).length ≤ 1000000 := by simp; omega
    generalize hxs : l ++ b = xs0 at *
    refine walkLoop [0] [7, 6] (fun m vs w' => ∃ fa fc fs a c xs, m = xs.length ∧ vs = [.slice fa fs.length fc, .slice a xs.length c] ∧
      Sep w A [blk p 67 [.bool false, .slice a0 l.length c0], rds (.slice a xs.length c) xs, frm (.slice fa fs.length fc) fs] w' ∧ parse xs0 = (fs ++ (parse xs).1, (parse xs).2) ∧ Byt xs ∧ xs.length ≤ 1000000 ∧ fs.length + xs.length ≤ 1000000) (by kernel_rfl) ?_ ?_
    · simp -dsimp only [↓vcA, vcB, vcD, ↓pureT_lenS, ↓iteT, ↓iteF, cond_true, cond_false, eq_self, argE, Env.get, Env.push, ev, evs, evo, retV, Value.cells, Value.oneCell', setR, overR, fillL, zl, places, allSizes, heldC, ne_eq, Int.reduceLE, Int.reduceLT, Int.reduceEq, Int.reduceNe, Int.reduceToNat, Int.cast_ofNat_Int, Nat.reduceMul, Nat.reduceLeDiff, reduceIte, Nat.reduceEqDiff, Nat.reduceAdd, ↓reduceIte, Try.vcT, gets]
      exact ⟨_, none, 0, [], _, _, xs0, rfl, rfl, h, by simp, hb, hall, by simpa using hall⟩
    · intro ks hk m vs w2 hi
      clear h F
      obtain ⟨fa, fc, fs, a, c, xs, rfl, rfl, h, hp, hbx, hlx, hlf⟩ := hi
      simp -dsimp only [gets, argE, List.zip_cons_cons, List.zip_nil_left, List.cons_append, List.nil_append, Env.get, Env.push, Option.bind_some, Option.map_some, Option.some.injEq, reduceIte, Nat.reduceEqDiff, Nat.reduceAdd, ↓reduceIte] at hk; subst hk
      (try simp only [nfD] at h); have F := h.facts; (try simp only [nfF, emp_fact, rds_fact, frm_fact, strm_fact, strr_fact, rdz_fact] at F)
      have done : ∀ {w' : World} {a' c' : _}, Sep w A [blk p 67 [.bool false, .slice a' xs.length c'], rds (.slice a xs.length c) xs, frm (.slice fa fs.length fc) fs, byt (.slice a' xs.length c') xs] w' → (lenOf xs < 0 ∨ xs.length < 2 + (lenOf xs).toNat) → lenOf xs ≤ 256 →
          ∃ r' N, Sep w A (r' :: N) w' ∧ (∀ x, r'.rd x → (strr p ⟨false, l⟩ Z).rd x) ∧ (∀ q ∈ N, ∀ x, ¬ q.rd x) ∧ ∃ a c Z', Value.tuple #[.slice fa fs.length fc, .int .i64 0] = .tuple #[.slice a (S24.feedF ⟨false, l⟩ b).length c, .int .i64 (S24.feedC ⟨false, l⟩ b)] ∧ r' = strr p (S24.feedS ⟨false, l⟩ b) Z' ∧ N = [frm (.slice a (S24.feedF ⟨false, l⟩ b).length c) (S24.feedF ⟨false, l⟩ b)] := by
        intro w' a' c' h h1 h2
        have e := parse_no (xs := xs) h1 h2
        rw [e] at hp
        have h := (((h.conv 3 rfl (fun _ hA => byt_rdz (fun _ => False) hA) (fun _ f => f)).strrClose 0 3 rfl rfl hlx).erase 3).erase 1
        simp only [List.append_nil] at hp
        have e1 : S24.feedF ⟨false, l⟩ b = fs := by simp [S24.feedF, hxs, hp]
        have e2 : S24.feedS ⟨false, l⟩ b = ⟨false, xs⟩ := by simp [S24.feedS, hxs, hp]
        have e3 : S24.feedC ⟨false, l⟩ b = 0 := by simp [S24.feedC, hxs, hp]
        rw [e1, e2, e3]
        exact ⟨_, _, h, fun _ f => f.elim, fun q hq x hx => by simp at hq; subst hq; exact hx, fa, fc, _, rfl, rfl, rfl⟩
      have h2c : ¬ (2 : Int) ≤ xs.length → lenOf xs = -1 := fun hh => lenOf_short (by omega)
      by_cases h2 : (2 : Int) ≤ xs.length
      case neg =>
        (try simp only [nfD] at h); have F := h.facts; (try simp only [nfF, emp_fact, rds_fact, frm_fact, strm_fact, strr_fact, rdz_fact] at F); try simp -dsimp only [↓vcA, vcB, vcD, ↓pureT_lenS, ↓iteT, ↓iteF, cond_true, cond_false, eq_self, argE, Env.get, Env.push, ev, evs, evo, retV, Value.cells, Value.oneCell', setR, overR, fillL, zl, places, allSizes, heldC, ne_eq, Int.reduceLE, Int.reduceLT, Int.reduceEq, Int.reduceNe, Int.reduceToNat, Int.cast_ofNat_Int, Nat.reduceMul, Nat.reduceLeDiff, reduceIte, Nat.reduceEqDiff, Nat.reduceAdd, ↓reduceIte, Try.vcT, F, h.cell0, gets, vsD, if_true, if_false, Bool.false_eq_true,  decide_eq_false h2]
        refine h.new ?_
        clear F h
        intro w3 b3 h
        have h := h.toByt 3 [] rfl (by simp [maxLen])
        (try simp only [nfD] at h); have F := h.facts; (try simp only [nfF, emp_fact, rds_fact, frm_fact, strm_fact, strr_fact, rdz_fact] at F)
        refine Sep.appB 3 xs h rfl F.2.1 (by simp; omega) ?_
        clear F h
        intro a3 c3 w4 h
        simp only [List.nil_append] at h
        (try simp only [nfD] at h); have F := h.facts; (try simp only [nfF, emp_fact, rds_fact, frm_fact, strm_fact, strr_fact, rdz_fact] at F); try simp -dsimp only [↓vcA, vcB, vcD, ↓pureT_lenS, ↓iteT, ↓iteF, cond_true, cond_false, eq_self, argE, Env.get, Env.push, ev, evs, evo, retV, Value.cells, Value.oneCell', setR, overR, fillL, zl, places, allSizes, heldC, ne_eq, Int.reduceLE, Int.reduceLT, Int.reduceEq, Int.reduceNe, Int.reduceToNat, Int.cast_ofNat_Int, Nat.reduceMul, Nat.reduceLeDiff, reduceIte, Nat.reduceEqDiff, Nat.reduceAdd, ↓reduceIte, Try.vcT, F, h.cell0, gets, vsD, if_true, if_false, Bool.false_eq_true,  List.nil_append]
        repeat ((first | refine Sep.new h ?_ | refine Sep.put 0 h rfl ?_ | refine Sep.put 1 h rfl ?_ | refine Sep.put 2 h rfl ?_ | refine Sep.put 3 h rfl ?_ | refine Sep.put 4 h rfl ?_ | refine Sep.put 5 h rfl ?_); (clear F; (try clear h); intros; rename_i h; (try simp only [nfD] at h); have F := h.facts; (try simp only [nfF, emp_fact, rds_fact, frm_fact, strm_fact, strr_fact, rdz_fact] at F); try simp -dsimp only [↓vcA, vcB, vcD, ↓pureT_lenS, ↓iteT, ↓iteF, cond_true, cond_false, eq_self, argE, Env.get, Env.push, ev, evs, evo, retV, Value.cells, Value.oneCell', setR, overR, fillL, zl, places, allSizes, heldC, ne_eq, Int.reduceLE, Int.reduceLT, Int.reduceEq, Int.reduceNe, Int.reduceToNat, Int.cast_ofNat_Int, Nat.reduceMul, Nat.reduceLeDiff, reduceIte, Nat.reduceEqDiff, Nat.reduceAdd, ↓reduceIte, Try.vcT, F, h.cell0, gets, vsD, if_true, if_false, Bool.false_eq_true]))
        exact done h (.inl (by have := h2c h2; omega)) (by have := h2c h2; omega)
      obtain ⟨hx, hy, el⟩ := lenOf_eq (xs := xs) (by omega) hbx
      have hcell : ∃ b0 o0, a = some ⟨b0, o0, none⟩ ∧ w2.cell? ⟨b0, o0, none⟩ = some (.int .u8 (xs.getD 0 0)) ∧ w2.cell? ⟨b0, o0 + 1, none⟩ = some (.int .u8 (xs.getD 1 0)) := by
        obtain ⟨_, _, e, _, _, _, hc⟩ := F.2.1
        injection e with e _ _
        obtain ⟨b0, o0, e2, hc⟩ := hc (by omega)
        refine ⟨b0, o0, by rw [e, e2], by have := hc 0 (by omega); simpa using this, hc 1 (by omega)⟩
      have hcl : xs.length ≤ c := by
        obtain ⟨_, _, e, hc1, _⟩ := F.2.1
        injection e with _ _ e; omega
      obtain ⟨b0, o0, rfl, k0, k1⟩ := hcell
      generalize xs.getD 0 0 = x at *
      generalize xs.getD 1 0 = y at *
      have L : Holds [(b0, o0, .int .u8 x), (b0, o0 + 1, .int .u8 y)] w2 := by simp [Holds_nil, Holds_cons, k0, k1]
      have eo := or_len x y hx hy
      (try simp only [nfD] at h); have F := h.facts; (try simp only [nfF, emp_fact, rds_fact, frm_fact, strm_fact, strr_fact, rdz_fact] at F); try simp -dsimp only [↓vcA, vcB, vcD, ↓pureT_lenS, ↓iteT, ↓iteF, cond_true, cond_false, eq_self, argE, Env.get, Env.push, ev, evs, evo, retV, Value.cells, Value.oneCell', setR, overR, fillL, zl, places, allSizes, heldC, ne_eq, Int.reduceLE, Int.reduceLT, Int.reduceEq, Int.reduceNe, Int.reduceToNat, Int.cast_ofNat_Int, Nat.reduceMul, Nat.reduceLeDiff, reduceIte, Nat.reduceEqDiff, Nat.reduceAdd, ↓reduceIte, Try.vcT, F, h.cell0, gets, vsD, if_true, if_false, Bool.false_eq_true,  decide_eq_true h2]
      refine walkDraw (.q 0 (.q 1 (.q 5 (.q 6 (.h 2 0 (.q 3 (.q 4 (.h 7 1 (.q 8 (.q 9 (.q 10 .fin))))))))))) [(b0, o0, .int .u8 x), (b0, o0 + 1, .int .u8 y)] (by kernel_rfl) L ?_
      refine h.draw ?_
      clear h F
      intro w3 h
      (try simp only [nfD] at h); have F := h.facts; (try simp only [nfF, emp_fact, rds_fact, frm_fact, strm_fact, strr_fact, rdz_fact] at F); try simp -dsimp only [↓vcA, vcB, vcD, ↓pureT_lenS, ↓iteT, ↓iteF, cond_true, cond_false, eq_self, argE, Env.get, Env.push, ev, evs, evo, retV, Value.cells, Value.oneCell', setR, overR, fillL, zl, places, allSizes, heldC, ne_eq, Int.reduceLE, Int.reduceLT, Int.reduceEq, Int.reduceNe, Int.reduceToNat, Int.cast_ofNat_Int, Nat.reduceMul, Nat.reduceLeDiff, reduceIte, Nat.reduceEqDiff, Nat.reduceAdd, ↓reduceIte, Try.vcT, F, h.cell0, gets, vsD, if_true, if_false, Bool.false_eq_true,  Int.toNat_zero, Int.toNat_one, Int.natCast_zero, Int.natCast_one, eo]
      refine ⟨by omega, by omega, ?_⟩
      by_cases hbig : (256 : Int) < x * 256 + y
      case pos =>
        (try simp only [nfD] at h); have F := h.facts; (try simp only [nfF, emp_fact, rds_fact, frm_fact, strm_fact, strr_fact, rdz_fact] at F); try simp -dsimp only [↓vcA, vcB, vcD, ↓pureT_lenS, ↓iteT, ↓iteF, cond_true, cond_false, eq_self, argE, Env.get, Env.push, ev, evs, evo, retV, Value.cells, Value.oneCell', setR, overR, fillL, zl, places, allSizes, heldC, ne_eq, Int.reduceLE, Int.reduceLT, Int.reduceEq, Int.reduceNe, Int.reduceToNat, Int.cast_ofNat_Int, Nat.reduceMul, Nat.reduceLeDiff, reduceIte, Nat.reduceEqDiff, Nat.reduceAdd, ↓reduceIte, Try.vcT, F, h.cell0, gets, vsD, if_true, if_false, Bool.false_eq_true,  decide_eq_true hbig, eo]
        repeat ((first | refine Sep.new h ?_ | refine Sep.put 0 h rfl ?_ | refine Sep.put 1 h rfl ?_ | refine Sep.put 2 h rfl ?_ | refine Sep.put 3 h rfl ?_ | refine Sep.put 4 h rfl ?_ | refine Sep.put 5 h rfl ?_); (clear F; (try clear h); intros; rename_i h; (try simp only [nfD] at h); have F := h.facts; (try simp only [nfF, emp_fact, rds_fact, frm_fact, strm_fact, strr_fact, rdz_fact] at F); try simp -dsimp only [↓vcA, vcB, vcD, ↓pureT_lenS, ↓iteT, ↓iteF, cond_true, cond_false, eq_self, argE, Env.get, Env.push, ev, evs, evo, retV, Value.cells, Value.oneCell', setR, overR, fillL, zl, places, allSizes, heldC, ne_eq, Int.reduceLE, Int.reduceLT, Int.reduceEq, Int.reduceNe, Int.reduceToNat, Int.cast_ofNat_Int, Nat.reduceMul, Nat.reduceLeDiff, reduceIte, Nat.reduceEqDiff, Nat.reduceAdd, ↓reduceIte, Try.vcT, F, h.cell0, gets, vsD, if_true, if_false, Bool.false_eq_true, decide_eq_true hbig, eo]))
        have e := parse_big (xs := xs) (by omega)
        rw [e] at hp
        have h := (((h.bytNil.conv 3 rfl (fun _ hA => byt_rdz (fun _ => False) hA) (fun _ f => f)).strrClose 0 3 rfl rfl (by simp)).erase 3).erase 1
        simp only [List.append_nil] at hp
        have e1 : S24.feedF ⟨false, l⟩ b = fs := by simp [S24.feedF, hxs, hp]
        have e2 : S24.feedS ⟨false, l⟩ b = ⟨true, []⟩ := by simp [S24.feedS, hxs, hp]
        have e3 : S24.feedC ⟨false, l⟩ b = 3 := by simp [S24.feedC, hxs, hp]
        rw [e1, e2, e3]
        exact ⟨_, _, h, fun _ f => f.elim, fun q hq x hx => by simp at hq; subst hq; exact hx, fa, fc, _, rfl, rfl, rfl⟩
      obtain ⟨n, hN⟩ := Int.eq_ofNat_of_zero_le (show 0 ≤ x * 256 + y by omega)
      rw [hN] at eo hbig el
      have ew2 : IntKind.i64.wrap (2 + (n : Int)) = ((2 + n : Nat) : Int) := by rw [i64w _ (by omega) (by omega)]; omega
      by_cases hsh : (xs.length : Int) < ((2 + n : Nat) : Int)
      case pos =>
        (try simp only [nfD] at h); have F := h.facts; (try simp only [nfF, emp_fact, rds_fact, frm_fact, strm_fact, strr_fact, rdz_fact] at F); try simp -dsimp only [↓vcA, vcB, vcD, ↓pureT_lenS, ↓iteT, ↓iteF, cond_true, cond_false, eq_self, argE, Env.get, Env.push, ev, evs, evo, retV, Value.cells, Value.oneCell', setR, overR, fillL, zl, places, allSizes, heldC, ne_eq, Int.reduceLE, Int.reduceLT, Int.reduceEq, Int.reduceNe, Int.reduceToNat, Int.cast_ofNat_Int, Nat.reduceMul, Nat.reduceLeDiff, reduceIte, Nat.reduceEqDiff, Nat.reduceAdd, ↓reduceIte, Try.vcT, F, h.cell0, gets, vsD, if_true, if_false, Bool.false_eq_true,  hN, decide_eq_false hbig, eo, ew2, decide_eq_true hsh]
        refine h.new ?_
        clear F h
        intro w3 b3 h
        have h := h.toByt 3 [] rfl (by simp [maxLen])
        (try simp only [nfD] at h); have F := h.facts; (try simp only [nfF, emp_fact, rds_fact, frm_fact, strm_fact, strr_fact, rdz_fact] at F)
        refine Sep.appB 3 xs h rfl F.2.1 (by simp; omega) ?_
        clear F h
        intro a3 c3 w4 h
        simp only [List.nil_append] at h
        (try simp only [nfD] at h); have F := h.facts; (try simp only [nfF, emp_fact, rds_fact, frm_fact, strm_fact, strr_fact, rdz_fact] at F); try simp -dsimp only [↓vcA, vcB, vcD, ↓pureT_lenS, ↓iteT, ↓iteF, cond_true, cond_false, eq_self, argE, Env.get, Env.push, ev, evs, evo, retV, Value.cells, Value.oneCell', setR, overR, fillL, zl, places, allSizes, heldC, ne_eq, Int.reduceLE, Int.reduceLT, Int.reduceEq, Int.reduceNe, Int.reduceToNat, Int.cast_ofNat_Int, Nat.reduceMul, Nat.reduceLeDiff, reduceIte, Nat.reduceEqDiff, Nat.reduceAdd, ↓reduceIte, Try.vcT, F, h.cell0, gets, vsD, if_true, if_false, Bool.false_eq_true,  List.nil_append]
        repeat ((first | refine Sep.new h ?_ | refine Sep.put 0 h rfl ?_ | refine Sep.put 1 h rfl ?_ | refine Sep.put 2 h rfl ?_ | refine Sep.put 3 h rfl ?_ | refine Sep.put 4 h rfl ?_ | refine Sep.put 5 h rfl ?_); (clear F; (try clear h); intros; rename_i h; (try simp only [nfD] at h); have F := h.facts; (try simp only [nfF, emp_fact, rds_fact, frm_fact, strm_fact, strr_fact, rdz_fact] at F); try simp -dsimp only [↓vcA, vcB, vcD, ↓pureT_lenS, ↓iteT, ↓iteF, cond_true, cond_false, eq_self, argE, Env.get, Env.push, ev, evs, evo, retV, Value.cells, Value.oneCell', setR, overR, fillL, zl, places, allSizes, heldC, ne_eq, Int.reduceLE, Int.reduceLT, Int.reduceEq, Int.reduceNe, Int.reduceToNat, Int.cast_ofNat_Int, Nat.reduceMul, Nat.reduceLeDiff, reduceIte, Nat.reduceEqDiff, Nat.reduceAdd, ↓reduceIte, Try.vcT, F, h.cell0, gets, vsD, if_true, if_false, Bool.false_eq_true]))
        exact done h (.inr (by omega)) (by omega)
      case neg =>
        (try simp only [nfD] at h); have F := h.facts; (try simp only [nfF, emp_fact, rds_fact, frm_fact, strm_fact, strr_fact, rdz_fact] at F); try simp -dsimp only [↓vcA, vcB, vcD, ↓pureT_lenS, ↓iteT, ↓iteF, cond_true, cond_false, eq_self, argE, Env.get, Env.push, ev, evs, evo, retV, Value.cells, Value.oneCell', setR, overR, fillL, zl, places, allSizes, heldC, ne_eq, Int.reduceLE, Int.reduceLT, Int.reduceEq, Int.reduceNe, Int.reduceToNat, Int.cast_ofNat_Int, Nat.reduceMul, Nat.reduceLeDiff, reduceIte, Nat.reduceEqDiff, Nat.reduceAdd, ↓reduceIte, Try.vcT, F, h.cell0, gets, vsD, if_true, if_false, Bool.false_eq_true,  hN, decide_eq_false hbig, eo, ew2, decide_eq_false hsh]
        refine h.new ?_
        clear F h
        intro w3 b3 h
        have h := h.toByt 3 [] rfl (by simp [maxLen])
        (try simp only [nfD] at h); have F := h.facts; (try simp only [nfF, emp_fact, rds_fact, frm_fact, strm_fact, strr_fact, rdz_fact] at F); try simp -dsimp only [↓vcA, vcB, vcD, ↓pureT_lenS, ↓iteT, ↓iteF, cond_true, cond_false, eq_self, argE, Env.get, Env.push, ev, evs, evo, retV, Value.cells, Value.oneCell', setR, overR, fillL, zl, places, allSizes, heldC, ne_eq, Int.reduceLE, Int.reduceLT, Int.reduceEq, Int.reduceNe, Int.reduceToNat, Int.cast_ofNat_Int, Nat.reduceMul, Nat.reduceLeDiff, reduceIte, Nat.reduceEqDiff, Nat.reduceAdd, ↓reduceIte, Try.vcT, F, h.cell0, gets, vsD, if_true, if_false, Bool.false_eq_true,  hN, ew2]
        refine ⟨⟨by omega, by omega⟩, by omega, ?_⟩
        have hcut := F.2.1.cut (l := 2) (m := 2 + n) (by omega) (by omega)
        refine Sep.appB 3 ((xs.take (2 + n)).drop 2) h rfl hcut (by simp; omega) ?_
        clear F h hcut
        intro a3 c3 w4 h
        simp only [List.nil_append] at h
        (try simp only [nfD] at h); have F := h.facts; (try simp only [nfF, emp_fact, rds_fact, frm_fact, strm_fact, strr_fact, rdz_fact] at F); try simp -dsimp only [↓vcA, vcB, vcD, ↓pureT_lenS, ↓iteT, ↓iteF, cond_true, cond_false, eq_self, argE, Env.get, Env.push, ev, evs, evo, retV, Value.cells, Value.oneCell', setR, overR, fillL, zl, places, allSizes, heldC, ne_eq, Int.reduceLE, Int.reduceLT, Int.reduceEq, Int.reduceNe, Int.reduceToNat, Int.cast_ofNat_Int, Nat.reduceMul, Nat.reduceLeDiff, reduceIte, Nat.reduceEqDiff, Nat.reduceAdd, ↓reduceIte, Try.vcT, F, h.cell0, gets, vsD, if_true, if_false, Bool.false_eq_true,  List.nil_append]
        refine h.new ?_
        clear F h
        intro w5 b5 h
        (try simp only [nfD] at h); have F := h.facts; (try simp only [nfF, emp_fact, rds_fact, frm_fact, strm_fact, strr_fact, rdz_fact] at F); try simp -dsimp only [↓vcA, vcB, vcD, ↓pureT_lenS, ↓iteT, ↓iteF, cond_true, cond_false, eq_self, argE, Env.get, Env.push, ev, evs, evo, retV, Value.cells, Value.oneCell', setR, overR, fillL, zl, places, allSizes, heldC, ne_eq, Int.reduceLE, Int.reduceLT, Int.reduceEq, Int.reduceNe, Int.reduceToNat, Int.cast_ofNat_Int, Nat.reduceMul, Nat.reduceLeDiff, reduceIte, Nat.reduceEqDiff, Nat.reduceAdd, ↓reduceIte, Try.vcT, F, h.cell0, gets, vsD, if_true, if_false, Bool.false_eq_true]
        refine Sep.appOne 2 3 4 h rfl rfl rfl (by omega) ?_
        clear F h
        intro fa' fc' w6 h
        have hcut : ∀ A, (rds (.slice (some ⟨b0, o0, none⟩) xs.length c) xs).on w6 A → (rds (.slice (cutA (some ⟨b0, o0, none⟩) c (2 + n) 1) (xs.length - (2 + n)) (c - (2 + n))) (xs.drop (2 + n))).on w6 A := fun A hA => by
          have := rds_cut (l := 2 + n) (m := xs.length) (by omega) (Nat.le_refl _) hA
          rwa [List.take_of_length_le (Nat.le_refl _)] at this
        have h := ((h.conv 1 rfl hcut (fun _ f => f)).erase 4).erase 3
        have hbd : Byt (xs.drop (2 + n)) := fun x hx => hbx x (List.mem_of_mem_drop hx)
        (try simp only [nfD] at h); have F := h.facts; (try simp only [nfF, emp_fact, rds_fact, frm_fact, strm_fact, strr_fact, rdz_fact] at F); try simp -dsimp only [↓vcA, vcB, vcD, ↓pureT_lenS, ↓iteT, ↓iteF, cond_true, cond_false, eq_self, argE, Env.get, Env.push, ev, evs, evo, retV, Value.cells, Value.oneCell', setR, overR, fillL, zl, places, allSizes, heldC, ne_eq, Int.reduceLE, Int.reduceLT, Int.reduceEq, Int.reduceNe, Int.reduceToNat, Int.cast_ofNat_Int, Nat.reduceMul, Nat.reduceLeDiff, reduceIte, Nat.reduceEqDiff, Nat.reduceAdd, ↓reduceIte, Try.vcT, F, h.cell0, gets, vsD, if_true, if_false, Bool.false_eq_true,  hN, ew2]
        refine ⟨⟨by omega, by omega⟩, ?_⟩
        rw [← List.length_drop] at h F ⊢
        (try simp only [nfD] at h); have F := h.facts; (try simp only [nfF, emp_fact, rds_fact, frm_fact, strm_fact, strr_fact, rdz_fact] at F); try simp -dsimp only [↓vcA, vcB, vcD, ↓pureT_lenS, ↓iteT, ↓iteF, cond_true, cond_false, eq_self, argE, Env.get, Env.push, ev, evs, evo, retV, Value.cells, Value.oneCell', setR, overR, fillL, zl, places, allSizes, heldC, ne_eq, Int.reduceLE, Int.reduceLT, Int.reduceEq, Int.reduceNe, Int.reduceToNat, Int.cast_ofNat_Int, Nat.reduceMul, Nat.reduceLeDiff, reduceIte, Nat.reduceEqDiff, Nat.reduceAdd, ↓reduceIte, Try.vcT, F, h.cell0, gets, vsD, if_true, if_false, Bool.false_eq_true,  ew2]
        have e := parse_yes (xs := xs) (by omega) (by omega) (by omega)
        rw [el, Int.toNat_natCast] at e
        refine ⟨_, ?_, fa', fc', fs ++ [(xs.drop 2).take n], cutA (some ⟨b0, o0, none⟩) c (2 + n) 1, c - (2 + n), xs.drop (2 + n), rfl, by simp, ?_, ?_, hbd, by simp; omega, by simp; omega⟩
        · simp; omega
        · have e3 : (xs.take (2 + n)).drop 2 = (xs.drop 2).take n := by rw [List.drop_take]; congr 1; omega
          rw [e3] at h
          simpa using h
        · rw [hp, e]; simp
end Go.Proofs.Ytnhgjgoglmadnaa
