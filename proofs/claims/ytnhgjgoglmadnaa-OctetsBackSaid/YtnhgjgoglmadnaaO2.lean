/- The contracts of the bytes' package: readers. -/
import Derived.Test.YtnhgjgoglmadnaaO
namespace Go.Proofs.Ytnhgjgoglmadnaa
open Go.RowKit
set_option maxRecDepth 100000
set_option linter.unusedSimpArgs false
set_option linter.unusedVariables false
set_option pp.maxSteps 1500
set_option pp.deepTerms.threshold 8

theorem Rd.cut {w : World} {a : Option Addr} {n c : Nat} {xs : List Int} (h : Rd w (.slice a n c) xs) {l m : Nat} (hl : l ≤ m) (hm : m ≤ n) :
    Rd w (.slice (cutA a c l 1) (m - l) (c - l)) ((xs.take m).drop l) := by
  obtain ⟨a', c', e, h1, h2, h3, h4⟩ := h
  injection e with e1 e2 e3
  subst e1 e2 e3
  have hlen : ((xs.take m).drop l).length = m - l := by simp; omega
  refine ⟨cutA a c l 1, c - l, by rw [hlen], by rw [hlen]; omega, by omega, fun hn => ?_, fun hp => ?_⟩
  · unfold cutA at hn
    split at hn
    · omega
    · cases a with
      | none => have := h3 rfl; omega
      | some a => cases hn
  · rw [hlen] at hp
    obtain ⟨b, o, rfl, hc⟩ := h4 (by omega)
    refine ⟨b, o + l, by simp [cutA, show ¬ c = l by omega, add_off], fun j hj => ?_⟩
    rw [hlen] at hj
    rw [Nat.add_assoc, hc (l + j) (by omega)]
    simp [List.getD, List.getElem?_drop, List.getElem?_take, show l + j < m by omega]
theorem cutA_block {a : Option Addr} {n c n' c' l : Nat} {k : Nat} (h : (Value.slice (cutA a c l 1) n' c').ownBlock = some k) : (Value.slice a n c).ownBlock = some k := by
  unfold cutA at h
  split at h
  · cases a with
    | none => simp [Value.ownBlock] at h
    | some a => exact h
  · cases a with
    | none => simp [Value.ownBlock] at h
    | some a => 
      simp only [Option.map_some, Value.ownBlock] at h ⊢
      rw [← h]; unfold Addr.add; split <;> rfl

/-- A reader as a value: the bytes that are left, is it spoilt? -/
structure R8 where
  l : List Int
  bad : Bool
theorem Rd.lt {w : World} {v : Value} {xs : List Int} (h : Rd w v xs) (hp : 0 < xs.length) : ∀ k, v.ownBlock = some k → k < w.heap.size := by
  obtain ⟨a, c, rfl, h1, h2, h3, h4⟩ := h
  obtain ⟨b, o, rfl, hc⟩ := h4 hp
  intro k hk
  simp [Value.ownBlock] at hk
  subst hk
  exact World.block_lt_of_cell? w _ (hc 0 hp)
theorem Rd.chg' {S : Nat → Prop} {w w' : World} {v : Value} {xs : List Int} (h : Rd w v xs) (hc : Chg S w w') (hn : 0 < xs.length → ∀ k, v.ownBlock = some k → ¬ S k) : Rd w' v xs := by
  obtain ⟨a, c, rfl, h1, h2, h3, h4⟩ := h
  refine ⟨a, c, rfl, h1, h2, h3, fun hp => ?_⟩
  obtain ⟨b, o, rfl, hcell⟩ := h4 hp
  exact ⟨b, o, rfl, fun j hj => hc.cell (hcell j hj) (hn hp b (by simp [Value.ownBlock]))⟩
/-- A reader at block p, by the slice v. -/
structure Rdr (t : Nat) (w : World) (p : Nat) (v : Value) (s : R8) : Prop where
  blk : w.heap[p]? = some (.cells #[v, .bool s.bad] t (0, 0))
  rd : Rd w v s.l
  ne : 0 < s.l.length → v.ownBlock ≠ some p
theorem Rdr.lt {t p : Nat} {w : World} {v : Value} {s : R8} (h : Rdr t w p v s) (hp : 0 < s.l.length) : ∀ k, v.ownBlock = some k → k < w.heap.size := h.rd.lt hp
theorem Rdr.bk {t p : Nat} {w : World} {v : Value} {s : R8} (h : Rdr t w p v s) : blkOf w p = some ([v, .bool s.bad], t) := by simpa using blkOf_of h.blk
theorem Rdr.c0 {t p : Nat} {w : World} {v : Value} {s : R8} (h : Rdr t w p v s) : w.cell? ⟨p, 0, none⟩ = some v := by rw [cell_of_row w p 0 _ _ _ h.blk]; rfl
theorem Rdr.c1 {t p : Nat} {w : World} {v : Value} {s : R8} (h : Rdr t w p v s) : w.cell? ⟨p, 1, none⟩ = some (.bool s.bad) := by rw [cell_of_row w p 1 _ _ _ h.blk]; rfl
theorem Rdr.chg {t p : Nat} {S : Nat → Prop} {w w' : World} {v : Value} {s : R8} (h : Rdr t w p v s) (hc : Chg S w w') (hp : ¬ S p) (hv : 0 < s.l.length → ∀ k, v.ownBlock = some k → ¬ S k) : Rdr t w' p v s :=
  ⟨hc.at h.blk hp, h.rd.chg' hc hv, h.ne⟩
theorem Rdr.put {t p : Nat} {w w1 w2 : World} {v v' : Value} {s s' : R8} (h : Rdr t w p v s) (hc : Chg (fun _ => False) w w1) (hp : Put w1 w2 p [v', .bool s'.bad] t) (hr : Rd w1 v' s'.l) (hb : ∀ k, v'.ownBlock = some k → v.ownBlock = some k) (hl : s'.l.length ≤ s.l.length) :
    Rdr t w2 p v' s' ∧ Chg (fun k => k = p) w w2 :=
  ⟨⟨hp.blk, hr.chg' hp.chg fun hpos k hk e => h.ne (by omega) (hb k hk |>.trans (by rw [e])), fun hpos e => h.ne (by omega) (hb p e)⟩, (hc.mono (fun _ f => f.elim)).trans hp.chg fun x hx => .inl hx⟩
/-- What a reader's call leaves. -/
def RdQ (t p : Nat) (w : World) (v : Value) (s' : R8) (w' : World) : Prop := ∃ v', Rdr t w' p v' s' ∧ Chg (fun k => k = p) w w' ∧ ∀ k, v'.ownBlock = some k → v.ownBlock = some k
theorem Rdr.q {t p : Nat} {w : World} {v : Value} {s : R8} (h : Rdr t w p v s) : RdQ t p w v s w := ⟨v, h, Chg.refl _ _, fun _ => id⟩

def R8.no (s : R8) (n : Int) : Prop := s.bad = true ∨ n < 0 ∨ s.l.length < n
instance (s : R8) (n : Int) : Decidable (s.no n) := by unfold R8.no; infer_instance
def R8.rawV (s : R8) (n : Int) : List Int := if s.no n then [] else s.l.take n.toNat
def R8.rawS (s : R8) (n : Int) : R8 := if s.no n then ⟨s.l, true⟩ else ⟨s.l.drop n.toNat, s.bad⟩

theorem rraw (p : Nat) (v : Value) (s : R8) (n : Int) (w : World) (hw : Rdr 134 w p v s) (hl : s.l.length ≤ 10000000) :
    Calls Try.prog 51 [.pointer (some ⟨p, 0, none⟩), .int .i64 n].toArray w (RetK fun r w' => RdQ 134 p w v (s.rawS n) w' ∧ Own w' r (s.rawV n) ∧ ∀ k, r.ownBlock = some k → w.heap.size ≤ k) := by
  obtain ⟨a, c, rfl, h1, h2, h3, h4⟩ := hw.rd
  have hc1 := hw.c1
  refine walk Try.func51 rfl (by kernel_rfl) (by rw [Try.nt51]; simp) ?_
  by_cases hb : s.bad = true
  · rw [hb] at hc1
    simp -dsimp only [↓vcA, vcB, vcD, ↓pureT_lenS, ↓iteT, ↓iteF, cond_true, cond_false, eq_self, argE, Env.get, Env.push, ev, evs, evo, retV, Value.cells, Value.oneCell', setR, overR, fillL, zl, places, allSizes, heldC, ne_eq, Int.reduceLE, Int.reduceLT, Int.reduceEq, Int.reduceNe, Int.reduceToNat, Int.cast_ofNat_Int, Nat.reduceMul, Nat.reduceLeDiff, reduceIte, Nat.reduceEqDiff, Nat.reduceAdd, ↓reduceIte, Try.vcT, hc1]
    have e : s.no n := .inl hb
    simp only [R8.rawS, R8.rawV, e, if_true]
    refine ⟨?_, Own.nil w, fun k hk => by simp [Value.ownBlock] at hk⟩
    have : (⟨s.l, true⟩ : R8) = s := by rw [← hb]
    rw [this]
    exact hw.q
  rw [Bool.not_eq_true] at hb
  rw [hb] at hc1
  have hno : s.no n ↔ (n < 0 ∨ s.l.length < n) := by simp [R8.no, hb]
  have hbk := hw.bk
  by_cases hn : n < 0
  · have e : s.no n := hno.2 (.inl hn)
    simp -dsimp only [↓vcA, vcB, vcD, ↓pureT_lenS, ↓iteT, ↓iteF, cond_true, cond_false, eq_self, argE, Env.get, Env.push, ev, evs, evo, retV, Value.cells, Value.oneCell', setR, overR, fillL, zl, places, allSizes, heldC, ne_eq, Int.reduceLE, Int.reduceLT, Int.reduceEq, Int.reduceNe, Int.reduceToNat, Int.cast_ofNat_Int, Nat.reduceMul, Nat.reduceLeDiff, reduceIte, Nat.reduceEqDiff, Nat.reduceAdd, ↓reduceIte, Try.vcT, hc1, decide_eq_true hn, hbk]
    intro w1 p1
    simp only [R8.rawS, R8.rawV, e, if_true]
    obtain ⟨hq, hc⟩ := hw.put (s' := ⟨s.l, true⟩) (Chg.refl _ _) p1 hw.rd (fun _ => id) (Nat.le_refl _)
    exact ⟨⟨_, hq, hc, fun _ => id⟩, Own.nil w1, fun k hk => by simp [Value.ownBlock] at hk⟩
  by_cases hg : (s.l.length : Int) < n
  · have e : s.no n := hno.2 (.inr hg)
    simp -dsimp only [↓vcA, vcB, vcD, ↓pureT_lenS, ↓iteT, ↓iteF, cond_true, cond_false, eq_self, argE, Env.get, Env.push, ev, evs, evo, retV, Value.cells, Value.oneCell', setR, overR, fillL, zl, places, allSizes, heldC, ne_eq, Int.reduceLE, Int.reduceLT, Int.reduceEq, Int.reduceNe, Int.reduceToNat, Int.cast_ofNat_Int, Nat.reduceMul, Nat.reduceLeDiff, reduceIte, Nat.reduceEqDiff, Nat.reduceAdd, ↓reduceIte, Try.vcT, hc1, decide_eq_false hn, decide_eq_true hg, hw.c0, hbk]
    intro w1 p1
    simp only [R8.rawS, R8.rawV, e, if_true]
    obtain ⟨hq, hc⟩ := hw.put (s' := ⟨s.l, true⟩) (Chg.refl _ _) p1 hw.rd (fun _ => id) (Nat.le_refl _)
    exact ⟨⟨_, hq, hc, fun _ => id⟩, Own.nil w1, fun k hk => by simp [Value.ownBlock] at hk⟩
  · have e : ¬ s.no n := fun h => (hno.1 h).elim hn hg
    obtain ⟨m, rfl⟩ := Int.eq_ofNat_of_zero_le (Int.not_lt.1 hn)
    simp -dsimp only [↓vcA, vcB, vcD, ↓pureT_lenS, ↓iteT, ↓iteF, cond_true, cond_false, eq_self, argE, Env.get, Env.push, ev, evs, evo, retV, Value.cells, Value.oneCell', setR, overR, fillL, zl, places, allSizes, heldC, ne_eq, Int.reduceLE, Int.reduceLT, Int.reduceEq, Int.reduceNe, Int.reduceToNat, Int.cast_ofNat_Int, Nat.reduceMul, Nat.reduceLeDiff, reduceIte, Nat.reduceEqDiff, Nat.reduceAdd, ↓reduceIte, Try.vcT, hc1, decide_eq_false hn, decide_eq_false hg, hw.c0]
    refine ⟨⟨by omega, by omega⟩, ?_⟩
    have hcut := hw.rd.cut (Nat.zero_le m) (show m ≤ s.l.length by omega)
    simp only [Nat.sub_zero, List.drop_zero] at hcut
    refine callsK_use (clone _ _ w hcut (by simp; omega)) ?_
    rintro r w1 ⟨hcp, _⟩
    have hw1 : Rdr 134 w1 p (.slice a s.l.length c) s := hw.chg hcp.chg id (fun _ _ _ => id)
    simp -dsimp only [↓vcA, vcB, vcD, ↓pureT_lenS, ↓iteT, ↓iteF, cond_true, cond_false, eq_self, argE, Env.get, Env.push, ev, evs, evo, retV, Value.cells, Value.oneCell', setR, overR, fillL, zl, places, allSizes, heldC, ne_eq, Int.reduceLE, Int.reduceLT, Int.reduceEq, Int.reduceNe, Int.reduceToNat, Int.cast_ofNat_Int, Nat.reduceMul, Nat.reduceLeDiff, reduceIte, Nat.reduceEqDiff, Nat.reduceAdd, ↓reduceIte, Try.vcT, hw1.c0]
    refine ⟨⟨by omega, by omega⟩, ?_⟩
    simp -dsimp only [↓vcA, vcB, vcD, ↓pureT_lenS, ↓iteT, ↓iteF, cond_true, cond_false, eq_self, argE, Env.get, Env.push, ev, evs, evo, retV, Value.cells, Value.oneCell', setR, overR, fillL, zl, places, allSizes, heldC, ne_eq, Int.reduceLE, Int.reduceLT, Int.reduceEq, Int.reduceNe, Int.reduceToNat, Int.cast_ofNat_Int, Nat.reduceMul, Nat.reduceLeDiff, reduceIte, Nat.reduceEqDiff, Nat.reduceAdd, ↓reduceIte, Try.vcT, hw1.bk]
    intro w2 p2
    have hcut2 := hw1.rd.cut (l := m) (m := s.l.length) (by omega) (Nat.le_refl _)
    rw [List.take_of_length_le (Nat.le_refl _)] at hcut2
    simp only [R8.rawS, R8.rawV, e, if_false]
    have hlow : ∀ k, r.ownBlock = some k → ¬ k = p := fun k hk e => by have := hcp.new k hk; have := lt_of_block hw.blk; omega
    obtain ⟨hq, hc⟩ := hw1.put (s' := ⟨s.l.drop m, s.bad⟩) (Chg.refl _ _) p2 hcut2 (fun k hk => cutA_block hk) (by simp)
    refine ⟨⟨_, by simpa using hq, hcp.chg.seq hc, fun k hk => cutA_block hk⟩, ?_, hcp.new⟩
    simp only [Int.toNat_natCast]
    exact hcp.own.chg p2.chg hlow

def rstep (a x : Int) : Int := IntKind.i64.wrap (BitVec.ofInt IntKind.i64.bits (IntKind.i64.wrap (a * 2 ^ min 8 IntKind.i64.bits)) ||| BitVec.ofInt IntKind.i64.bits (IntKind.i64.wrap x)).toNat
def rval (xs : List Int) : Int := xs.foldl rstep 0
def R8.sz (s : R8) (n : Int) : R8 := if n < 1 ∨ 7 < n then ⟨s.l, true⟩ else s
def R8.numV (s : R8) (n : Int) : Int := rval ((s.sz n).rawV n)
def R8.numS (s : R8) (n : Int) : R8 := (s.sz n).rawS n

theorem rnum_nil (n : Int) (w : World) : Calls Try.prog 33 [.pointer none, .int .i64 n].toArray w (RetK fun r w' => r = .int .i64 0 ∧ w' = w) := by
  refine walk Try.func33 rfl (by kernel_rfl) (by rw [Try.nt33]; simp) ?_
  simp -dsimp only [↓vcA, vcB, vcD, ↓pureT_lenS, ↓iteT, ↓iteF, cond_true, cond_false, eq_self, argE, Env.get, Env.push, ev, evs, evo, retV, Value.cells, Value.oneCell', setR, overR, fillL, zl, places, allSizes, heldC, ne_eq, Int.reduceLE, Int.reduceLT, Int.reduceEq, Int.reduceNe, Int.reduceToNat, Int.cast_ofNat_Int, Nat.reduceMul, Nat.reduceLeDiff, reduceIte, Nat.reduceEqDiff, Nat.reduceAdd, ↓reduceIte, Try.vcT]

theorem rnum (p : Nat) (v : Value) (s : R8) (n : Int) (w : World) (hw : Rdr 134 w p v s) (hl : s.l.length ≤ 10000000) :
    Calls Try.prog 33 [.pointer (some ⟨p, 0, none⟩), .int .i64 n].toArray w (RetK fun r w' => r = .int .i64 (s.numV n) ∧ RdQ 134 p w v (s.numS n) w') := by
  refine walk Try.func33 rfl (by kernel_rfl) (by rw [Try.nt33]; simp) ?_
  have hcs : n < 1 ∨ (¬ n < 1 ∧ 7 < n) ∨ (¬ n < 1 ∧ ¬ 7 < n) := by omega
  rcases hcs with h1 | ⟨h1, h2⟩ | ⟨h1, h2⟩
  case' inl =>
    simp -dsimp only [↓vcA, vcB, vcD, ↓pureT_lenS, ↓iteT, ↓iteF, cond_true, cond_false, eq_self, argE, Env.get, Env.push, ev, evs, evo, retV, Value.cells, Value.oneCell', setR, overR, fillL, zl, places, allSizes, heldC, ne_eq, Int.reduceLE, Int.reduceLT, Int.reduceEq, Int.reduceNe, Int.reduceToNat, Int.cast_ofNat_Int, Nat.reduceMul, Nat.reduceLeDiff, reduceIte, Nat.reduceEqDiff, Nat.reduceAdd, ↓reduceIte, Try.vcT, decide_eq_true h1, hw.bk]
    intro w1 p1
    obtain ⟨hw1, hc⟩ := hw.put (s' := ⟨s.l, true⟩) (Chg.refl _ _) p1 hw.rd (fun _ => id) (Nat.le_refl _)
    have es : s.sz n = ⟨s.l, true⟩ := by simp [R8.sz, h1]
  case' inr.inl =>
    simp -dsimp only [↓vcA, vcB, vcD, ↓pureT_lenS, ↓iteT, ↓iteF, cond_true, cond_false, eq_self, argE, Env.get, Env.push, ev, evs, evo, retV, Value.cells, Value.oneCell', setR, overR, fillL, zl, places, allSizes, heldC, ne_eq, Int.reduceLE, Int.reduceLT, Int.reduceEq, Int.reduceNe, Int.reduceToNat, Int.cast_ofNat_Int, Nat.reduceMul, Nat.reduceLeDiff, reduceIte, Nat.reduceEqDiff, Nat.reduceAdd, ↓reduceIte, Try.vcT, decide_eq_false h1, decide_eq_true h2, hw.bk]
    intro w1 p1
    obtain ⟨hw1, hc⟩ := hw.put (s' := ⟨s.l, true⟩) (Chg.refl _ _) p1 hw.rd (fun _ => id) (Nat.le_refl _)
    have es : s.sz n = ⟨s.l, true⟩ := by simp [R8.sz, h1, h2]
  case' inr.inr =>
    simp -dsimp only [↓vcA, vcB, vcD, ↓pureT_lenS, ↓iteT, ↓iteF, cond_true, cond_false, eq_self, argE, Env.get, Env.push, ev, evs, evo, retV, Value.cells, Value.oneCell', setR, overR, fillL, zl, places, allSizes, heldC, ne_eq, Int.reduceLE, Int.reduceLT, Int.reduceEq, Int.reduceNe, Int.reduceToNat, Int.cast_ofNat_Int, Nat.reduceMul, Nat.reduceLeDiff, reduceIte, Nat.reduceEqDiff, Nat.reduceAdd, ↓reduceIte, Try.vcT, decide_eq_false h1, decide_eq_false h2]
    have hc := Chg.refl (fun k => k = p) w
    have hw1 := hw
    have es : s.sz n = s := by simp [R8.sz, h1, h2]
    revert hc hw1
    generalize w = w1
    intro hc hw1
  all_goals
    rw [← es] at hw1
    have hl1 : (s.sz n).l.length ≤ 10000000 := by rw [es]; exact hl
    refine callsK_use (rraw p v (s.sz n) n _ hw1 hl1) ?_
    rintro r w2 ⟨⟨v2, h2, c2, b2⟩, ho, hn⟩
    obtain ⟨a, c, rfl, e1, e2, e3, e4⟩ := ho.rd
    simp -dsimp only [↓vcA, vcB, vcD, ↓pureT_lenS, ↓iteT, ↓iteF, cond_true, cond_false, eq_self, argE, Env.get, Env.push, ev, evs, evo, retV, Value.cells, Value.oneCell', setR, overR, fillL, zl, places, allSizes, heldC, ne_eq, Int.reduceLE, Int.reduceLT, Int.reduceEq, Int.reduceNe, Int.reduceToNat, Int.cast_ofNat_Int, Nat.reduceMul, Nat.reduceLeDiff, reduceIte, Nat.reduceEqDiff, Nat.reduceAdd, ↓reduceIte, Try.vcT]
    have hlen : ((s.sz n).rawV n).length ≤ maxLen := by omega
    generalize hys : (s.sz n).rawV n = ys at *
    have hq : RdQ 134 p _ v (s.numS n) w2 := ⟨v2, h2, hc.trans c2 (fun x hx => .inl hx), b2⟩
    have hv : s.numV n = rval ys := by simp [R8.numV, hys]
    rw [hv]
    clear hw hw1 h2 ho hn c2 b2
    refine walkLoop [20, 21] [22, 4] (fun m vs w' => w' = w2 ∧ ∃ i, i ≤ ys.length ∧ m = ys.length - i ∧ vs = [.int .i64 i, .int .i64 ((ys.take i).foldl rstep 0)]) (by kernel_rfl) ?_ ?_
    · simp -dsimp only [↓vcA, vcB, vcD, ↓pureT_lenS, ↓iteT, ↓iteF, cond_true, cond_false, eq_self, argE, Env.get, Env.push, ev, evs, evo, retV, Value.cells, Value.oneCell', setR, overR, fillL, zl, places, allSizes, heldC, ne_eq, Int.reduceLE, Int.reduceLT, Int.reduceEq, Int.reduceNe, Int.reduceToNat, Int.cast_ofNat_Int, Nat.reduceMul, Nat.reduceLeDiff, reduceIte, Nat.reduceEqDiff, Nat.reduceAdd, ↓reduceIte, Try.vcT, gets]
      exact ⟨_, 0, Nat.zero_le _, rfl, by simp⟩
    · intro ks hk m vs w3 hi
      obtain ⟨rfl, i, hi, rfl, rfl⟩ := hi
      simp [gets, Env.get, Env.push] at hk
      subst hk
      simp -dsimp only [↓vcA, vcB, vcD, ↓pureT_lenS, ↓iteT, ↓iteF, cond_true, cond_false, eq_self, argE, Env.get, Env.push, ev, evs, evo, retV, Value.cells, Value.oneCell', setR, overR, fillL, zl, places, allSizes, heldC, ne_eq, Int.reduceLE, Int.reduceLT, Int.reduceEq, Int.reduceNe, Int.reduceToNat, Int.cast_ofNat_Int, Nat.reduceMul, Nat.reduceLeDiff, reduceIte, Nat.reduceEqDiff, Nat.reduceAdd, ↓reduceIte, Try.vcT, gets]
      refine ifK_dec (fun hlt => ?_) (fun hge => ?_)
      · obtain ⟨b, o, rfl, hcl⟩ := e4 (by omega)
        have e : IntKind.i64.wrap ((i : Int) + 1) = ((i + 1 : Nat) : Int) := by rw [IntWalk.i64_in _ (by simp only [maxLen] at hlen; omega)]; omega
        simp -dsimp only [↓vcA, vcB, vcD, ↓pureT_lenS, ↓iteT, ↓iteF, cond_true, cond_false, eq_self, argE, Env.get, Env.push, ev, evs, evo, retV, Value.cells, Value.oneCell', setR, overR, fillL, zl, places, allSizes, heldC, ne_eq, Int.reduceLE, Int.reduceLT, Int.reduceEq, Int.reduceNe, Int.reduceToNat, Int.cast_ofNat_Int, Nat.reduceMul, Nat.reduceLeDiff, reduceIte, Nat.reduceEqDiff, Nat.reduceAdd, ↓reduceIte, Try.vcT, gets]
        refine ⟨⟨by omega, by omega⟩, ?_⟩
        simp -dsimp only [↓vcA, vcB, vcD, ↓pureT_lenS, ↓iteT, ↓iteF, cond_true, cond_false, eq_self, argE, Env.get, Env.push, ev, evs, evo, retV, Value.cells, Value.oneCell', setR, overR, fillL, zl, places, allSizes, heldC, ne_eq, Int.reduceLE, Int.reduceLT, Int.reduceEq, Int.reduceNe, Int.reduceToNat, Int.cast_ofNat_Int, Nat.reduceMul, Nat.reduceLeDiff, reduceIte, Nat.reduceEqDiff, Nat.reduceAdd, ↓reduceIte, Try.vcT, gets, hcl i (by omega), e]
        refine ⟨_, ?_, i + 1, by omega, rfl, ?_⟩
        · omega
        · rw [List.take_succ_eq_append_getElem (by omega), List.foldl_append]
          simp [rstep, List.getD, show i < ys.length by omega]
      · simp -dsimp only [↓vcA, vcB, vcD, ↓pureT_lenS, ↓iteT, ↓iteF, cond_true, cond_false, eq_self, argE, Env.get, Env.push, ev, evs, evo, retV, Value.cells, Value.oneCell', setR, overR, fillL, zl, places, allSizes, heldC, ne_eq, Int.reduceLE, Int.reduceLT, Int.reduceEq, Int.reduceNe, Int.reduceToNat, Int.cast_ofNat_Int, Nat.reduceMul, Nat.reduceLeDiff, reduceIte, Nat.reduceEqDiff, Nat.reduceAdd, ↓reduceIte, Try.vcT, gets]
        have : i = ys.length := by omega
        subst this
        exact ⟨by simp [rval], hq⟩
end Go.Proofs.Ytnhgjgoglmadnaa
