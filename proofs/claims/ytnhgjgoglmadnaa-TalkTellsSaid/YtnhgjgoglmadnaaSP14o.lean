/- Joined texts of this claim (part 15), printed by a program of this work. The last part holds the claimed theorem: the law answers true at every input of its row. -/
import Derived.Test.YtnhgjgoglmadnaaSP14n
namespace Go.Proofs.Ytnhgjgoglmadnaa
open Go.RowKit
set_option maxRecDepth 100000
set_option linter.unusedSimpArgs false
set_option linter.unusedVariables false
set_option pp.maxSteps 1500
set_option pp.deepTerms.threshold 8

structure AnV where
  code : Int
  p : List (List Int)
  more : Bool
  ca : List (List Int)
  la : List Int
  n : Int
  sum : Int
deriving DecidableEq
structure AnS where
  p : Value
  ca : Value
  la : Value
def AnV.cells (a : AnV) (s : AnS) : List Value := [.int .i64 a.code, s.p, .bool a.more, s.ca, s.la, .int .i64 a.n, .int .u64 a.sum]
structure AnR (w : World) (a : AnV) (s : AnS) : Prop where
  p : Tab 9 w s.p a.p
  ca : Tab 9 w s.ca a.ca
  la : IntsR w s.la a.la
structure AnV.Ok (a : AnV) : Prop where
  code : -9223372036854775808 ≤ a.code ∧ a.code ≤ 9223372036854775807
  n : -9223372036854775808 ≤ a.n ∧ a.n ≤ 9223372036854775807
  sum : 0 ≤ a.sum ∧ a.sum < 18446744073709551616
  p : ∀ x ∈ a.p, Ok64 x
  ca : ∀ x ∈ a.ca, Ok64 x
  la : Ok64 a.la
theorem IntsR.sep {w0 w : World} {M : List Res} {v : Value} {ns : List Int} (h : IntsR w0 v ns) (hh : Sep w0 (fun _ => False) M w) : IntsR w v ns := Row.sep h hh fun _ _ => id
theorem AnR.sep {w0 w : World} {M : List Res} {a : AnV} {s : AnS} (R : AnR w0 a s) (h : Sep w0 (fun _ => False) M w) : AnR w a s := ⟨R.p.sep h fun _ _ => id, R.ca.sep h fun _ _ => id, R.la.sep h⟩
def wCp (s : W8) : List Int → W8
  | [a0, a1, a2, a3, a4, a5, a6, a7, a8] => (((((s.num a0 1).num a1 1).num a2 1).num a4 2).num a5 1).num a6 4
  | _ => s
def wLa (s : W8) (n : Int) : W8 := s.num n 2
def tellsW (s : W8) (z : Int) (a : AnV) : W8 :=
  if z = 1 ∨ z = 2 then (if a.p.length = 1 then a.p.foldl wPc s else s.num 0 0) else
  if z = 3 ∨ z = 4 then (a.p.foldl wPc (s.num a.p.length 1)).num (bit a.more) 1 else
  if z = 14 then (a.ca.foldl wCp (s.num a.ca.length 1)).num (bit a.more) 1 else
  if z = 15 then a.la.foldl wLa (s.num a.la.length 1) else
  if z = 12 then s.num a.n 1 else
  if z = 16 then (s.num a.n 4).raw (be a.sum 8) else s
def AnV.room (a : AnV) : Nat := 200 + 80 * a.p.length + 80 * a.ca.length + 10 * a.la.length
set_option maxHeartbeats 4000000 in
theorem tells138 {w0 w : World} {q : Res} {p k : Nat} {s : W8} {z : Int} {a : AnV} {t : AnS} {K : Value → World → Prop} (h : Sep w0 (fun _ => False) [q, wr 32 p s k] w) (R : AnR w0 a t) (O : a.Ok) (hl : k + a.room ≤ 600000)
    (hK : ∀ w1, Sep w0 (fun _ => False) [q, wr 32 p (tellsW s z a) (k + a.room)] w1 → K (.tuple #[]) w1) :
    callsK Try.prog 138 [.pointer (some ⟨p, 0, none⟩), .int .i64 z, .agg (a.cells t).toArray].toArray w K := by
  obtain ⟨code, ps, more, cas, las, n, sum⟩ := a
  obtain ⟨tp, tca, tla⟩ := t
  obtain ⟨Rp, Rca, Rla⟩ := R
  obtain ⟨Oc, On, Os, Op, Oca, Ola⟩ := O
  dsimp only at Rp Rca Rla Oc On Os Op Oca Ola hK
  unfold AnV.room at hl hK
  dsimp only at hl hK
  obtain ⟨ap, cp, rfl⟩ := Rp.shape
  obtain ⟨aca, cca, rfl⟩ := Rca.shape
  obtain ⟨ala, cla, rfl⟩ := Rla.shape
  have fin : ∀ {BB : Nat} {w' : World} {s' : W8} {k' : Nat}, k' ≤ k + (200 + 80 * ps.length + 80 * cas.length + 10 * las.length) → tellsW s z ⟨code, ps, more, cas, las, n, sum⟩ = s' → Sep w0 (fun _ => False) [q, wr 32 p s' k', blk BB 114 (AnV.cells ⟨code, ps, more, cas, las, n, sum⟩ ⟨.slice ap ps.length cp, .slice aca cas.length cca, .slice ala las.length cla⟩)] w' → K (.tuple #[]) w' := fun hk he h => by
    have h := (h.erase 2).wrMono' 1 _ rfl hk
    exact hK _ (by rw [he]; exact h)
  refine walk Try.func138 rfl (by kernel_rfl) (by rw [Try.nt138]; simp) ?_
  (try simp only [nfD] at h); have F := h.facts; (try simp only [nfF, emp_fact, rds_fact, frm_fact, tab_fact, two_fact] at F)
  simp -dsimp only [↓vcA, vcB, vcD, ↓pureT_lenS, ↓iteT, ↓iteF, cond_true, cond_false, eq_self, argE, Env.get, Env.push, ev, evs, evo, retV, Value.cells, Value.oneCell', setR, overR, fillL, zl, places, allSizes, heldC, ne_eq, Int.reduceLE, Int.reduceLT, Int.reduceEq, Int.reduceNe, Int.reduceToNat, Int.cast_ofNat_Int, Nat.reduceMul, Nat.reduceLeDiff, reduceIte, Nat.reduceEqDiff, Nat.reduceAdd, ↓reduceIte, Try.vcT, AnV.cells]
  refine h.new ?_
  clear h F
  intro w1 b1 h
  have fin := fun {w'} {s'} {k'} => @fin b1 w' s' k'
  simp only [AnV.cells] at fin
  by_cases h12 : z = 1 ∨ z = 2
  case pos =>
    have ht : tellsW s z ⟨code, ps, more, cas, las, n, sum⟩ = if ps.length = 1 then ps.foldl wPc s else s.num 0 0 := by unfold tellsW; rw [if_pos h12]
    by_cases h1 : (ps.length : Int) = 1
    case neg =>
      rw [if_neg (by omega)] at ht
      rcases h12 with rfl | rfl
      all_goals
        (try simp only [nfD] at h); have F := h.facts; (try simp only [nfF, emp_fact, rds_fact, frm_fact, tab_fact, two_fact] at F); try simp -dsimp only [↓vcA, vcB, vcD, ↓pureT_lenS, ↓iteT, ↓iteF, cond_true, cond_false, eq_self, argE, Env.get, Env.push, ev, evs, evo, retV, Value.cells, Value.oneCell', setR, overR, fillL, zl, places, allSizes, heldC, ne_eq, Int.reduceLE, Int.reduceLT, Int.reduceEq, Int.reduceNe, Int.reduceToNat, Int.cast_ofNat_Int, Nat.reduceMul, Nat.reduceLeDiff, reduceIte, Nat.reduceEqDiff, Nat.reduceAdd, ↓reduceIte, Try.vcT, F, h.cell0, gets, vsD, if_true, if_false, Bool.false_eq_true,  decide_eq_false h1, Bool.not_true, Bool.not_false, decide_true, decide_false, Int.reduceEq]
        refine Sep.num 1 h rfl (by omega) (by omega) (by omega) ?_
        clear h F
        intro w2 h
        (try simp only [nfD] at h); have F := h.facts; (try simp only [nfF, emp_fact, rds_fact, frm_fact, tab_fact, two_fact] at F); try simp -dsimp only [↓vcA, vcB, vcD, ↓pureT_lenS, ↓iteT, ↓iteF, cond_true, cond_false, eq_self, argE, Env.get, Env.push, ev, evs, evo, retV, Value.cells, Value.oneCell', setR, overR, fillL, zl, places, allSizes, heldC, ne_eq, Int.reduceLE, Int.reduceLT, Int.reduceEq, Int.reduceNe, Int.reduceToNat, Int.cast_ofNat_Int, Nat.reduceMul, Nat.reduceLeDiff, reduceIte, Nat.reduceEqDiff, Nat.reduceAdd, ↓reduceIte, Try.vcT, F, h.cell0, gets, vsD, if_true, if_false, Bool.false_eq_true]
        exact fin (by omega) ht h
    case pos =>
      have h0 : 0 < ps.length := by omega
      rw [if_pos (by omega)] at ht
      obtain ⟨x, hx⟩ : ∃ x, ps = [x] := by
        match ps, (show ps.length = 1 by omega) with
        | [x], _ => exact ⟨x, rfl⟩
      obtain ⟨b, o, eb, hcx⟩ := Rp.at h0 (by decide)
      have wx := Rp.wid _ (List.getElem_mem h0)
      have ox := Op _ (List.getElem_mem h0)
      have e0 : ps[0] = x := by subst hx; rfl
      rw [e0] at hcx wx ox
      obtain ⟨a0, a1, a2, a3, a4, a5, a6, a7, a8, rfl⟩ := len_9 wx
      have ht : tellsW s z ⟨code, ps, more, cas, las, n, sum⟩ = wPc s [a0, a1, a2, a3, a4, a5, a6, a7, a8] := by rw [ht, hx]; rfl
      rw [Nat.zero_mul, Nat.add_zero] at hcx
      have hcw : ∀ {w' : World} {M : List Res}, Sep w0 (fun _ => False) M w' → cellsAt w' b o 9 = some (cellsI [a0, a1, a2, a3, a4, a5, a6, a7, a8]) := fun {w' M} hs => by
        obtain ⟨hl, hat⟩ := cellsAt_elim hcx
        have := cellsAt_of (w := w') (b := b) (o := o) (cellsI [a0, a1, a2, a3, a4, a5, a6, a7, a8]) (fun j u hj => by
          have := hat j u hj
          rw [hs.cell0 (by rw [this]; rfl) id, this])
        simpa [cellsI] using this
      have hq := hcw h
      rw [eb] at h fin
      rcases h12 with rfl | rfl
      all_goals
        (try simp only [nfD] at h); have F := h.facts; (try simp only [nfF, emp_fact, rds_fact, frm_fact, tab_fact, two_fact] at F); try simp -dsimp only [↓vcA, vcB, vcD, ↓pureT_lenS, ↓iteT, ↓iteF, cond_true, cond_false, eq_self, argE, Env.get, Env.push, ev, evs, evo, retV, Value.cells, Value.oneCell', setR, overR, fillL, zl, places, allSizes, heldC, ne_eq, Int.reduceLE, Int.reduceLT, Int.reduceEq, Int.reduceNe, Int.reduceToNat, Int.cast_ofNat_Int, Nat.reduceMul, Nat.reduceLeDiff, reduceIte, Nat.reduceEqDiff, Nat.reduceAdd, ↓reduceIte, Try.vcT, F, h.cell0, gets, vsD, if_true, if_false, Bool.false_eq_true,  decide_eq_true h1, Bool.not_true, Bool.not_false, decide_true, decide_false, Int.reduceEq]
        refine ⟨by omega, ?_⟩
        (try simp only [nfD] at h); have F := h.facts; (try simp only [nfF, emp_fact, rds_fact, frm_fact, tab_fact, two_fact] at F); try simp -dsimp only [↓vcA, vcB, vcD, ↓pureT_lenS, ↓iteT, ↓iteF, cond_true, cond_false, eq_self, argE, Env.get, Env.push, ev, evs, evo, retV, Value.cells, Value.oneCell', setR, overR, fillL, zl, places, allSizes, heldC, ne_eq, Int.reduceLE, Int.reduceLT, Int.reduceEq, Int.reduceNe, Int.reduceToNat, Int.cast_ofNat_Int, Nat.reduceMul, Nat.reduceLeDiff, reduceIte, Nat.reduceEqDiff, Nat.reduceAdd, ↓reduceIte, Try.vcT, F, h.cell0, gets, vsD, if_true, if_false, Bool.false_eq_true,  hq, cellsI]
        refine Sep.piece 1 h rfl ox (by omega) ?_
        clear h F hq
        intro w2 h
        (try simp only [nfD] at h); have F := h.facts; (try simp only [nfF, emp_fact, rds_fact, frm_fact, tab_fact, two_fact] at F); try simp -dsimp only [↓vcA, vcB, vcD, ↓pureT_lenS, ↓iteT, ↓iteF, cond_true, cond_false, eq_self, argE, Env.get, Env.push, ev, evs, evo, retV, Value.cells, Value.oneCell', setR, overR, fillL, zl, places, allSizes, heldC, ne_eq, Int.reduceLE, Int.reduceLT, Int.reduceEq, Int.reduceNe, Int.reduceToNat, Int.cast_ofNat_Int, Nat.reduceMul, Nat.reduceLeDiff, reduceIte, Nat.reduceEqDiff, Nat.reduceAdd, ↓reduceIte, Try.vcT, F, h.cell0, gets, vsD, if_true, if_false, Bool.false_eq_true]
        exact fin (by omega) ht h
  by_cases h34 : z = 3 ∨ z = 4
  case pos =>
    have ht : tellsW s z ⟨code, ps, more, cas, las, n, sum⟩ = (ps.foldl wPc (s.num ps.length 1)).num (bit more) 1 := by unfold tellsW; rw [if_neg h12, if_pos h34]
    generalize hE0 : s.num ps.length 1 = E0 at *
    rcases h34 with rfl | rfl
    all_goals
      (try simp only [nfD] at h); have F := h.facts; (try simp only [nfF, emp_fact, rds_fact, frm_fact, tab_fact, two_fact] at F); try simp -dsimp only [↓vcA, vcB, vcD, ↓pureT_lenS, ↓iteT, ↓iteF, cond_true, cond_false, eq_self, argE, Env.get, Env.push, ev, evs, evo, retV, Value.cells, Value.oneCell', setR, overR, fillL, zl, places, allSizes, heldC, ne_eq, Int.reduceLE, Int.reduceLT, Int.reduceEq, Int.reduceNe, Int.reduceToNat, Int.cast_ofNat_Int, Nat.reduceMul, Nat.reduceLeDiff, reduceIte, Nat.reduceEqDiff, Nat.reduceAdd, ↓reduceIte, Try.vcT, F, h.cell0, gets, vsD, if_true, if_false, Bool.false_eq_true,  Int.reduceEq, decide_true, decide_false]
      refine Sep.num 1 h rfl (by omega) (by omega) (by omega) ?_
      clear h F
      intro w2 h
      (try simp only [nfD] at h); have F := h.facts; (try simp only [nfF, emp_fact, rds_fact, frm_fact, tab_fact, two_fact] at F); try simp -dsimp only [↓vcA, vcB, vcD, ↓pureT_lenS, ↓iteT, ↓iteF, cond_true, cond_false, eq_self, argE, Env.get, Env.push, ev, evs, evo, retV, Value.cells, Value.oneCell', setR, overR, fillL, zl, places, allSizes, heldC, ne_eq, Int.reduceLE, Int.reduceLT, Int.reduceEq, Int.reduceNe, Int.reduceToNat, Int.cast_ofNat_Int, Nat.reduceMul, Nat.reduceLeDiff, reduceIte, Nat.reduceEqDiff, Nat.reduceAdd, ↓reduceIte, Try.vcT, F, h.cell0, gets, vsD, if_true, if_false, Bool.false_eq_true]
      refine walkLoop [0, 5, 37, 38] [39] (fun m vs w' => ∃ i, i ≤ ps.length ∧ m = ps.length - i ∧ vs = [.int .i64 i] ∧ Sep w0 (fun _ => False) [q, wr 32 p ((ps.take i).foldl wPc E0) (k + 8 + 80 * i), blk b1 114 [.int .i64 code, .slice ap ps.length cp, .bool more, .slice aca cas.length cca, .slice ala las.length cla, .int .i64 n, .int .u64 sum]] w') (by kernel_rfl) ?_ ?_
      · simp -dsimp only [↓vcA, vcB, vcD, ↓pureT_lenS, ↓iteT, ↓iteF, cond_true, cond_false, eq_self, argE, Env.get, Env.push, ev, evs, evo, retV, Value.cells, Value.oneCell', setR, overR, fillL, zl, places, allSizes, heldC, ne_eq, Int.reduceLE, Int.reduceLT, Int.reduceEq, Int.reduceNe, Int.reduceToNat, Int.cast_ofNat_Int, Nat.reduceMul, Nat.reduceLeDiff, reduceIte, Nat.reduceEqDiff, Nat.reduceAdd, ↓reduceIte, Try.vcT, gets]
        exact ⟨_, 0, Nat.zero_le _, rfl, rfl, by rw [hE0] at h; simpa using h⟩
      intro ks hk m vs w3 hi
      clear h
      try clear F
      obtain ⟨i, hi, rfl, rfl, h⟩ := hi
      simp -dsimp only [gets, argE, List.zip_cons_cons, List.zip_nil_left, List.cons_append, List.nil_append, Env.get, Env.push, Option.bind_some, Option.map_some, Option.some.injEq, reduceIte, Nat.reduceEqDiff, Nat.reduceAdd, ↓reduceIte] at hk; subst hk
      by_cases hlt : (i : Int) < ps.length
      case neg =>
        have hil : i = ps.length := by omega
        subst hil
        rw [List.take_length] at h
        (try simp only [nfD] at h); have F := h.facts; (try simp only [nfF, emp_fact, rds_fact, frm_fact, tab_fact, two_fact] at F); try simp -dsimp only [↓vcA, vcB, vcD, ↓pureT_lenS, ↓iteT, ↓iteF, cond_true, cond_false, eq_self, argE, Env.get, Env.push, ev, evs, evo, retV, Value.cells, Value.oneCell', setR, overR, fillL, zl, places, allSizes, heldC, ne_eq, Int.reduceLE, Int.reduceLT, Int.reduceEq, Int.reduceNe, Int.reduceToNat, Int.cast_ofNat_Int, Nat.reduceMul, Nat.reduceLeDiff, reduceIte, Nat.reduceEqDiff, Nat.reduceAdd, ↓reduceIte, Try.vcT, F, h.cell0, gets, vsD, if_true, if_false, Bool.false_eq_true,  decide_eq_false hlt]
        refine Sep.callp h (flag145 more _) ?_
        clear h F
        intro w4 h
        have hbit : 0 ≤ bit more ∧ bit more ≤ 1 := by cases more <;> decide
        (try simp only [nfD] at h); have F := h.facts; (try simp only [nfF, emp_fact, rds_fact, frm_fact, tab_fact, two_fact] at F); try simp -dsimp only [↓vcA, vcB, vcD, ↓pureT_lenS, ↓iteT, ↓iteF, cond_true, cond_false, eq_self, argE, Env.get, Env.push, ev, evs, evo, retV, Value.cells, Value.oneCell', setR, overR, fillL, zl, places, allSizes, heldC, ne_eq, Int.reduceLE, Int.reduceLT, Int.reduceEq, Int.reduceNe, Int.reduceToNat, Int.cast_ofNat_Int, Nat.reduceMul, Nat.reduceLeDiff, reduceIte, Nat.reduceEqDiff, Nat.reduceAdd, ↓reduceIte, Try.vcT, F, h.cell0, gets, vsD, if_true, if_false, Bool.false_eq_true]
        refine Sep.num 1 h rfl (by omega) (by omega) (by omega) ?_
        clear h F
        intro w5 h
        (try simp only [nfD] at h); have F := h.facts; (try simp only [nfF, emp_fact, rds_fact, frm_fact, tab_fact, two_fact] at F); try simp -dsimp only [↓vcA, vcB, vcD, ↓pureT_lenS, ↓iteT, ↓iteF, cond_true, cond_false, eq_self, argE, Env.get, Env.push, ev, evs, evo, retV, Value.cells, Value.oneCell', setR, overR, fillL, zl, places, allSizes, heldC, ne_eq, Int.reduceLE, Int.reduceLT, Int.reduceEq, Int.reduceNe, Int.reduceToNat, Int.cast_ofNat_Int, Nat.reduceMul, Nat.reduceLeDiff, reduceIte, Nat.reduceEqDiff, Nat.reduceAdd, ↓reduceIte, Try.vcT, F, h.cell0, gets, vsD, if_true, if_false, Bool.false_eq_true]
        exact fin (by omega) ht h
      have hil : i < ps.length := by omega
      have hfold : (ps.take (i + 1)).foldl wPc E0 = wPc ((ps.take i).foldl wPc E0) ps[i] := by
        rw [List.take_succ_eq_append_getElem hil, List.foldl_append]; rfl
      have ei : IntKind.i64.wrap ((i : Int) + 1) = ((i + 1 : Nat) : Int) := by rw [i64w _ (by omega) (by omega)]; omega
      have h0i : (0 : Int) ≤ i := by omega
      obtain ⟨b, o, eb, hcx⟩ := Rp.at hil (by decide)
      have wx := Rp.wid _ (List.getElem_mem hil)
      have ox := Op _ (List.getElem_mem hil)
      generalize ps[i] = x at *
      obtain ⟨a0, a1, a2, a3, a4, a5, a6, a7, a8, rfl⟩ := len_9 wx
      have hcw : ∀ {w' : World} {M : List Res}, Sep w0 (fun _ => False) M w' → cellsAt w' b (o + i * 9) 9 = some (cellsI [a0, a1, a2, a3, a4, a5, a6, a7, a8]) := fun {w' M} hs => by
        obtain ⟨hl, hat⟩ := cellsAt_elim hcx
        have := cellsAt_of (w := w') (b := b) (o := o + i * 9) (cellsI [a0, a1, a2, a3, a4, a5, a6, a7, a8]) (fun j u hj => by
          have := hat j u hj
          rw [hs.cell0 (by rw [this]; rfl) id, this])
        simpa [cellsI] using this
      have hq := hcw h
      rw [eb] at h ⊢
      (try simp only [nfD] at h); have F := h.facts; (try simp only [nfF, emp_fact, rds_fact, frm_fact, tab_fact, two_fact] at F); try simp -dsimp only [↓vcA, vcB, vcD, ↓pureT_lenS, ↓iteT, ↓iteF, cond_true, cond_false, eq_self, argE, Env.get, Env.push, ev, evs, evo, retV, Value.cells, Value.oneCell', setR, overR, fillL, zl, places, allSizes, heldC, ne_eq, Int.reduceLE, Int.reduceLT, Int.reduceEq, Int.reduceNe, Int.reduceToNat, Int.cast_ofNat_Int, Nat.reduceMul, Nat.reduceLeDiff, reduceIte, Nat.reduceEqDiff, Nat.reduceAdd, ↓reduceIte, Try.vcT, F, h.cell0, gets, vsD, if_true, if_false, Bool.false_eq_true,  decide_eq_true hlt]
      refine ⟨⟨h0i, hlt⟩, ?_⟩
      (try simp only [nfD] at h); have F := h.facts; (try simp only [nfF, emp_fact, rds_fact, frm_fact, tab_fact, two_fact] at F); try simp -dsimp only [↓vcA, vcB, vcD, ↓pureT_lenS, ↓iteT, ↓iteF, cond_true, cond_false, eq_self, argE, Env.get, Env.push, ev, evs, evo, retV, Value.cells, Value.oneCell', setR, overR, fillL, zl, places, allSizes, heldC, ne_eq, Int.reduceLE, Int.reduceLT, Int.reduceEq, Int.reduceNe, Int.reduceToNat, Int.cast_ofNat_Int, Nat.reduceMul, Nat.reduceLeDiff, reduceIte, Nat.reduceEqDiff, Nat.reduceAdd, ↓reduceIte, Try.vcT, F, h.cell0, gets, vsD, if_true, if_false, Bool.false_eq_true,  hq, cellsI]
      refine h.new ?_
      clear h F hq
      intro w4 b4 h
      (try simp only [nfD] at h); have F := h.facts; (try simp only [nfF, emp_fact, rds_fact, frm_fact, tab_fact, two_fact] at F); try simp -dsimp only [↓vcA, vcB, vcD, ↓pureT_lenS, ↓iteT, ↓iteF, cond_true, cond_false, eq_self, argE, Env.get, Env.push, ev, evs, evo, retV, Value.cells, Value.oneCell', setR, overR, fillL, zl, places, allSizes, heldC, ne_eq, Int.reduceLE, Int.reduceLT, Int.reduceEq, Int.reduceNe, Int.reduceToNat, Int.cast_ofNat_Int, Nat.reduceMul, Nat.reduceLeDiff, reduceIte, Nat.reduceEqDiff, Nat.reduceAdd, ↓reduceIte, Try.vcT, F, h.cell0, gets, vsD, if_true, if_false, Bool.false_eq_true,  cellsI]
      refine Sep.put 3 h rfl ?_
      clear h F
      intro w5 h
      (try simp only [nfD] at h); have F := h.facts; (try simp only [nfF, emp_fact, rds_fact, frm_fact, tab_fact, two_fact] at F); try simp -dsimp only [↓vcA, vcB, vcD, ↓pureT_lenS, ↓iteT, ↓iteF, cond_true, cond_false, eq_self, argE, Env.get, Env.push, ev, evs, evo, retV, Value.cells, Value.oneCell', setR, overR, fillL, zl, places, allSizes, heldC, ne_eq, Int.reduceLE, Int.reduceLT, Int.reduceEq, Int.reduceNe, Int.reduceToNat, Int.cast_ofNat_Int, Nat.reduceMul, Nat.reduceLeDiff, reduceIte, Nat.reduceEqDiff, Nat.reduceAdd, ↓reduceIte, Try.vcT, F, h.cell0, gets, vsD, if_true, if_false, Bool.false_eq_true,  cellsAt]
      refine Sep.piece 1 h rfl ox (by omega) ?_
      clear h F
      intro w6 h
      (try simp only [nfD] at h); have F := h.facts; (try simp only [nfF, emp_fact, rds_fact, frm_fact, tab_fact, two_fact] at F); try simp -dsimp only [↓vcA, vcB, vcD, ↓pureT_lenS, ↓iteT, ↓iteF, cond_true, cond_false, eq_self, argE, Env.get, Env.push, ev, evs, evo, retV, Value.cells, Value.oneCell', setR, overR, fillL, zl, places, allSizes, heldC, ne_eq, Int.reduceLE, Int.reduceLT, Int.reduceEq, Int.reduceNe, Int.reduceToNat, Int.cast_ofNat_Int, Nat.reduceMul, Nat.reduceLeDiff, reduceIte, Nat.reduceEqDiff, Nat.reduceAdd, ↓reduceIte, Try.vcT, F, h.cell0, gets, vsD, if_true, if_false, Bool.false_eq_true,  ei]
      refine ⟨_, ?_, i + 1, by omega, rfl, rfl, ?_⟩
      · omega
      rw [hfold]
      exact (h.erase 3).wrMono' 1 _ rfl (by omega)
  by_cases h14 : z = 14
  case pos =>
    have ht : tellsW s z ⟨code, ps, more, cas, las, n, sum⟩ = (cas.foldl wCp (s.num cas.length 1)).num (bit more) 1 := by unfold tellsW; rw [if_neg h12, if_neg h34, if_pos h14]
    generalize hE0 : s.num cas.length 1 = E0 at *
    subst h14
    (try simp only [nfD] at h); have F := h.facts; (try simp only [nfF, emp_fact, rds_fact, frm_fact, tab_fact, two_fact] at F); try simp -dsimp only [↓vcA, vcB, vcD, ↓pureT_lenS, ↓iteT, ↓iteF, cond_true, cond_false, eq_self, argE, Env.get, Env.push, ev, evs, evo, retV, Value.cells, Value.oneCell', setR, overR, fillL, zl, places, allSizes, heldC, ne_eq, Int.reduceLE, Int.reduceLT, Int.reduceEq, Int.reduceNe, Int.reduceToNat, Int.cast_ofNat_Int, Nat.reduceMul, Nat.reduceLeDiff, reduceIte, Nat.reduceEqDiff, Nat.reduceAdd, ↓reduceIte, Try.vcT, F, h.cell0, gets, vsD, if_true, if_false, Bool.false_eq_true,  Int.reduceEq, decide_true, decide_false]
    refine Sep.num 1 h rfl (by omega) (by omega) (by omega) ?_
    clear h F
    intro w2 h
    (try simp only [nfD] at h); have F := h.facts; (try simp only [nfF, emp_fact, rds_fact, frm_fact, tab_fact, two_fact] at F); try simp -dsimp only [↓vcA, vcB, vcD, ↓pureT_lenS, ↓iteT, ↓iteF, cond_true, cond_false, eq_self, argE, Env.get, Env.push, ev, evs, evo, retV, Value.cells, Value.oneCell', setR, overR, fillL, zl, places, allSizes, heldC, ne_eq, Int.reduceLE, Int.reduceLT, Int.reduceEq, Int.reduceNe, Int.reduceToNat, Int.cast_ofNat_Int, Nat.reduceMul, Nat.reduceLeDiff, reduceIte, Nat.reduceEqDiff, Nat.reduceAdd, ↓reduceIte, Try.vcT, F, h.cell0, gets, vsD, if_true, if_false, Bool.false_eq_true]
    refine walkLoop [0, 5, 60, 61] [62] (fun m vs w' => ∃ i, i ≤ cas.length ∧ m = cas.length - i ∧ vs = [.int .i64 i] ∧ Sep w0 (fun _ => False) [q, wr 32 p ((cas.take i).foldl wCp E0) (k + 8 + 80 * i), blk b1 114 [.int .i64 code, .slice ap ps.length cp, .bool more, .slice aca cas.length cca, .slice ala las.length cla, .int .i64 n, .int .u64 sum]] w') (by kernel_rfl) ?_ ?_
    · simp -dsimp only [↓vcA, vcB, vcD, ↓pureT_lenS, ↓iteT, ↓iteF, cond_true, cond_false, eq_self, argE, Env.get, Env.push, ev, evs, evo, retV, Value.cells, Value.oneCell', setR, overR, fillL, zl, places, allSizes, heldC, ne_eq, Int.reduceLE, Int.reduceLT, Int.reduceEq, Int.reduceNe, Int.reduceToNat, Int.cast_ofNat_Int, Nat.reduceMul, Nat.reduceLeDiff, reduceIte, Nat.reduceEqDiff, Nat.reduceAdd, ↓reduceIte, Try.vcT, gets]
      exact ⟨_, 0, Nat.zero_le _, rfl, rfl, by rw [hE0] at h; simpa using h⟩
    intro ks hk m vs w3 hi
    clear h
    try clear F
    obtain ⟨i, hi, rfl, rfl, h⟩ := hi
    simp -dsimp only [gets, argE, List.zip_cons_cons, List.zip_nil_left, List.cons_append, List.nil_append, Env.get, Env.push, Option.bind_some, Option.map_some, Option.some.injEq, reduceIte, Nat.reduceEqDiff, Nat.reduceAdd, ↓reduceIte] at hk; subst hk
    by_cases hlt : (i : Int) < cas.length
    case neg =>
      have hil : i = cas.length := by omega
      subst hil
      rw [List.take_length] at h
      (try simp only [nfD] at h); have F := h.facts; (try simp only [nfF, emp_fact, rds_fact, frm_fact, tab_fact, two_fact] at F); try simp -dsimp only [↓vcA, vcB, vcD, ↓pureT_lenS, ↓iteT, ↓iteF, cond_true, cond_false, eq_self, argE, Env.get, Env.push, ev, evs, evo, retV, Value.cells, Value.oneCell', setR, overR, fillL, zl, places, allSizes, heldC, ne_eq, Int.reduceLE, Int.reduceLT, Int.reduceEq, Int.reduceNe, Int.reduceToNat, Int.cast_ofNat_Int, Nat.reduceMul, Nat.reduceLeDiff, reduceIte, Nat.reduceEqDiff, Nat.reduceAdd, ↓reduceIte, Try.vcT, F, h.cell0, gets, vsD, if_true, if_false, Bool.false_eq_true,  decide_eq_false hlt]
      refine Sep.callp h (flag145 more _) ?_
      clear h F
      intro w4 h
      have hbit : 0 ≤ bit more ∧ bit more ≤ 1 := by cases more <;> decide
      (try simp only [nfD] at h); have F := h.facts; (try simp only [nfF, emp_fact, rds_fact, frm_fact, tab_fact, two_fact] at F); try simp -dsimp only [↓vcA, vcB, vcD, ↓pureT_lenS, ↓iteT, ↓iteF, cond_true, cond_false, eq_self, argE, Env.get, Env.push, ev, evs, evo, retV, Value.cells, Value.oneCell', setR, overR, fillL, zl, places, allSizes, heldC, ne_eq, Int.reduceLE, Int.reduceLT, Int.reduceEq, Int.reduceNe, Int.reduceToNat, Int.cast_ofNat_Int, Nat.reduceMul, Nat.reduceLeDiff, reduceIte, Nat.reduceEqDiff, Nat.reduceAdd, ↓reduceIte, Try.vcT, F, h.cell0, gets, vsD, if_true, if_false, Bool.false_eq_true]
      refine Sep.num 1 h rfl (by omega) (by omega) (by omega) ?_
      clear h F
      intro w5 h
      (try simp only [nfD] at h); have F := h.facts; (try simp only [nfF, emp_fact, rds_fact, frm_fact, tab_fact, two_fact] at F); try simp -dsimp only [↓vcA, vcB, vcD, ↓pureT_lenS, ↓iteT, ↓iteF, cond_true, cond_false, eq_self, argE, Env.get, Env.push, ev, evs, evo, retV, Value.cells, Value.oneCell', setR, overR, fillL, zl, places, allSizes, heldC, ne_eq, Int.reduceLE, Int.reduceLT, Int.reduceEq, Int.reduceNe, Int.reduceToNat, Int.cast_ofNat_Int, Nat.reduceMul, Nat.reduceLeDiff, reduceIte, Nat.reduceEqDiff, Nat.reduceAdd, ↓reduceIte, Try.vcT, F, h.cell0, gets, vsD, if_true, if_false, Bool.false_eq_true]
      exact fin (by omega) ht h
    have hil : i < cas.length := by omega
    have hfold : (cas.take (i + 1)).foldl wCp E0 = wCp ((cas.take i).foldl wCp E0) cas[i] := by
      rw [List.take_succ_eq_append_getElem hil, List.foldl_append]; rfl
    have ei : IntKind.i64.wrap ((i : Int) + 1) = ((i + 1 : Nat) : Int) := by rw [i64w _ (by omega) (by omega)]; omega
    have h0i : (0 : Int) ≤ i := by omega
    obtain ⟨b, o, eb, hcx⟩ := Rca.at hil (by decide)
    have wx := Rca.wid _ (List.getElem_mem hil)
    have ox := Oca _ (List.getElem_mem hil)
    generalize cas[i] = x at *
    obtain ⟨a0, a1, a2, a3, a4, a5, a6, a7, a8, rfl⟩ := len_9 wx
    have hcw : ∀ {w' : World} {M : List Res}, Sep w0 (fun _ => False) M w' → cellsAt w' b (o + i * 9) 9 = some (cellsI [a0, a1, a2, a3, a4, a5, a6, a7, a8]) := fun {w' M} hs => by
      obtain ⟨hl, hat⟩ := cellsAt_elim hcx
      have := cellsAt_of (w := w') (b := b) (o := o + i * 9) (cellsI [a0, a1, a2, a3, a4, a5, a6, a7, a8]) (fun j u hj => by
        have := hat j u hj
        rw [hs.cell0 (by rw [this]; rfl) id, this])
      simpa [cellsI] using this
    have hq := hcw h
    rw [eb] at h ⊢
    (try simp only [nfD] at h); have F := h.facts; (try simp only [nfF, emp_fact, rds_fact, frm_fact, tab_fact, two_fact] at F); try simp -dsimp only [↓vcA, vcB, vcD, ↓pureT_lenS, ↓iteT, ↓iteF, cond_true, cond_false, eq_self, argE, Env.get, Env.push, ev, evs, evo, retV, Value.cells, Value.oneCell', setR, overR, fillL, zl, places, allSizes, heldC, ne_eq, Int.reduceLE, Int.reduceLT, Int.reduceEq, Int.reduceNe, Int.reduceToNat, Int.cast_ofNat_Int, Nat.reduceMul, Nat.reduceLeDiff, reduceIte, Nat.reduceEqDiff, Nat.reduceAdd, ↓reduceIte, Try.vcT, F, h.cell0, gets, vsD, if_true, if_false, Bool.false_eq_true,  decide_eq_true hlt]
    refine ⟨⟨h0i, hlt⟩, ?_⟩
    (try simp only [nfD] at h); have F := h.facts; (try simp only [nfF, emp_fact, rds_fact, frm_fact, tab_fact, two_fact] at F); try simp -dsimp only [↓vcA, vcB, vcD, ↓pureT_lenS, ↓iteT, ↓iteF, cond_true, cond_false, eq_self, argE, Env.get, Env.push, ev, evs, evo, retV, Value.cells, Value.oneCell', setR, overR, fillL, zl, places, allSizes, heldC, ne_eq, Int.reduceLE, Int.reduceLT, Int.reduceEq, Int.reduceNe, Int.reduceToNat, Int.cast_ofNat_Int, Nat.reduceMul, Nat.reduceLeDiff, reduceIte, Nat.reduceEqDiff, Nat.reduceAdd, ↓reduceIte, Try.vcT, F, h.cell0, gets, vsD, if_true, if_false, Bool.false_eq_true,  hq, cellsI]
    refine h.new ?_
    clear h F hq
    intro w4 b4 h
    (try simp only [nfD] at h); have F := h.facts; (try simp only [nfF, emp_fact, rds_fact, frm_fact, tab_fact, two_fact] at F); try simp -dsimp only [↓vcA, vcB, vcD, ↓pureT_lenS, ↓iteT, ↓iteF, cond_true, cond_false, eq_self, argE, Env.get, Env.push, ev, evs, evo, retV, Value.cells, Value.oneCell', setR, overR, fillL, zl, places, allSizes, heldC, ne_eq, Int.reduceLE, Int.reduceLT, Int.reduceEq, Int.reduceNe, Int.reduceToNat, Int.cast_ofNat_Int, Nat.reduceMul, Nat.reduceLeDiff, reduceIte, Nat.reduceEqDiff, Nat.reduceAdd, ↓reduceIte, Try.vcT, F, h.cell0, gets, vsD, if_true, if_false, Bool.false_eq_true,  cellsI]
    refine Sep.put 3 h rfl ?_
    clear h F
    intro w5 h
    simp only [Ok64, List.forall_mem_cons, List.not_mem_nil, false_implies, implies_true, and_true] at ox
    (try simp only [nfD] at h); have F := h.facts; (try simp only [nfF, emp_fact, rds_fact, frm_fact, tab_fact, two_fact] at F); try simp -dsimp only [↓vcA, vcB, vcD, ↓pureT_lenS, ↓iteT, ↓iteF, cond_true, cond_false, eq_self, argE, Env.get, Env.push, ev, evs, evo, retV, Value.cells, Value.oneCell', setR, overR, fillL, zl, places, allSizes, heldC, ne_eq, Int.reduceLE, Int.reduceLT, Int.reduceEq, Int.reduceNe, Int.reduceToNat, Int.cast_ofNat_Int, Nat.reduceMul, Nat.reduceLeDiff, reduceIte, Nat.reduceEqDiff, Nat.reduceAdd, ↓reduceIte, Try.vcT, F, h.cell0, gets, vsD, if_true, if_false, Bool.false_eq_true]
    refine walkDraw (.q 0 (.q 1 (.q 4 (.q 7 (.q 10 (.q 13 (.q 16 (.h 2 0 (.h 5 1 (.h 8 2 (.h 11 3 (.h 14 4 (.h 17 5 (.l 3 (.l 6 (.l 9 (.l 12 (.l 15 (.l 18 .fin))))))))))))))))))) [(b4, 0, .int .i64 a0), (b4, 1, .int .i64 a1), (b4, 2, .int .i64 a2), (b4, 4, .int .i64 a4), (b4, 5, .int .i64 a5), (b4, 6, .int .i64 a6)] (by kernel_rfl) (by simp [Holds_nil, Holds_cons, F]) ?_
    refine h.draw ?_
    clear h F
    intro w6 h
    (try simp only [nfD] at h); have F := h.facts; (try simp only [nfF, emp_fact, rds_fact, frm_fact, tab_fact, two_fact] at F); try simp -dsimp only [↓vcA, vcB, vcD, ↓pureT_lenS, ↓iteT, ↓iteF, cond_true, cond_false, eq_self, argE, Env.get, Env.push, ev, evs, evo, retV, Value.cells, Value.oneCell', setR, overR, fillL, zl, places, allSizes, heldC, ne_eq, Int.reduceLE, Int.reduceLT, Int.reduceEq, Int.reduceNe, Int.reduceToNat, Int.cast_ofNat_Int, Nat.reduceMul, Nat.reduceLeDiff, reduceIte, Nat.reduceEqDiff, Nat.reduceAdd, ↓reduceIte, Try.vcT, F, h.cell0, gets, vsD, if_true, if_false, Bool.false_eq_true,  ei]
    repeat ((first | refine Sep.new h ?_ | refine Sep.put 0 h rfl ?_ | refine Sep.put 1 h rfl ?_ | refine Sep.put 2 h rfl ?_ | refine Sep.put 3 h rfl ?_ | refine Sep.put 4 h rfl ?_ | refine Sep.put 5 h rfl ?_ | refine Sep.num 1 h rfl (by omega) (by omega) (by omega) ?_); (clear F; (try clear h); intros; rename_i h; (try simp only [nfD] at h); have F := h.facts; (try simp only [nfF, emp_fact, rds_fact, frm_fact, tab_fact, two_fact] at F); try simp -dsimp only [↓vcA, vcB, vcD, ↓pureT_lenS, ↓iteT, ↓iteF, cond_true, cond_false, eq_self, argE, Env.get, Env.push, ev, evs, evo, retV, Value.cells, Value.oneCell', setR, overR, fillL, zl, places, allSizes, heldC, ne_eq, Int.reduceLE, Int.reduceLT, Int.reduceEq, Int.reduceNe, Int.reduceToNat, Int.cast_ofNat_Int, Nat.reduceMul, Nat.reduceLeDiff, reduceIte, Nat.reduceEqDiff, Nat.reduceAdd, ↓reduceIte, Try.vcT, F, h.cell0, gets, vsD, if_true, if_false, Bool.false_eq_true, ei]))
    refine ⟨_, ?_, i + 1, by omega, rfl, rfl, ?_⟩
    · omega
    rw [hfold]
    exact (h.erase 3).wrMono' 1 _ rfl (by omega)
  by_cases h15 : z = 15
  case pos =>
    have ht : tellsW s z ⟨code, ps, more, cas, las, n, sum⟩ = las.foldl wLa (s.num las.length 1) := by unfold tellsW; rw [if_neg h12, if_neg h34, if_neg h14, if_pos h15]
    generalize hE0 : s.num las.length 1 = E0 at *
    subst h15
    (try simp only [nfD] at h); have F := h.facts; (try simp only [nfF, emp_fact, rds_fact, frm_fact, tab_fact, two_fact] at F); try simp -dsimp only [↓vcA, vcB, vcD, ↓pureT_lenS, ↓iteT, ↓iteF, cond_true, cond_false, eq_self, argE, Env.get, Env.push, ev, evs, evo, retV, Value.cells, Value.oneCell', setR, overR, fillL, zl, places, allSizes, heldC, ne_eq, Int.reduceLE, Int.reduceLT, Int.reduceEq, Int.reduceNe, Int.reduceToNat, Int.cast_ofNat_Int, Nat.reduceMul, Nat.reduceLeDiff, reduceIte, Nat.reduceEqDiff, Nat.reduceAdd, ↓reduceIte, Try.vcT, F, h.cell0, gets, vsD, if_true, if_false, Bool.false_eq_true,  Int.reduceEq, decide_true, decide_false]
    refine Sep.num 1 h rfl (by omega) (by omega) (by omega) ?_
    clear h F
    intro w2 h
    (try simp only [nfD] at h); have F := h.facts; (try simp only [nfF, emp_fact, rds_fact, frm_fact, tab_fact, two_fact] at F); try simp -dsimp only [↓vcA, vcB, vcD, ↓pureT_lenS, ↓iteT, ↓iteF, cond_true, cond_false, eq_self, argE, Env.get, Env.push, ev, evs, evo, retV, Value.cells, Value.oneCell', setR, overR, fillL, zl, places, allSizes, heldC, ne_eq, Int.reduceLE, Int.reduceLT, Int.reduceEq, Int.reduceNe, Int.reduceToNat, Int.cast_ofNat_Int, Nat.reduceMul, Nat.reduceLeDiff, reduceIte, Nat.reduceEqDiff, Nat.reduceAdd, ↓reduceIte, Try.vcT, F, h.cell0, gets, vsD, if_true, if_false, Bool.false_eq_true]
    refine walkLoop [0, 99, 100] [101] (fun m vs w' => ∃ i, i ≤ las.length ∧ m = las.length - i ∧ vs = [.int .i64 i] ∧ Sep w0 (fun _ => False) [q, wr 32 p ((las.take i).foldl wLa E0) (k + 8 + 10 * i), blk b1 114 [.int .i64 code, .slice ap ps.length cp, .bool more, .slice aca cas.length cca, .slice ala las.length cla, .int .i64 n, .int .u64 sum]] w') (by kernel_rfl) ?_ ?_
    · simp -dsimp only [↓vcA, vcB, vcD, ↓pureT_lenS, ↓iteT, ↓iteF, cond_true, cond_false, eq_self, argE, Env.get, Env.push, ev, evs, evo, retV, Value.cells, Value.oneCell', setR, overR, fillL, zl, places, allSizes, heldC, ne_eq, Int.reduceLE, Int.reduceLT, Int.reduceEq, Int.reduceNe, Int.reduceToNat, Int.cast_ofNat_Int, Nat.reduceMul, Nat.reduceLeDiff, reduceIte, Nat.reduceEqDiff, Nat.reduceAdd, ↓reduceIte, Try.vcT, gets]
      exact ⟨_, 0, Nat.zero_le _, rfl, rfl, by rw [hE0] at h; simpa using h⟩
    intro ks hk m vs w3 hi
    clear h
    try clear F
    obtain ⟨i, hi, rfl, rfl, h⟩ := hi
    simp -dsimp only [gets, argE, List.zip_cons_cons, List.zip_nil_left, List.cons_append, List.nil_append, Env.get, Env.push, Option.bind_some, Option.map_some, Option.some.injEq, reduceIte, Nat.reduceEqDiff, Nat.reduceAdd, ↓reduceIte] at hk; subst hk
    by_cases hlt : (i : Int) < las.length
    case neg =>
      have hil : i = las.length := by omega
      subst hil
      rw [List.take_length] at h
      (try simp only [nfD] at h); have F := h.facts; (try simp only [nfF, emp_fact, rds_fact, frm_fact, tab_fact, two_fact] at F); try simp -dsimp only [↓vcA, vcB, vcD, ↓pureT_lenS, ↓iteT, ↓iteF, cond_true, cond_false, eq_self, argE, Env.get, Env.push, ev, evs, evo, retV, Value.cells, Value.oneCell', setR, overR, fillL, zl, places, allSizes, heldC, ne_eq, Int.reduceLE, Int.reduceLT, Int.reduceEq, Int.reduceNe, Int.reduceToNat, Int.cast_ofNat_Int, Nat.reduceMul, Nat.reduceLeDiff, reduceIte, Nat.reduceEqDiff, Nat.reduceAdd, ↓reduceIte, Try.vcT, F, h.cell0, gets, vsD, if_true, if_false, Bool.false_eq_true,  decide_eq_false hlt]
      exact fin (by omega) ht h
    have hil : i < las.length := by omega
    have hfold : (las.take (i + 1)).foldl wLa E0 = wLa ((las.take i).foldl wLa E0) las[i] := by
      rw [List.take_succ_eq_append_getElem hil, List.foldl_append]; rfl
    have ei : IntKind.i64.wrap ((i : Int) + 1) = ((i + 1 : Nat) : Int) := by rw [i64w _ (by omega) (by omega)]; omega
    have h0i : (0 : Int) ≤ i := by omega
    obtain ⟨b, o, eb, hcx⟩ := Rla.at hil
    have ox := Ola _ (List.getElem_mem hil)
    generalize las[i] = x at *
    rw [eb] at h ⊢
    (try simp only [nfD] at h); have F := h.facts; (try simp only [nfF, emp_fact, rds_fact, frm_fact, tab_fact, two_fact] at F); try simp -dsimp only [↓vcA, vcB, vcD, ↓pureT_lenS, ↓iteT, ↓iteF, cond_true, cond_false, eq_self, argE, Env.get, Env.push, ev, evs, evo, retV, Value.cells, Value.oneCell', setR, overR, fillL, zl, places, allSizes, heldC, ne_eq, Int.reduceLE, Int.reduceLT, Int.reduceEq, Int.reduceNe, Int.reduceToNat, Int.cast_ofNat_Int, Nat.reduceMul, Nat.reduceLeDiff, reduceIte, Nat.reduceEqDiff, Nat.reduceAdd, ↓reduceIte, Try.vcT, F, h.cell0, gets, vsD, if_true, if_false, Bool.false_eq_true,  decide_eq_true hlt]
    refine ⟨⟨h0i, hlt⟩, ?_⟩
    (try simp only [nfD] at h); have F := h.facts; (try simp only [nfF, emp_fact, rds_fact, frm_fact, tab_fact, two_fact] at F); try simp -dsimp only [↓vcA, vcB, vcD, ↓pureT_lenS, ↓iteT, ↓iteF, cond_true, cond_false, eq_self, argE, Env.get, Env.push, ev, evs, evo, retV, Value.cells, Value.oneCell', setR, overR, fillL, zl, places, allSizes, heldC, ne_eq, Int.reduceLE, Int.reduceLT, Int.reduceEq, Int.reduceNe, Int.reduceToNat, Int.cast_ofNat_Int, Nat.reduceMul, Nat.reduceLeDiff, reduceIte, Nat.reduceEqDiff, Nat.reduceAdd, ↓reduceIte, Try.vcT, F, h.cell0, gets, vsD, if_true, if_false, Bool.false_eq_true,  hcx]
    refine Sep.num 1 h rfl (by omega) (by omega) (by omega) ?_
    clear h F
    intro w6 h
    (try simp only [nfD] at h); have F := h.facts; (try simp only [nfF, emp_fact, rds_fact, frm_fact, tab_fact, two_fact] at F); try simp -dsimp only [↓vcA, vcB, vcD, ↓pureT_lenS, ↓iteT, ↓iteF, cond_true, cond_false, eq_self, argE, Env.get, Env.push, ev, evs, evo, retV, Value.cells, Value.oneCell', setR, overR, fillL, zl, places, allSizes, heldC, ne_eq, Int.reduceLE, Int.reduceLT, Int.reduceEq, Int.reduceNe, Int.reduceToNat, Int.cast_ofNat_Int, Nat.reduceMul, Nat.reduceLeDiff, reduceIte, Nat.reduceEqDiff, Nat.reduceAdd, ↓reduceIte, Try.vcT, F, h.cell0, gets, vsD, if_true, if_false, Bool.false_eq_true,  ei]
    refine ⟨_, ?_, i + 1, by omega, rfl, rfl, ?_⟩
    · omega
    rw [hfold]
    exact h.wrMono' 1 _ rfl (by omega)
  have n1 : ¬ z = 1 := fun e => h12 (.inl e)
  have n2 : ¬ z = 2 := fun e => h12 (.inr e)
  have n3 : ¬ z = 3 := fun e => h34 (.inl e)
  have n4 : ¬ z = 4 := fun e => h34 (.inr e)
  by_cases e12 : z = 12
  case pos =>
    have ht : tellsW s z ⟨code, ps, more, cas, las, n, sum⟩ = s.num n 1 := by unfold tellsW; rw [if_neg h12, if_neg h34, if_neg h14, if_neg h15, if_pos e12]
    (try simp only [nfD] at h); have F := h.facts; (try simp only [nfF, emp_fact, rds_fact, frm_fact, tab_fact, two_fact] at F); try simp -dsimp only [↓vcA, vcB, vcD, ↓pureT_lenS, ↓iteT, ↓iteF, cond_true, cond_false, eq_self, argE, Env.get, Env.push, ev, evs, evo, retV, Value.cells, Value.oneCell', setR, overR, fillL, zl, places, allSizes, heldC, ne_eq, Int.reduceLE, Int.reduceLT, Int.reduceEq, Int.reduceNe, Int.reduceToNat, Int.cast_ofNat_Int, Nat.reduceMul, Nat.reduceLeDiff, reduceIte, Nat.reduceEqDiff, Nat.reduceAdd, ↓reduceIte, Try.vcT, F, h.cell0, gets, vsD, if_true, if_false, Bool.false_eq_true,  decide_eq_false n1, decide_eq_false n2, decide_eq_false n3, decide_eq_false n4, decide_eq_false h14, decide_eq_false h15, decide_eq_true e12]
    refine Sep.num 1 h rfl (by omega) (by omega) (by omega) ?_
    clear h F
    intro w2 h
    (try simp only [nfD] at h); have F := h.facts; (try simp only [nfF, emp_fact, rds_fact, frm_fact, tab_fact, two_fact] at F); try simp -dsimp only [↓vcA, vcB, vcD, ↓pureT_lenS, ↓iteT, ↓iteF, cond_true, cond_false, eq_self, argE, Env.get, Env.push, ev, evs, evo, retV, Value.cells, Value.oneCell', setR, overR, fillL, zl, places, allSizes, heldC, ne_eq, Int.reduceLE, Int.reduceLT, Int.reduceEq, Int.reduceNe, Int.reduceToNat, Int.cast_ofNat_Int, Nat.reduceMul, Nat.reduceLeDiff, reduceIte, Nat.reduceEqDiff, Nat.reduceAdd, ↓reduceIte, Try.vcT, F, h.cell0, gets, vsD, if_true, if_false, Bool.false_eq_true]
    exact fin (by omega) ht h
  by_cases e16 : z = 16
  case pos =>
    have ht : tellsW s z ⟨code, ps, more, cas, las, n, sum⟩ = (s.num n 4).raw (be sum 8) := by unfold tellsW; rw [if_neg h12, if_neg h34, if_neg h14, if_neg h15, if_neg e12, if_pos e16]
    (try simp only [nfD] at h); have F := h.facts; (try simp only [nfF, emp_fact, rds_fact, frm_fact, tab_fact, two_fact] at F); try simp -dsimp only [↓vcA, vcB, vcD, ↓pureT_lenS, ↓iteT, ↓iteF, cond_true, cond_false, eq_self, argE, Env.get, Env.push, ev, evs, evo, retV, Value.cells, Value.oneCell', setR, overR, fillL, zl, places, allSizes, heldC, ne_eq, Int.reduceLE, Int.reduceLT, Int.reduceEq, Int.reduceNe, Int.reduceToNat, Int.cast_ofNat_Int, Nat.reduceMul, Nat.reduceLeDiff, reduceIte, Nat.reduceEqDiff, Nat.reduceAdd, ↓reduceIte, Try.vcT, F, h.cell0, gets, vsD, if_true, if_false, Bool.false_eq_true,  decide_eq_false n1, decide_eq_false n2, decide_eq_false n3, decide_eq_false n4, decide_eq_false h14, decide_eq_false h15, decide_eq_false e12, decide_eq_true e16]
    refine walkDraw (.q 0 (.q 1 (.q 4 (.h 2 0 (.h 5 1 (.l 3 (.l 6 (.l 7 .fin)))))))) [(b1, 5, .int .i64 n), (b1, 6, .int .u64 sum)] (by kernel_rfl) (by simp [Holds_nil, Holds_cons, F]) ?_
    refine h.draw ?_
    clear h F
    intro w2 h
    (try simp only [nfD] at h); have F := h.facts; (try simp only [nfF, emp_fact, rds_fact, frm_fact, tab_fact, two_fact] at F); try simp -dsimp only [↓vcA, vcB, vcD, ↓pureT_lenS, ↓iteT, ↓iteF, cond_true, cond_false, eq_self, argE, Env.get, Env.push, ev, evs, evo, retV, Value.cells, Value.oneCell', setR, overR, fillL, zl, places, allSizes, heldC, ne_eq, Int.reduceLE, Int.reduceLT, Int.reduceEq, Int.reduceNe, Int.reduceToNat, Int.cast_ofNat_Int, Nat.reduceMul, Nat.reduceLeDiff, reduceIte, Nat.reduceEqDiff, Nat.reduceAdd, ↓reduceIte, Try.vcT, F, h.cell0, gets, vsD, if_true, if_false, Bool.false_eq_true]
    refine Sep.num 1 h rfl (by omega) (by omega) (by omega) ?_
    clear h F
    intro w3 h
    (try simp only [nfD] at h); have F := h.facts; (try simp only [nfF, emp_fact, rds_fact, frm_fact, tab_fact, two_fact] at F); try simp -dsimp only [↓vcA, vcB, vcD, ↓pureT_lenS, ↓iteT, ↓iteF, cond_true, cond_false, eq_self, argE, Env.get, Env.push, ev, evs, evo, retV, Value.cells, Value.oneCell', setR, overR, fillL, zl, places, allSizes, heldC, ne_eq, Int.reduceLE, Int.reduceLT, Int.reduceEq, Int.reduceNe, Int.reduceToNat, Int.cast_ofNat_Int, Nat.reduceMul, Nat.reduceLeDiff, reduceIte, Nat.reduceEqDiff, Nat.reduceAdd, ↓reduceIte, Try.vcT, F, h.cell0, gets, vsD, if_true, if_false, Bool.false_eq_true]
    refine Sep.callN h (eight146 sum _ Os) ?_
    clear h F
    intro e N w4 hQ h
    obtain ⟨a8, c8, rfl, rfl⟩ := hQ
    (try simp only [nfD] at h); have F := h.facts; (try simp only [nfF, emp_fact, rds_fact, frm_fact, tab_fact, two_fact] at F); try simp -dsimp only [↓vcA, vcB, vcD, ↓pureT_lenS, ↓iteT, ↓iteF, cond_true, cond_false, eq_self, argE, Env.get, Env.push, ev, evs, evo, retV, Value.cells, Value.oneCell', setR, overR, fillL, zl, places, allSizes, heldC, ne_eq, Int.reduceLE, Int.reduceLT, Int.reduceEq, Int.reduceNe, Int.reduceToNat, Int.cast_ofNat_Int, Nat.reduceMul, Nat.reduceLeDiff, reduceIte, Nat.reduceEqDiff, Nat.reduceAdd, ↓reduceIte, Try.vcT, F, h.cell0, gets, vsD, if_true, if_false, Bool.false_eq_true]
    refine Sep.raw 1 (be sum 8) h rfl (by omega) F.2.2.2.1 (by rw [be_length]; omega) ?_
    clear h F
    intro w5 h
    (try simp only [nfD] at h); have F := h.facts; (try simp only [nfF, emp_fact, rds_fact, frm_fact, tab_fact, two_fact] at F); try simp -dsimp only [↓vcA, vcB, vcD, ↓pureT_lenS, ↓iteT, ↓iteF, cond_true, cond_false, eq_self, argE, Env.get, Env.push, ev, evs, evo, retV, Value.cells, Value.oneCell', setR, overR, fillL, zl, places, allSizes, heldC, ne_eq, Int.reduceLE, Int.reduceLT, Int.reduceEq, Int.reduceNe, Int.reduceToNat, Int.cast_ofNat_Int, Nat.reduceMul, Nat.reduceLeDiff, reduceIte, Nat.reduceEqDiff, Nat.reduceAdd, ↓reduceIte, Try.vcT, F, h.cell0, gets, vsD, if_true, if_false, Bool.false_eq_true]
    rw [be_length] at h
    exact fin (by omega) ht (h.erase 3)
  have ht : tellsW s z ⟨code, ps, more, cas, las, n, sum⟩ = s := by unfold tellsW; rw [if_neg h12, if_neg h34, if_neg h14, if_neg h15, if_neg e12, if_neg e16]
  (try simp only [nfD] at h); have F := h.facts; (try simp only [nfF, emp_fact, rds_fact, frm_fact, tab_fact, two_fact] at F); try simp -dsimp only [↓vcA, vcB, vcD, ↓pureT_lenS, ↓iteT, ↓iteF, cond_true, cond_false, eq_self, argE, Env.get, Env.push, ev, evs, evo, retV, Value.cells, Value.oneCell', setR, overR, fillL, zl, places, allSizes, heldC, ne_eq, Int.reduceLE, Int.reduceLT, Int.reduceEq, Int.reduceNe, Int.reduceToNat, Int.cast_ofNat_Int, Nat.reduceMul, Nat.reduceLeDiff, reduceIte, Nat.reduceEqDiff, Nat.reduceAdd, ↓reduceIte, Try.vcT, F, h.cell0, gets, vsD, if_true, if_false, Bool.false_eq_true,  decide_eq_false n1, decide_eq_false n2, decide_eq_false n3, decide_eq_false n4, decide_eq_false h14, decide_eq_false h15, decide_eq_false e12, decide_eq_false e16]
  exact fin (by omega) ht h
end Go.Proofs.Ytnhgjgoglmadnaa
