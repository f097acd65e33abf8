/- Joined texts of this claim (part 13), printed by a program of this work. The last part holds the claimed theorem: the law answers true at every input of its row. -/
import Derived.Test.YtnhgjgoglmadnaaSP14l
namespace Go.Proofs.Ytnhgjgoglmadnaa
open Go.ChangeShapes Go.WideShapes Go.ChangeAt Go.RowKit Go.Deep
set_option linter.unusedVariables false
set_option maxRecDepth 100000
section
variable {H : Type} {enc : TypeId × Value → H} {w : World} {base : Nat} {spare : Nat → Bool} {held : Bool}
theorem ints_of {fuel : Nat} {v : Value} {x : DataW H × List MemPlace} (h : DataW.trod enc Try.prog w base (fun _ => true) held fuel 60 [v] = some x) : ∃ ns, IntsR w v ns ∧ ∀ n ∈ ns, -9223372036854775808 ≤ n ∧ n ≤ 9223372036854775807 := by
  rcases open_slice Try.underlying60 h with ⟨hcs, _⟩ | ⟨a, len, cap, m, n, D, Pl, hcs, hb, hl, hm, hmm, hx, hi⟩
  · injection hcs with hcs
    subst hcs
    exact ⟨[], Row.nil 1 w, fun l hl => by cases hl⟩
  · injection hcs with hcs
    subst hcs
    simp only [if_true] at hmm
    subst hmm
    rw [c3] at hi
    have key : ∀ i, i < len → ∃ n : Int, w.cell? (a.add i) = some (.int .i64 n) ∧ -9223372036854775808 ≤ n ∧ n ≤ 9223372036854775807 := fun i hil => by
      obtain ⟨cs', hc, ht⟩ := hi i (by omega)
      obtain ⟨_, hcl, hat⟩ := World.cells?_some hc
      match cs', hcl, ht, hat with
      | [u], _, ht, hat =>
        obtain ⟨n, rfl, hn⟩ := int_of Try.underlying3 ht
        refine ⟨n, ?_, hn⟩
        have := hat 0 (by omega)
        rw [Go.Deep.add_add, Nat.add_zero, Nat.mul_one] at this
        simpa using this
    obtain ⟨f, hf⟩ := choose_lt key
    refine ⟨(List.range len).map f, ⟨by simp, fun u hu => ?_, some a, m, by simp, by simp; omega, by omega, (fun e => by cases e), fun hp => ?_⟩, fun n hn => ?_⟩
    · obtain ⟨y, _, rfl⟩ := List.mem_map.1 hu; rfl
    · have hp' : 0 < len := by simpa using hp
      obtain ⟨b, off, spot⟩ := a
      have hspot : spot = none := by
        have := (hf 0 hp').1
        simpa [Addr.add] using World.cell?_spot this
      subst hspot
      refine ⟨b, off, rfl, fun j u hj => ?_⟩
      simp only [List.getElem?_map, Option.map_eq_some_iff] at hj
      obtain ⟨_, ⟨k, hk, rfl⟩, rfl⟩ := hj
      obtain ⟨hlt, hk⟩ := List.getElem?_eq_some_iff.1 hk
      simp at hk hlt; subst hk
      have := (hf j hlt).1
      rwa [add_off] at this
    · obtain ⟨i, hi', rfl⟩ := List.mem_map.1 hn
      exact (hf i (by simpa using hi')).2
end
end Go.Proofs.Ytnhgjgoglmadnaa
namespace Go.Proofs.Ytnhgjgoglmadnaa
open Go.RowKit
set_option maxRecDepth 100000
set_option linter.unusedSimpArgs false
set_option linter.unusedVariables false
set_option pp.maxSteps 1500
set_option pp.deepTerms.threshold 8

def getR (a : Rq × R8) (c : Nat) : Rq × R8 :=
  if c = 112 then ({a.1 with px := a.2.rptX, py := a.2.rptY}, a.2.rptS) else
  if c = 113 then ({a.1 with qx := a.2.rptX, qy := a.2.rptY}, a.2.rptS) else
  if c = 116 then ({a.1 with ax := a.2.rtriV.ax, ay := a.2.rtriV.ay, bx := a.2.rtriV.bx, by' := a.2.rtriV.by', cx := a.2.rtriV.cx, cy := a.2.rtriV.cy}, a.2.rtriS) else get1 a c
theorem agGet {a a' : Rq × R8} (h1 : a.1 = a'.1) (h2 : Agr a.2 a'.2) (c : Nat) : (get1 a c).1 = (getR a' c).1 ∧ Agr (get1 a c).2 (getR a' c).2 := by
  obtain ⟨q, s⟩ := a
  obtain ⟨q', s'⟩ := a'
  dsimp only at h1 h2
  subst h1
  obtain ⟨p1, p2⟩ := h2.pt
  obtain ⟨t1, t2⟩ := h2.tri
  have n1 := h2.num 1
  have n2 := h2.num 2
  have n4 := h2.num 4
  have m1 := h2.num 3
  have m2 := m1.2.num 3
  have m3 := m2.2.num 3
  have m4 := m3.2.num 3
  unfold getR get1
  by_cases e0 : c = 112
  · subst e0; simp only [Nat.reduceEqDiff, reduceIte, ↓reduceIte]; exact ⟨by rw [p1], p2⟩
  by_cases e1 : c = 113
  · subst e1; simp only [Nat.reduceEqDiff, reduceIte, ↓reduceIte]; exact ⟨by rw [p1], p2⟩
  by_cases e2 : c = 116
  · subst e2; simp only [Nat.reduceEqDiff, reduceIte, ↓reduceIte]; exact ⟨by rw [t1], t2⟩
  by_cases e3 : c = 101
  · subst e3; simp only [Nat.reduceEqDiff, reduceIte, ↓reduceIte]; exact ⟨by rw [n1.1], n1.2⟩
  by_cases e4 : c = 99
  · subst e4; simp only [Nat.reduceEqDiff, reduceIte, ↓reduceIte]; exact ⟨by rw [n1.1], n1.2⟩
  by_cases e5 : c = 108
  · subst e5; simp only [Nat.reduceEqDiff, reduceIte, ↓reduceIte]; exact ⟨by rw [n2.1], n2.2⟩
  by_cases e6 : c = 111
  · subst e6; simp only [Nat.reduceEqDiff, reduceIte, ↓reduceIte]; exact ⟨by rw [n2.1], n2.2⟩
  by_cases e7 : c = 114
  · subst e7; simp only [Nat.reduceEqDiff, reduceIte, ↓reduceIte]; exact ⟨by rw [m1.1, m2.1, m3.1, m4.1], m4.2⟩
  by_cases e8 : c = 102
  · subst e8; simp only [Nat.reduceEqDiff, reduceIte, ↓reduceIte]; exact ⟨by rw [n2.1], n2.2⟩
  by_cases e9 : c = 109
  · subst e9; simp only [Nat.reduceEqDiff, reduceIte, ↓reduceIte]; exact ⟨by rw [n1.1], n1.2⟩
  by_cases e10 : c = 105
  · subst e10; simp only [Nat.reduceEqDiff, reduceIte, ↓reduceIte]; exact ⟨by rw [n1.1], n1.2⟩
  by_cases e11 : c = 110
  · subst e11; simp only [Nat.reduceEqDiff, reduceIte, ↓reduceIte]; exact ⟨by rw [n1.1], n1.2⟩
  by_cases e12 : c = 104
  · subst e12; simp only [Nat.reduceEqDiff, reduceIte, ↓reduceIte]; exact ⟨by rw [n1.1], n1.2⟩
  by_cases e13 : c = 98
  · subst e13; simp only [Nat.reduceEqDiff, reduceIte, ↓reduceIte]; exact ⟨by rw [n1.1], n1.2⟩
  by_cases e14 : c = 117
  · subst e14; simp only [Nat.reduceEqDiff, reduceIte, ↓reduceIte]; exact ⟨by rw [n4.1], n4.2⟩
  simp only [if_neg e0, if_neg e1, if_neg e2, if_neg e3, if_neg e4, if_neg e5, if_neg e6, if_neg e7, if_neg e8, if_neg e9, if_neg e10, if_neg e11, if_neg e12, if_neg e13, if_neg e14]
  exact ⟨trivial, h2⟩
theorem agFold : ∀ (l : List Nat) {a a' : Rq × R8}, a.1 = a'.1 → Agr a.2 a'.2 → (l.foldl get1 a).1 = (l.foldl getR a').1 ∧ Agr (l.foldl get1 a).2 (l.foldl getR a').2
  | [], _, _, h1, h2 => ⟨h1, h2⟩
  | c :: l, _, _, h1, h2 => by
    obtain ⟨h3, h4⟩ := agGet h1 h2 c
    exact agFold l h3 h4
def askR (s : R8) : Rq × R8 := (formL (s.numV 1)).foldl get1 ({Rq.zero with k := s.numV 1}, s.numS 1)
def askROk (b : List Int) : Bool := (form ((⟨b, false⟩ : R8).numV 1)).isSome && (askR ⟨b, false⟩).2.done
def askRV (b : List Int) : Rq := if askROk b then (askR ⟨b, false⟩).1 else Rq.zero
set_option maxHeartbeats 4000000 in
theorem ask69 (v : Value) (b : List Int) (w : World) (hr : Rd w v b) (hb : Byt b) (hl : b.length ≤ 99000) :
    Calls Try.prog 69 [v].toArray w (RetK fun r w' => r = .tuple #[.agg (askRV b).cells.toArray, .bool (askROk b)] ∧ Chg (fun _ => False) w w') := by
  have hr' := hr
  obtain ⟨a, cc, rfl, _⟩ := hr'
  have h := Sep.nil w
  refine walk Try.func69 rfl (by kernel_rfl) (by rw [Try.nt69]; simp) ?_
  (try simp only [nfD] at h); have F := h.facts; (try simp only [nfF, emp_fact, rds_fact, frm_fact, tab_fact] at F)
  simp -dsimp only [↓vcA, vcB, vcD, ↓pureT_lenS, ↓iteT, ↓iteF, cond_true, cond_false, eq_self, argE, Env.get, Env.push, ev, evs, evo, retV, Value.cells, Value.oneCell', setR, overR, fillL, zl, places, allSizes, heldC, ne_eq, Int.reduceLE, Int.reduceLT, Int.reduceEq, Int.reduceNe, Int.reduceToNat, Int.cast_ofNat_Int, Nat.reduceMul, Nat.reduceLeDiff, reduceIte, Nat.reduceEqDiff, Nat.reduceAdd, ↓reduceIte, Try.vcT]
  refine h.new ?_
  clear h F
  intro w1 b1 h
  (try simp only [nfD] at h); have F := h.facts; (try simp only [nfF, emp_fact, rds_fact, frm_fact, tab_fact] at F); try simp -dsimp only [↓vcA, vcB, vcD, ↓pureT_lenS, ↓iteT, ↓iteF, cond_true, cond_false, eq_self, argE, Env.get, Env.push, ev, evs, evo, retV, Value.cells, Value.oneCell', setR, overR, fillL, zl, places, allSizes, heldC, ne_eq, Int.reduceLE, Int.reduceLT, Int.reduceEq, Int.reduceNe, Int.reduceToNat, Int.cast_ofNat_Int, Nat.reduceMul, Nat.reduceLeDiff, reduceIte, Nat.reduceEqDiff, Nat.reduceAdd, ↓reduceIte, Try.vcT, F, h.cell0, gets, vsD, if_true, if_false, Bool.false_eq_true]
  refine h.new ?_
  clear h F
  intro w2 p h
  have hp : w.heap.size ≤ p := by
    obtain ⟨A, ⟨_, rfl⟩, hA, _⟩ := h.has.focus (i := 1) rfl h.rd h.up
    exact (hA p rfl).elim (fun f => False.elim f) id
  have h := h.rrNew 1 b rfl hr (by omega) (fun _ _ f => f) hp
  generalize (fun x : Nat => 0 < b.length ∧ (Value.slice a b.length cc).ownBlock = some x) = Z at h
  have hok0 : askROk b = ((form ((⟨b, false⟩ : R8).numV 1)).isSome && (askR ⟨b, false⟩).2.done) := rfl
  have hv0 : askRV b = if askROk b then (askR ⟨b, false⟩).1 else Rq.zero := rfl
  unfold askR at hok0 hv0
  generalize hS : (R8.mk b false) = S at *
  have hSb : Byt S.l := by rw [← hS]; exact hb
  (try simp only [nfD] at h); have F := h.facts; (try simp only [nfF, emp_fact, rds_fact, frm_fact, tab_fact] at F); try simp -dsimp only [↓vcA, vcB, vcD, ↓pureT_lenS, ↓iteT, ↓iteF, cond_true, cond_false, eq_self, argE, Env.get, Env.push, ev, evs, evo, retV, Value.cells, Value.oneCell', setR, overR, fillL, zl, places, allSizes, heldC, ne_eq, Int.reduceLE, Int.reduceLT, Int.reduceEq, Int.reduceNe, Int.reduceToNat, Int.cast_ofNat_Int, Nat.reduceMul, Nat.reduceLeDiff, reduceIte, Nat.reduceEqDiff, Nat.reduceAdd, ↓reduceIte, Try.vcT, F, h.cell0, gets, vsD, if_true, if_false, Bool.false_eq_true]
  refine Sep.rrNum 1 h rfl ?_
  clear h F
  intro w3 h
  (try simp only [nfD] at h); have F := h.facts; (try simp only [nfF, emp_fact, rds_fact, frm_fact, tab_fact] at F); try simp -dsimp only [↓vcA, vcB, vcD, ↓pureT_lenS, ↓iteT, ↓iteF, cond_true, cond_false, eq_self, argE, Env.get, Env.push, ev, evs, evo, retV, Value.cells, Value.oneCell', setR, overR, fillL, zl, places, allSizes, heldC, ne_eq, Int.reduceLE, Int.reduceLT, Int.reduceEq, Int.reduceNe, Int.reduceToNat, Int.cast_ofNat_Int, Nat.reduceMul, Nat.reduceLeDiff, reduceIte, Nat.reduceEqDiff, Nat.reduceAdd, ↓reduceIte, Try.vcT, F, h.cell0, gets, vsD, if_true, if_false, Bool.false_eq_true]
  refine h.new ?_
  clear h F
  intro w4 b5 h
  (try simp only [nfD] at h); have F := h.facts; (try simp only [nfF, emp_fact, rds_fact, frm_fact, tab_fact] at F); try simp -dsimp only [↓vcA, vcB, vcD, ↓pureT_lenS, ↓iteT, ↓iteF, cond_true, cond_false, eq_self, argE, Env.get, Env.push, ev, evs, evo, retV, Value.cells, Value.oneCell', setR, overR, fillL, zl, places, allSizes, heldC, ne_eq, Int.reduceLE, Int.reduceLT, Int.reduceEq, Int.reduceNe, Int.reduceToNat, Int.cast_ofNat_Int, Nat.reduceMul, Nat.reduceLeDiff, reduceIte, Nat.reduceEqDiff, Nat.reduceAdd, ↓reduceIte, Try.vcT, F, h.cell0, gets, vsD, if_true, if_false, Bool.false_eq_true]
  refine Sep.put 2 h rfl ?_
  clear h F
  intro w5 h
  (try simp only [nfD] at h); have F := h.facts; (try simp only [nfF, emp_fact, rds_fact, frm_fact, tab_fact] at F); try simp -dsimp only [↓vcA, vcB, vcD, ↓pureT_lenS, ↓iteT, ↓iteF, cond_true, cond_false, eq_self, argE, Env.get, Env.push, ev, evs, evo, retV, Value.cells, Value.oneCell', setR, overR, fillL, zl, places, allSizes, heldC, ne_eq, Int.reduceLE, Int.reduceLT, Int.reduceEq, Int.reduceNe, Int.reduceToNat, Int.cast_ofNat_Int, Nat.reduceMul, Nat.reduceLeDiff, reduceIte, Nat.reduceEqDiff, Nat.reduceAdd, ↓reduceIte, Try.vcT, F, h.cell0, gets, vsD, if_true, if_false, Bool.false_eq_true]
  refine Sep.callp h (form126 (S.numV 1) w5) ?_
  clear h F
  intro w6 h
  have hlet := formL_let (S.numV 1)
  have hlen := formL_len (S.numV 1)
  have h256 := formL_256 (S.numV 1)
  generalize (form (S.numV 1)).isSome = f0 at *
  generalize formL (S.numV 1) = L at *
  have fin : ∀ {w' : World} {M : List Res}, askROk b = false → Sep w (fun _ => False) M w' → (Value.tuple #[.agg #[.int .i64 0, .int .i64 0, .int .i64 0, .int .i64 0, .int .i64 0, .int .i64 0, .int .i64 0, .int .i64 0, .int .i64 0, .int .i64 0, .int .i64 0, .int .i64 0, .int .i64 0, .int .i64 0, .int .i64 0, .int .i64 0, .int .i64 0, .int .i64 0, .int .i64 0, .int .i64 0, .int .i64 0, .int .i64 0, .int .i64 0, .int .i64 0, .int .i64 0, .int .i64 0], .bool false] = .tuple #[.agg (askRV b).cells.toArray, .bool (askROk b)]) ∧ Chg (fun _ => False) w w' := fun hf h => by
    refine ⟨?_, h.done⟩
    have e : askRV b = Rq.zero := by rw [hv0, hf]; rfl
    rw [e, hf]; rfl
  cases f0 with
  | false =>
    (try simp only [nfD] at h); have F := h.facts; (try simp only [nfF, emp_fact, rds_fact, frm_fact, tab_fact] at F); try simp -dsimp only [↓vcA, vcB, vcD, ↓pureT_lenS, ↓iteT, ↓iteF, cond_true, cond_false, eq_self, argE, Env.get, Env.push, ev, evs, evo, retV, Value.cells, Value.oneCell', setR, overR, fillL, zl, places, allSizes, heldC, ne_eq, Int.reduceLE, Int.reduceLT, Int.reduceEq, Int.reduceNe, Int.reduceToNat, Int.cast_ofNat_Int, Nat.reduceMul, Nat.reduceLeDiff, reduceIte, Nat.reduceEqDiff, Nat.reduceAdd, ↓reduceIte, Try.vcT, F, h.cell0, gets, vsD, if_true, if_false, Bool.false_eq_true,  Bool.not_false]
    refine Sep.put 0 h rfl ?_
    clear h F
    intro w7 h
    (try simp only [nfD] at h); have F := h.facts; (try simp only [nfF, emp_fact, rds_fact, frm_fact, tab_fact] at F); try simp -dsimp only [↓vcA, vcB, vcD, ↓pureT_lenS, ↓iteT, ↓iteF, cond_true, cond_false, eq_self, argE, Env.get, Env.push, ev, evs, evo, retV, Value.cells, Value.oneCell', setR, overR, fillL, zl, places, allSizes, heldC, ne_eq, Int.reduceLE, Int.reduceLT, Int.reduceEq, Int.reduceNe, Int.reduceToNat, Int.cast_ofNat_Int, Nat.reduceMul, Nat.reduceLeDiff, reduceIte, Nat.reduceEqDiff, Nat.reduceAdd, ↓reduceIte, Try.vcT, F, h.cell0, gets, vsD, if_true, if_false, Bool.false_eq_true,  cellsAt]
    exact fin (by rw [hok0]; rfl) h
  | true =>
  (try simp only [nfD] at h); have F := h.facts; (try simp only [nfF, emp_fact, rds_fact, frm_fact, tab_fact] at F); try simp -dsimp only [↓vcA, vcB, vcD, ↓pureT_lenS, ↓iteT, ↓iteF, cond_true, cond_false, eq_self, argE, Env.get, Env.push, ev, evs, evo, retV, Value.cells, Value.oneCell', setR, overR, fillL, zl, places, allSizes, heldC, ne_eq, Int.reduceLE, Int.reduceLT, Int.reduceEq, Int.reduceNe, Int.reduceToNat, Int.cast_ofNat_Int, Nat.reduceMul, Nat.reduceLeDiff, reduceIte, Nat.reduceEqDiff, Nat.reduceAdd, ↓reduceIte, Try.vcT, F, h.cell0, gets, vsD, if_true, if_false, Bool.false_eq_true,  Bool.not_true]
  generalize hA0 : ((({Rq.zero with k := S.numV 1} : Rq), S.numS 1) : Rq × R8) = A0 at *
  have hA0' : [.int .i64 (S.numV 1), .int .i64 0, .int .i64 0, .int .i64 0, .int .i64 0, .int .i64 0, .int .i64 0, .int .i64 0, .int .i64 0, .int .i64 0, .int .i64 0, .int .i64 0, .int .i64 0, .int .i64 0, .int .i64 0, .int .i64 0, .int .i64 0, .int .i64 0, .int .i64 0, .int .i64 0, .int .i64 0, .int .i64 0, .int .i64 0, .int .i64 0, .int .i64 0, .int .i64 0] = A0.1.cells := by rw [← hA0]; rfl
  have hA2 : S.numS 1 = A0.2 := by rw [← hA0]
  rw [hA0', hA2] at h
  refine walkLoop [2, 4, 5, 6] [8] (fun k vs w' => ∃ i, i ≤ L.length ∧ k = L.length - i ∧ vs = [.int .i64 i] ∧ Sep w (fun _ => False) [blk b1 111 [.int .i64 0, .int .i64 0, .int .i64 0, .int .i64 0, .int .i64 0, .int .i64 0, .int .i64 0, .int .i64 0, .int .i64 0, .int .i64 0, .int .i64 0, .int .i64 0, .int .i64 0, .int .i64 0, .int .i64 0, .int .i64 0, .int .i64 0, .int .i64 0, .int .i64 0, .int .i64 0, .int .i64 0, .int .i64 0, .int .i64 0, .int .i64 0, .int .i64 0, .int .i64 0], rdr 85 p ((L.take i).foldl getR A0).2 Z, blk b5 111 ((L.take i).foldl getR A0).1.cells] w') (by kernel_rfl) ?_ ?_
  · simp -dsimp only [↓vcA, vcB, vcD, ↓pureT_lenS, ↓iteT, ↓iteF, cond_true, cond_false, eq_self, argE, Env.get, Env.push, ev, evs, evo, retV, Value.cells, Value.oneCell', setR, overR, fillL, zl, places, allSizes, heldC, ne_eq, Int.reduceLE, Int.reduceLT, Int.reduceEq, Int.reduceNe, Int.reduceToNat, Int.cast_ofNat_Int, Nat.reduceMul, Nat.reduceLeDiff, reduceIte, Nat.reduceEqDiff, Nat.reduceAdd, ↓reduceIte, Try.vcT, gets]
    exact ⟨_, 0, Nat.zero_le _, rfl, rfl, by simpa using h⟩
  intro ks hk k vs w7 hi
  clear h
  try clear F
  obtain ⟨i, hi, rfl, rfl, h⟩ := hi
  simp -dsimp only [gets, argE, List.zip_cons_cons, List.zip_nil_left, List.cons_append, List.nil_append, Env.get, Env.push, Option.bind_some, Option.map_some, Option.some.injEq, reduceIte, Nat.reduceEqDiff, Nat.reduceAdd, ↓reduceIte] at hk; subst hk
  have hsz : ((formS L).size : Int) = L.length := by rw [formS_size]
  by_cases hlt : (i : Int) < L.length
  case neg =>
    have hil : i = L.length := by omega
    subst hil
    rw [List.take_length] at h
    obtain ⟨ag1, ag2⟩ := agFold L (a := A0) (a' := A0) rfl (.inl rfl)
    generalize hQ : L.foldl get1 A0 = Q at *
    generalize L.foldl getR A0 = Q' at *
    obtain ⟨⟨z0, z1, z2, z3, z4, z5, z6, z7, z8, z9, z10, z11, z12, z13, z14, z15, z16, z17, z18, z19, z20, z21, z22, z23, z24, z25⟩, t'⟩ := Q'
    obtain ⟨q, t⟩ := Q
    dsimp only at ag1 ag2 h hok0 hv0
    subst ag1
    obtain ⟨_, vr, hw, _⟩ := h.rdAt (i := 1) rfl
    have hc1 := hw.c1
    have hc0 := hw.c0
    obtain ⟨ar, cr, rfl, _⟩ := hw.rd
    have ebad : t.bad = t'.bad := ag2.bad
    cases hbad : t'.bad with
    | true =>
      rw [hbad] at hc1
      (try simp only [nfD] at h); have F := h.facts; (try simp only [nfF, emp_fact, rds_fact, frm_fact, tab_fact] at F); try simp -dsimp only [↓vcA, vcB, vcD, ↓pureT_lenS, ↓iteT, ↓iteF, cond_true, cond_false, eq_self, argE, Env.get, Env.push, ev, evs, evo, retV, Value.cells, Value.oneCell', setR, overR, fillL, zl, places, allSizes, heldC, ne_eq, Int.reduceLE, Int.reduceLT, Int.reduceEq, Int.reduceNe, Int.reduceToNat, Int.cast_ofNat_Int, Nat.reduceMul, Nat.reduceLeDiff, reduceIte, Nat.reduceEqDiff, Nat.reduceAdd, ↓reduceIte, Try.vcT, F, h.cell0, gets, vsD, if_true, if_false, Bool.false_eq_true,  ↓pureT_lenT, strK_mk, hsz, decide_eq_false hlt, hc1, Rq.cells]
      refine Sep.put 0 h rfl ?_
      clear h F
      intro w8 h
      (try simp only [nfD] at h); have F := h.facts; (try simp only [nfF, emp_fact, rds_fact, frm_fact, tab_fact] at F); try simp -dsimp only [↓vcA, vcB, vcD, ↓pureT_lenS, ↓iteT, ↓iteF, cond_true, cond_false, eq_self, argE, Env.get, Env.push, ev, evs, evo, retV, Value.cells, Value.oneCell', setR, overR, fillL, zl, places, allSizes, heldC, ne_eq, Int.reduceLE, Int.reduceLT, Int.reduceEq, Int.reduceNe, Int.reduceToNat, Int.cast_ofNat_Int, Nat.reduceMul, Nat.reduceLeDiff, reduceIte, Nat.reduceEqDiff, Nat.reduceAdd, ↓reduceIte, Try.vcT, F, h.cell0, gets, vsD, if_true, if_false, Bool.false_eq_true,  cellsAt]
      exact fin (by rw [hok0]; simp [R8.done, ebad, hbad]) h
    | false =>
    rw [hbad] at hc1
    have et : t = t' := ag2.of_ok (by rw [ebad, hbad])
    by_cases he : (0 : Int) < t'.l.length
    case pos =>
      (try simp only [nfD] at h); have F := h.facts; (try simp only [nfF, emp_fact, rds_fact, frm_fact, tab_fact] at F); try simp -dsimp only [↓vcA, vcB, vcD, ↓pureT_lenS, ↓iteT, ↓iteF, cond_true, cond_false, eq_self, argE, Env.get, Env.push, ev, evs, evo, retV, Value.cells, Value.oneCell', setR, overR, fillL, zl, places, allSizes, heldC, ne_eq, Int.reduceLE, Int.reduceLT, Int.reduceEq, Int.reduceNe, Int.reduceToNat, Int.cast_ofNat_Int, Nat.reduceMul, Nat.reduceLeDiff, reduceIte, Nat.reduceEqDiff, Nat.reduceAdd, ↓reduceIte, Try.vcT, F, h.cell0, gets, vsD, if_true, if_false, Bool.false_eq_true,  ↓pureT_lenT, strK_mk, hsz, decide_eq_false hlt, hc1, hc0, decide_eq_true he, Rq.cells]
      refine Sep.put 0 h rfl ?_
      clear h F
      intro w8 h
      (try simp only [nfD] at h); have F := h.facts; (try simp only [nfF, emp_fact, rds_fact, frm_fact, tab_fact] at F); try simp -dsimp only [↓vcA, vcB, vcD, ↓pureT_lenS, ↓iteT, ↓iteF, cond_true, cond_false, eq_self, argE, Env.get, Env.push, ev, evs, evo, retV, Value.cells, Value.oneCell', setR, overR, fillL, zl, places, allSizes, heldC, ne_eq, Int.reduceLE, Int.reduceLT, Int.reduceEq, Int.reduceNe, Int.reduceToNat, Int.cast_ofNat_Int, Nat.reduceMul, Nat.reduceLeDiff, reduceIte, Nat.reduceEqDiff, Nat.reduceAdd, ↓reduceIte, Try.vcT, F, h.cell0, gets, vsD, if_true, if_false, Bool.false_eq_true,  cellsAt]
      refine fin ?_ h
      rw [hok0, et]
      cases hl : t'.l with
      | nil => rw [hl] at he; simp at he
      | cons x xs => simp [R8.done, hl]
    case neg =>
      have ok : askROk b = true := by
        rw [hok0, et]
        cases hl : t'.l with
        | nil => simp [R8.done, hl, hbad]
        | cons x xs => rw [hl] at he; simp at he
      (try simp only [nfD] at h); have F := h.facts; (try simp only [nfF, emp_fact, rds_fact, frm_fact, tab_fact] at F); try simp -dsimp only [↓vcA, vcB, vcD, ↓pureT_lenS, ↓iteT, ↓iteF, cond_true, cond_false, eq_self, argE, Env.get, Env.push, ev, evs, evo, retV, Value.cells, Value.oneCell', setR, overR, fillL, zl, places, allSizes, heldC, ne_eq, Int.reduceLE, Int.reduceLT, Int.reduceEq, Int.reduceNe, Int.reduceToNat, Int.cast_ofNat_Int, Nat.reduceMul, Nat.reduceLeDiff, reduceIte, Nat.reduceEqDiff, Nat.reduceAdd, ↓reduceIte, Try.vcT, F, h.cell0, gets, vsD, if_true, if_false, Bool.false_eq_true,  ↓pureT_lenT, strK_mk, hsz, decide_eq_false hlt, hc1, hc0, decide_eq_false he, cellsAt, Rq.cells]
      refine Sep.put 0 h rfl ?_
      clear h F
      intro w8 h
      (try simp only [nfD] at h); have F := h.facts; (try simp only [nfF, emp_fact, rds_fact, frm_fact, tab_fact] at F); try simp -dsimp only [↓vcA, vcB, vcD, ↓pureT_lenS, ↓iteT, ↓iteF, cond_true, cond_false, eq_self, argE, Env.get, Env.push, ev, evs, evo, retV, Value.cells, Value.oneCell', setR, overR, fillL, zl, places, allSizes, heldC, ne_eq, Int.reduceLE, Int.reduceLT, Int.reduceEq, Int.reduceNe, Int.reduceToNat, Int.cast_ofNat_Int, Nat.reduceMul, Nat.reduceLeDiff, reduceIte, Nat.reduceEqDiff, Nat.reduceAdd, ↓reduceIte, Try.vcT, F, h.cell0, gets, vsD, if_true, if_false, Bool.false_eq_true,  cellsAt]
      refine ⟨?_, h.done⟩
      rw [hv0, ok]; rfl
  have hil : i < L.length := by omega
  have ei : IntKind.i64.wrap ((i : Int) + 1) = ((i + 1 : Nat) : Int) := by rw [i64w _ (by omega) (by omega)]; omega
  have h0i : (0 : Int) ≤ i := by omega
  have hfold : (L.take (i + 1)).foldl getR A0 = getR ((L.take i).foldl getR A0) L[i] := by
    rw [List.take_succ_eq_append_getElem hil, List.foldl_append]; rfl
  generalize (L.take i).foldl getR A0 = A at *
  have hci := hlet _ (List.getElem_mem hil)
  (try simp only [nfD] at h); have F := h.facts; (try simp only [nfF, emp_fact, rds_fact, frm_fact, tab_fact] at F); try simp -dsimp only [↓vcA, vcB, vcD, ↓pureT_lenS, ↓iteT, ↓iteF, cond_true, cond_false, eq_self, argE, Env.get, Env.push, ev, evs, evo, retV, Value.cells, Value.oneCell', setR, overR, fillL, zl, places, allSizes, heldC, ne_eq, Int.reduceLE, Int.reduceLT, Int.reduceEq, Int.reduceNe, Int.reduceToNat, Int.cast_ofNat_Int, Nat.reduceMul, Nat.reduceLeDiff, reduceIte, Nat.reduceEqDiff, Nat.reduceAdd, ↓reduceIte, Try.vcT, F, h.cell0, gets, vsD, if_true, if_false, Bool.false_eq_true,  ↓pureT_lenT, strK_mk, hsz, decide_eq_true hlt]
  refine Sep.letter h hil h256 ?_
  generalize L[i] = c at *
  simp only [letters, List.mem_cons, List.not_mem_nil, or_false] at hci
  obtain ⟨⟨y0, y1, y2, y3, y4, y5, y6, y7, y8, y9, y10, y11, y12, y13, y14, y15, y16, y17, y18, y19, y20, y21, y22, y23, y24, y25⟩, t⟩ := A
  dsimp only [Rq.cells] at h
  have fin2 : ∀ {w' : World} {A' : Rq × R8}, (L.take (i + 1)).foldl getR A0 = A' → Sep w (fun _ => False) [blk b1 111 [.int .i64 0, .int .i64 0, .int .i64 0, .int .i64 0, .int .i64 0, .int .i64 0, .int .i64 0, .int .i64 0, .int .i64 0, .int .i64 0, .int .i64 0, .int .i64 0, .int .i64 0, .int .i64 0, .int .i64 0, .int .i64 0, .int .i64 0, .int .i64 0, .int .i64 0, .int .i64 0, .int .i64 0, .int .i64 0, .int .i64 0, .int .i64 0, .int .i64 0, .int .i64 0], rdr 85 p A'.2 Z, blk b5 111 A'.1.cells] w' →
      Sep w (fun _ => False) [blk b1 111 [.int .i64 0, .int .i64 0, .int .i64 0, .int .i64 0, .int .i64 0, .int .i64 0, .int .i64 0, .int .i64 0, .int .i64 0, .int .i64 0, .int .i64 0, .int .i64 0, .int .i64 0, .int .i64 0, .int .i64 0, .int .i64 0, .int .i64 0, .int .i64 0, .int .i64 0, .int .i64 0, .int .i64 0, .int .i64 0, .int .i64 0, .int .i64 0, .int .i64 0, .int .i64 0], rdr 85 p ((L.take (i + 1)).foldl getR A0).2 Z, blk b5 111 ((L.take (i + 1)).foldl getR A0).1.cells] w' := fun he h => by
    rw [he]; exact h
  rcases hci with rfl | rfl | rfl | rfl | rfl | rfl | rfl | rfl | rfl | rfl | rfl | rfl | rfl | rfl | rfl
  · (try simp only [nfD] at h); have F := h.facts; (try simp only [nfF, emp_fact, rds_fact, frm_fact, tab_fact] at F); try simp -dsimp only [↓vcA, vcB, vcD, ↓pureT_lenS, ↓iteT, ↓iteF, cond_true, cond_false, eq_self, argE, Env.get, Env.push, ev, evs, evo, retV, Value.cells, Value.oneCell', setR, overR, fillL, zl, places, allSizes, heldC, ne_eq, Int.reduceLE, Int.reduceLT, Int.reduceEq, Int.reduceNe, Int.reduceToNat, Int.cast_ofNat_Int, Nat.reduceMul, Nat.reduceLeDiff, reduceIte, Nat.reduceEqDiff, Nat.reduceAdd, ↓reduceIte, Try.vcT, F, h.cell0, gets, vsD, if_true, if_false, Bool.false_eq_true,  cellsAt, decide_true, decide_false, Bool.not_true, Bool.not_false, beq_self_eq_true]
    repeat ((first | refine Sep.new h ?_ | refine Sep.put 0 h rfl ?_ | refine Sep.put 1 h rfl ?_ | refine Sep.put 2 h rfl ?_ | refine Sep.put 3 h rfl ?_ | refine Sep.put 4 h rfl ?_ | refine Sep.put 5 h rfl ?_ | refine Sep.rrNum 1 h rfl ?_ | refine Sep.rrPoint 1 h rfl ?_ | refine Sep.rrTri 1 h rfl ?_); (clear F; (try clear h); intros; rename_i h; (try simp only [nfD] at h); have F := h.facts; (try simp only [nfF, emp_fact, rds_fact, frm_fact, tab_fact] at F); try simp -dsimp only [↓vcA, vcB, vcD, ↓pureT_lenS, ↓iteT, ↓iteF, cond_true, cond_false, eq_self, argE, Env.get, Env.push, ev, evs, evo, retV, Value.cells, Value.oneCell', setR, overR, fillL, zl, places, allSizes, heldC, ne_eq, Int.reduceLE, Int.reduceLT, Int.reduceEq, Int.reduceNe, Int.reduceToNat, Int.cast_ofNat_Int, Nat.reduceMul, Nat.reduceLeDiff, reduceIte, Nat.reduceEqDiff, Nat.reduceAdd, ↓reduceIte, Try.vcT, F, h.cell0, gets, vsD, if_true, if_false, Bool.false_eq_true, cellsAt, decide_true, decide_false, Bool.not_true, Bool.not_false, beq_self_eq_true, ei, T3.cells]))
    refine ⟨_, ?_, i + 1, by omega, rfl, rfl, fin2 hfold h⟩
    omega
  · (try simp only [nfD] at h); have F := h.facts; (try simp only [nfF, emp_fact, rds_fact, frm_fact, tab_fact] at F); try simp -dsimp only [↓vcA, vcB, vcD, ↓pureT_lenS, ↓iteT, ↓iteF, cond_true, cond_false, eq_self, argE, Env.get, Env.push, ev, evs, evo, retV, Value.cells, Value.oneCell', setR, overR, fillL, zl, places, allSizes, heldC, ne_eq, Int.reduceLE, Int.reduceLT, Int.reduceEq, Int.reduceNe, Int.reduceToNat, Int.cast_ofNat_Int, Nat.reduceMul, Nat.reduceLeDiff, reduceIte, Nat.reduceEqDiff, Nat.reduceAdd, ↓reduceIte, Try.vcT, F, h.cell0, gets, vsD, if_true, if_false, Bool.false_eq_true,  cellsAt, decide_true, decide_false, Bool.not_true, Bool.not_false, beq_self_eq_true]
    repeat ((first | refine Sep.new h ?_ | refine Sep.put 0 h rfl ?_ | refine Sep.put 1 h rfl ?_ | refine Sep.put 2 h rfl ?_ | refine Sep.put 3 h rfl ?_ | refine Sep.put 4 h rfl ?_ | refine Sep.put 5 h rfl ?_ | refine Sep.rrNum 1 h rfl ?_ | refine Sep.rrPoint 1 h rfl ?_ | refine Sep.rrTri 1 h rfl ?_); (clear F; (try clear h); intros; rename_i h; (try simp only [nfD] at h); have F := h.facts; (try simp only [nfF, emp_fact, rds_fact, frm_fact, tab_fact] at F); try simp -dsimp only [↓vcA, vcB, vcD, ↓pureT_lenS, ↓iteT, ↓iteF, cond_true, cond_false, eq_self, argE, Env.get, Env.push, ev, evs, evo, retV, Value.cells, Value.oneCell', setR, overR, fillL, zl, places, allSizes, heldC, ne_eq, Int.reduceLE, Int.reduceLT, Int.reduceEq, Int.reduceNe, Int.reduceToNat, Int.cast_ofNat_Int, Nat.reduceMul, Nat.reduceLeDiff, reduceIte, Nat.reduceEqDiff, Nat.reduceAdd, ↓reduceIte, Try.vcT, F, h.cell0, gets, vsD, if_true, if_false, Bool.false_eq_true, cellsAt, decide_true, decide_false, Bool.not_true, Bool.not_false, beq_self_eq_true, ei, T3.cells]))
    refine ⟨_, ?_, i + 1, by omega, rfl, rfl, fin2 hfold h⟩
    omega
  · (try simp only [nfD] at h); have F := h.facts; (try simp only [nfF, emp_fact, rds_fact, frm_fact, tab_fact] at F); try simp -dsimp only [↓vcA, vcB, vcD, ↓pureT_lenS, ↓iteT, ↓iteF, cond_true, cond_false, eq_self, argE, Env.get, Env.push, ev, evs, evo, retV, Value.cells, Value.oneCell', setR, overR, fillL, zl, places, allSizes, heldC, ne_eq, Int.reduceLE, Int.reduceLT, Int.reduceEq, Int.reduceNe, Int.reduceToNat, Int.cast_ofNat_Int, Nat.reduceMul, Nat.reduceLeDiff, reduceIte, Nat.reduceEqDiff, Nat.reduceAdd, ↓reduceIte, Try.vcT, F, h.cell0, gets, vsD, if_true, if_false, Bool.false_eq_true,  cellsAt, decide_true, decide_false, Bool.not_true, Bool.not_false, beq_self_eq_true]
    repeat ((first | refine Sep.new h ?_ | refine Sep.put 0 h rfl ?_ | refine Sep.put 1 h rfl ?_ | refine Sep.put 2 h rfl ?_ | refine Sep.put 3 h rfl ?_ | refine Sep.put 4 h rfl ?_ | refine Sep.put 5 h rfl ?_ | refine Sep.rrNum 1 h rfl ?_ | refine Sep.rrPoint 1 h rfl ?_ | refine Sep.rrTri 1 h rfl ?_); (clear F; (try clear h); intros; rename_i h; (try simp only [nfD] at h); have F := h.facts; (try simp only [nfF, emp_fact, rds_fact, frm_fact, tab_fact] at F); try simp -dsimp only [↓vcA, vcB, vcD, ↓pureT_lenS, ↓iteT, ↓iteF, cond_true, cond_false, eq_self, argE, Env.get, Env.push, ev, evs, evo, retV, Value.cells, Value.oneCell', setR, overR, fillL, zl, places, allSizes, heldC, ne_eq, Int.reduceLE, Int.reduceLT, Int.reduceEq, Int.reduceNe, Int.reduceToNat, Int.cast_ofNat_Int, Nat.reduceMul, Nat.reduceLeDiff, reduceIte, Nat.reduceEqDiff, Nat.reduceAdd, ↓reduceIte, Try.vcT, F, h.cell0, gets, vsD, if_true, if_false, Bool.false_eq_true, cellsAt, decide_true, decide_false, Bool.not_true, Bool.not_false, beq_self_eq_true, ei, T3.cells]))
    refine ⟨_, ?_, i + 1, by omega, rfl, rfl, fin2 hfold h⟩
    omega
  · (try simp only [nfD] at h); have F := h.facts; (try simp only [nfF, emp_fact, rds_fact, frm_fact, tab_fact] at F); try simp -dsimp only [↓vcA, vcB, vcD, ↓pureT_lenS, ↓iteT, ↓iteF, cond_true, cond_false, eq_self, argE, Env.get, Env.push, ev, evs, evo, retV, Value.cells, Value.oneCell', setR, overR, fillL, zl, places, allSizes, heldC, ne_eq, Int.reduceLE, Int.reduceLT, Int.reduceEq, Int.reduceNe, Int.reduceToNat, Int.cast_ofNat_Int, Nat.reduceMul, Nat.reduceLeDiff, reduceIte, Nat.reduceEqDiff, Nat.reduceAdd, ↓reduceIte, Try.vcT, F, h.cell0, gets, vsD, if_true, if_false, Bool.false_eq_true,  cellsAt, decide_true, decide_false, Bool.not_true, Bool.not_false, beq_self_eq_true]
    repeat ((first | refine Sep.new h ?_ | refine Sep.put 0 h rfl ?_ | refine Sep.put 1 h rfl ?_ | refine Sep.put 2 h rfl ?_ | refine Sep.put 3 h rfl ?_ | refine Sep.put 4 h rfl ?_ | refine Sep.put 5 h rfl ?_ | refine Sep.rrNum 1 h rfl ?_ | refine Sep.rrPoint 1 h rfl ?_ | refine Sep.rrTri 1 h rfl ?_); (clear F; (try clear h); intros; rename_i h; (try simp only [nfD] at h); have F := h.facts; (try simp only [nfF, emp_fact, rds_fact, frm_fact, tab_fact] at F); try simp -dsimp only [↓vcA, vcB, vcD, ↓pureT_lenS, ↓iteT, ↓iteF, cond_true, cond_false, eq_self, argE, Env.get, Env.push, ev, evs, evo, retV, Value.cells, Value.oneCell', setR, overR, fillL, zl, places, allSizes, heldC, ne_eq, Int.reduceLE, Int.reduceLT, Int.reduceEq, Int.reduceNe, Int.reduceToNat, Int.cast_ofNat_Int, Nat.reduceMul, Nat.reduceLeDiff, reduceIte, Nat.reduceEqDiff, Nat.reduceAdd, ↓reduceIte, Try.vcT, F, h.cell0, gets, vsD, if_true, if_false, Bool.false_eq_true, cellsAt, decide_true, decide_false, Bool.not_true, Bool.not_false, beq_self_eq_true, ei, T3.cells]))
    refine ⟨_, ?_, i + 1, by omega, rfl, rfl, fin2 hfold h⟩
    omega
  · (try simp only [nfD] at h); have F := h.facts; (try simp only [nfF, emp_fact, rds_fact, frm_fact, tab_fact] at F); try simp -dsimp only [↓vcA, vcB, vcD, ↓pureT_lenS, ↓iteT, ↓iteF, cond_true, cond_false, eq_self, argE, Env.get, Env.push, ev, evs, evo, retV, Value.cells, Value.oneCell', setR, overR, fillL, zl, places, allSizes, heldC, ne_eq, Int.reduceLE, Int.reduceLT, Int.reduceEq, Int.reduceNe, Int.reduceToNat, Int.cast_ofNat_Int, Nat.reduceMul, Nat.reduceLeDiff, reduceIte, Nat.reduceEqDiff, Nat.reduceAdd, ↓reduceIte, Try.vcT, F, h.cell0, gets, vsD, if_true, if_false, Bool.false_eq_true,  cellsAt, decide_true, decide_false, Bool.not_true, Bool.not_false, beq_self_eq_true]
    repeat ((first | refine Sep.new h ?_ | refine Sep.put 0 h rfl ?_ | refine Sep.put 1 h rfl ?_ | refine Sep.put 2 h rfl ?_ | refine Sep.put 3 h rfl ?_ | refine Sep.put 4 h rfl ?_ | refine Sep.put 5 h rfl ?_ | refine Sep.rrNum 1 h rfl ?_ | refine Sep.rrPoint 1 h rfl ?_ | refine Sep.rrTri 1 h rfl ?_); (clear F; (try clear h); intros; rename_i h; (try simp only [nfD] at h); have F := h.facts; (try simp only [nfF, emp_fact, rds_fact, frm_fact, tab_fact] at F); try simp -dsimp only [↓vcA, vcB, vcD, ↓pureT_lenS, ↓iteT, ↓iteF, cond_true, cond_false, eq_self, argE, Env.get, Env.push, ev, evs, evo, retV, Value.cells, Value.oneCell', setR, overR, fillL, zl, places, allSizes, heldC, ne_eq, Int.reduceLE, Int.reduceLT, Int.reduceEq, Int.reduceNe, Int.reduceToNat, Int.cast_ofNat_Int, Nat.reduceMul, Nat.reduceLeDiff, reduceIte, Nat.reduceEqDiff, Nat.reduceAdd, ↓reduceIte, Try.vcT, F, h.cell0, gets, vsD, if_true, if_false, Bool.false_eq_true, cellsAt, decide_true, decide_false, Bool.not_true, Bool.not_false, beq_self_eq_true, ei, T3.cells]))
    refine ⟨_, ?_, i + 1, by omega, rfl, rfl, fin2 hfold h⟩
    omega
  · (try simp only [nfD] at h); have F := h.facts; (try simp only [nfF, emp_fact, rds_fact, frm_fact, tab_fact] at F); try simp -dsimp only [↓vcA, vcB, vcD, ↓pureT_lenS, ↓iteT, ↓iteF, cond_true, cond_false, eq_self, argE, Env.get, Env.push, ev, evs, evo, retV, Value.cells, Value.oneCell', setR, overR, fillL, zl, places, allSizes, heldC, ne_eq, Int.reduceLE, Int.reduceLT, Int.reduceEq, Int.reduceNe, Int.reduceToNat, Int.cast_ofNat_Int, Nat.reduceMul, Nat.reduceLeDiff, reduceIte, Nat.reduceEqDiff, Nat.reduceAdd, ↓reduceIte, Try.vcT, F, h.cell0, gets, vsD, if_true, if_false, Bool.false_eq_true,  cellsAt, decide_true, decide_false, Bool.not_true, Bool.not_false, beq_self_eq_true]
    repeat ((first | refine Sep.new h ?_ | refine Sep.put 0 h rfl ?_ | refine Sep.put 1 h rfl ?_ | refine Sep.put 2 h rfl ?_ | refine Sep.put 3 h rfl ?_ | refine Sep.put 4 h rfl ?_ | refine Sep.put 5 h rfl ?_ | refine Sep.rrNum 1 h rfl ?_ | refine Sep.rrPoint 1 h rfl ?_ | refine Sep.rrTri 1 h rfl ?_); (clear F; (try clear h); intros; rename_i h; (try simp only [nfD] at h); have F := h.facts; (try simp only [nfF, emp_fact, rds_fact, frm_fact, tab_fact] at F); try simp -dsimp only [↓vcA, vcB, vcD, ↓pureT_lenS, ↓iteT, ↓iteF, cond_true, cond_false, eq_self, argE, Env.get, Env.push, ev, evs, evo, retV, Value.cells, Value.oneCell', setR, overR, fillL, zl, places, allSizes, heldC, ne_eq, Int.reduceLE, Int.reduceLT, Int.reduceEq, Int.reduceNe, Int.reduceToNat, Int.cast_ofNat_Int, Nat.reduceMul, Nat.reduceLeDiff, reduceIte, Nat.reduceEqDiff, Nat.reduceAdd, ↓reduceIte, Try.vcT, F, h.cell0, gets, vsD, if_true, if_false, Bool.false_eq_true, cellsAt, decide_true, decide_false, Bool.not_true, Bool.not_false, beq_self_eq_true, ei, T3.cells]))
    refine ⟨_, ?_, i + 1, by omega, rfl, rfl, fin2 hfold h⟩
    omega
  · (try simp only [nfD] at h); have F := h.facts; (try simp only [nfF, emp_fact, rds_fact, frm_fact, tab_fact] at F); try simp -dsimp only [↓vcA, vcB, vcD, ↓pureT_lenS, ↓iteT, ↓iteF, cond_true, cond_false, eq_self, argE, Env.get, Env.push, ev, evs, evo, retV, Value.cells, Value.oneCell', setR, overR, fillL, zl, places, allSizes, heldC, ne_eq, Int.reduceLE, Int.reduceLT, Int.reduceEq, Int.reduceNe, Int.reduceToNat, Int.cast_ofNat_Int, Nat.reduceMul, Nat.reduceLeDiff, reduceIte, Nat.reduceEqDiff, Nat.reduceAdd, ↓reduceIte, Try.vcT, F, h.cell0, gets, vsD, if_true, if_false, Bool.false_eq_true,  cellsAt, decide_true, decide_false, Bool.not_true, Bool.not_false, beq_self_eq_true]
    repeat ((first | refine Sep.new h ?_ | refine Sep.put 0 h rfl ?_ | refine Sep.put 1 h rfl ?_ | refine Sep.put 2 h rfl ?_ | refine Sep.put 3 h rfl ?_ | refine Sep.put 4 h rfl ?_ | refine Sep.put 5 h rfl ?_ | refine Sep.rrNum 1 h rfl ?_ | refine Sep.rrPoint 1 h rfl ?_ | refine Sep.rrTri 1 h rfl ?_); (clear F; (try clear h); intros; rename_i h; (try simp only [nfD] at h); have F := h.facts; (try simp only [nfF, emp_fact, rds_fact, frm_fact, tab_fact] at F); try simp -dsimp only [↓vcA, vcB, vcD, ↓pureT_lenS, ↓iteT, ↓iteF, cond_true, cond_false, eq_self, argE, Env.get, Env.push, ev, evs, evo, retV, Value.cells, Value.oneCell', setR, overR, fillL, zl, places, allSizes, heldC, ne_eq, Int.reduceLE, Int.reduceLT, Int.reduceEq, Int.reduceNe, Int.reduceToNat, Int.cast_ofNat_Int, Nat.reduceMul, Nat.reduceLeDiff, reduceIte, Nat.reduceEqDiff, Nat.reduceAdd, ↓reduceIte, Try.vcT, F, h.cell0, gets, vsD, if_true, if_false, Bool.false_eq_true, cellsAt, decide_true, decide_false, Bool.not_true, Bool.not_false, beq_self_eq_true, ei, T3.cells]))
    refine ⟨_, ?_, i + 1, by omega, rfl, rfl, fin2 hfold h⟩
    omega
  · (try simp only [nfD] at h); have F := h.facts; (try simp only [nfF, emp_fact, rds_fact, frm_fact, tab_fact] at F); try simp -dsimp only [↓vcA, vcB, vcD, ↓pureT_lenS, ↓iteT, ↓iteF, cond_true, cond_false, eq_self, argE, Env.get, Env.push, ev, evs, evo, retV, Value.cells, Value.oneCell', setR, overR, fillL, zl, places, allSizes, heldC, ne_eq, Int.reduceLE, Int.reduceLT, Int.reduceEq, Int.reduceNe, Int.reduceToNat, Int.cast_ofNat_Int, Nat.reduceMul, Nat.reduceLeDiff, reduceIte, Nat.reduceEqDiff, Nat.reduceAdd, ↓reduceIte, Try.vcT, F, h.cell0, gets, vsD, if_true, if_false, Bool.false_eq_true,  cellsAt, decide_true, decide_false, Bool.not_true, Bool.not_false, beq_self_eq_true]
    repeat ((first | refine Sep.new h ?_ | refine Sep.put 0 h rfl ?_ | refine Sep.put 1 h rfl ?_ | refine Sep.put 2 h rfl ?_ | refine Sep.put 3 h rfl ?_ | refine Sep.put 4 h rfl ?_ | refine Sep.put 5 h rfl ?_ | refine Sep.rrNum 1 h rfl ?_ | refine Sep.rrPoint 1 h rfl ?_ | refine Sep.rrTri 1 h rfl ?_); (clear F; (try clear h); intros; rename_i h; (try simp only [nfD] at h); have F := h.facts; (try simp only [nfF, emp_fact, rds_fact, frm_fact, tab_fact] at F); try simp -dsimp only [↓vcA, vcB, vcD, ↓pureT_lenS, ↓iteT, ↓iteF, cond_true, cond_false, eq_self, argE, Env.get, Env.push, ev, evs, evo, retV, Value.cells, Value.oneCell', setR, overR, fillL, zl, places, allSizes, heldC, ne_eq, Int.reduceLE, Int.reduceLT, Int.reduceEq, Int.reduceNe, Int.reduceToNat, Int.cast_ofNat_Int, Nat.reduceMul, Nat.reduceLeDiff, reduceIte, Nat.reduceEqDiff, Nat.reduceAdd, ↓reduceIte, Try.vcT, F, h.cell0, gets, vsD, if_true, if_false, Bool.false_eq_true, cellsAt, decide_true, decide_false, Bool.not_true, Bool.not_false, beq_self_eq_true, ei, T3.cells]))
    refine ⟨_, ?_, i + 1, by omega, rfl, rfl, fin2 hfold h⟩
    omega
  · (try simp only [nfD] at h); have F := h.facts; (try simp only [nfF, emp_fact, rds_fact, frm_fact, tab_fact] at F); try simp -dsimp only [↓vcA, vcB, vcD, ↓pureT_lenS, ↓iteT, ↓iteF, cond_true, cond_false, eq_self, argE, Env.get, Env.push, ev, evs, evo, retV, Value.cells, Value.oneCell', setR, overR, fillL, zl, places, allSizes, heldC, ne_eq, Int.reduceLE, Int.reduceLT, Int.reduceEq, Int.reduceNe, Int.reduceToNat, Int.cast_ofNat_Int, Nat.reduceMul, Nat.reduceLeDiff, reduceIte, Nat.reduceEqDiff, Nat.reduceAdd, ↓reduceIte, Try.vcT, F, h.cell0, gets, vsD, if_true, if_false, Bool.false_eq_true,  cellsAt, decide_true, decide_false, Bool.not_true, Bool.not_false, beq_self_eq_true]
    repeat ((first | refine Sep.new h ?_ | refine Sep.put 0 h rfl ?_ | refine Sep.put 1 h rfl ?_ | refine Sep.put 2 h rfl ?_ | refine Sep.put 3 h rfl ?_ | refine Sep.put 4 h rfl ?_ | refine Sep.put 5 h rfl ?_ | refine Sep.rrNum 1 h rfl ?_ | refine Sep.rrPoint 1 h rfl ?_ | refine Sep.rrTri 1 h rfl ?_); (clear F; (try clear h); intros; rename_i h; (try simp only [nfD] at h); have F := h.facts; (try simp only [nfF, emp_fact, rds_fact, frm_fact, tab_fact] at F); try simp -dsimp only [↓vcA, vcB, vcD, ↓pureT_lenS, ↓iteT, ↓iteF, cond_true, cond_false, eq_self, argE, Env.get, Env.push, ev, evs, evo, retV, Value.cells, Value.oneCell', setR, overR, fillL, zl, places, allSizes, heldC, ne_eq, Int.reduceLE, Int.reduceLT, Int.reduceEq, Int.reduceNe, Int.reduceToNat, Int.cast_ofNat_Int, Nat.reduceMul, Nat.reduceLeDiff, reduceIte, Nat.reduceEqDiff, Nat.reduceAdd, ↓reduceIte, Try.vcT, F, h.cell0, gets, vsD, if_true, if_false, Bool.false_eq_true, cellsAt, decide_true, decide_false, Bool.not_true, Bool.not_false, beq_self_eq_true, ei, T3.cells]))
    refine ⟨_, ?_, i + 1, by omega, rfl, rfl, fin2 hfold h⟩
    omega
  · (try simp only [nfD] at h); have F := h.facts; (try simp only [nfF, emp_fact, rds_fact, frm_fact, tab_fact] at F); try simp -dsimp only [↓vcA, vcB, vcD, ↓pureT_lenS, ↓iteT, ↓iteF, cond_true, cond_false, eq_self, argE, Env.get, Env.push, ev, evs, evo, retV, Value.cells, Value.oneCell', setR, overR, fillL, zl, places, allSizes, heldC, ne_eq, Int.reduceLE, Int.reduceLT, Int.reduceEq, Int.reduceNe, Int.reduceToNat, Int.cast_ofNat_Int, Nat.reduceMul, Nat.reduceLeDiff, reduceIte, Nat.reduceEqDiff, Nat.reduceAdd, ↓reduceIte, Try.vcT, F, h.cell0, gets, vsD, if_true, if_false, Bool.false_eq_true,  cellsAt, decide_true, decide_false, Bool.not_true, Bool.not_false, beq_self_eq_true]
    repeat ((first | refine Sep.new h ?_ | refine Sep.put 0 h rfl ?_ | refine Sep.put 1 h rfl ?_ | refine Sep.put 2 h rfl ?_ | refine Sep.put 3 h rfl ?_ | refine Sep.put 4 h rfl ?_ | refine Sep.put 5 h rfl ?_ | refine Sep.rrNum 1 h rfl ?_ | refine Sep.rrPoint 1 h rfl ?_ | refine Sep.rrTri 1 h rfl ?_); (clear F; (try clear h); intros; rename_i h; (try simp only [nfD] at h); have F := h.facts; (try simp only [nfF, emp_fact, rds_fact, frm_fact, tab_fact] at F); try simp -dsimp only [↓vcA, vcB, vcD, ↓pureT_lenS, ↓iteT, ↓iteF, cond_true, cond_false, eq_self, argE, Env.get, Env.push, ev, evs, evo, retV, Value.cells, Value.oneCell', setR, overR, fillL, zl, places, allSizes, heldC, ne_eq, Int.reduceLE, Int.reduceLT, Int.reduceEq, Int.reduceNe, Int.reduceToNat, Int.cast_ofNat_Int, Nat.reduceMul, Nat.reduceLeDiff, reduceIte, Nat.reduceEqDiff, Nat.reduceAdd, ↓reduceIte, Try.vcT, F, h.cell0, gets, vsD, if_true, if_false, Bool.false_eq_true, cellsAt, decide_true, decide_false, Bool.not_true, Bool.not_false, beq_self_eq_true, ei, T3.cells]))
    refine ⟨_, ?_, i + 1, by omega, rfl, rfl, fin2 hfold h⟩
    omega
  · (try simp only [nfD] at h); have F := h.facts; (try simp only [nfF, emp_fact, rds_fact, frm_fact, tab_fact] at F); try simp -dsimp only [↓vcA, vcB, vcD, ↓pureT_lenS, ↓iteT, ↓iteF, cond_true, cond_false, eq_self, argE, Env.get, Env.push, ev, evs, evo, retV, Value.cells, Value.oneCell', setR, overR, fillL, zl, places, allSizes, heldC, ne_eq, Int.reduceLE, Int.reduceLT, Int.reduceEq, Int.reduceNe, Int.reduceToNat, Int.cast_ofNat_Int, Nat.reduceMul, Nat.reduceLeDiff, reduceIte, Nat.reduceEqDiff, Nat.reduceAdd, ↓reduceIte, Try.vcT, F, h.cell0, gets, vsD, if_true, if_false, Bool.false_eq_true,  cellsAt, decide_true, decide_false, Bool.not_true, Bool.not_false, beq_self_eq_true]
    repeat ((first | refine Sep.new h ?_ | refine Sep.put 0 h rfl ?_ | refine Sep.put 1 h rfl ?_ | refine Sep.put 2 h rfl ?_ | refine Sep.put 3 h rfl ?_ | refine Sep.put 4 h rfl ?_ | refine Sep.put 5 h rfl ?_ | refine Sep.rrNum 1 h rfl ?_ | refine Sep.rrPoint 1 h rfl ?_ | refine Sep.rrTri 1 h rfl ?_); (clear F; (try clear h); intros; rename_i h; (try simp only [nfD] at h); have F := h.facts; (try simp only [nfF, emp_fact, rds_fact, frm_fact, tab_fact] at F); try simp -dsimp only [↓vcA, vcB, vcD, ↓pureT_lenS, ↓iteT, ↓iteF, cond_true, cond_false, eq_self, argE, Env.get, Env.push, ev, evs, evo, retV, Value.cells, Value.oneCell', setR, overR, fillL, zl, places, allSizes, heldC, ne_eq, Int.reduceLE, Int.reduceLT, Int.reduceEq, Int.reduceNe, Int.reduceToNat, Int.cast_ofNat_Int, Nat.reduceMul, Nat.reduceLeDiff, reduceIte, Nat.reduceEqDiff, Nat.reduceAdd, ↓reduceIte, Try.vcT, F, h.cell0, gets, vsD, if_true, if_false, Bool.false_eq_true, cellsAt, decide_true, decide_false, Bool.not_true, Bool.not_false, beq_self_eq_true, ei, T3.cells]))
    refine ⟨_, ?_, i + 1, by omega, rfl, rfl, fin2 hfold h⟩
    omega
  · (try simp only [nfD] at h); have F := h.facts; (try simp only [nfF, emp_fact, rds_fact, frm_fact, tab_fact] at F); try simp -dsimp only [↓vcA, vcB, vcD, ↓pureT_lenS, ↓iteT, ↓iteF, cond_true, cond_false, eq_self, argE, Env.get, Env.push, ev, evs, evo, retV, Value.cells, Value.oneCell', setR, overR, fillL, zl, places, allSizes, heldC, ne_eq, Int.reduceLE, Int.reduceLT, Int.reduceEq, Int.reduceNe, Int.reduceToNat, Int.cast_ofNat_Int, Nat.reduceMul, Nat.reduceLeDiff, reduceIte, Nat.reduceEqDiff, Nat.reduceAdd, ↓reduceIte, Try.vcT, F, h.cell0, gets, vsD, if_true, if_false, Bool.false_eq_true,  cellsAt, decide_true, decide_false, Bool.not_true, Bool.not_false, beq_self_eq_true]
    repeat ((first | refine Sep.new h ?_ | refine Sep.put 0 h rfl ?_ | refine Sep.put 1 h rfl ?_ | refine Sep.put 2 h rfl ?_ | refine Sep.put 3 h rfl ?_ | refine Sep.put 4 h rfl ?_ | refine Sep.put 5 h rfl ?_ | refine Sep.rrNum 1 h rfl ?_ | refine Sep.rrPoint 1 h rfl ?_ | refine Sep.rrTri 1 h rfl ?_); (clear F; (try clear h); intros; rename_i h; (try simp only [nfD] at h); have F := h.facts; (try simp only [nfF, emp_fact, rds_fact, frm_fact, tab_fact] at F); try simp -dsimp only [↓vcA, vcB, vcD, ↓pureT_lenS, ↓iteT, ↓iteF, cond_true, cond_false, eq_self, argE, Env.get, Env.push, ev, evs, evo, retV, Value.cells, Value.oneCell', setR, overR, fillL, zl, places, allSizes, heldC, ne_eq, Int.reduceLE, Int.reduceLT, Int.reduceEq, Int.reduceNe, Int.reduceToNat, Int.cast_ofNat_Int, Nat.reduceMul, Nat.reduceLeDiff, reduceIte, Nat.reduceEqDiff, Nat.reduceAdd, ↓reduceIte, Try.vcT, F, h.cell0, gets, vsD, if_true, if_false, Bool.false_eq_true, cellsAt, decide_true, decide_false, Bool.not_true, Bool.not_false, beq_self_eq_true, ei, T3.cells]))
    refine ⟨_, ?_, i + 1, by omega, rfl, rfl, fin2 hfold h⟩
    omega
  · (try simp only [nfD] at h); have F := h.facts; (try simp only [nfF, emp_fact, rds_fact, frm_fact, tab_fact] at F); try simp -dsimp only [↓vcA, vcB, vcD, ↓pureT_lenS, ↓iteT, ↓iteF, cond_true, cond_false, eq_self, argE, Env.get, Env.push, ev, evs, evo, retV, Value.cells, Value.oneCell', setR, overR, fillL, zl, places, allSizes, heldC, ne_eq, Int.reduceLE, Int.reduceLT, Int.reduceEq, Int.reduceNe, Int.reduceToNat, Int.cast_ofNat_Int, Nat.reduceMul, Nat.reduceLeDiff, reduceIte, Nat.reduceEqDiff, Nat.reduceAdd, ↓reduceIte, Try.vcT, F, h.cell0, gets, vsD, if_true, if_false, Bool.false_eq_true,  cellsAt, decide_true, decide_false, Bool.not_true, Bool.not_false, beq_self_eq_true]
    repeat ((first | refine Sep.new h ?_ | refine Sep.put 0 h rfl ?_ | refine Sep.put 1 h rfl ?_ | refine Sep.put 2 h rfl ?_ | refine Sep.put 3 h rfl ?_ | refine Sep.put 4 h rfl ?_ | refine Sep.put 5 h rfl ?_ | refine Sep.rrNum 1 h rfl ?_ | refine Sep.rrPoint 1 h rfl ?_ | refine Sep.rrTri 1 h rfl ?_); (clear F; (try clear h); intros; rename_i h; (try simp only [nfD] at h); have F := h.facts; (try simp only [nfF, emp_fact, rds_fact, frm_fact, tab_fact] at F); try simp -dsimp only [↓vcA, vcB, vcD, ↓pureT_lenS, ↓iteT, ↓iteF, cond_true, cond_false, eq_self, argE, Env.get, Env.push, ev, evs, evo, retV, Value.cells, Value.oneCell', setR, overR, fillL, zl, places, allSizes, heldC, ne_eq, Int.reduceLE, Int.reduceLT, Int.reduceEq, Int.reduceNe, Int.reduceToNat, Int.cast_ofNat_Int, Nat.reduceMul, Nat.reduceLeDiff, reduceIte, Nat.reduceEqDiff, Nat.reduceAdd, ↓reduceIte, Try.vcT, F, h.cell0, gets, vsD, if_true, if_false, Bool.false_eq_true, cellsAt, decide_true, decide_false, Bool.not_true, Bool.not_false, beq_self_eq_true, ei, T3.cells]))
    refine ⟨_, ?_, i + 1, by omega, rfl, rfl, fin2 hfold h⟩
    omega
  · (try simp only [nfD] at h); have F := h.facts; (try simp only [nfF, emp_fact, rds_fact, frm_fact, tab_fact] at F); try simp -dsimp only [↓vcA, vcB, vcD, ↓pureT_lenS, ↓iteT, ↓iteF, cond_true, cond_false, eq_self, argE, Env.get, Env.push, ev, evs, evo, retV, Value.cells, Value.oneCell', setR, overR, fillL, zl, places, allSizes, heldC, ne_eq, Int.reduceLE, Int.reduceLT, Int.reduceEq, Int.reduceNe, Int.reduceToNat, Int.cast_ofNat_Int, Nat.reduceMul, Nat.reduceLeDiff, reduceIte, Nat.reduceEqDiff, Nat.reduceAdd, ↓reduceIte, Try.vcT, F, h.cell0, gets, vsD, if_true, if_false, Bool.false_eq_true,  cellsAt, decide_true, decide_false, Bool.not_true, Bool.not_false, beq_self_eq_true]
    repeat ((first | refine Sep.new h ?_ | refine Sep.put 0 h rfl ?_ | refine Sep.put 1 h rfl ?_ | refine Sep.put 2 h rfl ?_ | refine Sep.put 3 h rfl ?_ | refine Sep.put 4 h rfl ?_ | refine Sep.put 5 h rfl ?_ | refine Sep.rrNum 1 h rfl ?_ | refine Sep.rrPoint 1 h rfl ?_ | refine Sep.rrTri 1 h rfl ?_); (clear F; (try clear h); intros; rename_i h; (try simp only [nfD] at h); have F := h.facts; (try simp only [nfF, emp_fact, rds_fact, frm_fact, tab_fact] at F); try simp -dsimp only [↓vcA, vcB, vcD, ↓pureT_lenS, ↓iteT, ↓iteF, cond_true, cond_false, eq_self, argE, Env.get, Env.push, ev, evs, evo, retV, Value.cells, Value.oneCell', setR, overR, fillL, zl, places, allSizes, heldC, ne_eq, Int.reduceLE, Int.reduceLT, Int.reduceEq, Int.reduceNe, Int.reduceToNat, Int.cast_ofNat_Int, Nat.reduceMul, Nat.reduceLeDiff, reduceIte, Nat.reduceEqDiff, Nat.reduceAdd, ↓reduceIte, Try.vcT, F, h.cell0, gets, vsD, if_true, if_false, Bool.false_eq_true, cellsAt, decide_true, decide_false, Bool.not_true, Bool.not_false, beq_self_eq_true, ei, T3.cells]))
    refine ⟨_, ?_, i + 1, by omega, rfl, rfl, fin2 hfold h⟩
    omega
  · (try simp only [nfD] at h); have F := h.facts; (try simp only [nfF, emp_fact, rds_fact, frm_fact, tab_fact] at F); try simp -dsimp only [↓vcA, vcB, vcD, ↓pureT_lenS, ↓iteT, ↓iteF, cond_true, cond_false, eq_self, argE, Env.get, Env.push, ev, evs, evo, retV, Value.cells, Value.oneCell', setR, overR, fillL, zl, places, allSizes, heldC, ne_eq, Int.reduceLE, Int.reduceLT, Int.reduceEq, Int.reduceNe, Int.reduceToNat, Int.cast_ofNat_Int, Nat.reduceMul, Nat.reduceLeDiff, reduceIte, Nat.reduceEqDiff, Nat.reduceAdd, ↓reduceIte, Try.vcT, F, h.cell0, gets, vsD, if_true, if_false, Bool.false_eq_true,  cellsAt, decide_true, decide_false, Bool.not_true, Bool.not_false, beq_self_eq_true]
    repeat ((first | refine Sep.new h ?_ | refine Sep.put 0 h rfl ?_ | refine Sep.put 1 h rfl ?_ | refine Sep.put 2 h rfl ?_ | refine Sep.put 3 h rfl ?_ | refine Sep.put 4 h rfl ?_ | refine Sep.put 5 h rfl ?_ | refine Sep.rrNum 1 h rfl ?_ | refine Sep.rrPoint 1 h rfl ?_ | refine Sep.rrTri 1 h rfl ?_); (clear F; (try clear h); intros; rename_i h; (try simp only [nfD] at h); have F := h.facts; (try simp only [nfF, emp_fact, rds_fact, frm_fact, tab_fact] at F); try simp -dsimp only [↓vcA, vcB, vcD, ↓pureT_lenS, ↓iteT, ↓iteF, cond_true, cond_false, eq_self, argE, Env.get, Env.push, ev, evs, evo, retV, Value.cells, Value.oneCell', setR, overR, fillL, zl, places, allSizes, heldC, ne_eq, Int.reduceLE, Int.reduceLT, Int.reduceEq, Int.reduceNe, Int.reduceToNat, Int.cast_ofNat_Int, Nat.reduceMul, Nat.reduceLeDiff, reduceIte, Nat.reduceEqDiff, Nat.reduceAdd, ↓reduceIte, Try.vcT, F, h.cell0, gets, vsD, if_true, if_false, Bool.false_eq_true, cellsAt, decide_true, decide_false, Bool.not_true, Bool.not_false, beq_self_eq_true, ei, T3.cells]))
    refine ⟨_, ?_, i + 1, by omega, rfl, rfl, fin2 hfold h⟩
    omega
end Go.Proofs.Ytnhgjgoglmadnaa
namespace Go.Proofs.Ytnhgjgoglmadnaa
open Go.RowKit
set_option maxRecDepth 100000
set_option linter.unusedSimpArgs false
set_option linter.unusedVariables false
set_option pp.maxSteps 1500
set_option pp.deepTerms.threshold 8


theorem seqPt {d : Nat} (a0 a1 c0 c1 : Int) (w : World) : (Op.equalIn (d + 2) 37 (.agg #[.int .i64 a0, .int .i64 a1]) (.agg #[.int .i64 c0, .int .i64 c1])).run Try.prog w = .ok (decide ([a0, a1] = [c0, c1])) w := by
  have e : decide ([a0, a1] = [c0, c1]) = _ := rfl
  have h := equalIn_sig (P := Try.prog) (d := d + 1) (t := 37) (xs := #[.int .i64 a0, .int .i64 a1]) (ys := #[.int .i64 c0, .int .i64 c1]) (w := w) (by kernel_rfl) (by kernel_rfl) (l := [(true, 3, 0), (true, 3, 1)]) (by kernel_rfl) (eqF_int (show Try.prog.underlying 3 = some (.int .i64) by kernel_rfl) rfl rfl (eqF_int (show Try.prog.underlying 3 = some (.int .i64) by kernel_rfl) rfl rfl eqF_nil))
  rw [h]
  simp [Bool.decide_and, Bool.and_assoc]

theorem seqTri {d : Nat} (a0 a1 a2 a3 a4 a5 c0 c1 c2 c3 c4 c5 : Int) (w : World) : (Op.equalIn (d + 3) 39 (.agg #[.int .i64 a0, .int .i64 a1, .int .i64 a2, .int .i64 a3, .int .i64 a4, .int .i64 a5]) (.agg #[.int .i64 c0, .int .i64 c1, .int .i64 c2, .int .i64 c3, .int .i64 c4, .int .i64 c5])).run Try.prog w = .ok (decide ([a0, a1, a2, a3, a4, a5] = [c0, c1, c2, c3, c4, c5])) w := by
  have e : decide ([a0, a1, a2, a3, a4, a5] = [c0, c1, c2, c3, c4, c5]) = _ := rfl
  have h := equalIn_sig (P := Try.prog) (d := d + 2) (t := 39) (xs := #[.int .i64 a0, .int .i64 a1, .int .i64 a2, .int .i64 a3, .int .i64 a4, .int .i64 a5]) (ys := #[.int .i64 c0, .int .i64 c1, .int .i64 c2, .int .i64 c3, .int .i64 c4, .int .i64 c5]) (w := w) (by kernel_rfl) (by kernel_rfl) (l := [(true, 37, 0), (true, 37, 2), (true, 37, 4)]) (by kernel_rfl) (eqF_agg (n := 2) (by kernel_rfl) (by kernel_rfl) (seqPt (d := d) a0 a1 c0 c1 w) (eqF_agg (n := 2) (by kernel_rfl) (by kernel_rfl) (seqPt (d := d) a2 a3 c2 c3 w) (eqF_agg (n := 2) (by kernel_rfl) (by kernel_rfl) (seqPt (d := d) a4 a5 c4 c5 w) eqF_nil)))
  rw [h]
  simp [Bool.decide_and, Bool.and_assoc]

theorem seqCa {d : Nat} (a0 a1 a2 a3 a4 a5 a6 a7 a8 c0 c1 c2 c3 c4 c5 c6 c7 c8 : Int) (w : World) : (Op.equalIn (d + 2) 159 (.agg #[.int .i64 a0, .int .i64 a1, .int .i64 a2, .int .i64 a3, .int .i64 a4, .int .i64 a5, .int .i64 a6, .int .i64 a7, .int .i64 a8]) (.agg #[.int .i64 c0, .int .i64 c1, .int .i64 c2, .int .i64 c3, .int .i64 c4, .int .i64 c5, .int .i64 c6, .int .i64 c7, .int .i64 c8])).run Try.prog w = .ok (decide ([a0, a1, a2, a3, a4, a5, a6, a7, a8] = [c0, c1, c2, c3, c4, c5, c6, c7, c8])) w := by
  have e : decide ([a0, a1, a2, a3, a4, a5, a6, a7, a8] = [c0, c1, c2, c3, c4, c5, c6, c7, c8]) = _ := rfl
  have h := equalIn_sig (P := Try.prog) (d := d + 1) (t := 159) (xs := #[.int .i64 a0, .int .i64 a1, .int .i64 a2, .int .i64 a3, .int .i64 a4, .int .i64 a5, .int .i64 a6, .int .i64 a7, .int .i64 a8]) (ys := #[.int .i64 c0, .int .i64 c1, .int .i64 c2, .int .i64 c3, .int .i64 c4, .int .i64 c5, .int .i64 c6, .int .i64 c7, .int .i64 c8]) (w := w) (by kernel_rfl) (by kernel_rfl) (l := [(true, 3, 0), (true, 3, 1), (true, 3, 2), (true, 3, 3), (true, 3, 4), (true, 3, 5), (true, 3, 6), (true, 3, 7), (true, 3, 8)]) (by kernel_rfl) (eqF_int (show Try.prog.underlying 3 = some (.int .i64) by kernel_rfl) rfl rfl (eqF_int (show Try.prog.underlying 3 = some (.int .i64) by kernel_rfl) rfl rfl (eqF_int (show Try.prog.underlying 3 = some (.int .i64) by kernel_rfl) rfl rfl (eqF_int (show Try.prog.underlying 3 = some (.int .i64) by kernel_rfl) rfl rfl (eqF_int (show Try.prog.underlying 3 = some (.int .i64) by kernel_rfl) rfl rfl (eqF_int (show Try.prog.underlying 3 = some (.int .i64) by kernel_rfl) rfl rfl (eqF_int (show Try.prog.underlying 3 = some (.int .i64) by kernel_rfl) rfl rfl (eqF_int (show Try.prog.underlying 3 = some (.int .i64) by kernel_rfl) rfl rfl (eqF_int (show Try.prog.underlying 3 = some (.int .i64) by kernel_rfl) rfl rfl eqF_nil)))))))))
  rw [h]
  simp [Bool.decide_and, Bool.and_assoc]

end Go.Proofs.Ytnhgjgoglmadnaa
namespace Go.Proofs.Ytnhgjgoglmadnaa
open Go.RowKit
set_option linter.unusedVariables false

def Bk {α : Type} (s s' : W8) (f : R8 → α) (g : R8 → R8) (a : α) : Prop :=
  s'.bad = false → s.bad = false ∧ ∃ u, s'.l = s.l ++ u ∧ 0 < u.length ∧ ∀ rest, f ⟨u ++ rest, false⟩ = a ∧ g ⟨u ++ rest, false⟩ = ⟨rest, false⟩
theorem Bk.and {α β : Type} {s s' s'' : W8} {f : R8 → α} {f' : R8 → β} {g g' : R8 → R8} {a : α} {b : β} (h : Bk s s' f g a) (h' : Bk s' s'' f' g' b) : Bk s s'' (fun r => (f r, f' (g r))) (fun r => g' (g r)) (a, b) := fun hb => by
  obtain ⟨hb', u', e', p', r'⟩ := h' hb
  obtain ⟨hb0, u, e, p, r⟩ := h hb'
  refine ⟨hb0, u ++ u', by rw [e', e, List.append_assoc], by simp; omega, fun rest => ?_⟩
  obtain ⟨q1, q2⟩ := r (u' ++ rest)
  obtain ⟨q3, q4⟩ := r' rest
  rw [List.append_assoc]
  dsimp only
  rw [q1, q2, q3, q4]
  exact ⟨rfl, rfl⟩
theorem Bk.map {α β : Type} {s s' : W8} {f : R8 → α} {g : R8 → R8} {a : α} (h : Bk s s' f g a) (p : α → β) : Bk s s' (fun r => p (f r)) g (p a) := fun hb => by
  obtain ⟨hb0, u, e, q, r⟩ := h hb
  exact ⟨hb0, u, e, q, fun rest => ⟨congrArg p (r rest).1, (r rest).2⟩⟩
theorem fits_of {n : Int} {k : Nat} (h : fits n k = true) : 0 ≤ n ∧ (k < 8 → n / 2 ^ (8 * k) = 0) := by
  simp only [fits, decide_eq_true_eq] at h
  refine ⟨h.2.2.1, fun hk => ?_⟩
  have e : (8 * (k : Int)).toNat = 8 * k := by omega
  have := h.2.2.2 (by omega)
  rw [e] at this; exact this
theorem fits_le {n : Int} {k : Nat} (h1 : 1 ≤ k) (h7 : k ≤ 7) (h : fits n k = true) : n ≤ 9223372036854775807 := by
  obtain ⟨h0, hk⟩ := fits_of h
  have hk := hk (by omega)
  have hc : k = 1 ∨ k = 2 ∨ k = 3 ∨ k = 4 ∨ k = 5 ∨ k = 6 ∨ k = 7 := by omega
  have e1 : (2 : Int) ^ (8 * 1) = 256 := by decide
  have e2 : (2 : Int) ^ (8 * 2) = 65536 := by decide
  have e3 : (2 : Int) ^ (8 * 3) = 16777216 := by decide
  have e4 : (2 : Int) ^ (8 * 4) = 4294967296 := by decide
  have e5 : (2 : Int) ^ (8 * 5) = 1099511627776 := by decide
  have e6 : (2 : Int) ^ (8 * 6) = 281474976710656 := by decide
  have e7 : (2 : Int) ^ (8 * 7) = 72057594037927936 := by decide
  rcases hc with rfl | rfl | rfl | rfl | rfl | rfl | rfl
  · rw [e1] at hk; omega
  · rw [e2] at hk; omega
  · rw [e3] at hk; omega
  · rw [e4] at hk; omega
  · rw [e5] at hk; omega
  · rw [e6] at hk; omega
  · rw [e7] at hk; omega
theorem Bk.num (s : W8) (n : Int) (k : Nat) (h1 : 1 ≤ k) (h7 : k ≤ 7) : Bk s (s.num n k) (fun r => r.numV k) (fun r => r.numS k) n := fun hb => by
  cases hf : fits n k with
  | false => simp [W8.num, hf] at hb
  | true =>
    have e : s.num n k = ⟨s.l ++ be n k, s.bad⟩ := by simp [W8.num, hf]
    rw [e] at hb ⊢
    obtain ⟨h0, hk⟩ := fits_of hf
    refine ⟨hb, be n k, rfl, by rw [be_length]; omega, fun rest => num_read n k rest h1 h7 h0 (fits_le h1 h7 hf) (hk (by omega))⟩
theorem Bk.n1 (s : W8) {n : Int} : Bk s (s.num n 1) (fun r => r.numV 1) (fun r => r.numS 1) n := Bk.num s n 1 (by omega) (by omega)
theorem Bk.n2 (s : W8) {n : Int} : Bk s (s.num n 2) (fun r => r.numV 2) (fun r => r.numS 2) n := Bk.num s n 2 (by omega) (by omega)
theorem Bk.n3 (s : W8) {n : Int} : Bk s (s.num n 3) (fun r => r.numV 3) (fun r => r.numS 3) n := Bk.num s n 3 (by omega) (by omega)
theorem Bk.n4 (s : W8) {n : Int} : Bk s (s.num n 4) (fun r => r.numV 4) (fun r => r.numS 4) n := Bk.num s n 4 (by omega) (by omega)
theorem Bk.pt (s : W8) {x y : Int} : Bk s (s.pt x y) (fun r => r.ptV) (fun r => r.ptS) (x, y) := fun hb => by
  obtain ⟨h0, u, e, p, r⟩ := ((Bk.n3 s).and (Bk.n3 _)) hb
  refine ⟨h0, u, e, p, fun rest => ?_⟩
  obtain ⟨r1, r2⟩ := r rest
  have r2' : (R8.mk (u ++ rest) false).ptS = ⟨rest, false⟩ := r2
  refine ⟨?_, r2'⟩
  unfold R8.ptV
  dsimp only
  rw [r2']
  exact r1
theorem Bk.tri (s : W8) {t : T3} (hv : t.valid = true) : Bk s (s.tri t.ax t.ay t.bx t.by' t.cx t.cy) (fun r => r.triV) (fun r => r.triS) t := fun hb => by
  have hbad : s.bad = false := by
    cases h : s.bad with
    | false => rfl
    | true =>
      have : ∀ (s : W8) n k, s.bad = true → (s.num n k).bad = true := fun s n k h => by unfold W8.num; split <;> simp [h]
      unfold W8.tri W8.pt at hb
      rw [this _ _ _ (this _ _ _ (this _ _ _ (this _ _ _ (this _ _ _ (this _ _ _ h)))))] at hb
      cases hb
  obtain ⟨l, b⟩ := s
  dsimp only at hbad
  subst hbad
  rw [tri_write l hv]
  exact ⟨rfl, t.bytes, rfl, by simp [T3.bytes, ptB_len], fun rest => tri_read rest hv⟩
theorem Bk.len (s : W8) (b : List Int) : Bk s ((s.num b.length 2).raw b) (fun r => (r.numS 2).rawV (r.numV 2)) (fun r => (r.numS 2).rawS (r.numV 2)) b := fun hb => by
  obtain ⟨h0, u, e, p, r⟩ := Bk.n2 s (n := b.length) hb
  refine ⟨h0, u ++ b, by simp [W8.raw, e], by simp; omega, fun rest => ?_⟩
  obtain ⟨r1, r2⟩ := r (b ++ rest)
  dsimp only at r1 r2 ⊢
  rw [List.append_assoc, r1, r2]
  exact raw_read b rest

theorem Bk.items {α : Type} {wf : W8 → α → W8} {f : R8 → α} {g : R8 → R8} {f' : R8 → α} {g' : R8 → R8} : ∀ (xs : List α) (s : W8), (∀ x ∈ xs, ∀ s, Bk s (wf s x) f g x) → (∀ x ∈ xs, ∀ s, Bk s (wf s x) f' g' x) →
    (xs.foldl wf s).bad = false → s.bad = false ∧ ∃ u, (xs.foldl wf s).l = s.l ++ u ∧ ∀ rest, itemsF f g xs.length ⟨u ++ rest, false⟩ = (xs, ⟨rest, false⟩) ∧ itemsB f' g' xs.length ⟨u ++ rest, false⟩ = (xs, ⟨rest, false⟩)
  | [], s, _, _, hb => ⟨hb, [], by simp, fun rest => ⟨rfl, rfl⟩⟩
  | x :: xs, s, h, h', hb => by
    obtain ⟨b1, u1, e1, r1⟩ := Bk.items xs (wf s x) (fun y hy => h y (.tail _ hy)) (fun y hy => h' y (.tail _ hy)) hb
    obtain ⟨b0, u0, e0, p0, r0⟩ := h x (.head _) s b1
    obtain ⟨_, u0', e0', _, r0'⟩ := h' x (.head _) s b1
    have eu : u0' = u0 := List.append_cancel_left (by rw [← e0', e0])
    subst eu
    refine ⟨b0, u0' ++ u1, by rw [List.foldl_cons, e1, e0, List.append_assoc], fun rest => ?_⟩
    obtain ⟨q1, q2⟩ := r0 (u1 ++ rest)
    obtain ⟨q1', q2'⟩ := r0' (u1 ++ rest)
    obtain ⟨q3, q4⟩ := r1 rest
    rw [List.append_assoc]
    have hl : 0 < (R8.mk (u0' ++ (u1 ++ rest)) false).left := by simp [R8.left]; omega
    refine ⟨?_, ?_⟩
    · rw [List.length_cons, itemsF, if_pos hl, q1, q2, q3]
    · rw [List.length_cons, itemsB, if_neg (by simp), q1', q2', q4]
theorem Bk.list {α : Type} {wf : W8 → α → W8} {f : R8 → α} {g : R8 → R8} (xs : List α) (s : W8) (h : ∀ x ∈ xs, ∀ s, Bk s (wf s x) f g x) :
    Bk s (xs.foldl wf (s.num xs.length 2)) (fun r => itemsV f g r) (fun r => itemsS f g r) xs := fun hb => by
  obtain ⟨b1, u1, e1, r1⟩ := Bk.items xs _ h h hb
  obtain ⟨b0, u0, e0, p0, r0⟩ := Bk.n2 s (n := xs.length) b1
  refine ⟨b0, u0 ++ u1, by rw [e1, e0, List.append_assoc], by simp; omega, fun rest => ?_⟩
  obtain ⟨q1, q2⟩ := r0 (u1 ++ rest)
  obtain ⟨q3, _⟩ := r1 rest
  dsimp only at q1 q2
  simp only [itemsV, itemsS]
  rw [List.append_assoc, q1, q2, Int.toNat_natCast, q3]
  exact ⟨rfl, rfl⟩
theorem Bk.listB {α : Type} {wf : W8 → α → W8} {f : R8 → α} {g : R8 → R8} (xs : List α) (s : W8) (h : ∀ x ∈ xs, ∀ s, Bk s (wf s x) f g x) :
    Bk s (xs.foldl wf (s.num xs.length 2)) (fun r => BV f g r) (fun r => BS f g r) xs := fun hb => by
  obtain ⟨b1, u1, e1, r1⟩ := Bk.items xs _ h h hb
  obtain ⟨b0, u0, e0, p0, r0⟩ := Bk.n2 s (n := xs.length) b1
  refine ⟨b0, u0 ++ u1, by rw [e1, e0, List.append_assoc], by simp; omega, fun rest => ?_⟩
  obtain ⟨q1, q2⟩ := r0 (u1 ++ rest)
  obtain ⟨_, q3⟩ := r1 rest
  dsimp only at q1 q2
  simp only [BV, BS]
  rw [List.append_assoc, q1, q2, Int.toNat_natCast, q3]
  exact ⟨rfl, rfl⟩

def Fw (g : R8 → R8) (W : R8 → W8 → W8) : Prop := ∀ r, Byt r.l → Byt (g r).l ∧ ((g r).bad = false → r.bad = false ∧ ∃ u, r.l = u ++ (g r).l ∧ ∀ s : W8, W r s = ⟨s.l ++ u, s.bad⟩)
theorem Fw.and {g g' : R8 → R8} {W W' : R8 → W8 → W8} (h : Fw g W) (h' : Fw g' W') : Fw (fun r => g' (g r)) (fun r s => W' (g r) (W r s)) := fun r hb => by
  obtain ⟨b1, k1⟩ := h r hb
  obtain ⟨b2, k2⟩ := h' (g r) b1
  refine ⟨b2, fun hg => ?_⟩
  obtain ⟨c2, u2, e2, w2⟩ := k2 hg
  obtain ⟨c1, u1, e1, w1⟩ := k1 c2
  refine ⟨c1, u1 ++ u2, ?_, fun s => ?_⟩
  · rw [e1, List.append_assoc, ← e2]
  · dsimp only; rw [w1, w2, List.append_assoc]
theorem be_succ (n : Int) (s : Nat) : be n (s + 1) = be (n / 256) s ++ [n % 256] := by
  unfold be
  rw [List.range_succ, List.map_append]
  congr 1
  · refine List.map_congr_left fun i hi => ?_
    have hi := List.mem_range.1 hi
    have e1 : 8 * (s + 1 - 1 - i) = 8 + 8 * (s - 1 - i) := by omega
    rw [e1, Int.pow_add, ← Int.ediv_ediv_of_nonneg (by decide)]
    rfl
  · simp
theorem be_rval : ∀ (k : Nat) (xs : List Int), xs.length = k → k ≤ 7 → Byt xs → be (rval xs) k = xs
  | 0, xs, h, _, _ => by
    have : xs = [] := List.eq_nil_of_length_eq_zero h
    subst this; rfl
  | k + 1, xs, h, h7, hb => by
    have hne : xs ≠ [] := by intro e; subst e; simp at h
    obtain ⟨ys, y, rfl⟩ : ∃ ys y, xs = ys ++ [y] := ⟨xs.dropLast, xs.getLast hne, (List.dropLast_concat_getLast hne).symm⟩
    simp at h
    have hby : Byt ys := fun x hx => hb x (by simp [hx])
    obtain ⟨k1, k2⟩ := rval_rng k ys h (by omega) hby
    have ih := be_rval k ys h (by omega) hby
    have hy := hb y (by simp)
    have hle : (256 : Int) ^ k ≤ 281474976710656 := by
      have hn : k = 0 ∨ k = 1 ∨ k = 2 ∨ k = 3 ∨ k = 4 ∨ k = 5 ∨ k = 6 := by omega
      rcases hn with rfl | rfl | rfl | rfl | rfl | rfl | rfl <;> decide
    have e : rval (ys ++ [y]) = rval ys * 256 + y := by
      unfold rval
      rw [List.foldl_append]
      simp only [List.foldl_cons, List.foldl_nil]
      exact rstep_eq k1 hy (by omega)
    rw [e, be_succ]
    unfold rval at *
    have e1 : (ys.foldl rstep 0 * 256 + y) / 256 = ys.foldl rstep 0 := by omega
    have e2 : (ys.foldl rstep 0 * 256 + y) % 256 = y := by omega
    rw [e1, e2, ih]
theorem Fw.num (k : Nat) (h1 : 1 ≤ k) (h7 : k ≤ 7) : Fw (fun r => r.numS k) (fun r s => s.num (r.numV k) k) := fun r hb => by
  refine ⟨numS_byt r k hb, fun hg => ?_⟩
  obtain ⟨c, e⟩ := num_ok k h1 h7 hg
  obtain ⟨e1, e2⟩ := r.num_yes k c h1 h7 (by omega)
  have hbt : Byt (r.l.take k) := fun x hx => hb x (List.mem_of_mem_take hx)
  have hlt : (r.l.take k).length = k := by simp; omega
  refine ⟨c, r.l.take k, by dsimp only; rw [e2]; simp, fun s => ?_⟩
  dsimp only
  rw [e1]
  obtain ⟨g1, g2⟩ := rval_rng k _ hlt h7 hbt
  have hf : fits (rval (r.l.take k)) k = true := by
    simp only [fits, decide_eq_true_eq]
    refine ⟨by omega, by omega, g1, fun _ => ?_⟩
    have e : (8 * (k : Int)).toNat = 8 * k := by omega
    have e256 : (256 : Int) ^ k = 2 ^ (8 * k) := by rw [Int.pow_mul]; rfl
    rw [e, ← e256]
    exact Int.ediv_eq_zero_of_lt g1 g2
  have ek : (k : Int).toNat = k := by omega
  simp only [W8.num, hf, if_true, ek]
  rw [be_rval k _ hlt h7 hbt]
theorem Fw.n1 : Fw (fun r => r.numS 1) (fun r s => s.num (r.numV 1) 1) := Fw.num 1 (by omega) (by omega)
theorem Fw.n2 : Fw (fun r => r.numS 2) (fun r s => s.num (r.numV 2) 2) := Fw.num 2 (by omega) (by omega)
theorem Fw.n3 : Fw (fun r => r.numS 3) (fun r s => s.num (r.numV 3) 3) := Fw.num 3 (by omega) (by omega)
theorem Fw.n4 : Fw (fun r => r.numS 4) (fun r s => s.num (r.numV 4) 4) := Fw.num 4 (by omega) (by omega)
theorem Fw.conv {g : R8 → R8} {W W' : R8 → W8 → W8} (h : Fw g W) (he : ∀ r s, (g r).bad = false → W' r s = W r s) : Fw g W' := fun r hb => by
  obtain ⟨b1, k1⟩ := h r hb
  refine ⟨b1, fun hg => ?_⟩
  obtain ⟨c1, u1, e1, w1⟩ := k1 hg
  exact ⟨c1, u1, e1, fun s => by rw [he r s hg, w1]⟩
theorem Fw.pt : Fw (fun r => r.ptS) (fun r s => s.pt r.ptV.1 r.ptV.2) :=
  Fw.conv (Fw.n3.and Fw.n3) fun r s hg => by
    have hg' : r.ptS.bad = false := hg
    unfold R8.ptV W8.pt
    rw [hg']
    simp
theorem Fw.tri : Fw (fun r => r.triS) (fun r s => s.tri r.triV.ax r.triV.ay r.triV.bx r.triV.by' r.triV.cx r.triV.cy) := fun r hb => by
  refine ⟨triS_byt r hb, fun hg => ?_⟩
  obtain ⟨⟨c, _⟩, e1, e2⟩ := tri_ok hg
  have h3 := ((Fw.pt.and Fw.pt).and Fw.pt) r hb
  have hg' : r.tS3.bad = false := by rw [← e1]; exact hg
  obtain ⟨_, u, e, w⟩ := h3.2 hg'
  have ev : r.triV = r.tT := by unfold R8.triV; rw [hg', e2]; rfl
  refine ⟨c, u, by dsimp only; rw [e1]; exact e, fun s => ?_⟩
  dsimp only
  rw [ev]
  exact w s
theorem Fw.len : Fw (fun r => (r.numS 2).rawS (r.numV 2)) (fun r s => (s.num ((r.numS 2).rawV (r.numV 2)).length 2).raw ((r.numS 2).rawV (r.numV 2))) := fun r hb => by
  have h2 := Fw.n2 r hb
  refine ⟨(rawS_byt _ _ h2.1).1, fun hg => ?_⟩
  obtain ⟨c1, _, e, h0, hl⟩ := raw_ok hg
  obtain ⟨c, u, e', w⟩ := h2.2 c1
  refine ⟨c, u ++ (r.numS 2).rawV (r.numV 2), by dsimp only at e e' ⊢; rw [List.append_assoc, e, e'], fun s => ?_⟩
  have en : (((r.numS 2).rawV (r.numV 2)).length : Int) = r.numV 2 := by omega
  dsimp only at w ⊢
  rw [en, w s]
  simp [W8.raw]
theorem Fw.items {α : Type} {f : R8 → α} {g : R8 → R8} {wf : W8 → α → W8} {P : α → Prop} (h : Fw g (fun r s => wf s (f r))) (hP : ∀ r, (g r).bad = false → P (f r)) : ∀ (n : Nat) (r : R8), Byt r.l → Byt (itemsB f g n r).2.l ∧
    ((itemsB f g n r).2.bad = false → r.bad = false ∧ (itemsB f g n r).1.length = n ∧ (∀ x ∈ (itemsB f g n r).1, P x) ∧ ∃ u, r.l = u ++ (itemsB f g n r).2.l ∧ ∀ s : W8, (itemsB f g n r).1.foldl wf s = ⟨s.l ++ u, s.bad⟩)
  | 0, r, hb => ⟨hb, fun hg => ⟨hg, rfl, fun x hx => (by cases hx), [], rfl, fun s => by simp [itemsB]⟩⟩
  | n + 1, r, hb => by
    cases hr : r.bad with
    | true =>
      have e : itemsB f g (n + 1) r = ([], r) := by rw [itemsB, if_pos hr]
      rw [e]
      exact ⟨hb, fun hg => by dsimp only at hg; rw [hr] at hg; cases hg⟩
    | false =>
      have e : itemsB f g (n + 1) r = (f r :: (itemsB f g n (g r)).1, (itemsB f g n (g r)).2) := by rw [itemsB, if_neg (by rw [hr]; simp)]
      obtain ⟨b1, k1⟩ := h r hb
      obtain ⟨b2, k2⟩ := Fw.items h hP n (g r) b1
      rw [e]
      refine ⟨b2, fun hg => ?_⟩
      obtain ⟨c2, l2, p2, u2, e2, w2⟩ := k2 hg
      obtain ⟨c1, u1, e1, w1⟩ := k1 c2
      refine ⟨rfl, by simp [l2], fun x hx => ?_, u1 ++ u2, ?_, fun s => ?_⟩
      · rcases List.mem_cons.1 hx with rfl | hx
        · exact hP r c2
        · exact p2 x hx
      · dsimp only; rw [e1, List.append_assoc, ← e2]
      · dsimp only at w1
        rw [List.foldl_cons, w1, w2, List.append_assoc]
theorem Fw.list {α : Type} {f : R8 → α} {g : R8 → R8} {wf : W8 → α → W8} (h : Fw g (fun r s => wf s (f r))) : Fw (fun r => BS f g r) (fun r s => (BV f g r).foldl wf (s.num (BV f g r).length 2)) := fun r hb => by
  have h2 := Fw.n2 r hb
  obtain ⟨b2, k2⟩ := Fw.items (P := fun _ => True) h (fun _ _ => trivial) (r.numV 2).toNat (r.numS 2) h2.1
  refine ⟨b2, fun hg => ?_⟩
  obtain ⟨c1, l1, _, u1, e1, w1⟩ := k2 hg
  obtain ⟨c, u, e, w⟩ := h2.2 c1
  refine ⟨c, u ++ u1, by dsimp only [BS] at *; rw [List.append_assoc, ← e1, ← e], fun s => ?_⟩
  have hn := (num2_rng r hb).1
  have el : ((BV f g r).length : Int) = r.numV 2 := by unfold BV; rw [l1]; omega
  dsimp only at w ⊢
  rw [el, w s]
  unfold BV
  rw [w1, List.append_assoc]
theorem Fw.all {α : Type} {f : R8 → α} {g : R8 → R8} {wf : W8 → α → W8} {P : α → Prop} (h : Fw g (fun r s => wf s (f r))) (hP : ∀ r, (g r).bad = false → P (f r)) (r : R8) (hb : Byt r.l) (hg : (BS f g r).bad = false) : ∀ x ∈ BV f g r, P x :=
  ((Fw.items h hP (r.numV 2).toNat (r.numS 2) (numS_byt r 2 hb)).2 hg).2.2.1
end Go.Proofs.Ytnhgjgoglmadnaa
