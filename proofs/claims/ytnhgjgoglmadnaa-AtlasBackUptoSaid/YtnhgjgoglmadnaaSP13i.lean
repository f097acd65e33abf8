/- Joined texts of this claim (part 9), printed by a program of this work. The last part holds the claimed theorem: the law answers true at every input of its row. -/
import Derived.Test.YtnhgjgoglmadnaaSP13h
namespace Go.Proofs.Ytnhgjgoglmadnaa
open Go.RowKit
set_option maxRecDepth 100000
set_option linter.unusedSimpArgs false
set_option linter.unusedVariables false
set_option pp.maxSteps 1500
set_option pp.deepTerms.threshold 8

def bit (d : Bool) : Int := if d then 1 else 0
theorem flag98 (d : Bool) (w : World) : Calls Try.prog 98 [.bool d].toArray w (RetK fun r w' => r = .int .i64 (bit d) ∧ Chg (fun _ => False) w w') := by
  refine walk Try.func98 rfl (by kernel_rfl) (by rw [Try.nt98]; simp) ?_
  cases d with
  | true => simp -dsimp only [↓vcA, vcB, vcD, ↓pureT_lenS, ↓iteT, ↓iteF, cond_true, cond_false, eq_self, argE, Env.get, Env.push, ev, evs, evo, retV, Value.cells, Value.oneCell', setR, overR, fillL, zl, places, allSizes, heldC, ne_eq, Int.reduceLE, Int.reduceLT, Int.reduceEq, Int.reduceNe, Int.reduceToNat, Int.cast_ofNat_Int, Nat.reduceMul, Nat.reduceLeDiff, reduceIte, Nat.reduceEqDiff, Nat.reduceAdd, ↓reduceIte, Try.vcT]; exact ⟨rfl, Chg.refl _ _⟩
  | false => simp -dsimp only [↓vcA, vcB, vcD, ↓pureT_lenS, ↓iteT, ↓iteF, cond_true, cond_false, eq_self, argE, Env.get, Env.push, ev, evs, evo, retV, Value.cells, Value.oneCell', setR, overR, fillL, zl, places, allSizes, heldC, ne_eq, Int.reduceLE, Int.reduceLT, Int.reduceEq, Int.reduceNe, Int.reduceToNat, Int.cast_ofNat_Int, Nat.reduceMul, Nat.reduceLeDiff, reduceIte, Nat.reduceEqDiff, Nat.reduceAdd, ↓reduceIte, Try.vcT]; exact ⟨rfl, Chg.refl _ _⟩
def wCh (s : W8) (c : Ch) : W8 := (((s.num c.t 1).num (bit c.d) 1).num c.b.length 2).raw c.b
def encC (s : W8) (cs : List Ch) : W8 := cs.foldl wCh (s.num cs.length 2)
def roomC : List Ch → Nat
  | [] => 0
  | c :: cs => 24 + c.b.length + roomC cs
theorem roomC_take : ∀ {cs : List Ch} {i : Nat} (h : i < cs.length), roomC (cs.take (i + 1)) = roomC (cs.take i) + 24 + cs[i].b.length
  | c :: cs, 0, h => by simp [roomC]
  | c :: cs, i + 1, h => by
    have := roomC_take (cs := cs) (i := i) (by simpa using h)
    simp only [List.take_succ_cons, roomC, List.getElem_cons_succ, this]; omega
theorem roomC_le : ∀ (cs : List Ch) (i : Nat), roomC (cs.take i) ≤ roomC cs
  | [], i => by simp [roomC]
  | c :: cs, 0 => by simp [roomC]
  | c :: cs, i + 1 => by
    have := roomC_le cs i
    simp only [List.take_succ_cons, roomC]; omega
theorem listCh {w0 w : World} {q : Res} {c p k : Nat} {s : W8} {v : Value} {xs : List Ch} {K : Value → World → Prop} (h : Sep w0 (fun _ => False) [q, wr 32 p s k, blk c 30 [.pointer (some ⟨p, 0, none⟩)]] w) (hT : Chn w0 v xs) (hO : ∀ x ∈ xs, -9223372036854775808 ≤ x.t ∧ x.t ≤ 9223372036854775807) (hl : k + 8 + roomC xs ≤ 800000)
    (hK : ∀ w1, Sep w0 (fun _ => False) [q, wr 32 p (encC s xs) (k + 8 + roomC xs), blk c 30 [.pointer (some ⟨p, 0, none⟩)]] w1 → K (.tuple #[]) w1) :
    callsK Try.prog 96 [.pointer (some ⟨p, 0, none⟩), v, .func (.func 97) #[] #[.pointer (some ⟨c, 0, none⟩)]].toArray w K := by
  obtain ⟨a, cc, rfl⟩ := hT.shape
  have hln := hT.len
  simp only [maxLen] at hln
  refine walk Try.func96 rfl (by kernel_rfl) (by rw [Try.nt96]; simp) ?_
  (try simp only [nfD] at h); have F := h.facts; (try simp only [nfF, emp_fact, rds_fact, frm_fact, tab_fact] at F)
  simp -dsimp only [↓vcA, vcB, vcD, ↓pureT_lenS, ↓iteT, ↓iteF, cond_true, cond_false, eq_self, argE, Env.get, Env.push, ev, evs, evo, retV, Value.cells, Value.oneCell', setR, overR, fillL, zl, places, allSizes, heldC, ne_eq, Int.reduceLE, Int.reduceLT, Int.reduceEq, Int.reduceNe, Int.reduceToNat, Int.cast_ofNat_Int, Nat.reduceMul, Nat.reduceLeDiff, reduceIte, Nat.reduceEqDiff, Nat.reduceAdd, ↓reduceIte, Try.vcT]
  refine Sep.num 1 h rfl (by omega) (by omega) (by omega) ?_
  clear h F
  intro w1 h
  (try simp only [nfD] at h); have F := h.facts; (try simp only [nfF, emp_fact, rds_fact, frm_fact, tab_fact] at F); try simp -dsimp only [↓vcA, vcB, vcD, ↓pureT_lenS, ↓iteT, ↓iteF, cond_true, cond_false, eq_self, argE, Env.get, Env.push, ev, evs, evo, retV, Value.cells, Value.oneCell', setR, overR, fillL, zl, places, allSizes, heldC, ne_eq, Int.reduceLE, Int.reduceLT, Int.reduceEq, Int.reduceNe, Int.reduceToNat, Int.cast_ofNat_Int, Nat.reduceMul, Nat.reduceLeDiff, reduceIte, Nat.reduceEqDiff, Nat.reduceAdd, ↓reduceIte, Try.vcT, F, h.cell0, gets, vsD, if_true, if_false, Bool.false_eq_true]
  refine walkLoop [2, 12, 13] [14] (fun m vs w' => ∃ i, i ≤ xs.length ∧ m = xs.length - i ∧ vs = [.int .i64 i] ∧ Sep w0 (fun _ => False) [q, wr 32 p ((xs.take i).foldl wCh (s.num xs.length 2)) (k + 8 + roomC (xs.take i)), blk c 30 [.pointer (some ⟨p, 0, none⟩)]] w') (by kernel_rfl) ?_ ?_
  · simp -dsimp only [↓vcA, vcB, vcD, ↓pureT_lenS, ↓iteT, ↓iteF, cond_true, cond_false, eq_self, argE, Env.get, Env.push, ev, evs, evo, retV, Value.cells, Value.oneCell', setR, overR, fillL, zl, places, allSizes, heldC, ne_eq, Int.reduceLE, Int.reduceLT, Int.reduceEq, Int.reduceNe, Int.reduceToNat, Int.cast_ofNat_Int, Nat.reduceMul, Nat.reduceLeDiff, reduceIte, Nat.reduceEqDiff, Nat.reduceAdd, ↓reduceIte, Try.vcT, gets]
    exact ⟨_, 0, Nat.zero_le _, rfl, rfl, by simpa [roomC] using h⟩
  intro ks hk m vs w2 hi
  clear h F
  obtain ⟨i, hi, rfl, rfl, h⟩ := hi
  simp -dsimp only [gets, argE, List.zip_cons_cons, List.zip_nil_left, List.cons_append, List.nil_append, Env.get, Env.push, Option.bind_some, Option.map_some, Option.some.injEq, reduceIte, Nat.reduceEqDiff, Nat.reduceAdd, ↓reduceIte] at hk; subst hk
  by_cases hlt : (i : Int) < xs.length
  case neg =>
    have hil : i = xs.length := by omega
    subst hil
    rw [List.take_of_length_le (Nat.le_refl _)] at h
    (try simp only [nfD] at h); have F := h.facts; (try simp only [nfF, emp_fact, rds_fact, frm_fact, tab_fact] at F); try simp -dsimp only [↓vcA, vcB, vcD, ↓pureT_lenS, ↓iteT, ↓iteF, cond_true, cond_false, eq_self, argE, Env.get, Env.push, ev, evs, evo, retV, Value.cells, Value.oneCell', setR, overR, fillL, zl, places, allSizes, heldC, ne_eq, Int.reduceLE, Int.reduceLT, Int.reduceEq, Int.reduceNe, Int.reduceToNat, Int.cast_ofNat_Int, Nat.reduceMul, Nat.reduceLeDiff, reduceIte, Nat.reduceEqDiff, Nat.reduceAdd, ↓reduceIte, Try.vcT, F, h.cell0, gets, vsD, if_true, if_false, Bool.false_eq_true,  decide_eq_false hlt]
    exact hK _ h
  have hil : i < xs.length := by omega
  have hfold : (xs.take (i + 1)).foldl wCh (s.num xs.length 2) = wCh ((xs.take i).foldl wCh (s.num xs.length 2)) xs[i] := by rw [List.take_succ_eq_append_getElem hil, List.foldl_append]; rfl
  have hroom := roomC_take hil
  have hroom2 := roomC_le xs (i + 1)
  obtain ⟨b, o, u, rfl, hcells, hru⟩ := hT.at hil
  have ho := hO _ (List.getElem_mem hil)
  generalize xs[i] = x at *
  have hru' := hru
  obtain ⟨au, cu, rfl, _⟩ := hru'
  have ei : IntKind.i64.wrap ((i : Int) + 1) = ((i + 1 : Nat) : Int) := by rw [i64w _ (by omega) (by omega)]; omega
  have hcw : cellsAt w2 b (o + i * 3) 3 = some [.int .i64 x.t, .bool x.d, .slice au x.b.length cu] := by
    obtain ⟨hl, hat⟩ := cellsAt_elim hcells
    exact cellsAt_of (w := w2) (b := b) (o := o + i * 3) [.int .i64 x.t, .bool x.d, .slice au x.b.length cu] (fun j u hj => by
      have := hat j u hj
      rw [h.cell0 (by rw [this]; rfl) id, this])
  clear hcells
  (try simp only [nfD] at h); have F := h.facts; (try simp only [nfF, emp_fact, rds_fact, frm_fact, tab_fact] at F); try simp -dsimp only [↓vcA, vcB, vcD, ↓pureT_lenS, ↓iteT, ↓iteF, cond_true, cond_false, eq_self, argE, Env.get, Env.push, ev, evs, evo, retV, Value.cells, Value.oneCell', setR, overR, fillL, zl, places, allSizes, heldC, ne_eq, Int.reduceLE, Int.reduceLT, Int.reduceEq, Int.reduceNe, Int.reduceToNat, Int.cast_ofNat_Int, Nat.reduceMul, Nat.reduceLeDiff, reduceIte, Nat.reduceEqDiff, Nat.reduceAdd, ↓reduceIte, Try.vcT, F, h.cell0, gets, vsD, if_true, if_false, Bool.false_eq_true,  decide_eq_true hlt]
  refine ⟨⟨by omega, by omega⟩, ?_⟩
  (try simp only [nfD] at h); have F := h.facts; (try simp only [nfF, emp_fact, rds_fact, frm_fact, tab_fact] at F); try simp -dsimp only [↓vcA, vcB, vcD, ↓pureT_lenS, ↓iteT, ↓iteF, cond_true, cond_false, eq_self, argE, Env.get, Env.push, ev, evs, evo, retV, Value.cells, Value.oneCell', setR, overR, fillL, zl, places, allSizes, heldC, ne_eq, Int.reduceLE, Int.reduceLT, Int.reduceEq, Int.reduceNe, Int.reduceToNat, Int.cast_ofNat_Int, Nat.reduceMul, Nat.reduceLeDiff, reduceIte, Nat.reduceEqDiff, Nat.reduceAdd, ↓reduceIte, Try.vcT, F, h.cell0, gets, vsD, if_true, if_false, Bool.false_eq_true,  hcw]
  clear hcw
  repeat ((first | refine Sep.new h ?_ | refine Sep.put 0 h rfl ?_ | refine Sep.put 1 h rfl ?_ | refine Sep.put 2 h rfl ?_ | refine Sep.put 3 h rfl ?_ | refine Sep.put 4 h rfl ?_ | refine Sep.put 5 h rfl ?_); (clear F; (try clear h); intros; rename_i h; (try simp only [nfD] at h); have F := h.facts; (try simp only [nfF, emp_fact, rds_fact, frm_fact, tab_fact] at F); try simp -dsimp only [↓vcA, vcB, vcD, ↓pureT_lenS, ↓iteT, ↓iteF, cond_true, cond_false, eq_self, argE, Env.get, Env.push, ev, evs, evo, retV, Value.cells, Value.oneCell', setR, overR, fillL, zl, places, allSizes, heldC, ne_eq, Int.reduceLE, Int.reduceLT, Int.reduceEq, Int.reduceNe, Int.reduceToNat, Int.cast_ofNat_Int, Nat.reduceMul, Nat.reduceLeDiff, reduceIte, Nat.reduceEqDiff, Nat.reduceAdd, ↓reduceIte, Try.vcT, F, h.cell0, gets, vsD, if_true, if_false, Bool.false_eq_true, cellsAt]))
  refine walk Try.func97 rfl (by kernel_rfl) (by rw [Try.nt97]; simp) ?_
  (try simp only [nfD] at h); have F := h.facts; (try simp only [nfF, emp_fact, rds_fact, frm_fact, tab_fact] at F); try simp -dsimp only [↓vcA, vcB, vcD, ↓pureT_lenS, ↓iteT, ↓iteF, cond_true, cond_false, eq_self, argE, Env.get, Env.push, ev, evs, evo, retV, Value.cells, Value.oneCell', setR, overR, fillL, zl, places, allSizes, heldC, ne_eq, Int.reduceLE, Int.reduceLT, Int.reduceEq, Int.reduceNe, Int.reduceToNat, Int.cast_ofNat_Int, Nat.reduceMul, Nat.reduceLeDiff, reduceIte, Nat.reduceEqDiff, Nat.reduceAdd, ↓reduceIte, Try.vcT, F, h.cell0, gets, vsD, if_true, if_false, Bool.false_eq_true]
  refine h.new ?_
  clear h F
  intro w9 b9 h
  (try simp only [nfD] at h); have F := h.facts; (try simp only [nfF, emp_fact, rds_fact, frm_fact, tab_fact] at F); try simp -dsimp only [↓vcA, vcB, vcD, ↓pureT_lenS, ↓iteT, ↓iteF, cond_true, cond_false, eq_self, argE, Env.get, Env.push, ev, evs, evo, retV, Value.cells, Value.oneCell', setR, overR, fillL, zl, places, allSizes, heldC, ne_eq, Int.reduceLE, Int.reduceLT, Int.reduceEq, Int.reduceNe, Int.reduceToNat, Int.cast_ofNat_Int, Nat.reduceMul, Nat.reduceLeDiff, reduceIte, Nat.reduceEqDiff, Nat.reduceAdd, ↓reduceIte, Try.vcT, F, h.cell0, gets, vsD, if_true, if_false, Bool.false_eq_true,  cellsAt]
  refine walkDraw (.q 1 (.q 4 (.q 8 (.q 12 (.h 0 0 (.h 2 1 (.h 5 2 (.h 9 3 (.q 10 (.h 13 4 (.l 3 (.l 6 (.l 7 (.l 11 (.l 14 .fin))))))))))))))) [(c, 0, .pointer (some ⟨p, 0, none⟩)), (b9, 0, .int .i64 x.t), (b9, 1, .bool x.d), (b9, 2, .slice au x.b.length cu), (b9, 2, .slice au x.b.length cu)] (by kernel_rfl) (by simp [Holds_nil, Holds_cons, F]) ?_
  refine h.draw ?_
  clear h F
  intro w10 h
  (try simp only [nfD] at h); have F := h.facts; (try simp only [nfF, emp_fact, rds_fact, frm_fact, tab_fact] at F); try simp -dsimp only [↓vcA, vcB, vcD, ↓pureT_lenS, ↓iteT, ↓iteF, cond_true, cond_false, eq_self, argE, Env.get, Env.push, ev, evs, evo, retV, Value.cells, Value.oneCell', setR, overR, fillL, zl, places, allSizes, heldC, ne_eq, Int.reduceLE, Int.reduceLT, Int.reduceEq, Int.reduceNe, Int.reduceToNat, Int.cast_ofNat_Int, Nat.reduceMul, Nat.reduceLeDiff, reduceIte, Nat.reduceEqDiff, Nat.reduceAdd, ↓reduceIte, Try.vcT, F, h.cell0, gets, vsD, if_true, if_false, Bool.false_eq_true]
  have hbit : 0 ≤ bit x.d ∧ bit x.d ≤ 1 := by unfold bit; split <;> omega
  repeat ((first | refine Sep.new h ?_ | refine Sep.put 0 h rfl ?_ | refine Sep.put 1 h rfl ?_ | refine Sep.put 2 h rfl ?_ | refine Sep.put 3 h rfl ?_ | refine Sep.put 4 h rfl ?_ | refine Sep.put 5 h rfl ?_ | refine Sep.num 1 h rfl (by omega) (by omega) (by omega) ?_ | refine Sep.raw 1 x.b h rfl (by omega) (hru.sep h fun _ _ => id) (by omega) ?_ | refine Sep.callp h (flag98 x.d _) ?_); (clear F; (try clear h); intros; rename_i h; (try simp only [nfD] at h); have F := h.facts; (try simp only [nfF, emp_fact, rds_fact, frm_fact, tab_fact] at F); try simp -dsimp only [↓vcA, vcB, vcD, ↓pureT_lenS, ↓iteT, ↓iteF, cond_true, cond_false, eq_self, argE, Env.get, Env.push, ev, evs, evo, retV, Value.cells, Value.oneCell', setR, overR, fillL, zl, places, allSizes, heldC, ne_eq, Int.reduceLE, Int.reduceLT, Int.reduceEq, Int.reduceNe, Int.reduceToNat, Int.cast_ofNat_Int, Nat.reduceMul, Nat.reduceLeDiff, reduceIte, Nat.reduceEqDiff, Nat.reduceAdd, ↓reduceIte, Try.vcT, F, h.cell0, gets, vsD, if_true, if_false, Bool.false_eq_true, ei]))
  refine ⟨_, ?_, i + 1, by omega, rfl, rfl, ?_⟩
  · omega
  rw [hfold, hroom]
  exact ((h.erase 4).erase 3).wrMono' 1 _ rfl (by omega)

def badRe : List Int → Bool
  | [_, _, _, _, ax, ay, bx, by', cx, cy] => !(T3.valid ⟨ax, ay, bx, by', cx, cy⟩)
  | _ => false
theorem badClosure (a0 a1 a2 a3 ax ay bx by' cx cy : Int) (w : World) : Calls Try.prog 81 [.agg #[.int .i64 a0, .int .i64 a1, .int .i64 a2, .int .i64 a3, .int .i64 ax, .int .i64 ay, .int .i64 bx, .int .i64 by', .int .i64 cx, .int .i64 cy]].toArray w
    (RetK fun r w' => r = .bool (badRe [a0, a1, a2, a3, ax, ay, bx, by', cx, cy]) ∧ Chg (fun _ => False) w w') := by
  have h := Sep.nil w
  refine walk Try.func81 rfl (by kernel_rfl) (by rw [Try.nt81]; simp) ?_
  (try simp only [nfD] at h); have F := h.facts; (try simp only [nfF, emp_fact, rds_fact, frm_fact, tab_fact] at F)
  simp -dsimp only [↓vcA, vcB, vcD, ↓pureT_lenS, ↓iteT, ↓iteF, cond_true, cond_false, eq_self, argE, Env.get, Env.push, ev, evs, evo, retV, Value.cells, Value.oneCell', setR, overR, fillL, zl, places, allSizes, heldC, ne_eq, Int.reduceLE, Int.reduceLT, Int.reduceEq, Int.reduceNe, Int.reduceToNat, Int.cast_ofNat_Int, Nat.reduceMul, Nat.reduceLeDiff, reduceIte, Nat.reduceEqDiff, Nat.reduceAdd, ↓reduceIte, Try.vcT]
  repeat ((first | refine Sep.new h ?_ | refine Sep.put 0 h rfl ?_ | refine Sep.put 1 h rfl ?_ | refine Sep.put 2 h rfl ?_ | refine Sep.put 3 h rfl ?_ | refine Sep.put 4 h rfl ?_ | refine Sep.put 5 h rfl ?_ | refine Sep.callp h (valid79 ⟨ax, ay, bx, by', cx, cy⟩ _) ?_); (clear F; (try clear h); intros; rename_i h; (try simp only [nfD] at h); have F := h.facts; (try simp only [nfF, emp_fact, rds_fact, frm_fact, tab_fact] at F); try simp -dsimp only [↓vcA, vcB, vcD, ↓pureT_lenS, ↓iteT, ↓iteF, cond_true, cond_false, eq_self, argE, Env.get, Env.push, ev, evs, evo, retV, Value.cells, Value.oneCell', setR, overR, fillL, zl, places, allSizes, heldC, ne_eq, Int.reduceLE, Int.reduceLT, Int.reduceEq, Int.reduceNe, Int.reduceToNat, Int.cast_ofNat_Int, Nat.reduceMul, Nat.reduceLeDiff, reduceIte, Nat.reduceEqDiff, Nat.reduceAdd, ↓reduceIte, Try.vcT, F, h.cell0, gets, vsD, if_true, if_false, Bool.false_eq_true, cellsAt]))
  exact ⟨rfl, h.done⟩
theorem anyBad (v : Value) (xs : List (List Int)) (w : World) (hT : Tab 10 w v xs) :
    Calls Try.prog 80 [v, .func (.func 81) #[] #[]].toArray w (RetK fun r w' => r = .bool (xs.any badRe) ∧ Chg (fun _ => False) w w') := by
  obtain ⟨a, cc, rfl⟩ := hT.shape
  have hln := hT.len
  simp only [maxLen] at hln
  have h := Sep.nil w
  refine walk Try.func80 rfl (by kernel_rfl) (by rw [Try.nt80]; simp) ?_
  (try simp only [nfD] at h); have F := h.facts; (try simp only [nfF, emp_fact, rds_fact, frm_fact, tab_fact] at F)
  simp -dsimp only [↓vcA, vcB, vcD, ↓pureT_lenS, ↓iteT, ↓iteF, cond_true, cond_false, eq_self, argE, Env.get, Env.push, ev, evs, evo, retV, Value.cells, Value.oneCell', setR, overR, fillL, zl, places, allSizes, heldC, ne_eq, Int.reduceLE, Int.reduceLT, Int.reduceEq, Int.reduceNe, Int.reduceToNat, Int.cast_ofNat_Int, Nat.reduceMul, Nat.reduceLeDiff, reduceIte, Nat.reduceEqDiff, Nat.reduceAdd, ↓reduceIte, Try.vcT]
  refine walk Try.func137 rfl (by kernel_rfl) (by rw [Try.nt137]; simp) ?_
  simp -dsimp only [↓vcA, vcB, vcD, ↓pureT_lenS, ↓iteT, ↓iteF, cond_true, cond_false, eq_self, argE, Env.get, Env.push, ev, evs, evo, retV, Value.cells, Value.oneCell', setR, overR, fillL, zl, places, allSizes, heldC, ne_eq, Int.reduceLE, Int.reduceLT, Int.reduceEq, Int.reduceNe, Int.reduceToNat, Int.cast_ofNat_Int, Nat.reduceMul, Nat.reduceLeDiff, reduceIte, Nat.reduceEqDiff, Nat.reduceAdd, ↓reduceIte, Try.vcT]
  refine walkLoop [0, 1, 7] [8] (fun m vs w' => ∃ i, i ≤ xs.length ∧ m = xs.length - i ∧ vs = [.int .i64 i] ∧ Sep w (fun _ => False) [] w' ∧ (xs.take i).any badRe = false) (by kernel_rfl) ?_ ?_
  · simp -dsimp only [↓vcA, vcB, vcD, ↓pureT_lenS, ↓iteT, ↓iteF, cond_true, cond_false, eq_self, argE, Env.get, Env.push, ev, evs, evo, retV, Value.cells, Value.oneCell', setR, overR, fillL, zl, places, allSizes, heldC, ne_eq, Int.reduceLE, Int.reduceLT, Int.reduceEq, Int.reduceNe, Int.reduceToNat, Int.cast_ofNat_Int, Nat.reduceMul, Nat.reduceLeDiff, reduceIte, Nat.reduceEqDiff, Nat.reduceAdd, ↓reduceIte, Try.vcT, gets]
    exact ⟨_, 0, Nat.zero_le _, rfl, rfl, h, by simp⟩
  intro ks hk m vs w2 hi
  clear h F
  obtain ⟨i, hi, rfl, rfl, h, hany⟩ := hi
  simp -dsimp only [gets, argE, List.zip_cons_cons, List.zip_nil_left, List.cons_append, List.nil_append, Env.get, Env.push, Option.bind_some, Option.map_some, Option.some.injEq, reduceIte, Nat.reduceEqDiff, Nat.reduceAdd, ↓reduceIte] at hk; subst hk
  by_cases hlt : (i : Int) < xs.length
  case neg =>
    have hil : i = xs.length := by omega
    subst hil
    rw [List.take_of_length_le (Nat.le_refl _)] at hany
    (try simp only [nfD] at h); have F := h.facts; (try simp only [nfF, emp_fact, rds_fact, frm_fact, tab_fact] at F); try simp -dsimp only [↓vcA, vcB, vcD, ↓pureT_lenS, ↓iteT, ↓iteF, cond_true, cond_false, eq_self, argE, Env.get, Env.push, ev, evs, evo, retV, Value.cells, Value.oneCell', setR, overR, fillL, zl, places, allSizes, heldC, ne_eq, Int.reduceLE, Int.reduceLT, Int.reduceEq, Int.reduceNe, Int.reduceToNat, Int.cast_ofNat_Int, Nat.reduceMul, Nat.reduceLeDiff, reduceIte, Nat.reduceEqDiff, Nat.reduceAdd, ↓reduceIte, Try.vcT, F, h.cell0, gets, vsD, if_true, if_false, Bool.false_eq_true,  decide_eq_false hlt, hany]
    exact h.done
  have hil : i < xs.length := by omega
  obtain ⟨b, o, rfl, hcells⟩ := hT.at hil (by decide)
  have hx := hT.wid _ (List.getElem_mem hil)
  have hsplit : xs.any badRe = (badRe xs[i] || (xs.drop (i + 1)).any badRe) := by
    have e : xs.any badRe = ((xs.take i).any badRe || (xs.drop i).any badRe) := by rw [← List.any_append, List.take_append_drop]
    rw [e, hany, List.drop_eq_getElem_cons hil, List.any_cons, Bool.false_or]
  have hnext : (xs.take (i + 1)).any badRe = badRe xs[i] := by
    rw [List.take_succ_eq_append_getElem hil, List.any_append, hany]; simp
  generalize xs[i] = x at *
  obtain ⟨a0, a1, a2, a3, a4, a5, a6, a7, a8, a9, rfl⟩ := len_10 hx
  have ei : IntKind.i64.wrap ((i : Int) + 1) = ((i + 1 : Nat) : Int) := by rw [i64w _ (by omega) (by omega)]; omega
  have hcw : cellsAt w2 b (o + i * 10) 10 = some (cellsI [a0, a1, a2, a3, a4, a5, a6, a7, a8, a9]) := by
    obtain ⟨hl, hat⟩ := cellsAt_elim hcells
    have := cellsAt_of (w := w2) (b := b) (o := o + i * 10) (cellsI [a0, a1, a2, a3, a4, a5, a6, a7, a8, a9]) (fun j u hj => by
      have := hat j u hj
      rw [h.cell0 (by rw [this]; rfl) id, this])
    simpa [cellsI] using this
  clear hcells
  (try simp only [nfD] at h); have F := h.facts; (try simp only [nfF, emp_fact, rds_fact, frm_fact, tab_fact] at F); try simp -dsimp only [↓vcA, vcB, vcD, ↓pureT_lenS, ↓iteT, ↓iteF, cond_true, cond_false, eq_self, argE, Env.get, Env.push, ev, evs, evo, retV, Value.cells, Value.oneCell', setR, overR, fillL, zl, places, allSizes, heldC, ne_eq, Int.reduceLE, Int.reduceLT, Int.reduceEq, Int.reduceNe, Int.reduceToNat, Int.cast_ofNat_Int, Nat.reduceMul, Nat.reduceLeDiff, reduceIte, Nat.reduceEqDiff, Nat.reduceAdd, ↓reduceIte, Try.vcT, F, h.cell0, gets, vsD, if_true, if_false, Bool.false_eq_true,  decide_eq_true hlt]
  refine ⟨⟨by omega, by omega⟩, ?_⟩
  (try simp only [nfD] at h); have F := h.facts; (try simp only [nfF, emp_fact, rds_fact, frm_fact, tab_fact] at F); try simp -dsimp only [↓vcA, vcB, vcD, ↓pureT_lenS, ↓iteT, ↓iteF, cond_true, cond_false, eq_self, argE, Env.get, Env.push, ev, evs, evo, retV, Value.cells, Value.oneCell', setR, overR, fillL, zl, places, allSizes, heldC, ne_eq, Int.reduceLE, Int.reduceLT, Int.reduceEq, Int.reduceNe, Int.reduceToNat, Int.cast_ofNat_Int, Nat.reduceMul, Nat.reduceLeDiff, reduceIte, Nat.reduceEqDiff, Nat.reduceAdd, ↓reduceIte, Try.vcT, F, h.cell0, gets, vsD, if_true, if_false, Bool.false_eq_true,  hcw, cellsI]
  clear hcw
  refine Sep.callp h (badClosure a0 a1 a2 a3 a4 a5 a6 a7 a8 a9 w2) ?_
  clear h F
  intro w3 h
  cases hb : badRe [a0, a1, a2, a3, a4, a5, a6, a7, a8, a9] with
  | true =>
    rw [hb] at hsplit
    have hd : (0 : Int) ≤ i := by omega
    (try simp only [nfD] at h); have F := h.facts; (try simp only [nfF, emp_fact, rds_fact, frm_fact, tab_fact] at F); try simp -dsimp only [↓vcA, vcB, vcD, ↓pureT_lenS, ↓iteT, ↓iteF, cond_true, cond_false, eq_self, argE, Env.get, Env.push, ev, evs, evo, retV, Value.cells, Value.oneCell', setR, overR, fillL, zl, places, allSizes, heldC, ne_eq, Int.reduceLE, Int.reduceLT, Int.reduceEq, Int.reduceNe, Int.reduceToNat, Int.cast_ofNat_Int, Nat.reduceMul, Nat.reduceLeDiff, reduceIte, Nat.reduceEqDiff, Nat.reduceAdd, ↓reduceIte, Try.vcT, F, h.cell0, gets, vsD, if_true, if_false, Bool.false_eq_true,  hb, decide_eq_true hd, hsplit]
    simp [hsplit]
    exact h.done
  | false =>
    rw [hb] at hnext
    (try simp only [nfD] at h); have F := h.facts; (try simp only [nfF, emp_fact, rds_fact, frm_fact, tab_fact] at F); try simp -dsimp only [↓vcA, vcB, vcD, ↓pureT_lenS, ↓iteT, ↓iteF, cond_true, cond_false, eq_self, argE, Env.get, Env.push, ev, evs, evo, retV, Value.cells, Value.oneCell', setR, overR, fillL, zl, places, allSizes, heldC, ne_eq, Int.reduceLE, Int.reduceLT, Int.reduceEq, Int.reduceNe, Int.reduceToNat, Int.cast_ofNat_Int, Nat.reduceMul, Nat.reduceLeDiff, reduceIte, Nat.reduceEqDiff, Nat.reduceAdd, ↓reduceIte, Try.vcT, F, h.cell0, gets, vsD, if_true, if_false, Bool.false_eq_true,  hb, ei]
    exact ⟨_, by omega, i + 1, by omega, rfl, rfl, h, hnext⟩
end Go.Proofs.Ytnhgjgoglmadnaa
namespace Go.Proofs.Ytnhgjgoglmadnaa
open Go.RowKit
set_option maxRecDepth 100000
set_option linter.unusedSimpArgs false
set_option linter.unusedVariables false
set_option pp.maxSteps 1500
set_option pp.deepTerms.threshold 8

def flatC (cs : List Ch) (us : List Value) : List Value := (cs.zip us).flatMap cellsC
theorem flatC_one {cs : List Ch} {us : List Value} (h : ∀ u ∈ us, u.oneCell' = true) {u : Value} (hu : u ∈ flatC cs us) : u.oneCell' = true := by
  obtain ⟨p, hp, h2⟩ := List.mem_flatMap.1 hu
  have := (List.of_mem_zip hp).2
  simp only [cellsC, List.mem_cons, List.not_mem_nil, or_false] at h2
  rcases h2 with rfl | rfl | rfl
  · rfl
  · rfl
  · exact h _ this
theorem flatC_app (cs : List Ch) (us : List Value) (c : Ch) (u : Value) (h : us.length = cs.length) : flatC (cs ++ [c]) (us ++ [u]) = flatC cs us ++ cellsC (c, u) := by
  unfold flatC; rw [List.zip_append h.symm]; simp
def chn (v : Value) (cs : List Ch) : Res where
  on w A := (∀ x, A x → x < w.heap.size) ∧ ∃ us, w.ownsRow 0 141 3 v cs.length (flatC cs us) ∧ (∀ k, v.ownBlock = some k → A k) ∧ us.length = cs.length ∧ (∀ u ∈ us, u.oneCell' = true) ∧
    ∀ (i : Nat) (u : Value) (c : Ch), us[i]? = some u → cs[i]? = some c → Rd w u c.b ∧ (0 < c.b.length → ∀ k, u.ownBlock = some k → A k ∧ v.ownBlock ≠ some k)
  rd _ := False
  fact w := Chn w v cs
  lt := fun h => h.1
  chg := fun {w w' A} ⟨h1, us, h2, h3, h4, h5, h6⟩ hs hc => ⟨fun x hx => Nat.lt_of_lt_of_le (h1 x hx) hs, us, owns_same h2 fun k hk => hc k (h1 k (h3 k hk)) (.inl (h3 k hk)), h3, h4, h5, fun i u l hu hl =>
    ⟨(h6 i u l hu hl).1.same fun hp k hk hlt => hc k hlt (.inl ((h6 i u l hu hl).2 hp k hk).1), (h6 i u l hu hl).2⟩⟩
  ok := fun ⟨h1, us, h2, h3, h4, h5, h6⟩ => ⟨us, h4, row_of_owns h2 fun u hu => flatC_one h5 hu, fun i u l hu hl => (h6 i u l hu hl).1⟩
theorem chn_fact (v : Value) (cs : List Ch) (w : World) : (chn v cs).fact w = Chn w v cs := (rfl)
theorem Sep.chnNil {w0 w : World} {S : Nat → Prop} {M : List Res} (h : Sep w0 S M w) : Sep w0 S (M ++ [chn (.slice none 0 0) []]) w :=
  h.push (Chg.refl _ _) (A := fun _ => False) ⟨fun _ f => f.elim, [], World.ownsRow_nil _ _ _ _, fun k hk => by simp [Value.ownBlock] at hk, rfl, fun u hu => (by cases hu), fun i u l hu => (by simp at hu)⟩ (fun _ f => f.elim) (fun _ f => f.elim)
theorem infoCh : (Try.prog.info? 141).map (fun i => (i.zero, i.size, i.bytes)) = some (some (.agg #[.int .i64 0, .bool false, .slice none 0 0]), 3, 40) := by kernel_rfl
theorem Sep.appCh (i j k : Nat) {w0 w : World} {S : Nat → Prop} {M : List Res} {b : Nat} {v u : Value} {cs : List Ch} {t : Int} {d : Bool} {xs : List Int} {ty : TypeId} {K : Value → World → Prop} (h : Sep w0 S M w) (hi : (M.set j emp)[i]? = some (chn v cs)) (hj : M[j]? = some (byt u xs)) (hk : M[k]? = some (blk b 141 [.int .i64 t, .bool d, u])) (hn : cs.length + 1 ≤ 100000000)
    (hK : ∀ a c w', Sep w0 S ((M.set j emp).set i (chn (.slice a (cs ++ [Ch.mk t d xs]).length c) (cs ++ [Ch.mk t d xs]))) w' → K (.slice a (cs ++ [Ch.mk t d xs]).length c) w') : RunK Try.prog (Builtin.append_ #[94, 94] ty #[v, .slice (some ⟨b, 0, none⟩) 1 1]) w K := by
  obtain ⟨C, ⟨c1, _⟩, _, _⟩ := h.at hk
  obtain ⟨A, B, ⟨h1, us, h2, h3, h4, h5, h6⟩, ⟨g1, rfl⟩, hd, h7⟩ := h.at2 i j hi hj
  obtain ⟨au, cu, rfl⟩ := owns_shape g1
  have hrow : Row 3 w (.slice (some ⟨b, 0, none⟩) 1 1) 1 (cellsC (⟨t, d, xs⟩, .slice au xs.length cu)) := ⟨rfl, fun u hu => by
      simp only [cellsC, List.mem_cons, List.not_mem_nil, or_false] at hu
      rcases hu with rfl | rfl | rfl <;> rfl, _, _, rfl, Nat.le_refl _, by simp [maxLen], fun e => by (cases e), fun _ => ⟨b, 0, rfl, fun j u hj => by rw [cell_of_row w b _ _ _ _ c1, Nat.zero_add]; simpa [cellsC] using hj⟩⟩
  refine append_rule infoCh Try.underlying94 rfl (by decide) h2 hrow (by omega) (by simp only [maxLen]; omega) fun v' w' ho hg hat => ?_
  obtain ⟨a, c, rfl⟩ := owns_shape ho
  have hc : Chg A w w' := (Chg.ofGrown hg).mono h3
  have el : (cs ++ [Ch.mk t d xs]).length = cs.length + 1 := by simp
  have hb : ∀ k, (Value.slice a (cs.length + 1) c).ownBlock = some k → A k ∨ w.heap.size ≤ k := fun k hk => by
    rcases hat with e | e
    · exact .inl (h3 k (by rw [← e]; exact hk))
    · rw [hk] at e; injection e with e; exact .inr (by omega)
  have hlt : ∀ k, (Value.slice a (cs.length + 1) c).ownBlock = some k → k < w'.heap.size := fun k hk => (World.ownsRow.lt ho k hk).2
  rw [← flatC_app cs us ⟨t, d, xs⟩ (.slice au xs.length cu) h4] at ho
  have hB : ∀ k, (Value.slice au xs.length cu).ownBlock = some k → k < w.heap.size := fun k hk => g1.lt hk
  have := hK a c w' (h7 _ (fun x => A x ∨ (Value.slice au xs.length cu).ownBlock = some x ∨ (Value.slice a (cs.length + 1) c).ownBlock = some x) w' ⟨?_, us ++ [.slice au xs.length cu], by rw [el]; exact ho, fun k hk => .inr (.inr (by rw [el] at hk; exact hk)), by simp [h4], fun u hu => (List.mem_append.1 hu).elim (h5 u) fun hu => by simp at hu; subst hu; rfl, fun i u l hu hl' => ?_⟩ ?_ hc (fun _ f => f))
  · rw [el] at this; exact this
  · rintro x (hx | hx | hx)
    · exact Nat.lt_of_lt_of_le (h1 x hx) hc.size
    · exact Nat.lt_of_lt_of_le (hB x hx) hc.size
    · exact hlt x hx
  · rw [el]
    by_cases hi : i < us.length
    · rw [List.getElem?_append_left hi] at hu
      rw [List.getElem?_append_left (by omega)] at hl'
      obtain ⟨k1, k2⟩ := h6 i u l hu hl'
      have kne : 0 < l.b.length → ∀ k, u.ownBlock = some k → ¬ v.ownBlock = some k := fun hp k hk => (k2 hp k hk).2
      refine ⟨k1.chg' (Chg.ofGrown hg) fun hp k hk e => kne hp k hk e, fun hp k hk => ⟨.inl (k2 hp k hk).1, fun e => ?_⟩⟩
      rcases hat with e' | e'
      · rw [e'] at e; exact kne hp k hk e
      · rw [e'] at e; injection e with e; have := k1.lt hp k hk; omega
    · rw [List.getElem?_append_right (by omega)] at hu
      rw [List.getElem?_append_right (by omega)] at hl'
      have e0 : i - us.length = 0 := by
        have := (List.getElem?_eq_some_iff.1 hu).1
        simp at this; omega
      rw [e0] at hu
      rw [show i - cs.length = 0 by omega] at hl'
      simp at hu hl'
      subst hu hl'
      refine ⟨g1.rd.chg' hc fun hp k hk hA => hd k hA hk, fun hp k hk => ⟨.inr (.inl hk), fun e => ?_⟩⟩
      rcases hb k e with hA | hA
      · exact hd k hA hk
      · have := hB k hk; omega
  · rintro x (hx | hx | hx)
    · exact .inl hx
    · exact .inr (.inl hx)
    · rcases hb x hx with hx | hx
      · exact .inl hx
      · exact .inr (.inr hx)

def rCh (s : R8) : Ch := ⟨s.numV 1, decide ((s.numS 1).numV 1 = 1), (((s.numS 1).numS 1).numS 2).rawV (((s.numS 1).numS 1).numV 2)⟩
def sCh (s : R8) : R8 := (((s.numS 1).numS 1).numS 2).rawS (((s.numS 1).numS 1).numV 2)
theorem sCh_byt {s : R8} (hb : Byt s.l) : Byt (sCh s).l := (rawS_byt _ _ (numS_byt _ 2 (numS_byt _ 1 (numS_byt _ 1 hb)))).1
set_option maxHeartbeats 1000000 in
theorem itemsCh {w0 w : World} {q G : Res} {r c : Nat} {s : R8} {K : Value → World → Prop} (h : Sep w0 (fun _ => False) [q, rdr 134 r s (fun _ => False), blk c 53 [.pointer (some ⟨r, 0, none⟩)], G] w) (hb : Byt s.l)
    (hK : ∀ a cc w1, Sep w0 (fun _ => False) [q, rdr 134 r (itemsS rCh sCh s) (fun _ => False), blk c 53 [.pointer (some ⟨r, 0, none⟩)], G, chn (.slice a (itemsV rCh sCh s).length cc) (itemsV rCh sCh s)] w1 → K (.slice a (itemsV rCh sCh s).length cc) w1) :
    callsK Try.prog 112 [.pointer (some ⟨r, 0, none⟩), .func (.func 113) #[] #[.pointer (some ⟨c, 0, none⟩)]].toArray w K := by
  refine walk Try.func112 rfl (by kernel_rfl) (by rw [Try.nt112]; simp) ?_
  have hn := num2_rng s hb
  (try simp only [nfD] at h); have F := h.facts; (try simp only [nfF, emp_fact, rds_fact, frm_fact, tab_fact, chn_fact] at F)
  simp -dsimp only [↓vcA, vcB, vcD, ↓pureT_lenS, ↓iteT, ↓iteF, cond_true, cond_false, eq_self, argE, Env.get, Env.push, ev, evs, evo, retV, Value.cells, Value.oneCell', setR, overR, fillL, zl, places, allSizes, heldC, ne_eq, Int.reduceLE, Int.reduceLT, Int.reduceEq, Int.reduceNe, Int.reduceToNat, Int.cast_ofNat_Int, Nat.reduceMul, Nat.reduceLeDiff, reduceIte, Nat.reduceEqDiff, Nat.reduceAdd, ↓reduceIte, Try.vcT]
  refine Sep.rdNum 1 h rfl ?_
  clear h F
  intro w1 h
  (try simp only [nfD] at h); have F := h.facts; (try simp only [nfF, emp_fact, rds_fact, frm_fact, tab_fact, chn_fact] at F); try simp -dsimp only [↓vcA, vcB, vcD, ↓pureT_lenS, ↓iteT, ↓iteF, cond_true, cond_false, eq_self, argE, Env.get, Env.push, ev, evs, evo, retV, Value.cells, Value.oneCell', setR, overR, fillL, zl, places, allSizes, heldC, ne_eq, Int.reduceLE, Int.reduceLT, Int.reduceEq, Int.reduceNe, Int.reduceToNat, Int.cast_ofNat_Int, Nat.reduceMul, Nat.reduceLeDiff, reduceIte, Nat.reduceEqDiff, Nat.reduceAdd, ↓reduceIte, Try.vcT, F, h.cell0, gets, vsD, if_true, if_false, Bool.false_eq_true]
  have h := h.chnNil
  obtain ⟨N, hN⟩ := Int.eq_ofNat_of_zero_le hn.1
  have eN : (s.numV 2).toNat = N := by omega
  rw [hN] at hn
  rw [hN]
  refine walkLoop [0, 1] [4, 5] (fun m vs w' => ∃ n t out a cc, m = n ∧ vs = [.slice a out.length cc, .int .i64 (n : Nat)] ∧ Sep w0 (fun _ => False) [q, rdr 134 r t (fun _ => False), blk c 53 [.pointer (some ⟨r, 0, none⟩)], G, chn (.slice a out.length cc) out] w' ∧
    Byt t.l ∧ itemsF rCh sCh N (s.numS 2) = (out ++ (itemsF rCh sCh n t).1, (itemsF rCh sCh n t).2) ∧ out.length + n ≤ 65535) (by kernel_rfl) ?_ ?_
  · simp -dsimp only [↓vcA, vcB, vcD, ↓pureT_lenS, ↓iteT, ↓iteF, cond_true, cond_false, eq_self, argE, Env.get, Env.push, ev, evs, evo, retV, Value.cells, Value.oneCell', setR, overR, fillL, zl, places, allSizes, heldC, ne_eq, Int.reduceLE, Int.reduceLT, Int.reduceEq, Int.reduceNe, Int.reduceToNat, Int.cast_ofNat_Int, Nat.reduceMul, Nat.reduceLeDiff, reduceIte, Nat.reduceEqDiff, Nat.reduceAdd, ↓reduceIte, Try.vcT, gets]
    exact ⟨_, N, _, [], none, 0, rfl, rfl, h, numS_byt s 2 hb, by simp, by simp; omega⟩
  intro ks hk m vs w2 hi
  clear h F
  obtain ⟨n, t, out, a, cc, rfl, rfl, h, hbt, hit, hlen⟩ := hi
  simp -dsimp only [gets, argE, List.zip_cons_cons, List.zip_nil_left, List.cons_append, List.nil_append, Env.get, Env.push, Option.bind_some, Option.map_some, Option.some.injEq, reduceIte, Nat.reduceEqDiff, Nat.reduceAdd, ↓reduceIte] at hk; subst hk
  have done : (itemsF rCh sCh m t).1 = [] ∧ (itemsF rCh sCh m t).2 = t → ∀ {w'}, Sep w0 (fun _ => False) [q, rdr 134 r t (fun _ => False), blk c 53 [.pointer (some ⟨r, 0, none⟩)], G, chn (.slice a out.length cc) out] w' → K (.slice a out.length cc) w' := fun hd w' h => by
    have e1 : itemsV rCh sCh s = out := by unfold itemsV; rw [eN, hit, hd.1]; simp
    have e2 : itemsS rCh sCh s = t := by unfold itemsS; rw [eN, hit, hd.2]
    have := hK a cc w'
    rw [e1, e2] at this
    exact this h
  match m, hit, hlen, done with
  | 0, hit, hlen, done =>
    have h0 : ¬ (0 : Int) < ((0 : Nat) : Int) := by omega
    (try simp only [nfD] at h); have F := h.facts; (try simp only [nfF, emp_fact, rds_fact, frm_fact, tab_fact, chn_fact] at F); try simp -dsimp only [↓vcA, vcB, vcD, ↓pureT_lenS, ↓iteT, ↓iteF, cond_true, cond_false, eq_self, argE, Env.get, Env.push, ev, evs, evo, retV, Value.cells, Value.oneCell', setR, overR, fillL, zl, places, allSizes, heldC, ne_eq, Int.reduceLE, Int.reduceLT, Int.reduceEq, Int.reduceNe, Int.reduceToNat, Int.cast_ofNat_Int, Nat.reduceMul, Nat.reduceLeDiff, reduceIte, Nat.reduceEqDiff, Nat.reduceAdd, ↓reduceIte, Try.vcT, F, h.cell0, gets, vsD, if_true, if_false, Bool.false_eq_true,  decide_eq_false h0]
    exact done ⟨rfl, rfl⟩ h
  | n + 1, hit, hlen, done =>
  have h0 : (0 : Int) < ((n + 1 : Nat) : Int) := by omega
  have en : IntKind.i64.wrap (((n + 1 : Nat) : Int) - 1) = (n : Int) := by rw [i64w _ (by omega) (by omega)]; omega
  (try simp only [nfD] at h); have F := h.facts; (try simp only [nfF, emp_fact, rds_fact, frm_fact, tab_fact, chn_fact] at F); try simp -dsimp only [↓vcA, vcB, vcD, ↓pureT_lenS, ↓iteT, ↓iteF, cond_true, cond_false, eq_self, argE, Env.get, Env.push, ev, evs, evo, retV, Value.cells, Value.oneCell', setR, overR, fillL, zl, places, allSizes, heldC, ne_eq, Int.reduceLE, Int.reduceLT, Int.reduceEq, Int.reduceNe, Int.reduceToNat, Int.cast_ofNat_Int, Nat.reduceMul, Nat.reduceLeDiff, reduceIte, Nat.reduceEqDiff, Nat.reduceAdd, ↓reduceIte, Try.vcT, F, h.cell0, gets, vsD, if_true, if_false, Bool.false_eq_true,  decide_eq_true h0]
  refine Sep.rdLeft 1 h rfl ?_
  by_cases hl : (0 : Int) < t.left
  case neg =>
    (try simp only [nfD] at h); have F := h.facts; (try simp only [nfF, emp_fact, rds_fact, frm_fact, tab_fact, chn_fact] at F); try simp -dsimp only [↓vcA, vcB, vcD, ↓pureT_lenS, ↓iteT, ↓iteF, cond_true, cond_false, eq_self, argE, Env.get, Env.push, ev, evs, evo, retV, Value.cells, Value.oneCell', setR, overR, fillL, zl, places, allSizes, heldC, ne_eq, Int.reduceLE, Int.reduceLT, Int.reduceEq, Int.reduceNe, Int.reduceToNat, Int.cast_ofNat_Int, Nat.reduceMul, Nat.reduceLeDiff, reduceIte, Nat.reduceEqDiff, Nat.reduceAdd, ↓reduceIte, Try.vcT, F, h.cell0, gets, vsD, if_true, if_false, Bool.false_eq_true,  decide_eq_false hl]
    exact done (by simp [itemsF, hl]) h
  have hit2 : itemsF rCh sCh N (s.numS 2) = ((out ++ [rCh t]) ++ (itemsF rCh sCh n (sCh t)).1, (itemsF rCh sCh n (sCh t)).2) := by
    rw [hit]; simp [itemsF, hl]
  (try simp only [nfD] at h); have F := h.facts; (try simp only [nfF, emp_fact, rds_fact, frm_fact, tab_fact, chn_fact] at F); try simp -dsimp only [↓vcA, vcB, vcD, ↓pureT_lenS, ↓iteT, ↓iteF, cond_true, cond_false, eq_self, argE, Env.get, Env.push, ev, evs, evo, retV, Value.cells, Value.oneCell', setR, overR, fillL, zl, places, allSizes, heldC, ne_eq, Int.reduceLE, Int.reduceLT, Int.reduceEq, Int.reduceNe, Int.reduceToNat, Int.cast_ofNat_Int, Nat.reduceMul, Nat.reduceLeDiff, reduceIte, Nat.reduceEqDiff, Nat.reduceAdd, ↓reduceIte, Try.vcT, F, h.cell0, gets, vsD, if_true, if_false, Bool.false_eq_true,  decide_eq_true hl]
  refine walk Try.func113 rfl (by kernel_rfl) (by rw [Try.nt113]; simp) ?_
  (try simp only [nfD] at h); have F := h.facts; (try simp only [nfF, emp_fact, rds_fact, frm_fact, tab_fact, chn_fact] at F); try simp -dsimp only [↓vcA, vcB, vcD, ↓pureT_lenS, ↓iteT, ↓iteF, cond_true, cond_false, eq_self, argE, Env.get, Env.push, ev, evs, evo, retV, Value.cells, Value.oneCell', setR, overR, fillL, zl, places, allSizes, heldC, ne_eq, Int.reduceLE, Int.reduceLT, Int.reduceEq, Int.reduceNe, Int.reduceToNat, Int.cast_ofNat_Int, Nat.reduceMul, Nat.reduceLeDiff, reduceIte, Nat.reduceEqDiff, Nat.reduceAdd, ↓reduceIte, Try.vcT, F, h.cell0, gets, vsD, if_true, if_false, Bool.false_eq_true]
  refine h.new ?_
  clear h F
  intro w5 b5 h
  (try simp only [nfD] at h); have F := h.facts; (try simp only [nfF, emp_fact, rds_fact, frm_fact, tab_fact, chn_fact] at F); try simp -dsimp only [↓vcA, vcB, vcD, ↓pureT_lenS, ↓iteT, ↓iteF, cond_true, cond_false, eq_self, argE, Env.get, Env.push, ev, evs, evo, retV, Value.cells, Value.oneCell', setR, overR, fillL, zl, places, allSizes, heldC, ne_eq, Int.reduceLE, Int.reduceLT, Int.reduceEq, Int.reduceNe, Int.reduceToNat, Int.cast_ofNat_Int, Nat.reduceMul, Nat.reduceLeDiff, reduceIte, Nat.reduceEqDiff, Nat.reduceAdd, ↓reduceIte, Try.vcT, F, h.cell0, gets, vsD, if_true, if_false, Bool.false_eq_true]
  refine walkDraw (.h 0 0 (.h 2 1 (.ll 1 (.ll 3 (.q 4 (.q 5 (.l 6 (.l 7 .fin)))) 6 (.l 3 (.q 4 (.q 5 (.l 7 .fin))))) 6 (.l 1 (.l 3 (.q 4 (.q 5 (.l 7 .fin)))))))) [(c, 0, .pointer (some ⟨r, 0, none⟩)), (c, 0, .pointer (some ⟨r, 0, none⟩))] (by kernel_rfl) (by simp [Holds_nil, Holds_cons, F]) ?_
  refine h.draw ?_
  clear h F
  intro w6 h
  (try simp only [nfD] at h); have F := h.facts; (try simp only [nfF, emp_fact, rds_fact, frm_fact, tab_fact, chn_fact] at F); try simp -dsimp only [↓vcA, vcB, vcD, ↓pureT_lenS, ↓iteT, ↓iteF, cond_true, cond_false, eq_self, argE, Env.get, Env.push, ev, evs, evo, retV, Value.cells, Value.oneCell', setR, overR, fillL, zl, places, allSizes, heldC, ne_eq, Int.reduceLE, Int.reduceLT, Int.reduceEq, Int.reduceNe, Int.reduceToNat, Int.cast_ofNat_Int, Nat.reduceMul, Nat.reduceLeDiff, reduceIte, Nat.reduceEqDiff, Nat.reduceAdd, ↓reduceIte, Try.vcT, F, h.cell0, gets, vsD, if_true, if_false, Bool.false_eq_true]
  refine ⟨?_, ?_⟩
  case' refine_1 =>
    refine Sep.rdNum 1 h rfl ?_
    clear h F
    intro w7 h
    (try simp only [nfD] at h); have F := h.facts; (try simp only [nfF, emp_fact, rds_fact, frm_fact, tab_fact, chn_fact] at F); try simp -dsimp only [↓vcA, vcB, vcD, ↓pureT_lenS, ↓iteT, ↓iteF, cond_true, cond_false, eq_self, argE, Env.get, Env.push, ev, evs, evo, retV, Value.cells, Value.oneCell', setR, overR, fillL, zl, places, allSizes, heldC, ne_eq, Int.reduceLE, Int.reduceLT, Int.reduceEq, Int.reduceNe, Int.reduceToNat, Int.cast_ofNat_Int, Nat.reduceMul, Nat.reduceLeDiff, reduceIte, Nat.reduceEqDiff, Nat.reduceAdd, ↓reduceIte, Try.vcT, F, h.cell0, gets, vsD, if_true, if_false, Bool.false_eq_true]
    refine ⟨?_, ?_⟩
  all_goals
    repeat ((first | refine Sep.new h ?_ | refine Sep.put 0 h rfl ?_ | refine Sep.put 1 h rfl ?_ | refine Sep.put 2 h rfl ?_ | refine Sep.put 3 h rfl ?_ | refine Sep.put 4 h rfl ?_ | refine Sep.put 5 h rfl ?_ | refine Sep.rdNum 1 h rfl ?_ | refine Sep.put 6 h rfl ?_); (clear F; (try clear h); intros; rename_i h; (try simp only [nfD] at h); have F := h.facts; (try simp only [nfF, emp_fact, rds_fact, frm_fact, tab_fact, chn_fact] at F); try simp -dsimp only [↓vcA, vcB, vcD, ↓pureT_lenS, ↓iteT, ↓iteF, cond_true, cond_false, eq_self, argE, Env.get, Env.push, ev, evs, evo, retV, Value.cells, Value.oneCell', setR, overR, fillL, zl, places, allSizes, heldC, ne_eq, Int.reduceLE, Int.reduceLT, Int.reduceEq, Int.reduceNe, Int.reduceToNat, Int.cast_ofNat_Int, Nat.reduceMul, Nat.reduceLeDiff, reduceIte, Nat.reduceEqDiff, Nat.reduceAdd, ↓reduceIte, Try.vcT, F, h.cell0, gets, vsD, if_true, if_false, Bool.false_eq_true, cellsAt]))
    refine walkDraw (.h 0 0 (.h 1 1 (.l 2 (.l 3 (.q 4 (.l 5 .fin)))))) [(c, 0, .pointer (some ⟨r, 0, none⟩)), (c, 0, .pointer (some ⟨r, 0, none⟩))] (by kernel_rfl) (by simp [Holds_nil, Holds_cons, F]) ?_
    refine h.draw ?_
    clear h F
    intro w8 h
    (try simp only [nfD] at h); have F := h.facts; (try simp only [nfF, emp_fact, rds_fact, frm_fact, tab_fact, chn_fact] at F); try simp -dsimp only [↓vcA, vcB, vcD, ↓pureT_lenS, ↓iteT, ↓iteF, cond_true, cond_false, eq_self, argE, Env.get, Env.push, ev, evs, evo, retV, Value.cells, Value.oneCell', setR, overR, fillL, zl, places, allSizes, heldC, ne_eq, Int.reduceLE, Int.reduceLT, Int.reduceEq, Int.reduceNe, Int.reduceToNat, Int.cast_ofNat_Int, Nat.reduceMul, Nat.reduceLeDiff, reduceIte, Nat.reduceEqDiff, Nat.reduceAdd, ↓reduceIte, Try.vcT, F, h.cell0, gets, vsD, if_true, if_false, Bool.false_eq_true]
    repeat ((first | refine Sep.new h ?_ | refine Sep.put 0 h rfl ?_ | refine Sep.put 1 h rfl ?_ | refine Sep.put 2 h rfl ?_ | refine Sep.put 3 h rfl ?_ | refine Sep.put 4 h rfl ?_ | refine Sep.put 5 h rfl ?_ | refine Sep.rdNum 1 h rfl ?_ | refine Sep.rdRaw 1 h rfl ?_ | refine Sep.put 6 h rfl ?_); (clear F; (try clear h); intros; rename_i h; (try simp only [nfD] at h); have F := h.facts; (try simp only [nfF, emp_fact, rds_fact, frm_fact, tab_fact, chn_fact] at F); try simp -dsimp only [↓vcA, vcB, vcD, ↓pureT_lenS, ↓iteT, ↓iteF, cond_true, cond_false, eq_self, argE, Env.get, Env.push, ev, evs, evo, retV, Value.cells, Value.oneCell', setR, overR, fillL, zl, places, allSizes, heldC, ne_eq, Int.reduceLE, Int.reduceLT, Int.reduceEq, Int.reduceNe, Int.reduceToNat, Int.cast_ofNat_Int, Nat.reduceMul, Nat.reduceLeDiff, reduceIte, Nat.reduceEqDiff, Nat.reduceAdd, ↓reduceIte, Try.vcT, F, h.cell0, gets, vsD, if_true, if_false, Bool.false_eq_true, cellsAt, T3.cells]))
    refine Sep.appCh 4 7 8 h rfl rfl rfl (by omega) ?_
    clear h F
    intro a7 c7 w9 h
    (try simp only [nfD] at h); have F := h.facts; (try simp only [nfF, emp_fact, rds_fact, frm_fact, tab_fact, chn_fact] at F); try simp -dsimp only [↓vcA, vcB, vcD, ↓pureT_lenS, ↓iteT, ↓iteF, cond_true, cond_false, eq_self, argE, Env.get, Env.push, ev, evs, evo, retV, Value.cells, Value.oneCell', setR, overR, fillL, zl, places, allSizes, heldC, ne_eq, Int.reduceLE, Int.reduceLT, Int.reduceEq, Int.reduceNe, Int.reduceToNat, Int.cast_ofNat_Int, Nat.reduceMul, Nat.reduceLeDiff, reduceIte, Nat.reduceEqDiff, Nat.reduceAdd, ↓reduceIte, Try.vcT, F, h.cell0, gets, vsD, if_true, if_false, Bool.false_eq_true,  en]
    refine ⟨_, ?_, n, sCh t, out ++ [rCh t], a7, c7, rfl, rfl, (((h.erase 8).erase 7).erase 6).erase 5, sCh_byt hbt, hit2, by simp; omega⟩
    omega
end Go.Proofs.Ytnhgjgoglmadnaa
namespace Go.Proofs.Ytnhgjgoglmadnaa
open Go.RowKit
set_option maxRecDepth 100000
set_option linter.unusedSimpArgs false
set_option linter.unusedVariables false
set_option pp.maxSteps 1500
set_option pp.deepTerms.threshold 8

structure MapV where
  w : Int
  h : Int
  te : Int
  wi : Int
  mr : Int
  mb : Int
  ti : Int
  p : List (List Int)
  wa : List (List Int)
  pa : List (List Int)
  re : List (List Int)
  ca : List (List Int)
  is : List (List Int)
  co : List (List Int)
  ch : List Ch
structure MapS where
  p : Value
  wa : Value
  pa : Value
  re : Value
  ca : Value
  is : Value
  co : Value
  ch : Value
def MapV.cells (m : MapV) (s : MapS) : List Value := [.int .i64 m.w, .int .i64 m.h, .int .i64 m.te, .int .i64 m.wi, .int .i64 m.mr, .int .i64 m.mb, .int .i64 m.ti, s.p, s.wa, s.pa, s.re, s.ca, s.is, s.co, s.ch]
structure MapR (w : World) (m : MapV) (s : MapS) : Prop where
  p : Tab 2 w s.p m.p
  wa : Tab 5 w s.wa m.wa
  pa : Tab 2 w s.pa m.pa
  re : Tab 10 w s.re m.re
  ca : Tab 9 w s.ca m.ca
  is : Tab 3 w s.is m.is
  co : Tab 3 w s.co m.co
  ch : Chn w s.ch m.ch
structure MapV.Ok (m : MapV) : Prop where
  ns : Ok64 [m.w, m.h, m.te, m.wi, m.mr, m.mb, m.ti]
  p : ∀ x ∈ m.p, Ok64 x
  wa : ∀ x ∈ m.wa, Ok64 x
  pa : ∀ x ∈ m.pa, Ok64 x
  re : ∀ x ∈ m.re, Ok64 x
  ca : ∀ x ∈ m.ca, Ok64 x
  is : ∀ x ∈ m.is, Ok64 x
  co : ∀ x ∈ m.co, Ok64 x
  ch : ∀ x ∈ m.ch, -9223372036854775808 ≤ x.t ∧ x.t ≤ 9223372036854775807
def MapV.room (m : MapV) : Nat := 120 + m.p.length * 16 + m.wa.length * 40 + m.pa.length * 16 + m.re.length * 80 + m.ca.length * 72 + m.is.length * 24 + m.co.length * 24 + roomC m.ch
def MapV.nums (m : MapV) : W8 := (((((((⟨[], false⟩ : W8).num m.w 3).num m.h 3).num m.te 1).num m.wi 2).num m.mr 2).num m.mb 2).num m.ti 4
def MapV.enc (m : MapV) : W8 := encC (encL wCo (encL wIs (encL wCa (encL wRe (encL wPa (encL wW (encL wP m.nums m.p) m.wa) m.pa) m.re) m.ca) m.is) m.co) m.ch
def MapV.fails (m : MapV) : Bool := m.re.any badRe || (m.enc.bad || decide ((1048576 : Int) < m.enc.l.length))
def MapV.bytes (m : MapV) : List Int := if m.fails then [] else m.enc.l
theorem Sep.bytNone {w0 w : World} {S : Nat → Prop} {M : List Res} (h : Sep w0 S M w) : Sep w0 S (M ++ [byt (.slice none 0 0) []]) w :=
  h.push (Chg.refl _ _) (A := fun _ => False) ⟨Own.nil _, by funext x; simp [Value.ownBlock]⟩ (fun _ f => f.elim) (fun _ f => f.elim)
theorem Sep.none {w0 w : World} {S : Nat → Prop} {M : List Res} (h : Sep w0 S M w) : Sep w0 S [] w := ⟨h.chg, trivial, fun _ h => by cases h⟩
set_option maxHeartbeats 1000000 in
theorem encode58 (m : MapV) (s : MapS) (w : World) (R : MapR w m s) (O : m.Ok) (hroom : m.room ≤ 800000) :
    Calls Try.prog 58 [.agg (m.cells s).toArray].toArray w (RetK fun r w' => ∃ N, Sep w (fun _ => False) N w' ∧ (∀ q ∈ N, ∀ x, ¬ q.rd x) ∧
      ∃ a c, r = .tuple #[.slice a m.bytes.length c, .int .i64 (if m.fails then 2 else 0)] ∧ N = [byt (.slice a m.bytes.length c) m.bytes]) := by
  unfold MapV.room at hroom
  have ons := O.ns
  simp only [Ok64, List.forall_mem_cons, List.not_mem_nil, false_implies, implies_true, and_true] at ons
  have h := Sep.nil w
  refine walk Try.func58 rfl (by kernel_rfl) (by rw [Try.nt58]; simp) ?_
  (try simp only [nfD] at h); have F := h.facts; (try simp only [nfF, emp_fact, rds_fact, frm_fact, tab_fact] at F)
  simp -dsimp only [↓vcA, vcB, vcD, ↓pureT_lenS, ↓iteT, ↓iteF, cond_true, cond_false, eq_self, argE, Env.get, Env.push, ev, evs, evo, retV, Value.cells, Value.oneCell', setR, overR, fillL, zl, places, allSizes, heldC, ne_eq, Int.reduceLE, Int.reduceLT, Int.reduceEq, Int.reduceNe, Int.reduceToNat, Int.cast_ofNat_Int, Nat.reduceMul, Nat.reduceLeDiff, reduceIte, Nat.reduceEqDiff, Nat.reduceAdd, ↓reduceIte, Try.vcT]
  refine h.new ?_
  clear h F
  intro w1 b1 h
  simp only [MapV.cells] at h
  (try simp only [nfD] at h); have F := h.facts; (try simp only [nfF, emp_fact, rds_fact, frm_fact, tab_fact] at F); try simp -dsimp only [↓vcA, vcB, vcD, ↓pureT_lenS, ↓iteT, ↓iteF, cond_true, cond_false, eq_self, argE, Env.get, Env.push, ev, evs, evo, retV, Value.cells, Value.oneCell', setR, overR, fillL, zl, places, allSizes, heldC, ne_eq, Int.reduceLE, Int.reduceLT, Int.reduceEq, Int.reduceNe, Int.reduceToNat, Int.cast_ofNat_Int, Nat.reduceMul, Nat.reduceLeDiff, reduceIte, Nat.reduceEqDiff, Nat.reduceAdd, ↓reduceIte, Try.vcT, F, h.cell0, gets, vsD, if_true, if_false, Bool.false_eq_true]
  refine Sep.callp h (anyBad s.re m.re w1 (R.re.sep h fun _ _ => id)) ?_
  clear h F
  intro w2 h
  have fin : ∀ {w' : World} {M : List Res}, m.fails = true → Sep w (fun _ => False) M w' → ∃ N, Sep w (fun _ => False) N w' ∧ (∀ q ∈ N, ∀ x, ¬ q.rd x) ∧
      ∃ a c, Value.tuple #[.slice none 0 0, .int .i64 2] = .tuple #[.slice a m.bytes.length c, .int .i64 (if m.fails then 2 else 0)] ∧ N = [byt (.slice a m.bytes.length c) m.bytes] := fun hf h => by
    have e1 : m.bytes = [] := by simp [MapV.bytes, hf]
    rw [e1, hf]
    exact ⟨_, h.none.bytNone, (fun q hq x hx => by simp at hq; subst hq; exact hx), none, 0, rfl, rfl⟩
  cases hbad : m.re.any badRe with
  | true =>
    (try simp only [nfD] at h); have F := h.facts; (try simp only [nfF, emp_fact, rds_fact, frm_fact, tab_fact] at F); try simp -dsimp only [↓vcA, vcB, vcD, ↓pureT_lenS, ↓iteT, ↓iteF, cond_true, cond_false, eq_self, argE, Env.get, Env.push, ev, evs, evo, retV, Value.cells, Value.oneCell', setR, overR, fillL, zl, places, allSizes, heldC, ne_eq, Int.reduceLE, Int.reduceLT, Int.reduceEq, Int.reduceNe, Int.reduceToNat, Int.cast_ofNat_Int, Nat.reduceMul, Nat.reduceLeDiff, reduceIte, Nat.reduceEqDiff, Nat.reduceAdd, ↓reduceIte, Try.vcT, F, h.cell0, gets, vsD, if_true, if_false, Bool.false_eq_true,  hbad]
    exact fin (by simp [MapV.fails, hbad]) h
  | false =>
  (try simp only [nfD] at h); have F := h.facts; (try simp only [nfF, emp_fact, rds_fact, frm_fact, tab_fact] at F); try simp -dsimp only [↓vcA, vcB, vcD, ↓pureT_lenS, ↓iteT, ↓iteF, cond_true, cond_false, eq_self, argE, Env.get, Env.push, ev, evs, evo, retV, Value.cells, Value.oneCell', setR, overR, fillL, zl, places, allSizes, heldC, ne_eq, Int.reduceLE, Int.reduceLT, Int.reduceEq, Int.reduceNe, Int.reduceToNat, Int.cast_ofNat_Int, Nat.reduceMul, Nat.reduceLeDiff, reduceIte, Nat.reduceEqDiff, Nat.reduceAdd, ↓reduceIte, Try.vcT, F, h.cell0, gets, vsD, if_true, if_false, Bool.false_eq_true,  hbad]
  refine h.new ?_
  clear h F
  intro w3 p h
  have h := h.wrNew 1 rfl (by decide)
  (try simp only [nfD] at h); have F := h.facts; (try simp only [nfF, emp_fact, rds_fact, frm_fact, tab_fact] at F); try simp -dsimp only [↓vcA, vcB, vcD, ↓pureT_lenS, ↓iteT, ↓iteF, cond_true, cond_false, eq_self, argE, Env.get, Env.push, ev, evs, evo, retV, Value.cells, Value.oneCell', setR, overR, fillL, zl, places, allSizes, heldC, ne_eq, Int.reduceLE, Int.reduceLT, Int.reduceEq, Int.reduceNe, Int.reduceToNat, Int.cast_ofNat_Int, Nat.reduceMul, Nat.reduceLeDiff, reduceIte, Nat.reduceEqDiff, Nat.reduceAdd, ↓reduceIte, Try.vcT, F, h.cell0, gets, vsD, if_true, if_false, Bool.false_eq_true]
  refine h.new ?_
  clear h F
  intro w4 c h
  (try simp only [nfD] at h); have F := h.facts; (try simp only [nfF, emp_fact, rds_fact, frm_fact, tab_fact] at F); try simp -dsimp only [↓vcA, vcB, vcD, ↓pureT_lenS, ↓iteT, ↓iteF, cond_true, cond_false, eq_self, argE, Env.get, Env.push, ev, evs, evo, retV, Value.cells, Value.oneCell', setR, overR, fillL, zl, places, allSizes, heldC, ne_eq, Int.reduceLE, Int.reduceLT, Int.reduceEq, Int.reduceNe, Int.reduceToNat, Int.cast_ofNat_Int, Nat.reduceMul, Nat.reduceLeDiff, reduceIte, Nat.reduceEqDiff, Nat.reduceAdd, ↓reduceIte, Try.vcT, F, h.cell0, gets, vsD, if_true, if_false, Bool.false_eq_true]
  refine Sep.put 2 h rfl ?_
  clear h F
  intro w5 h
  (try simp only [nfD] at h); have F := h.facts; (try simp only [nfF, emp_fact, rds_fact, frm_fact, tab_fact] at F); try simp -dsimp only [↓vcA, vcB, vcD, ↓pureT_lenS, ↓iteT, ↓iteF, cond_true, cond_false, eq_self, argE, Env.get, Env.push, ev, evs, evo, retV, Value.cells, Value.oneCell', setR, overR, fillL, zl, places, allSizes, heldC, ne_eq, Int.reduceLE, Int.reduceLT, Int.reduceEq, Int.reduceNe, Int.reduceToNat, Int.cast_ofNat_Int, Nat.reduceMul, Nat.reduceLeDiff, reduceIte, Nat.reduceEqDiff, Nat.reduceAdd, ↓reduceIte, Try.vcT, F, h.cell0, gets, vsD, if_true, if_false, Bool.false_eq_true]
  refine walkDraw (.q 1 (.q 4 (.q 7 (.q 10 (.q 13 (.q 16 (.q 19 (.h 0 0 (.h 2 1 (.h 5 2 (.h 8 3 (.h 11 4 (.h 14 5 (.h 17 6 (.h 20 7 (.l 3 (.l 6 (.l 9 (.l 12 (.l 15 (.l 18 (.l 21 .fin)))))))))))))))))))))) [(c, 0, .pointer (some ⟨p, 0, none⟩)), (b1, 0, .int .i64 m.w), (b1, 1, .int .i64 m.h), (b1, 2, .int .i64 m.te), (b1, 3, .int .i64 m.wi), (b1, 4, .int .i64 m.mr), (b1, 5, .int .i64 m.mb), (b1, 6, .int .i64 m.ti)] (by kernel_rfl) (by simp [Holds_nil, Holds_cons, F]) ?_
  refine h.draw ?_
  clear h F
  intro w6 h
  (try simp only [nfD] at h); have F := h.facts; (try simp only [nfF, emp_fact, rds_fact, frm_fact, tab_fact] at F); try simp -dsimp only [↓vcA, vcB, vcD, ↓pureT_lenS, ↓iteT, ↓iteF, cond_true, cond_false, eq_self, argE, Env.get, Env.push, ev, evs, evo, retV, Value.cells, Value.oneCell', setR, overR, fillL, zl, places, allSizes, heldC, ne_eq, Int.reduceLE, Int.reduceLT, Int.reduceEq, Int.reduceNe, Int.reduceToNat, Int.cast_ofNat_Int, Nat.reduceMul, Nat.reduceLeDiff, reduceIte, Nat.reduceEqDiff, Nat.reduceAdd, ↓reduceIte, Try.vcT, F, h.cell0, gets, vsD, if_true, if_false, Bool.false_eq_true]
  repeat ((first | refine Sep.new h ?_ | refine Sep.put 0 h rfl ?_ | refine Sep.put 1 h rfl ?_ | refine Sep.put 2 h rfl ?_ | refine Sep.put 3 h rfl ?_ | refine Sep.put 4 h rfl ?_ | refine Sep.put 5 h rfl ?_ | refine Sep.num 1 h rfl (by omega) (by omega) (by omega) ?_ | refine listP h R.p O.p (by omega) ?_ | refine listW h R.wa O.wa (by omega) ?_ | refine listPa h R.pa O.pa (by omega) ?_ | refine listRe h R.re O.re (by omega) ?_ | refine listCa h R.ca O.ca (by omega) ?_ | refine listIs h R.is O.is (by omega) ?_ | refine listCo h R.co O.co (by omega) ?_ | refine listCh h R.ch O.ch (by omega) ?_); (clear F; (try clear h); intros; rename_i h; (try simp only [nfD] at h); have F := h.facts; (try simp only [nfF, emp_fact, rds_fact, frm_fact, tab_fact] at F); try simp -dsimp only [↓vcA, vcB, vcD, ↓pureT_lenS, ↓iteT, ↓iteF, cond_true, cond_false, eq_self, argE, Env.get, Env.push, ev, evs, evo, retV, Value.cells, Value.oneCell', setR, overR, fillL, zl, places, allSizes, heldC, ne_eq, Int.reduceLE, Int.reduceLT, Int.reduceEq, Int.reduceNe, Int.reduceToNat, Int.cast_ofNat_Int, Nat.reduceMul, Nat.reduceLeDiff, reduceIte, Nat.reduceEqDiff, Nat.reduceAdd, ↓reduceIte, Try.vcT, F, h.cell0, gets, vsD, if_true, if_false, Bool.false_eq_true]))
  refine Sep.bytes 1 h rfl (by omega) ?_
  clear h F
  intro a c7 w7 h
  generalize hE : encC _ m.ch = E at *
  have hE : m.enc = E := hE
  cases hb : E.bad with
  | true =>
    rw [hb] at h
    (try simp only [nfD] at h); have F := h.facts; (try simp only [nfF, emp_fact, rds_fact, frm_fact, tab_fact] at F); try simp -dsimp only [↓vcA, vcB, vcD, ↓pureT_lenS, ↓iteT, ↓iteF, cond_true, cond_false, eq_self, argE, Env.get, Env.push, ev, evs, evo, retV, Value.cells, Value.oneCell', setR, overR, fillL, zl, places, allSizes, heldC, ne_eq, Int.reduceLE, Int.reduceLT, Int.reduceEq, Int.reduceNe, Int.reduceToNat, Int.cast_ofNat_Int, Nat.reduceMul, Nat.reduceLeDiff, reduceIte, Nat.reduceEqDiff, Nat.reduceAdd, ↓reduceIte, Try.vcT, F, h.cell0, gets, vsD, if_true, if_false, Bool.false_eq_true,  hb]
    exact fin (by simp [MapV.fails, hE, hb]) h
  | false =>
  rw [hb] at h
  simp only [Bool.false_eq_true, if_false] at h
  by_cases hlen : (1048576 : Int) < E.l.length
  · (try simp only [nfD] at h); have F := h.facts; (try simp only [nfF, emp_fact, rds_fact, frm_fact, tab_fact] at F); try simp -dsimp only [↓vcA, vcB, vcD, ↓pureT_lenS, ↓iteT, ↓iteF, cond_true, cond_false, eq_self, argE, Env.get, Env.push, ev, evs, evo, retV, Value.cells, Value.oneCell', setR, overR, fillL, zl, places, allSizes, heldC, ne_eq, Int.reduceLE, Int.reduceLT, Int.reduceEq, Int.reduceNe, Int.reduceToNat, Int.cast_ofNat_Int, Nat.reduceMul, Nat.reduceLeDiff, reduceIte, Nat.reduceEqDiff, Nat.reduceAdd, ↓reduceIte, Try.vcT, F, h.cell0, gets, vsD, if_true, if_false, Bool.false_eq_true,  hb, decide_eq_true hlen]
    exact fin (by simp [MapV.fails, hE, hb, hlen]) h
  · (try simp only [nfD] at h); have F := h.facts; (try simp only [nfF, emp_fact, rds_fact, frm_fact, tab_fact] at F); try simp -dsimp only [↓vcA, vcB, vcD, ↓pureT_lenS, ↓iteT, ↓iteF, cond_true, cond_false, eq_self, argE, Env.get, Env.push, ev, evs, evo, retV, Value.cells, Value.oneCell', setR, overR, fillL, zl, places, allSizes, heldC, ne_eq, Int.reduceLE, Int.reduceLT, Int.reduceEq, Int.reduceNe, Int.reduceToNat, Int.cast_ofNat_Int, Nat.reduceMul, Nat.reduceLeDiff, reduceIte, Nat.reduceEqDiff, Nat.reduceAdd, ↓reduceIte, Try.vcT, F, h.cell0, gets, vsD, if_true, if_false, Bool.false_eq_true,  hb, decide_eq_false hlen]
    have hf : m.fails = false := by simp only [MapV.fails, hE, hb, hbad, decide_eq_false hlen, Bool.or_self]
    have e1 : m.bytes = E.l := by simp [MapV.bytes, hf, hE]
    rw [e1, hf]
    exact ⟨_, ((h.erase 0).erase 0).erase 0, (fun q hq x hx => by simp at hq; subst hq; exact hx), _, _, rfl, rfl⟩
end Go.Proofs.Ytnhgjgoglmadnaa
namespace Go.Proofs.Ytnhgjgoglmadnaa
open Go.RowKit
set_option linter.unusedVariables false

theorem num_ok {s : R8} (k : Nat) (h1 : 1 ≤ k) (h7 : k ≤ 7) (h : (s.numS k).bad = false) : s.bad = false ∧ (s.numS k).l.length + k = s.l.length := by
  have hb : s.bad = false := by
    cases hb : s.bad with
    | false => rfl
    | true => rw [(num_bad hb k).2] at h; cases h
  have hl : k ≤ s.l.length := by
    rcases Nat.lt_or_ge s.l.length k with hl | hl
    · obtain ⟨_, h2⟩ := s.num_no k (.inr (.inr (.inr (by omega))))
      rw [h2] at h; cases h
    · exact hl
  obtain ⟨_, h2⟩ := s.num_yes k hb h1 h7 hl
  rw [h2]
  exact ⟨hb, by simp; omega⟩
theorem num1_ok {s : R8} (h : (s.numS 1).bad = false) : s.bad = false ∧ (s.numS 1).l.length + 1 = s.l.length := num_ok 1 (by omega) (by omega) h
theorem num2_ok {s : R8} (h : (s.numS 2).bad = false) : s.bad = false ∧ (s.numS 2).l.length + 2 = s.l.length := num_ok 2 (by omega) (by omega) h
theorem num4_ok {s : R8} (h : (s.numS 4).bad = false) : s.bad = false ∧ (s.numS 4).l.length + 4 = s.l.length := num_ok 4 (by omega) (by omega) h
theorem tri_ok {s : R8} (h : s.triS.bad = false) : (s.bad = false ∧ s.triS.l.length + 18 = s.l.length) ∧ s.triS = s.tS3 ∧ s.tT.valid = true := by
  unfold R8.triS at h ⊢
  cases h3 : s.tS3.bad with
  | true => rw [h3] at h; simp [h3] at h
  | false =>
    rw [h3] at h
    cases hv : s.tT.valid with
    | false => rw [hv] at h; simp at h
    | true =>
      obtain ⟨a1, a2⟩ := pt_ok (s := s.ptS.ptS) h3
      obtain ⟨b1, b2⟩ := pt_ok a1
      obtain ⟨c1, c2⟩ := pt_ok b1
      simp only [Bool.false_eq_true, if_false, if_true]
      exact ⟨⟨c1, by unfold R8.tS3; omega⟩, trivial, trivial⟩
theorem raw_ok {s : R8} {n : Int} (h : (s.rawS n).bad = false) : s.bad = false ∧ (s.rawS n).l.length + (s.rawV n).length = s.l.length ∧ s.rawV n ++ (s.rawS n).l = s.l ∧ 0 ≤ n ∧ (s.rawV n).length = n.toNat := by
  unfold R8.rawS R8.rawV at *
  split at h
  · cases h
  · rename_i hno
    simp only [if_neg hno]
    simp only [R8.no, not_or] at hno
    refine ⟨h, by simp; omega, by simp, by omega, by simp; omega⟩
theorem raw_no {s : R8} {n : Int} (h : (s.rawS n).bad = true) : s.rawV n = [] := by
  unfold R8.rawS R8.rawV at *
  split at h
  · rename_i hno; rw [if_pos hno]
  · rename_i hno
    simp only [R8.no, not_or] at hno
    exact absurd h hno.1

def pot (s : R8) : Nat := if s.bad then 0 else 8 * s.l.length + 88
theorem pot_le (s : R8) : pot s ≤ 8 * s.l.length + 88 := by unfold pot; split <;> omega
theorem pot_bad {s : R8} (h : s.bad = true) : pot s = 0 := by simp [pot, h]
theorem pot_ok {s : R8} (h : s.bad = false) : pot s = 8 * s.l.length + 88 := by simp [pot, h]
theorem pot_pos {s : R8} (h : 0 < s.left) : pot s = 8 * s.l.length + 88 := pot_ok (R8.left_pos h).1
theorem pot_num (s : R8) (k : Nat) (h1 : 1 ≤ k) (h7 : k ≤ 7) : pot (s.numS k) ≤ pot s := by
  cases hb : (s.numS k).bad with
  | true => rw [pot_bad hb]; omega
  | false =>
    obtain ⟨a, b⟩ := num_ok k h1 h7 hb
    rw [pot_ok hb, pot_ok a]; omega
theorem potP {s : R8} (h : 0 < s.left) : 16 + pot (sP s) ≤ pot s := by
  rw [pot_pos h]
  cases hb : (sP s).bad with
  | true => rw [pot_bad hb]; omega
  | false =>
    rw [pot_ok hb]
    unfold sP at *
    obtain ⟨_, a⟩ := pt_ok hb; omega
theorem potW {s : R8} (h : 0 < s.left) : 40 + pot (sW s) ≤ pot s := by
  rw [pot_pos h]
  cases hb : (sW s).bad with
  | true => rw [pot_bad hb]; omega
  | false =>
    rw [pot_ok hb]
    unfold sW at *
    obtain ⟨a1, a⟩ := num1_ok hb
    obtain ⟨b1, b⟩ := pt_ok a1
    obtain ⟨_, c⟩ := pt_ok b1; omega
theorem potPa {s : R8} (h : 0 < s.left) : 16 + pot (sPa s) ≤ pot s := by
  rw [pot_pos h]
  cases hb : (sPa s).bad with
  | true => rw [pot_bad hb]; omega
  | false =>
    rw [pot_ok hb]
    unfold sPa at *
    obtain ⟨a1, a⟩ := num1_ok hb
    obtain ⟨_, b⟩ := num1_ok a1; omega
theorem potRe {s : R8} (h : 0 < s.left) : 80 + pot (sRe s) ≤ pot s := by
  rw [pot_pos h]
  cases hb : (sRe s).bad with
  | true => rw [pot_bad hb]; omega
  | false =>
    rw [pot_ok hb]
    unfold sRe at *
    obtain ⟨⟨a1, a⟩, _⟩ := tri_ok hb
    obtain ⟨b1, b⟩ := num1_ok a1
    obtain ⟨c1, c⟩ := num1_ok b1
    obtain ⟨d1, d⟩ := num2_ok c1
    obtain ⟨_, e⟩ := num1_ok d1; omega
theorem potCa {s : R8} (h : 0 < s.left) : 72 + pot (sCa s) ≤ pot s := by
  rw [pot_pos h]
  cases hb : (sCa s).bad with
  | true => rw [pot_bad hb]; omega
  | false =>
    rw [pot_ok hb]
    unfold sCa at *
    obtain ⟨a1, a⟩ := num1_ok hb
    obtain ⟨b1, b⟩ := num2_ok a1
    obtain ⟨c1, c⟩ := num4_ok b1
    obtain ⟨d1, d⟩ := num1_ok c1
    obtain ⟨e1, e⟩ := num2_ok d1
    obtain ⟨f1, f⟩ := num1_ok e1
    obtain ⟨g1, g⟩ := num1_ok f1
    obtain ⟨i1, i⟩ := num1_ok g1
    obtain ⟨_, j⟩ := num1_ok i1; omega
theorem potIs {s : R8} (h : 0 < s.left) : 24 + pot (sIs s) ≤ pot s := by
  rw [pot_pos h]
  cases hb : (sIs s).bad with
  | true => rw [pot_bad hb]; omega
  | false =>
    rw [pot_ok hb]
    unfold sIs at *
    obtain ⟨a1, a⟩ := num1_ok hb
    obtain ⟨b1, b⟩ := num1_ok a1
    obtain ⟨_, c⟩ := num1_ok b1; omega
theorem potCo {s : R8} (h : 0 < s.left) : 24 + pot (sCo s) ≤ pot s := by
  rw [pot_pos h]
  cases hb : (sCo s).bad with
  | true => rw [pot_bad hb]; omega
  | false =>
    rw [pot_ok hb]
    unfold sCo at *
    obtain ⟨a1, a⟩ := num2_ok hb
    obtain ⟨b1, b⟩ := num2_ok a1
    obtain ⟨_, c⟩ := num1_ok b1; omega
theorem potCh {s : R8} (h : 0 < s.left) : 24 + (rCh s).b.length + pot (sCh s) ≤ pot s := by
  rw [pot_pos h]
  cases hb : (sCh s).bad with
  | true =>
    rw [pot_bad hb]
    unfold sCh at hb
    have := raw_no hb
    simp only [rCh, this, List.length_nil]; omega
  | false =>
    rw [pot_ok hb]
    unfold sCh rCh at *
    obtain ⟨a1, a, _⟩ := raw_ok hb
    obtain ⟨b1, b⟩ := num2_ok a1
    obtain ⟨c1, c⟩ := num1_ok b1
    obtain ⟨_, d⟩ := num1_ok c1
    dsimp only
    omega
theorem potF {f : R8 → List Int} {g : R8 → R8} {c : Nat} (hs : ∀ s, 0 < s.left → c + pot (g s) ≤ pot s) : ∀ n s, (itemsF f g n s).1.length * c + pot (itemsF f g n s).2 ≤ pot s
  | 0, s => by simp [itemsF]
  | n + 1, s => by
    unfold itemsF
    split
    · rename_i h
      have := hs s h
      have := potF (f := f) hs n (g s)
      simp only [List.length_cons, Nat.succ_mul]; omega
    · simp
theorem potI {f : R8 → List Int} {g : R8 → R8} {c : Nat} (hs : ∀ s, 0 < s.left → c + pot (g s) ≤ pot s) (s : R8) : (itemsV f g s).length * c + pot (itemsS f g s) ≤ pot s := by
  have := potF (f := f) hs (s.numV 2).toNat (s.numS 2)
  have h2 := pot_num s 2 (by omega) (by omega)
  exact Nat.le_trans this h2
theorem potFC : ∀ n s, roomC (itemsF rCh sCh n s).1 + pot (itemsF rCh sCh n s).2 ≤ pot s
  | 0, s => by simp [itemsF, roomC]
  | n + 1, s => by
    unfold itemsF
    split
    · rename_i h
      have := potCh h
      have := potFC n (sCh s)
      simp only [roomC]; omega
    · simp [roomC]
theorem potIC (s : R8) : roomC (itemsV rCh sCh s) + pot (itemsS rCh sCh s) ≤ pot s :=
  Nat.le_trans (potFC (s.numV 2).toNat (s.numS 2)) (pot_num s 2 (by omega) (by omega))

def dN (s : R8) : R8 := (((((((s.numS 3).numS 3).numS 1).numS 2).numS 2).numS 2).numS 4)
def d1 (s : R8) : R8 := itemsS rP sP (dN s)
def d2 (s : R8) : R8 := itemsS rW sW (d1 s)
def d3 (s : R8) : R8 := itemsS rPa sPa (d2 s)
def d4 (s : R8) : R8 := itemsS rRe sRe (d3 s)
def d5 (s : R8) : R8 := itemsS rCa sCa (d4 s)
def d6 (s : R8) : R8 := itemsS rIs sIs (d5 s)
def d7 (s : R8) : R8 := itemsS rCo sCo (d6 s)
def dE (s : R8) : R8 := itemsS rCh sCh (d7 s)
def dV (s : R8) : MapV := ⟨s.numV 3, (s.numS 3).numV 3, ((s.numS 3).numS 3).numV 1, (((s.numS 3).numS 3).numS 1).numV 2, ((((s.numS 3).numS 3).numS 1).numS 2).numV 2, (((((s.numS 3).numS 3).numS 1).numS 2).numS 2).numV 2, ((((((s.numS 3).numS 3).numS 1).numS 2).numS 2).numS 2).numV 4,
  itemsV rP sP (dN s), itemsV rW sW (d1 s), itemsV rPa sPa (d2 s), itemsV rRe sRe (d3 s), itemsV rCa sCa (d4 s), itemsV rIs sIs (d5 s), itemsV rCo sCo (d6 s), itemsV rCh sCh (d7 s)⟩
theorem dV_room (s : R8) : (dV s).room ≤ 208 + 8 * s.l.length := by
  have h0 : pot (dN s) ≤ pot s := by
    unfold dN
    refine Nat.le_trans (pot_num _ 4 (by omega) (by omega)) ?_
    refine Nat.le_trans (pot_num _ 2 (by omega) (by omega)) ?_
    refine Nat.le_trans (pot_num _ 2 (by omega) (by omega)) ?_
    refine Nat.le_trans (pot_num _ 2 (by omega) (by omega)) ?_
    refine Nat.le_trans (pot_num _ 1 (by omega) (by omega)) ?_
    refine Nat.le_trans (pot_num _ 3 (by omega) (by omega)) ?_
    exact pot_num _ 3 (by omega) (by omega)
  have h := pot_le s
  have h1 := potI (f := rP) (fun s => potP (s := s)) (dN s)
  have h2 := potI (f := rW) (fun s => potW (s := s)) (d1 s)
  have h3 := potI (f := rPa) (fun s => potPa (s := s)) (d2 s)
  have h4 := potI (f := rRe) (fun s => potRe (s := s)) (d3 s)
  have h5 := potI (f := rCa) (fun s => potCa (s := s)) (d4 s)
  have h6 := potI (f := rIs) (fun s => potIs (s := s)) (d5 s)
  have h7 := potI (f := rCo) (fun s => potCo (s := s)) (d6 s)
  have h8 := potIC (d7 s)
  rw [← d1] at h1; rw [← d2] at h2; rw [← d3] at h3; rw [← d4] at h4; rw [← d5] at h5; rw [← d6] at h6; rw [← d7] at h7
  unfold MapV.room dV
  dsimp only
  omega
theorem rP_ok {s : R8} (hb : Byt s.l) : Ok64 (rP s) := by
  have h0 := ptV_rng _ hb
  have b0 := ptS_byt _ hb
  unfold rP Ok64
  simp only [List.forall_mem_cons, List.not_mem_nil, false_implies, implies_true, and_true]
  omega
theorem rW_ok {s : R8} (hb : Byt s.l) : Ok64 (rW s) := by
  have h0 := ptV_rng _ hb
  have b0 := ptS_byt _ hb
  have h1 := ptV_rng _ b0
  have b1 := ptS_byt _ b0
  have h2 := num1_rng _ b1
  have b2 := numS_byt _ 1 b1
  unfold rW Ok64
  simp only [List.forall_mem_cons, List.not_mem_nil, false_implies, implies_true, and_true]
  omega
theorem rPa_ok {s : R8} (hb : Byt s.l) : Ok64 (rPa s) := by
  have h0 := num1_rng _ hb
  have b0 := numS_byt _ 1 hb
  have h1 := num1_rng _ b0
  have b1 := numS_byt _ 1 b0
  unfold rPa Ok64
  simp only [List.forall_mem_cons, List.not_mem_nil, false_implies, implies_true, and_true]
  omega
theorem rRe_ok {s : R8} (hb : Byt s.l) : Ok64 (rRe s) := by
  have h0 := num1_rng _ hb
  have b0 := numS_byt _ 1 hb
  have h1 := num2_rng _ b0
  have b1 := numS_byt _ 2 b0
  have h2 := num1_rng _ b1
  have b2 := numS_byt _ 1 b1
  have h3 := num1_rng _ b2
  have b3 := numS_byt _ 1 b2
  have h4 := triV_rng _ b3
  unfold T3.rng at h4
  have b4 := triS_byt _ b3
  unfold rRe Ok64
  simp only [List.forall_mem_cons, List.not_mem_nil, false_implies, implies_true, and_true]
  omega
theorem rCa_ok {s : R8} (hb : Byt s.l) : Ok64 (rCa s) := by
  have h0 := num1_rng _ hb
  have b0 := numS_byt _ 1 hb
  have h1 := num1_rng _ b0
  have b1 := numS_byt _ 1 b0
  have h2 := num1_rng _ b1
  have b2 := numS_byt _ 1 b1
  have h3 := num1_rng _ b2
  have b3 := numS_byt _ 1 b2
  have h4 := num2_rng _ b3
  have b4 := numS_byt _ 2 b3
  have h5 := num1_rng _ b4
  have b5 := numS_byt _ 1 b4
  have h6 := num4_rng _ b5
  have b6 := numS_byt _ 4 b5
  have h7 := num2_rng _ b6
  have b7 := numS_byt _ 2 b6
  have h8 := num1_rng _ b7
  have b8 := numS_byt _ 1 b7
  unfold rCa Ok64
  simp only [List.forall_mem_cons, List.not_mem_nil, false_implies, implies_true, and_true]
  rw [i64w _ (by omega) (by omega)]
  omega
theorem rIs_ok {s : R8} (hb : Byt s.l) : Ok64 (rIs s) := by
  have h0 := num1_rng _ hb
  have b0 := numS_byt _ 1 hb
  have h1 := num1_rng _ b0
  have b1 := numS_byt _ 1 b0
  have h2 := num1_rng _ b1
  have b2 := numS_byt _ 1 b1
  unfold rIs Ok64
  simp only [List.forall_mem_cons, List.not_mem_nil, false_implies, implies_true, and_true]
  omega
theorem rCo_ok {s : R8} (hb : Byt s.l) : Ok64 (rCo s) := by
  have h0 := num1_rng _ hb
  have b0 := numS_byt _ 1 hb
  have h1 := num2_rng _ b0
  have b1 := numS_byt _ 2 b0
  have h2 := num2_rng _ b1
  have b2 := numS_byt _ 2 b1
  unfold rCo Ok64
  simp only [List.forall_mem_cons, List.not_mem_nil, false_implies, implies_true, and_true]
  omega
theorem itemsF_all {α : Type} {P : α → Prop} {f : R8 → α} {g : R8 → R8} (hf : ∀ s : R8, Byt s.l → P (f s)) (hg : ∀ s : R8, Byt s.l → Byt (g s).l) : ∀ n s, Byt s.l → (∀ x ∈ (itemsF f g n s).1, P x) ∧ Byt (itemsF f g n s).2.l
  | 0, s, hb => ⟨fun x hx => (by cases hx), hb⟩
  | n + 1, s, hb => by
    unfold itemsF
    split
    · obtain ⟨h1, h2⟩ := itemsF_all hf hg n (g s) (hg s hb)
      exact ⟨fun x hx => (List.mem_cons.1 hx).elim (fun e => by rw [e]; exact hf s hb) (h1 x), h2⟩
    · exact ⟨fun x hx => (by cases hx), hb⟩
theorem itemsV_all {α : Type} {P : α → Prop} {f : R8 → α} {g : R8 → R8} (hf : ∀ s : R8, Byt s.l → P (f s)) (hg : ∀ s : R8, Byt s.l → Byt (g s).l) {s : R8} (hb : Byt s.l) : (∀ x ∈ itemsV f g s, P x) ∧ Byt (itemsS f g s).l :=
  itemsF_all hf hg _ _ (numS_byt s 2 hb)
theorem rCh_ok {s : R8} (hb : Byt s.l) : (-9223372036854775808 ≤ (rCh s).t ∧ (rCh s).t ≤ 9223372036854775807) ∧ Byt (rCh s).b := by
  have h0 := num1_rng _ hb
  refine ⟨?_, (rawS_byt _ _ (numS_byt _ 2 (numS_byt _ 1 (numS_byt _ 1 hb)))).2⟩
  unfold rCh; dsimp only; omega
theorem dN_byt {s : R8} (hb : Byt s.l) : Byt (dN s).l := numS_byt _ 4 (numS_byt _ 2 (numS_byt _ 2 (numS_byt _ 2 (numS_byt _ 1 (numS_byt _ 3 (numS_byt _ 3 hb))))))
theorem d1_byt {s : R8} (hb : Byt s.l) : Byt (d1 s).l := (itemsV_all (P := Ok64) (f := rP) (g := sP) (fun s => rP_ok (s := s)) (fun s => sP_byt (s := s)) (dN_byt hb)).2
theorem d2_byt {s : R8} (hb : Byt s.l) : Byt (d2 s).l := (itemsV_all (P := Ok64) (f := rW) (g := sW) (fun s => rW_ok (s := s)) (fun s => sW_byt (s := s)) (d1_byt hb)).2
theorem d3_byt {s : R8} (hb : Byt s.l) : Byt (d3 s).l := (itemsV_all (P := Ok64) (f := rPa) (g := sPa) (fun s => rPa_ok (s := s)) (fun s => sPa_byt (s := s)) (d2_byt hb)).2
theorem d4_byt {s : R8} (hb : Byt s.l) : Byt (d4 s).l := (itemsV_all (P := Ok64) (f := rRe) (g := sRe) (fun s => rRe_ok (s := s)) (fun s => sRe_byt (s := s)) (d3_byt hb)).2
theorem d5_byt {s : R8} (hb : Byt s.l) : Byt (d5 s).l := (itemsV_all (P := Ok64) (f := rCa) (g := sCa) (fun s => rCa_ok (s := s)) (fun s => sCa_byt (s := s)) (d4_byt hb)).2
theorem d6_byt {s : R8} (hb : Byt s.l) : Byt (d6 s).l := (itemsV_all (P := Ok64) (f := rIs) (g := sIs) (fun s => rIs_ok (s := s)) (fun s => sIs_byt (s := s)) (d5_byt hb)).2
theorem d7_byt {s : R8} (hb : Byt s.l) : Byt (d7 s).l := (itemsV_all (P := Ok64) (f := rCo) (g := sCo) (fun s => rCo_ok (s := s)) (fun s => sCo_byt (s := s)) (d6_byt hb)).2
theorem dV_ch {s : R8} (hb : Byt s.l) : ∀ x ∈ (dV s).ch, (-9223372036854775808 ≤ x.t ∧ x.t ≤ 9223372036854775807) ∧ Byt x.b := by
  have := (itemsV_all (P := fun x => (-9223372036854775808 ≤ x.t ∧ x.t ≤ 9223372036854775807) ∧ Byt x.b) (f := rCh) (g := sCh) (fun s => rCh_ok (s := s)) (fun s => sCh_byt (s := s)) (d7_byt hb)).1
  unfold dV
  dsimp only
  exact this
theorem dV_ok {s : R8} (hb : Byt s.l) : (dV s).Ok where
  ns := by
    have h0 := num3_rng _ hb
    have b0 := numS_byt _ 3 hb
    have h1 := num3_rng _ b0
    have b1 := numS_byt _ 3 b0
    have h2 := num1_rng _ b1
    have b2 := numS_byt _ 1 b1
    have h3 := num2_rng _ b2
    have b3 := numS_byt _ 2 b2
    have h4 := num2_rng _ b3
    have b4 := numS_byt _ 2 b3
    have h5 := num2_rng _ b4
    have b5 := numS_byt _ 2 b4
    have h6 := num4_rng _ b5
    unfold dV Ok64
    simp only [List.forall_mem_cons, List.not_mem_nil, false_implies, implies_true, and_true]
    omega
  p := by have := (itemsV_all (P := Ok64) (f := rP) (g := sP) (fun s => rP_ok (s := s)) (fun s => sP_byt (s := s)) (dN_byt hb)).1; unfold dV; dsimp only; exact this
  wa := by have := (itemsV_all (P := Ok64) (f := rW) (g := sW) (fun s => rW_ok (s := s)) (fun s => sW_byt (s := s)) (d1_byt hb)).1; unfold dV; dsimp only; exact this
  pa := by have := (itemsV_all (P := Ok64) (f := rPa) (g := sPa) (fun s => rPa_ok (s := s)) (fun s => sPa_byt (s := s)) (d2_byt hb)).1; unfold dV; dsimp only; exact this
  re := by have := (itemsV_all (P := Ok64) (f := rRe) (g := sRe) (fun s => rRe_ok (s := s)) (fun s => sRe_byt (s := s)) (d3_byt hb)).1; unfold dV; dsimp only; exact this
  ca := by have := (itemsV_all (P := Ok64) (f := rCa) (g := sCa) (fun s => rCa_ok (s := s)) (fun s => sCa_byt (s := s)) (d4_byt hb)).1; unfold dV; dsimp only; exact this
  is := by have := (itemsV_all (P := Ok64) (f := rIs) (g := sIs) (fun s => rIs_ok (s := s)) (fun s => sIs_byt (s := s)) (d5_byt hb)).1; unfold dV; dsimp only; exact this
  co := by have := (itemsV_all (P := Ok64) (f := rCo) (g := sCo) (fun s => rCo_ok (s := s)) (fun s => sCo_byt (s := s)) (d6_byt hb)).1; unfold dV; dsimp only; exact this
  ch := fun x hx => (dV_ch hb x hx).1
end Go.Proofs.Ytnhgjgoglmadnaa
