/- Joined texts of this claim (part 18), printed by a program of this work. The last part holds the claimed theorem: the law answers true at every input of its row. -/
import Derived.Test.YtnhgjgoglmadnaaSP14q
namespace Go.Proofs.Ytnhgjgoglmadnaa
open Go.RowKit
set_option maxRecDepth 100000
set_option linter.unusedSimpArgs false
set_option linter.unusedVariables false
set_option pp.maxSteps 1500
set_option pp.deepTerms.threshold 8

theorem and32 {n : Int} (h : 0 ≤ n ∧ n < 18446744073709551616) : IntKind.i64.wrap (IntKind.u64.wrap ((BitVec.ofInt IntKind.u64.bits n &&& BitVec.ofInt IntKind.u64.bits 4294967295).toNat : Int)) = n % 4294967296 := by
  obtain ⟨m, rfl⟩ := Int.eq_ofNat_of_zero_le h.1
  have eb : IntKind.u64.bits = 64 := rfl
  have h64 : (2 : Nat) ^ 64 = 18446744073709551616 := by decide
  have em : BitVec.ofInt 64 (4294967295 : Int) = BitVec.ofNat 64 4294967295 := by decide
  rw [eb, em, BitVec.ofInt_natCast, BitVec.toNat_and, BitVec.toNat_ofNat, BitVec.toNat_ofNat, h64, Nat.mod_eq_of_lt (show m < 18446744073709551616 by omega), Nat.mod_eq_of_lt (show 4294967295 < 18446744073709551616 by omega)]
  have e3 : m &&& 4294967295 = m % 4294967296 := Nat.and_two_pow_sub_one_eq_mod m 32
  rw [e3, u64wrap, i64w _ (by omega) (by omega)]
  omega
def wPcR (s : W8) : List Int → W8
  | [ax, ay, bx, by', cx, cy, pa, la, wa] => ((((s.tri ax ay bx by' cx cy).spoil (!(T3.valid ⟨ax, ay, bx, by', cx, cy⟩))).num pa 1).num la 2).num wa 1
  | _ => s
def tellsR (s : W8) (z : Int) (a : AnV) : W8 :=
  if z = 1 ∨ z = 2 then (if a.p.length = 1 then a.p.foldl wPcR s else s.num 0 0) else
  if z = 3 ∨ z = 4 then (a.p.foldl wPcR (s.num a.p.length 1)).num (bit a.more) 1 else
  if z = 14 then (a.ca.foldl wCp (s.num a.ca.length 1)).num (bit a.more) 1 else
  if z = 15 then a.la.foldl wLa (s.num a.la.length 1) else
  if z = 12 then s.num a.n 1 else
  if z = 16 then ((s.num a.n 4).num (a.sum / 4294967296) 4).num (a.sum % 4294967296) 4 else s
def ansRW (z : Int) (a : AnV) : W8 := if a.code = 0 then tellsR ((⟨[], false⟩ : W8).num a.code 1) z a else (⟨[], false⟩ : W8).num a.code 1
def ansROk (z : Int) (a : AnV) : Bool := !(ansRW z a).bad
def ansRB (z : Int) (a : AnV) : List Int := if ansROk z a then (ansRW z a).l else []
theorem piece129 {A : Nat → Prop} (p k : Nat) (s : W8) (ax ay bx by' cx cy pa la wa : Int) (w : World) (h : Sep w A [wr 35 p s k] w) (hO : Ok64 [ax, ay, bx, by', cx, cy, pa, la, wa]) (hl : k ≤ 700000) :
    Calls Try.prog 129 [.pointer (some ⟨p, 0, none⟩), .agg #[.int .i64 ax, .int .i64 ay, .int .i64 bx, .int .i64 by', .int .i64 cx, .int .i64 cy, .int .i64 pa, .int .i64 la, .int .i64 wa]].toArray w
      (RetK fun v w' => ∃ r' N, Sep w A (r' :: N) w' ∧ (∀ x, r'.rd x → (wr 35 p s k).rd x) ∧ (∀ q ∈ N, ∀ x, ¬ q.rd x) ∧ (v = .tuple #[] ∧ r' = wr 35 p (wPcR s [ax, ay, bx, by', cx, cy, pa, la, wa]) (k + 72) ∧ N = [])) := by
  simp only [Ok64, List.forall_mem_cons, List.not_mem_nil, false_implies, implies_true, and_true] at hO
  refine walk Try.func129 rfl (by kernel_rfl) (by rw [Try.nt129]; simp) ?_
  (try simp only [nfD] at h); have F := h.facts; (try simp only [nfF, emp_fact, rds_fact, frm_fact, tab_fact, two_fact] at F)
  simp -dsimp only [↓vcA, vcB, vcD, ↓pureT_lenS, ↓iteT, ↓iteF, cond_true, cond_false, eq_self, argE, Env.get, Env.push, ev, evs, evo, retV, Value.cells, Value.oneCell', setR, overR, fillL, zl, places, allSizes, heldC, ne_eq, Int.reduceLE, Int.reduceLT, Int.reduceEq, Int.reduceNe, Int.reduceToNat, Int.cast_ofNat_Int, Nat.reduceMul, Nat.reduceLeDiff, reduceIte, Nat.reduceEqDiff, Nat.reduceAdd, ↓reduceIte, Try.vcT]
  refine h.new ?_
  clear h F
  intro w1 b1 h
  (try simp only [nfD] at h); have F := h.facts; (try simp only [nfF, emp_fact, rds_fact, frm_fact, tab_fact, two_fact] at F); try simp -dsimp only [↓vcA, vcB, vcD, ↓pureT_lenS, ↓iteT, ↓iteF, cond_true, cond_false, eq_self, argE, Env.get, Env.push, ev, evs, evo, retV, Value.cells, Value.oneCell', setR, overR, fillL, zl, places, allSizes, heldC, ne_eq, Int.reduceLE, Int.reduceLT, Int.reduceEq, Int.reduceNe, Int.reduceToNat, Int.cast_ofNat_Int, Nat.reduceMul, Nat.reduceLeDiff, reduceIte, Nat.reduceEqDiff, Nat.reduceAdd, ↓reduceIte, Try.vcT, F, h.cell0, gets, vsD, if_true, if_false, Bool.false_eq_true,  cellsAt]
  refine Sep.rtri 0 h rfl (by omega) (by simp only [Ok64, List.forall_mem_cons, List.not_mem_nil, false_implies, implies_true, and_true]; omega) ?_
  clear h F
  intro w2 h
  have hE : wPcR s [ax, ay, bx, by', cx, cy, pa, la, wa] = ((((s.tri ax ay bx by' cx cy).spoil (!(T3.valid ⟨ax, ay, bx, by', cx, cy⟩))).num pa 1).num la 2).num wa 1 := rfl
  obtain ⟨a9, c9, h, hlen9⟩ := h.wrOpen 0 rfl
  generalize s.tri ax ay bx by' cx cy = E1 at *
  obtain ⟨El, Eb⟩ := E1
  cases Eb with
  | true =>
    (try simp only [nfD] at h); have F := h.facts; (try simp only [nfF, emp_fact, rds_fact, frm_fact, tab_fact, two_fact] at F); try simp -dsimp only [↓vcA, vcB, vcD, ↓pureT_lenS, ↓iteT, ↓iteF, cond_true, cond_false, eq_self, argE, Env.get, Env.push, ev, evs, evo, retV, Value.cells, Value.oneCell', setR, overR, fillL, zl, places, allSizes, heldC, ne_eq, Int.reduceLE, Int.reduceLT, Int.reduceEq, Int.reduceNe, Int.reduceToNat, Int.cast_ofNat_Int, Nat.reduceMul, Nat.reduceLeDiff, reduceIte, Nat.reduceEqDiff, Nat.reduceAdd, ↓reduceIte, Try.vcT, F, h.cell0, gets, vsD, if_true, if_false, Bool.false_eq_true,  cellsAt]
    refine Sep.put 0 h rfl ?_
    clear h F
    intro w3 h
    have h := ((h.wrClose (l := El) 0 2 (k + 48) rfl rfl (by decide) hlen9).erase 2)
    (try simp only [nfD] at h); have F := h.facts; (try simp only [nfF, emp_fact, rds_fact, frm_fact, tab_fact, two_fact] at F); try simp -dsimp only [↓vcA, vcB, vcD, ↓pureT_lenS, ↓iteT, ↓iteF, cond_true, cond_false, eq_self, argE, Env.get, Env.push, ev, evs, evo, retV, Value.cells, Value.oneCell', setR, overR, fillL, zl, places, allSizes, heldC, ne_eq, Int.reduceLE, Int.reduceLT, Int.reduceEq, Int.reduceNe, Int.reduceToNat, Int.cast_ofNat_Int, Nat.reduceMul, Nat.reduceLeDiff, reduceIte, Nat.reduceEqDiff, Nat.reduceAdd, ↓reduceIte, Try.vcT, F, h.cell0, gets, vsD, if_true, if_false, Bool.false_eq_true]
    repeat ((first | refine Sep.new h ?_ | refine Sep.put 0 h rfl ?_ | refine Sep.put 1 h rfl ?_ | refine Sep.put 2 h rfl ?_ | refine Sep.put 3 h rfl ?_ | refine Sep.put 4 h rfl ?_ | refine Sep.put 5 h rfl ?_ | refine Sep.rnum 0 h rfl (by omega) (by omega) (by omega) ?_); (clear F; (try clear h); intros; rename_i h; (try simp only [nfD] at h); have F := h.facts; (try simp only [nfF, emp_fact, rds_fact, frm_fact, tab_fact, two_fact] at F); try simp -dsimp only [↓vcA, vcB, vcD, ↓pureT_lenS, ↓iteT, ↓iteF, cond_true, cond_false, eq_self, argE, Env.get, Env.push, ev, evs, evo, retV, Value.cells, Value.oneCell', setR, overR, fillL, zl, places, allSizes, heldC, ne_eq, Int.reduceLE, Int.reduceLT, Int.reduceEq, Int.reduceNe, Int.reduceToNat, Int.cast_ofNat_Int, Nat.reduceMul, Nat.reduceLeDiff, reduceIte, Nat.reduceEqDiff, Nat.reduceAdd, ↓reduceIte, Try.vcT, F, h.cell0, gets, vsD, if_true, if_false, Bool.false_eq_true]))
    rw [hE]
    exact ⟨_, [], h.erase 1, (fun _ f => f), (fun q hq => by cases hq), rfl, rfl⟩
  | false =>
    (try simp only [nfD] at h); have F := h.facts; (try simp only [nfF, emp_fact, rds_fact, frm_fact, tab_fact, two_fact] at F); try simp -dsimp only [↓vcA, vcB, vcD, ↓pureT_lenS, ↓iteT, ↓iteF, cond_true, cond_false, eq_self, argE, Env.get, Env.push, ev, evs, evo, retV, Value.cells, Value.oneCell', setR, overR, fillL, zl, places, allSizes, heldC, ne_eq, Int.reduceLE, Int.reduceLT, Int.reduceEq, Int.reduceNe, Int.reduceToNat, Int.cast_ofNat_Int, Nat.reduceMul, Nat.reduceLeDiff, reduceIte, Nat.reduceEqDiff, Nat.reduceAdd, ↓reduceIte, Try.vcT, F, h.cell0, gets, vsD, if_true, if_false, Bool.false_eq_true,  cellsAt]
    refine Sep.callp h (validTri ⟨ax, ay, bx, by', cx, cy⟩ _) ?_
    clear h F
    intro w3 h
    (try simp only [nfD] at h); have F := h.facts; (try simp only [nfF, emp_fact, rds_fact, frm_fact, tab_fact, two_fact] at F); try simp -dsimp only [↓vcA, vcB, vcD, ↓pureT_lenS, ↓iteT, ↓iteF, cond_true, cond_false, eq_self, argE, Env.get, Env.push, ev, evs, evo, retV, Value.cells, Value.oneCell', setR, overR, fillL, zl, places, allSizes, heldC, ne_eq, Int.reduceLE, Int.reduceLT, Int.reduceEq, Int.reduceNe, Int.reduceToNat, Int.cast_ofNat_Int, Nat.reduceMul, Nat.reduceLeDiff, reduceIte, Nat.reduceEqDiff, Nat.reduceAdd, ↓reduceIte, Try.vcT, F, h.cell0, gets, vsD, if_true, if_false, Bool.false_eq_true]
    refine Sep.put 0 h rfl ?_
    clear h F
    intro w4 h
    have h := ((h.wrClose (l := El) 0 2 (k + 48) rfl rfl (by decide) hlen9).erase 2)
    (try simp only [nfD] at h); have F := h.facts; (try simp only [nfF, emp_fact, rds_fact, frm_fact, tab_fact, two_fact] at F); try simp -dsimp only [↓vcA, vcB, vcD, ↓pureT_lenS, ↓iteT, ↓iteF, cond_true, cond_false, eq_self, argE, Env.get, Env.push, ev, evs, evo, retV, Value.cells, Value.oneCell', setR, overR, fillL, zl, places, allSizes, heldC, ne_eq, Int.reduceLE, Int.reduceLT, Int.reduceEq, Int.reduceNe, Int.reduceToNat, Int.cast_ofNat_Int, Nat.reduceMul, Nat.reduceLeDiff, reduceIte, Nat.reduceEqDiff, Nat.reduceAdd, ↓reduceIte, Try.vcT, F, h.cell0, gets, vsD, if_true, if_false, Bool.false_eq_true]
    repeat ((first | refine Sep.new h ?_ | refine Sep.put 0 h rfl ?_ | refine Sep.put 1 h rfl ?_ | refine Sep.put 2 h rfl ?_ | refine Sep.put 3 h rfl ?_ | refine Sep.put 4 h rfl ?_ | refine Sep.put 5 h rfl ?_ | refine Sep.rnum 0 h rfl (by omega) (by omega) (by omega) ?_); (clear F; (try clear h); intros; rename_i h; (try simp only [nfD] at h); have F := h.facts; (try simp only [nfF, emp_fact, rds_fact, frm_fact, tab_fact, two_fact] at F); try simp -dsimp only [↓vcA, vcB, vcD, ↓pureT_lenS, ↓iteT, ↓iteF, cond_true, cond_false, eq_self, argE, Env.get, Env.push, ev, evs, evo, retV, Value.cells, Value.oneCell', setR, overR, fillL, zl, places, allSizes, heldC, ne_eq, Int.reduceLE, Int.reduceLT, Int.reduceEq, Int.reduceNe, Int.reduceToNat, Int.cast_ofNat_Int, Nat.reduceMul, Nat.reduceLeDiff, reduceIte, Nat.reduceEqDiff, Nat.reduceAdd, ↓reduceIte, Try.vcT, F, h.cell0, gets, vsD, if_true, if_false, Bool.false_eq_true]))
    rw [hE]
    exact ⟨_, [], h.erase 1, (fun _ f => f), (fun q hq => by cases hq), rfl, rfl⟩
theorem Sep.rpiece (i : Nat) {w0 w : World} {S : Nat → Prop} {M : List Res} {K : Value → World → Prop} {p k : Nat} {s : W8} {ax ay bx by' cx cy pa la wa : Int} (h : Sep w0 S M w) (hi : M[i]? = some (wr 35 p s k)) (hO : Ok64 [ax, ay, bx, by', cx, cy, pa, la, wa]) (hl : k ≤ 700000)
    (hk : ∀ w1, Sep w0 S (M.set i (wr 35 p (wPcR s [ax, ay, bx, by', cx, cy, pa, la, wa]) (k + 72))) w1 → K (.tuple #[]) w1) :
    callsK Try.prog 129 [.pointer (some ⟨p, 0, Option.none⟩), .agg #[.int .i64 ax, .int .i64 ay, .int .i64 bx, .int .i64 by', .int .i64 cx, .int .i64 cy, .int .i64 pa, .int .i64 la, .int .i64 wa]].toArray w K := by
  refine Sep.call1 i h hi (fun A _ hA => piece129 p k s ax ay bx by' cx cy pa la wa w hA hO hl) ?_
  rintro v r' N w1 ⟨rfl, rfl, rfl⟩ h
  rw [List.append_nil] at h
  exact hk w1 h
theorem rflag130 {A : Nat → Prop} (p k : Nat) (s : W8) (d : Bool) (w : World) (h : Sep w A [wr 35 p s k] w) (hl : k ≤ 700000) :
    Calls Try.prog 130 [.pointer (some ⟨p, 0, none⟩), .bool d].toArray w
      (RetK fun v w' => ∃ r' N, Sep w A (r' :: N) w' ∧ (∀ x, r'.rd x → (wr 35 p s k).rd x) ∧ (∀ q ∈ N, ∀ x, ¬ q.rd x) ∧ (v = .tuple #[] ∧ r' = wr 35 p (s.num (bit d) 1) (k + 8) ∧ N = [])) := by
  refine walk Try.func130 rfl (by kernel_rfl) (by rw [Try.nt130]; simp) ?_
  (try simp only [nfD] at h); have F := h.facts; (try simp only [nfF, emp_fact, rds_fact, frm_fact, tab_fact, two_fact] at F)
  cases d with
  | true =>
    simp -dsimp only [↓vcA, vcB, vcD, ↓pureT_lenS, ↓iteT, ↓iteF, cond_true, cond_false, eq_self, argE, Env.get, Env.push, ev, evs, evo, retV, Value.cells, Value.oneCell', setR, overR, fillL, zl, places, allSizes, heldC, ne_eq, Int.reduceLE, Int.reduceLT, Int.reduceEq, Int.reduceNe, Int.reduceToNat, Int.cast_ofNat_Int, Nat.reduceMul, Nat.reduceLeDiff, reduceIte, Nat.reduceEqDiff, Nat.reduceAdd, ↓reduceIte, Try.vcT]
    refine Sep.rnum 0 h rfl (by omega) (by omega) (by omega) ?_
    clear h F
    intro w1 h
    (try simp only [nfD] at h); have F := h.facts; (try simp only [nfF, emp_fact, rds_fact, frm_fact, tab_fact, two_fact] at F); try simp -dsimp only [↓vcA, vcB, vcD, ↓pureT_lenS, ↓iteT, ↓iteF, cond_true, cond_false, eq_self, argE, Env.get, Env.push, ev, evs, evo, retV, Value.cells, Value.oneCell', setR, overR, fillL, zl, places, allSizes, heldC, ne_eq, Int.reduceLE, Int.reduceLT, Int.reduceEq, Int.reduceNe, Int.reduceToNat, Int.cast_ofNat_Int, Nat.reduceMul, Nat.reduceLeDiff, reduceIte, Nat.reduceEqDiff, Nat.reduceAdd, ↓reduceIte, Try.vcT, F, h.cell0, gets, vsD, if_true, if_false, Bool.false_eq_true]
    exact ⟨_, [], h, (fun _ f => f), (fun q hq => by cases hq), rfl, rfl⟩
  | false =>
    simp -dsimp only [↓vcA, vcB, vcD, ↓pureT_lenS, ↓iteT, ↓iteF, cond_true, cond_false, eq_self, argE, Env.get, Env.push, ev, evs, evo, retV, Value.cells, Value.oneCell', setR, overR, fillL, zl, places, allSizes, heldC, ne_eq, Int.reduceLE, Int.reduceLT, Int.reduceEq, Int.reduceNe, Int.reduceToNat, Int.cast_ofNat_Int, Nat.reduceMul, Nat.reduceLeDiff, reduceIte, Nat.reduceEqDiff, Nat.reduceAdd, ↓reduceIte, Try.vcT]
    refine Sep.rnum 0 h rfl (by omega) (by omega) (by omega) ?_
    clear h F
    intro w1 h
    (try simp only [nfD] at h); have F := h.facts; (try simp only [nfF, emp_fact, rds_fact, frm_fact, tab_fact, two_fact] at F); try simp -dsimp only [↓vcA, vcB, vcD, ↓pureT_lenS, ↓iteT, ↓iteF, cond_true, cond_false, eq_self, argE, Env.get, Env.push, ev, evs, evo, retV, Value.cells, Value.oneCell', setR, overR, fillL, zl, places, allSizes, heldC, ne_eq, Int.reduceLE, Int.reduceLT, Int.reduceEq, Int.reduceNe, Int.reduceToNat, Int.cast_ofNat_Int, Nat.reduceMul, Nat.reduceLeDiff, reduceIte, Nat.reduceEqDiff, Nat.reduceAdd, ↓reduceIte, Try.vcT, F, h.cell0, gets, vsD, if_true, if_false, Bool.false_eq_true]
    exact ⟨_, [], h, (fun _ f => f), (fun q hq => by cases hq), rfl, rfl⟩
theorem Sep.rflag (i : Nat) {w0 w : World} {S : Nat → Prop} {M : List Res} {K : Value → World → Prop} {p k : Nat} {s : W8} {d : Bool} (h : Sep w0 S M w) (hi : M[i]? = some (wr 35 p s k)) (hl : k ≤ 700000)
    (hk : ∀ w1, Sep w0 S (M.set i (wr 35 p (s.num (bit d) 1) (k + 8))) w1 → K (.tuple #[]) w1) :
    callsK Try.prog 130 [.pointer (some ⟨p, 0, Option.none⟩), .bool d].toArray w K := by
  refine Sep.call1 i h hi (fun A _ hA => rflag130 p k s d w hA hl) ?_
  rintro v r' N w1 ⟨rfl, rfl, rfl⟩ h
  rw [List.append_nil] at h
  exact hk w1 h
set_option maxHeartbeats 4000000 in
theorem answer71 (z : Int) (a : AnV) (t : AnS) (w : World) (R : AnR w a t) (O : a.Ok) (hl : a.room ≤ 90000) :
    Calls Try.prog 71 [.int .i64 z, .agg (a.cells t).toArray].toArray w (RetK fun v w' => ∃ N, Sep w (fun _ => False) N w' ∧ (∀ q ∈ N, ∀ x, ¬ q.rd x) ∧
      ∃ b c, v = .tuple #[.slice b (ansRB z a).length c, .bool (ansROk z a)] ∧ N = [byt (.slice b (ansRB z a).length c) (ansRB z a)]) := by
  have fin : ∀ {w' : World} {M : List Res}, ansROk z a = false → Sep w (fun _ => False) M w' → ∃ N, Sep w (fun _ => False) N w' ∧ (∀ q ∈ N, ∀ x, ¬ q.rd x) ∧
      ∃ b c, Value.tuple #[.slice none 0 0, .bool false] = .tuple #[.slice b (ansRB z a).length c, .bool (ansROk z a)] ∧ N = [byt (.slice b (ansRB z a).length c) (ansRB z a)] := fun hf h => by
    have e1 : ansRB z a = [] := by simp [ansRB, hf]
    rw [e1, hf]
    exact ⟨_, h.none.bytNone, (fun q hq x hx => by simp at hq; subst hq; exact hx), none, 0, rfl, rfl⟩
  have fin2 : ∀ {w' : World} {M : List Res} {G : Res} {l : List Int} {a9 : Option Addr} {c9 : Nat}, ansRW z a = ⟨l, false⟩ → Sep w (fun _ => False) [M.headD emp, G, byt (.slice a9 l.length c9) l] w' → ∃ N, Sep w (fun _ => False) N w' ∧ (∀ q ∈ N, ∀ x, ¬ q.rd x) ∧
      ∃ b c, Value.tuple #[.slice a9 l.length c9, .bool true] = .tuple #[.slice b (ansRB z a).length c, .bool (ansROk z a)] ∧ N = [byt (.slice b (ansRB z a).length c) (ansRB z a)] := fun {w' M G l a9 c9} hf h => by
    have e1 : ansROk z a = true := by unfold ansROk; rw [hf]; rfl
    have e2 : ansRB z a = l := by unfold ansRB; rw [e1, hf]; rfl
    rw [e2, e1]
    exact ⟨_, (h.erase 0).erase 0, (fun q hq x hx => by simp at hq; subst hq; exact hx), _, _, rfl, rfl⟩
  have finB : ∀ {l : List Int}, ansRW z a = ⟨l, true⟩ → ansROk z a = false := fun e => by unfold ansROk; rw [e]; rfl
  have hd0 : ansRW z a = if a.code = 0 then tellsR ((⟨[], false⟩ : W8).num a.code 1) z a else (⟨[], false⟩ : W8).num a.code 1 := rfl
  generalize hWW : ansRW z a = WW at *
  clear hWW
  obtain ⟨code, ps, more, cas, las, n, sum⟩ := a
  obtain ⟨tp, tca, tla⟩ := t
  obtain ⟨Rp, Rca, Rla⟩ := R
  obtain ⟨Oc, On, Os, Op, Oca, Ola⟩ := O
  dsimp only at Rp Rca Rla Oc On Os Op Oca Ola hd0
  unfold AnV.room at hl
  dsimp only at hl
  obtain ⟨ap, cp, rfl⟩ := Rp.shape
  obtain ⟨aca, cca, rfl⟩ := Rca.shape
  obtain ⟨ala, cla, rfl⟩ := Rla.shape
  have h := Sep.nil w
  refine walk Try.func71 rfl (by kernel_rfl) (by rw [Try.nt71]; simp) ?_
  (try simp only [nfD] at h); have F := h.facts; (try simp only [nfF, emp_fact, rds_fact, frm_fact, tab_fact, two_fact] at F)
  simp -dsimp only [↓vcA, vcB, vcD, ↓pureT_lenS, ↓iteT, ↓iteF, cond_true, cond_false, eq_self, argE, Env.get, Env.push, ev, evs, evo, retV, Value.cells, Value.oneCell', setR, overR, fillL, zl, places, allSizes, heldC, ne_eq, Int.reduceLE, Int.reduceLT, Int.reduceEq, Int.reduceNe, Int.reduceToNat, Int.cast_ofNat_Int, Nat.reduceMul, Nat.reduceLeDiff, reduceIte, Nat.reduceEqDiff, Nat.reduceAdd, ↓reduceIte, Try.vcT, AnV.cells]
  refine h.new ?_
  clear h F
  intro w1 b1 h
  (try simp only [nfD] at h); have F := h.facts; (try simp only [nfF, emp_fact, rds_fact, frm_fact, tab_fact, two_fact] at F); try simp -dsimp only [↓vcA, vcB, vcD, ↓pureT_lenS, ↓iteT, ↓iteF, cond_true, cond_false, eq_self, argE, Env.get, Env.push, ev, evs, evo, retV, Value.cells, Value.oneCell', setR, overR, fillL, zl, places, allSizes, heldC, ne_eq, Int.reduceLE, Int.reduceLT, Int.reduceEq, Int.reduceNe, Int.reduceToNat, Int.cast_ofNat_Int, Nat.reduceMul, Nat.reduceLeDiff, reduceIte, Nat.reduceEqDiff, Nat.reduceAdd, ↓reduceIte, Try.vcT, F, h.cell0, gets, vsD, if_true, if_false, Bool.false_eq_true]
  refine h.new ?_
  clear h F
  intro w2 p h
  have h := h.wrNew 1 rfl (by decide)
  (try simp only [nfD] at h); have F := h.facts; (try simp only [nfF, emp_fact, rds_fact, frm_fact, tab_fact, two_fact] at F); try simp -dsimp only [↓vcA, vcB, vcD, ↓pureT_lenS, ↓iteT, ↓iteF, cond_true, cond_false, eq_self, argE, Env.get, Env.push, ev, evs, evo, retV, Value.cells, Value.oneCell', setR, overR, fillL, zl, places, allSizes, heldC, ne_eq, Int.reduceLE, Int.reduceLT, Int.reduceEq, Int.reduceNe, Int.reduceToNat, Int.cast_ofNat_Int, Nat.reduceMul, Nat.reduceLeDiff, reduceIte, Nat.reduceEqDiff, Nat.reduceAdd, ↓reduceIte, Try.vcT, F, h.cell0, gets, vsD, if_true, if_false, Bool.false_eq_true]
  refine Sep.rnum 1 h rfl (by omega) Oc.1 Oc.2 ?_
  clear h F
  intro w3 h
  generalize (⟨[], false⟩ : W8).num code 1 = s at *
  by_cases h0 : code = 0
  case neg =>
    rw [if_neg h0] at hd0
    obtain ⟨a9, c9, h, hlen9⟩ := h.wrOpen 1 rfl
    generalize s = E9 at *
    obtain ⟨El, Eb⟩ := E9
    cases Eb with
    | true =>
      (try simp only [nfD] at h); have F := h.facts; (try simp only [nfF, emp_fact, rds_fact, frm_fact, tab_fact, two_fact] at F); try simp -dsimp only [↓vcA, vcB, vcD, ↓pureT_lenS, ↓iteT, ↓iteF, cond_true, cond_false, eq_self, argE, Env.get, Env.push, ev, evs, evo, retV, Value.cells, Value.oneCell', setR, overR, fillL, zl, places, allSizes, heldC, ne_eq, Int.reduceLE, Int.reduceLT, Int.reduceEq, Int.reduceNe, Int.reduceToNat, Int.cast_ofNat_Int, Nat.reduceMul, Nat.reduceLeDiff, reduceIte, Nat.reduceEqDiff, Nat.reduceAdd, ↓reduceIte, Try.vcT, F, h.cell0, gets, vsD, if_true, if_false, Bool.false_eq_true,  decide_eq_false h0]
      exact fin (finB hd0) h
    | false =>
      (try simp only [nfD] at h); have F := h.facts; (try simp only [nfF, emp_fact, rds_fact, frm_fact, tab_fact, two_fact] at F); try simp -dsimp only [↓vcA, vcB, vcD, ↓pureT_lenS, ↓iteT, ↓iteF, cond_true, cond_false, eq_self, argE, Env.get, Env.push, ev, evs, evo, retV, Value.cells, Value.oneCell', setR, overR, fillL, zl, places, allSizes, heldC, ne_eq, Int.reduceLE, Int.reduceLT, Int.reduceEq, Int.reduceNe, Int.reduceToNat, Int.cast_ofNat_Int, Nat.reduceMul, Nat.reduceLeDiff, reduceIte, Nat.reduceEqDiff, Nat.reduceAdd, ↓reduceIte, Try.vcT, F, h.cell0, gets, vsD, if_true, if_false, Bool.false_eq_true,  decide_eq_false h0]
      exact fin2 (M := [_]) hd0 h
  rw [if_pos h0] at hd0
  by_cases h12 : z = 1 ∨ z = 2
  case pos =>
    have ht : tellsR s z ⟨code, ps, more, cas, las, n, sum⟩ = if ps.length = 1 then ps.foldl wPcR s else s.num 0 0 := by unfold tellsR; rw [if_pos h12]
    rw [ht] at hd0
    by_cases h1 : (ps.length : Int) = 1
    case neg =>
      rw [if_neg (by omega)] at hd0
      have hb : WW = ⟨s.l, true⟩ := by rw [hd0]; rfl
      rcases h12 with rfl | rfl
      all_goals
        (try simp only [nfD] at h); have F := h.facts; (try simp only [nfF, emp_fact, rds_fact, frm_fact, tab_fact, two_fact] at F); try simp -dsimp only [↓vcA, vcB, vcD, ↓pureT_lenS, ↓iteT, ↓iteF, cond_true, cond_false, eq_self, argE, Env.get, Env.push, ev, evs, evo, retV, Value.cells, Value.oneCell', setR, overR, fillL, zl, places, allSizes, heldC, ne_eq, Int.reduceLE, Int.reduceLT, Int.reduceEq, Int.reduceNe, Int.reduceToNat, Int.cast_ofNat_Int, Nat.reduceMul, Nat.reduceLeDiff, reduceIte, Nat.reduceEqDiff, Nat.reduceAdd, ↓reduceIte, Try.vcT, F, h.cell0, gets, vsD, if_true, if_false, Bool.false_eq_true,  decide_eq_true h0, decide_eq_false h1, decide_true, decide_false, Bool.not_true, Bool.not_false, Int.reduceEq]
        exact fin (finB hb) h
    case pos =>
      have h0' : 0 < ps.length := by omega
      rw [if_pos (by omega)] at hd0
      obtain ⟨x, hx⟩ : ∃ x, ps = [x] := by
        match ps, (show ps.length = 1 by omega) with
        | [x], _ => exact ⟨x, rfl⟩
      obtain ⟨b, o, eb, hcx⟩ := Rp.at h0' (by decide)
      have wx := Rp.wid _ (List.getElem_mem h0')
      have ox := Op _ (List.getElem_mem h0')
      have e0 : ps[0] = x := by subst hx; rfl
      rw [e0] at hcx wx ox
      obtain ⟨a0, a1, a2, a3, a4, a5, a6, a7, a8, rfl⟩ := len_9 wx
      have hd0 : WW = wPcR s [a0, a1, a2, a3, a4, a5, a6, a7, a8] := by rw [hd0, hx]; rfl
      rw [Nat.zero_mul, Nat.add_zero] at hcx
      have hcw : ∀ {w' : World} {M : List Res}, Sep w (fun _ => False) M w' → cellsAt w' b o 9 = some (cellsI [a0, a1, a2, a3, a4, a5, a6, a7, a8]) := fun {w' M} hs => by
        obtain ⟨hl, hat⟩ := cellsAt_elim hcx
        have := cellsAt_of (w := w') (b := b) (o := o) (cellsI [a0, a1, a2, a3, a4, a5, a6, a7, a8]) (fun j u hj => by
          have := hat j u hj
          rw [hs.cell0 (by rw [this]; rfl) id, this])
        simpa [cellsI] using this
      have hq := hcw h
      rw [eb] at h
      rcases h12 with rfl | rfl
      all_goals
        (try simp only [nfD] at h); have F := h.facts; (try simp only [nfF, emp_fact, rds_fact, frm_fact, tab_fact, two_fact] at F); try simp -dsimp only [↓vcA, vcB, vcD, ↓pureT_lenS, ↓iteT, ↓iteF, cond_true, cond_false, eq_self, argE, Env.get, Env.push, ev, evs, evo, retV, Value.cells, Value.oneCell', setR, overR, fillL, zl, places, allSizes, heldC, ne_eq, Int.reduceLE, Int.reduceLT, Int.reduceEq, Int.reduceNe, Int.reduceToNat, Int.cast_ofNat_Int, Nat.reduceMul, Nat.reduceLeDiff, reduceIte, Nat.reduceEqDiff, Nat.reduceAdd, ↓reduceIte, Try.vcT, F, h.cell0, gets, vsD, if_true, if_false, Bool.false_eq_true,  decide_eq_true h0, decide_eq_true h1, decide_true, decide_false, Bool.not_true, Bool.not_false, Int.reduceEq]
        refine ⟨by omega, ?_⟩
        (try simp only [nfD] at h); have F := h.facts; (try simp only [nfF, emp_fact, rds_fact, frm_fact, tab_fact, two_fact] at F); try simp -dsimp only [↓vcA, vcB, vcD, ↓pureT_lenS, ↓iteT, ↓iteF, cond_true, cond_false, eq_self, argE, Env.get, Env.push, ev, evs, evo, retV, Value.cells, Value.oneCell', setR, overR, fillL, zl, places, allSizes, heldC, ne_eq, Int.reduceLE, Int.reduceLT, Int.reduceEq, Int.reduceNe, Int.reduceToNat, Int.cast_ofNat_Int, Nat.reduceMul, Nat.reduceLeDiff, reduceIte, Nat.reduceEqDiff, Nat.reduceAdd, ↓reduceIte, Try.vcT, F, h.cell0, gets, vsD, if_true, if_false, Bool.false_eq_true,  hq, cellsI]
        refine Sep.rpiece 1 h rfl ox (by omega) ?_
        clear h F hq
        intro w2 h
        obtain ⟨a9, c9, h, hlen9⟩ := h.wrOpen 1 rfl
        generalize wPcR s [a0, a1, a2, a3, a4, a5, a6, a7, a8] = E9 at *
        obtain ⟨El, Eb⟩ := E9
        cases Eb with
        | true =>
          (try simp only [nfD] at h); have F := h.facts; (try simp only [nfF, emp_fact, rds_fact, frm_fact, tab_fact, two_fact] at F); try simp -dsimp only [↓vcA, vcB, vcD, ↓pureT_lenS, ↓iteT, ↓iteF, cond_true, cond_false, eq_self, argE, Env.get, Env.push, ev, evs, evo, retV, Value.cells, Value.oneCell', setR, overR, fillL, zl, places, allSizes, heldC, ne_eq, Int.reduceLE, Int.reduceLT, Int.reduceEq, Int.reduceNe, Int.reduceToNat, Int.cast_ofNat_Int, Nat.reduceMul, Nat.reduceLeDiff, reduceIte, Nat.reduceEqDiff, Nat.reduceAdd, ↓reduceIte, Try.vcT, F, h.cell0, gets, vsD, if_true, if_false, Bool.false_eq_true]
          exact fin (finB hd0) h
        | false =>
          (try simp only [nfD] at h); have F := h.facts; (try simp only [nfF, emp_fact, rds_fact, frm_fact, tab_fact, two_fact] at F); try simp -dsimp only [↓vcA, vcB, vcD, ↓pureT_lenS, ↓iteT, ↓iteF, cond_true, cond_false, eq_self, argE, Env.get, Env.push, ev, evs, evo, retV, Value.cells, Value.oneCell', setR, overR, fillL, zl, places, allSizes, heldC, ne_eq, Int.reduceLE, Int.reduceLT, Int.reduceEq, Int.reduceNe, Int.reduceToNat, Int.cast_ofNat_Int, Nat.reduceMul, Nat.reduceLeDiff, reduceIte, Nat.reduceEqDiff, Nat.reduceAdd, ↓reduceIte, Try.vcT, F, h.cell0, gets, vsD, if_true, if_false, Bool.false_eq_true]
          exact fin2 (M := [_]) hd0 h
  by_cases h34 : z = 3 ∨ z = 4
  case pos =>
    have ht : tellsR s z ⟨code, ps, more, cas, las, n, sum⟩ = (ps.foldl wPcR (s.num ps.length 1)).num (bit more) 1 := by unfold tellsR; rw [if_neg h12, if_pos h34]
    rw [ht] at hd0
    generalize hE0 : s.num ps.length 1 = E0 at *
    rcases h34 with rfl | rfl
    all_goals
      (try simp only [nfD] at h); have F := h.facts; (try simp only [nfF, emp_fact, rds_fact, frm_fact, tab_fact, two_fact] at F); try simp -dsimp only [↓vcA, vcB, vcD, ↓pureT_lenS, ↓iteT, ↓iteF, cond_true, cond_false, eq_self, argE, Env.get, Env.push, ev, evs, evo, retV, Value.cells, Value.oneCell', setR, overR, fillL, zl, places, allSizes, heldC, ne_eq, Int.reduceLE, Int.reduceLT, Int.reduceEq, Int.reduceNe, Int.reduceToNat, Int.cast_ofNat_Int, Nat.reduceMul, Nat.reduceLeDiff, reduceIte, Nat.reduceEqDiff, Nat.reduceAdd, ↓reduceIte, Try.vcT, F, h.cell0, gets, vsD, if_true, if_false, Bool.false_eq_true,  decide_eq_true h0, decide_true, decide_false, Bool.not_true, Bool.not_false, Int.reduceEq]
      refine Sep.rnum 1 h rfl (by omega) (by omega) (by omega) ?_
      clear h F
      intro w2 h
      (try simp only [nfD] at h); have F := h.facts; (try simp only [nfF, emp_fact, rds_fact, frm_fact, tab_fact, two_fact] at F); try simp -dsimp only [↓vcA, vcB, vcD, ↓pureT_lenS, ↓iteT, ↓iteF, cond_true, cond_false, eq_self, argE, Env.get, Env.push, ev, evs, evo, retV, Value.cells, Value.oneCell', setR, overR, fillL, zl, places, allSizes, heldC, ne_eq, Int.reduceLE, Int.reduceLT, Int.reduceEq, Int.reduceNe, Int.reduceToNat, Int.cast_ofNat_Int, Nat.reduceMul, Nat.reduceLeDiff, reduceIte, Nat.reduceEqDiff, Nat.reduceAdd, ↓reduceIte, Try.vcT, F, h.cell0, gets, vsD, if_true, if_false, Bool.false_eq_true]
      refine walkLoop [3, 6] [7] (fun m vs w' => ∃ i, i ≤ ps.length ∧ m = ps.length - i ∧ vs = [.int .i64 i] ∧ Sep w (fun _ => False) [blk b1 114 [.int .i64 code, .slice ap ps.length cp, .bool more, .slice aca cas.length cca, .slice ala las.length cla, .int .i64 n, .int .u64 sum], wr 35 p ((ps.take i).foldl wPcR E0) (8 + 8 + 80 * i)] w') (by kernel_rfl) ?_ ?_
      · simp -dsimp only [↓vcA, vcB, vcD, ↓pureT_lenS, ↓iteT, ↓iteF, cond_true, cond_false, eq_self, argE, Env.get, Env.push, ev, evs, evo, retV, Value.cells, Value.oneCell', setR, overR, fillL, zl, places, allSizes, heldC, ne_eq, Int.reduceLE, Int.reduceLT, Int.reduceEq, Int.reduceNe, Int.reduceToNat, Int.cast_ofNat_Int, Nat.reduceMul, Nat.reduceLeDiff, reduceIte, Nat.reduceEqDiff, Nat.reduceAdd, ↓reduceIte, Try.vcT, gets]
        exact ⟨_, 0, Nat.zero_le _, rfl, rfl, by rw [hE0] at h; simpa using h⟩
      intro ks hk m vs w3 hi
      clear h
      try clear F
      obtain ⟨i, hi, rfl, rfl, h⟩ := hi
      simp -dsimp only [gets, argE, List.zip_cons_cons, List.zip_nil_left, List.cons_append, List.nil_append, Env.get, Env.push, Option.bind_some, Option.map_some, Option.some.injEq, reduceIte, Nat.reduceEqDiff, Nat.reduceAdd, ↓reduceIte] at hk; subst hk
      by_cases hlt : (i : Int) < ps.length
      case neg =>
        have hil : i = ps.length := by omega
        subst hil
        rw [List.take_length] at h
        (try simp only [nfD] at h); have F := h.facts; (try simp only [nfF, emp_fact, rds_fact, frm_fact, tab_fact, two_fact] at F); try simp -dsimp only [↓vcA, vcB, vcD, ↓pureT_lenS, ↓iteT, ↓iteF, cond_true, cond_false, eq_self, argE, Env.get, Env.push, ev, evs, evo, retV, Value.cells, Value.oneCell', setR, overR, fillL, zl, places, allSizes, heldC, ne_eq, Int.reduceLE, Int.reduceLT, Int.reduceEq, Int.reduceNe, Int.reduceToNat, Int.cast_ofNat_Int, Nat.reduceMul, Nat.reduceLeDiff, reduceIte, Nat.reduceEqDiff, Nat.reduceAdd, ↓reduceIte, Try.vcT, F, h.cell0, gets, vsD, if_true, if_false, Bool.false_eq_true,  decide_eq_false hlt]
        refine Sep.rflag 1 h rfl (by omega) ?_
        clear h F
        intro w4 h
        obtain ⟨a9, c9, h, hlen9⟩ := h.wrOpen 1 rfl
        generalize (ps.foldl wPcR E0).num (bit more) 1 = E9 at *
        obtain ⟨El, Eb⟩ := E9
        cases Eb with
        | true =>
          (try simp only [nfD] at h); have F := h.facts; (try simp only [nfF, emp_fact, rds_fact, frm_fact, tab_fact, two_fact] at F); try simp -dsimp only [↓vcA, vcB, vcD, ↓pureT_lenS, ↓iteT, ↓iteF, cond_true, cond_false, eq_self, argE, Env.get, Env.push, ev, evs, evo, retV, Value.cells, Value.oneCell', setR, overR, fillL, zl, places, allSizes, heldC, ne_eq, Int.reduceLE, Int.reduceLT, Int.reduceEq, Int.reduceNe, Int.reduceToNat, Int.cast_ofNat_Int, Nat.reduceMul, Nat.reduceLeDiff, reduceIte, Nat.reduceEqDiff, Nat.reduceAdd, ↓reduceIte, Try.vcT, F, h.cell0, gets, vsD, if_true, if_false, Bool.false_eq_true]
          exact fin (finB hd0) h
        | false =>
          (try simp only [nfD] at h); have F := h.facts; (try simp only [nfF, emp_fact, rds_fact, frm_fact, tab_fact, two_fact] at F); try simp -dsimp only [↓vcA, vcB, vcD, ↓pureT_lenS, ↓iteT, ↓iteF, cond_true, cond_false, eq_self, argE, Env.get, Env.push, ev, evs, evo, retV, Value.cells, Value.oneCell', setR, overR, fillL, zl, places, allSizes, heldC, ne_eq, Int.reduceLE, Int.reduceLT, Int.reduceEq, Int.reduceNe, Int.reduceToNat, Int.cast_ofNat_Int, Nat.reduceMul, Nat.reduceLeDiff, reduceIte, Nat.reduceEqDiff, Nat.reduceAdd, ↓reduceIte, Try.vcT, F, h.cell0, gets, vsD, if_true, if_false, Bool.false_eq_true]
          exact fin2 (M := [_]) hd0 h
      have hil : i < ps.length := by omega
      have hfold : (ps.take (i + 1)).foldl wPcR E0 = wPcR ((ps.take i).foldl wPcR E0) ps[i] := by
        rw [List.take_succ_eq_append_getElem hil, List.foldl_append]; rfl
      have ei : IntKind.i64.wrap ((i : Int) + 1) = ((i + 1 : Nat) : Int) := by rw [i64w _ (by omega) (by omega)]; omega
      have h0i : (0 : Int) ≤ i := by omega
      obtain ⟨b, o, eb, hcx⟩ := Rp.at hil (by decide)
      have wx := Rp.wid _ (List.getElem_mem hil)
      have ox := Op _ (List.getElem_mem hil)
      generalize ps[i] = x at *
      obtain ⟨a0, a1, a2, a3, a4, a5, a6, a7, a8, rfl⟩ := len_9 wx
      have hcw : ∀ {w' : World} {M : List Res}, Sep w (fun _ => False) M w' → cellsAt w' b (o + i * 9) 9 = some (cellsI [a0, a1, a2, a3, a4, a5, a6, a7, a8]) := fun {w' M} hs => by
        obtain ⟨hl, hat⟩ := cellsAt_elim hcx
        have := cellsAt_of (w := w') (b := b) (o := o + i * 9) (cellsI [a0, a1, a2, a3, a4, a5, a6, a7, a8]) (fun j u hj => by
          have := hat j u hj
          rw [hs.cell0 (by rw [this]; rfl) id, this])
        simpa [cellsI] using this
      have hq := hcw h
      rw [eb] at h ⊢
      (try simp only [nfD] at h); have F := h.facts; (try simp only [nfF, emp_fact, rds_fact, frm_fact, tab_fact, two_fact] at F); try simp -dsimp only [↓vcA, vcB, vcD, ↓pureT_lenS, ↓iteT, ↓iteF, cond_true, cond_false, eq_self, argE, Env.get, Env.push, ev, evs, evo, retV, Value.cells, Value.oneCell', setR, overR, fillL, zl, places, allSizes, heldC, ne_eq, Int.reduceLE, Int.reduceLT, Int.reduceEq, Int.reduceNe, Int.reduceToNat, Int.cast_ofNat_Int, Nat.reduceMul, Nat.reduceLeDiff, reduceIte, Nat.reduceEqDiff, Nat.reduceAdd, ↓reduceIte, Try.vcT, F, h.cell0, gets, vsD, if_true, if_false, Bool.false_eq_true,  decide_eq_true hlt]
      refine ⟨⟨h0i, hlt⟩, ?_⟩
      (try simp only [nfD] at h); have F := h.facts; (try simp only [nfF, emp_fact, rds_fact, frm_fact, tab_fact, two_fact] at F); try simp -dsimp only [↓vcA, vcB, vcD, ↓pureT_lenS, ↓iteT, ↓iteF, cond_true, cond_false, eq_self, argE, Env.get, Env.push, ev, evs, evo, retV, Value.cells, Value.oneCell', setR, overR, fillL, zl, places, allSizes, heldC, ne_eq, Int.reduceLE, Int.reduceLT, Int.reduceEq, Int.reduceNe, Int.reduceToNat, Int.cast_ofNat_Int, Nat.reduceMul, Nat.reduceLeDiff, reduceIte, Nat.reduceEqDiff, Nat.reduceAdd, ↓reduceIte, Try.vcT, F, h.cell0, gets, vsD, if_true, if_false, Bool.false_eq_true,  hq, cellsI]
      refine Sep.rpiece 1 h rfl ox (by omega) ?_
      clear h F hq
      intro w6 h
      (try simp only [nfD] at h); have F := h.facts; (try simp only [nfF, emp_fact, rds_fact, frm_fact, tab_fact, two_fact] at F); try simp -dsimp only [↓vcA, vcB, vcD, ↓pureT_lenS, ↓iteT, ↓iteF, cond_true, cond_false, eq_self, argE, Env.get, Env.push, ev, evs, evo, retV, Value.cells, Value.oneCell', setR, overR, fillL, zl, places, allSizes, heldC, ne_eq, Int.reduceLE, Int.reduceLT, Int.reduceEq, Int.reduceNe, Int.reduceToNat, Int.cast_ofNat_Int, Nat.reduceMul, Nat.reduceLeDiff, reduceIte, Nat.reduceEqDiff, Nat.reduceAdd, ↓reduceIte, Try.vcT, F, h.cell0, gets, vsD, if_true, if_false, Bool.false_eq_true,  ei]
      refine ⟨_, ?_, i + 1, by omega, rfl, rfl, ?_⟩
      · omega
      rw [hfold]
      exact h.wrMono' 1 _ rfl (by omega)
  by_cases h14 : z = 14
  case pos =>
    have ht : tellsR s z ⟨code, ps, more, cas, las, n, sum⟩ = (cas.foldl wCp (s.num cas.length 1)).num (bit more) 1 := by unfold tellsR; rw [if_neg h12, if_neg h34, if_pos h14]
    rw [ht] at hd0
    generalize hE0 : s.num cas.length 1 = E0 at *
    subst h14
    (try simp only [nfD] at h); have F := h.facts; (try simp only [nfF, emp_fact, rds_fact, frm_fact, tab_fact, two_fact] at F); try simp -dsimp only [↓vcA, vcB, vcD, ↓pureT_lenS, ↓iteT, ↓iteF, cond_true, cond_false, eq_self, argE, Env.get, Env.push, ev, evs, evo, retV, Value.cells, Value.oneCell', setR, overR, fillL, zl, places, allSizes, heldC, ne_eq, Int.reduceLE, Int.reduceLT, Int.reduceEq, Int.reduceNe, Int.reduceToNat, Int.cast_ofNat_Int, Nat.reduceMul, Nat.reduceLeDiff, reduceIte, Nat.reduceEqDiff, Nat.reduceAdd, ↓reduceIte, Try.vcT, F, h.cell0, gets, vsD, if_true, if_false, Bool.false_eq_true,  decide_eq_true h0, decide_true, decide_false, Bool.not_true, Bool.not_false, Int.reduceEq]
    refine Sep.rnum 1 h rfl (by omega) (by omega) (by omega) ?_
    clear h F
    intro w2 h
    (try simp only [nfD] at h); have F := h.facts; (try simp only [nfF, emp_fact, rds_fact, frm_fact, tab_fact, two_fact] at F); try simp -dsimp only [↓vcA, vcB, vcD, ↓pureT_lenS, ↓iteT, ↓iteF, cond_true, cond_false, eq_self, argE, Env.get, Env.push, ev, evs, evo, retV, Value.cells, Value.oneCell', setR, overR, fillL, zl, places, allSizes, heldC, ne_eq, Int.reduceLE, Int.reduceLT, Int.reduceEq, Int.reduceNe, Int.reduceToNat, Int.cast_ofNat_Int, Nat.reduceMul, Nat.reduceLeDiff, reduceIte, Nat.reduceEqDiff, Nat.reduceAdd, ↓reduceIte, Try.vcT, F, h.cell0, gets, vsD, if_true, if_false, Bool.false_eq_true]
    refine walkLoop [3, 6] [8] (fun m vs w' => ∃ i, i ≤ cas.length ∧ m = cas.length - i ∧ vs = [.int .i64 i] ∧ Sep w (fun _ => False) [blk b1 114 [.int .i64 code, .slice ap ps.length cp, .bool more, .slice aca cas.length cca, .slice ala las.length cla, .int .i64 n, .int .u64 sum], wr 35 p ((cas.take i).foldl wCp E0) (8 + 8 + 80 * i)] w') (by kernel_rfl) ?_ ?_
    · simp -dsimp only [↓vcA, vcB, vcD, ↓pureT_lenS, ↓iteT, ↓iteF, cond_true, cond_false, eq_self, argE, Env.get, Env.push, ev, evs, evo, retV, Value.cells, Value.oneCell', setR, overR, fillL, zl, places, allSizes, heldC, ne_eq, Int.reduceLE, Int.reduceLT, Int.reduceEq, Int.reduceNe, Int.reduceToNat, Int.cast_ofNat_Int, Nat.reduceMul, Nat.reduceLeDiff, reduceIte, Nat.reduceEqDiff, Nat.reduceAdd, ↓reduceIte, Try.vcT, gets]
      exact ⟨_, 0, Nat.zero_le _, rfl, rfl, by rw [hE0] at h; simpa using h⟩
    intro ks hk m vs w3 hi
    clear h
    try clear F
    obtain ⟨i, hi, rfl, rfl, h⟩ := hi
    simp -dsimp only [gets, argE, List.zip_cons_cons, List.zip_nil_left, List.cons_append, List.nil_append, Env.get, Env.push, Option.bind_some, Option.map_some, Option.some.injEq, reduceIte, Nat.reduceEqDiff, Nat.reduceAdd, ↓reduceIte] at hk; subst hk
    by_cases hlt : (i : Int) < cas.length
    case neg =>
      have hil : i = cas.length := by omega
      subst hil
      rw [List.take_length] at h
      (try simp only [nfD] at h); have F := h.facts; (try simp only [nfF, emp_fact, rds_fact, frm_fact, tab_fact, two_fact] at F); try simp -dsimp only [↓vcA, vcB, vcD, ↓pureT_lenS, ↓iteT, ↓iteF, cond_true, cond_false, eq_self, argE, Env.get, Env.push, ev, evs, evo, retV, Value.cells, Value.oneCell', setR, overR, fillL, zl, places, allSizes, heldC, ne_eq, Int.reduceLE, Int.reduceLT, Int.reduceEq, Int.reduceNe, Int.reduceToNat, Int.cast_ofNat_Int, Nat.reduceMul, Nat.reduceLeDiff, reduceIte, Nat.reduceEqDiff, Nat.reduceAdd, ↓reduceIte, Try.vcT, F, h.cell0, gets, vsD, if_true, if_false, Bool.false_eq_true,  decide_eq_false hlt]
      refine Sep.rflag 1 h rfl (by omega) ?_
      clear h F
      intro w4 h
      obtain ⟨a9, c9, h, hlen9⟩ := h.wrOpen 1 rfl
      generalize (cas.foldl wCp E0).num (bit more) 1 = E9 at *
      obtain ⟨El, Eb⟩ := E9
      cases Eb with
      | true =>
        (try simp only [nfD] at h); have F := h.facts; (try simp only [nfF, emp_fact, rds_fact, frm_fact, tab_fact, two_fact] at F); try simp -dsimp only [↓vcA, vcB, vcD, ↓pureT_lenS, ↓iteT, ↓iteF, cond_true, cond_false, eq_self, argE, Env.get, Env.push, ev, evs, evo, retV, Value.cells, Value.oneCell', setR, overR, fillL, zl, places, allSizes, heldC, ne_eq, Int.reduceLE, Int.reduceLT, Int.reduceEq, Int.reduceNe, Int.reduceToNat, Int.cast_ofNat_Int, Nat.reduceMul, Nat.reduceLeDiff, reduceIte, Nat.reduceEqDiff, Nat.reduceAdd, ↓reduceIte, Try.vcT, F, h.cell0, gets, vsD, if_true, if_false, Bool.false_eq_true]
        exact fin (finB hd0) h
      | false =>
        (try simp only [nfD] at h); have F := h.facts; (try simp only [nfF, emp_fact, rds_fact, frm_fact, tab_fact, two_fact] at F); try simp -dsimp only [↓vcA, vcB, vcD, ↓pureT_lenS, ↓iteT, ↓iteF, cond_true, cond_false, eq_self, argE, Env.get, Env.push, ev, evs, evo, retV, Value.cells, Value.oneCell', setR, overR, fillL, zl, places, allSizes, heldC, ne_eq, Int.reduceLE, Int.reduceLT, Int.reduceEq, Int.reduceNe, Int.reduceToNat, Int.cast_ofNat_Int, Nat.reduceMul, Nat.reduceLeDiff, reduceIte, Nat.reduceEqDiff, Nat.reduceAdd, ↓reduceIte, Try.vcT, F, h.cell0, gets, vsD, if_true, if_false, Bool.false_eq_true]
        exact fin2 (M := [_]) hd0 h
    have hil : i < cas.length := by omega
    have hfold : (cas.take (i + 1)).foldl wCp E0 = wCp ((cas.take i).foldl wCp E0) cas[i] := by
      rw [List.take_succ_eq_append_getElem hil, List.foldl_append]; rfl
    have ei : IntKind.i64.wrap ((i : Int) + 1) = ((i + 1 : Nat) : Int) := by rw [i64w _ (by omega) (by omega)]; omega
    have h0i : (0 : Int) ≤ i := by omega
    obtain ⟨b, o, eb, hcx⟩ := Rca.at hil (by decide)
    have wx := Rca.wid _ (List.getElem_mem hil)
    have ox := Oca _ (List.getElem_mem hil)
    generalize cas[i] = x at *
    obtain ⟨a0, a1, a2, a3, a4, a5, a6, a7, a8, rfl⟩ := len_9 wx
    have hcw : ∀ {w' : World} {M : List Res}, Sep w (fun _ => False) M w' → cellsAt w' b (o + i * 9) 9 = some (cellsI [a0, a1, a2, a3, a4, a5, a6, a7, a8]) := fun {w' M} hs => by
      obtain ⟨hl, hat⟩ := cellsAt_elim hcx
      have := cellsAt_of (w := w') (b := b) (o := o + i * 9) (cellsI [a0, a1, a2, a3, a4, a5, a6, a7, a8]) (fun j u hj => by
        have := hat j u hj
        rw [hs.cell0 (by rw [this]; rfl) id, this])
      simpa [cellsI] using this
    have hq := hcw h
    rw [eb] at h ⊢
    (try simp only [nfD] at h); have F := h.facts; (try simp only [nfF, emp_fact, rds_fact, frm_fact, tab_fact, two_fact] at F); try simp -dsimp only [↓vcA, vcB, vcD, ↓pureT_lenS, ↓iteT, ↓iteF, cond_true, cond_false, eq_self, argE, Env.get, Env.push, ev, evs, evo, retV, Value.cells, Value.oneCell', setR, overR, fillL, zl, places, allSizes, heldC, ne_eq, Int.reduceLE, Int.reduceLT, Int.reduceEq, Int.reduceNe, Int.reduceToNat, Int.cast_ofNat_Int, Nat.reduceMul, Nat.reduceLeDiff, reduceIte, Nat.reduceEqDiff, Nat.reduceAdd, ↓reduceIte, Try.vcT, F, h.cell0, gets, vsD, if_true, if_false, Bool.false_eq_true,  decide_eq_true hlt]
    refine ⟨⟨h0i, hlt⟩, ?_⟩
    (try simp only [nfD] at h); have F := h.facts; (try simp only [nfF, emp_fact, rds_fact, frm_fact, tab_fact, two_fact] at F); try simp -dsimp only [↓vcA, vcB, vcD, ↓pureT_lenS, ↓iteT, ↓iteF, cond_true, cond_false, eq_self, argE, Env.get, Env.push, ev, evs, evo, retV, Value.cells, Value.oneCell', setR, overR, fillL, zl, places, allSizes, heldC, ne_eq, Int.reduceLE, Int.reduceLT, Int.reduceEq, Int.reduceNe, Int.reduceToNat, Int.cast_ofNat_Int, Nat.reduceMul, Nat.reduceLeDiff, reduceIte, Nat.reduceEqDiff, Nat.reduceAdd, ↓reduceIte, Try.vcT, F, h.cell0, gets, vsD, if_true, if_false, Bool.false_eq_true,  hq, cellsI]
    simp only [Ok64, List.forall_mem_cons, List.not_mem_nil, false_implies, implies_true, and_true] at ox
    refine h.new ?_
    clear h F hq
    intro w4 b4 h
    (try simp only [nfD] at h); have F := h.facts; (try simp only [nfF, emp_fact, rds_fact, frm_fact, tab_fact, two_fact] at F); try simp -dsimp only [↓vcA, vcB, vcD, ↓pureT_lenS, ↓iteT, ↓iteF, cond_true, cond_false, eq_self, argE, Env.get, Env.push, ev, evs, evo, retV, Value.cells, Value.oneCell', setR, overR, fillL, zl, places, allSizes, heldC, ne_eq, Int.reduceLE, Int.reduceLT, Int.reduceEq, Int.reduceNe, Int.reduceToNat, Int.cast_ofNat_Int, Nat.reduceMul, Nat.reduceLeDiff, reduceIte, Nat.reduceEqDiff, Nat.reduceAdd, ↓reduceIte, Try.vcT, F, h.cell0, gets, vsD, if_true, if_false, Bool.false_eq_true,  cellsI, ei]
    repeat ((first | refine Sep.new h ?_ | refine Sep.put 0 h rfl ?_ | refine Sep.put 1 h rfl ?_ | refine Sep.put 2 h rfl ?_ | refine Sep.put 3 h rfl ?_ | refine Sep.put 4 h rfl ?_ | refine Sep.put 5 h rfl ?_ | refine Sep.rnum 1 h rfl (by omega) (by omega) (by omega) ?_); (clear F; (try clear h); intros; rename_i h; (try simp only [nfD] at h); have F := h.facts; (try simp only [nfF, emp_fact, rds_fact, frm_fact, tab_fact, two_fact] at F); try simp -dsimp only [↓vcA, vcB, vcD, ↓pureT_lenS, ↓iteT, ↓iteF, cond_true, cond_false, eq_self, argE, Env.get, Env.push, ev, evs, evo, retV, Value.cells, Value.oneCell', setR, overR, fillL, zl, places, allSizes, heldC, ne_eq, Int.reduceLE, Int.reduceLT, Int.reduceEq, Int.reduceNe, Int.reduceToNat, Int.cast_ofNat_Int, Nat.reduceMul, Nat.reduceLeDiff, reduceIte, Nat.reduceEqDiff, Nat.reduceAdd, ↓reduceIte, Try.vcT, F, h.cell0, gets, vsD, if_true, if_false, Bool.false_eq_true, cellsAt, ei]))
    refine ⟨_, ?_, i + 1, by omega, rfl, rfl, ?_⟩
    · omega
    rw [hfold]
    exact (h.erase 2).wrMono' 1 _ rfl (by omega)
  by_cases h15 : z = 15
  case pos =>
    have ht : tellsR s z ⟨code, ps, more, cas, las, n, sum⟩ = las.foldl wLa (s.num las.length 1) := by unfold tellsR; rw [if_neg h12, if_neg h34, if_neg h14, if_pos h15]
    rw [ht] at hd0
    generalize hE0 : s.num las.length 1 = E0 at *
    subst h15
    (try simp only [nfD] at h); have F := h.facts; (try simp only [nfF, emp_fact, rds_fact, frm_fact, tab_fact, two_fact] at F); try simp -dsimp only [↓vcA, vcB, vcD, ↓pureT_lenS, ↓iteT, ↓iteF, cond_true, cond_false, eq_self, argE, Env.get, Env.push, ev, evs, evo, retV, Value.cells, Value.oneCell', setR, overR, fillL, zl, places, allSizes, heldC, ne_eq, Int.reduceLE, Int.reduceLT, Int.reduceEq, Int.reduceNe, Int.reduceToNat, Int.cast_ofNat_Int, Nat.reduceMul, Nat.reduceLeDiff, reduceIte, Nat.reduceEqDiff, Nat.reduceAdd, ↓reduceIte, Try.vcT, F, h.cell0, gets, vsD, if_true, if_false, Bool.false_eq_true,  decide_eq_true h0, decide_true, decide_false, Bool.not_true, Bool.not_false, Int.reduceEq]
    refine Sep.rnum 1 h rfl (by omega) (by omega) (by omega) ?_
    clear h F
    intro w2 h
    (try simp only [nfD] at h); have F := h.facts; (try simp only [nfF, emp_fact, rds_fact, frm_fact, tab_fact, two_fact] at F); try simp -dsimp only [↓vcA, vcB, vcD, ↓pureT_lenS, ↓iteT, ↓iteF, cond_true, cond_false, eq_self, argE, Env.get, Env.push, ev, evs, evo, retV, Value.cells, Value.oneCell', setR, overR, fillL, zl, places, allSizes, heldC, ne_eq, Int.reduceLE, Int.reduceLT, Int.reduceEq, Int.reduceNe, Int.reduceToNat, Int.cast_ofNat_Int, Nat.reduceMul, Nat.reduceLeDiff, reduceIte, Nat.reduceEqDiff, Nat.reduceAdd, ↓reduceIte, Try.vcT, F, h.cell0, gets, vsD, if_true, if_false, Bool.false_eq_true]
    refine walkLoop [3, 6] [10] (fun m vs w' => ∃ i, i ≤ las.length ∧ m = las.length - i ∧ vs = [.int .i64 i] ∧ Sep w (fun _ => False) [blk b1 114 [.int .i64 code, .slice ap ps.length cp, .bool more, .slice aca cas.length cca, .slice ala las.length cla, .int .i64 n, .int .u64 sum], wr 35 p ((las.take i).foldl wLa E0) (8 + 8 + 10 * i)] w') (by kernel_rfl) ?_ ?_
    · simp -dsimp only [↓vcA, vcB, vcD, ↓pureT_lenS, ↓iteT, ↓iteF, cond_true, cond_false, eq_self, argE, Env.get, Env.push, ev, evs, evo, retV, Value.cells, Value.oneCell', setR, overR, fillL, zl, places, allSizes, heldC, ne_eq, Int.reduceLE, Int.reduceLT, Int.reduceEq, Int.reduceNe, Int.reduceToNat, Int.cast_ofNat_Int, Nat.reduceMul, Nat.reduceLeDiff, reduceIte, Nat.reduceEqDiff, Nat.reduceAdd, ↓reduceIte, Try.vcT, gets]
      exact ⟨_, 0, Nat.zero_le _, rfl, rfl, by rw [hE0] at h; simpa using h⟩
    intro ks hk m vs w3 hi
    clear h
    try clear F
    obtain ⟨i, hi, rfl, rfl, h⟩ := hi
    simp -dsimp only [gets, argE, List.zip_cons_cons, List.zip_nil_left, List.cons_append, List.nil_append, Env.get, Env.push, Option.bind_some, Option.map_some, Option.some.injEq, reduceIte, Nat.reduceEqDiff, Nat.reduceAdd, ↓reduceIte] at hk; subst hk
    by_cases hlt : (i : Int) < las.length
    case neg =>
      have hil : i = las.length := by omega
      subst hil
      rw [List.take_length] at h
      obtain ⟨a9, c9, h, hlen9⟩ := h.wrOpen 1 rfl
      generalize las.foldl wLa E0 = E9 at *
      obtain ⟨El, Eb⟩ := E9
      cases Eb with
      | true =>
        (try simp only [nfD] at h); have F := h.facts; (try simp only [nfF, emp_fact, rds_fact, frm_fact, tab_fact, two_fact] at F); try simp -dsimp only [↓vcA, vcB, vcD, ↓pureT_lenS, ↓iteT, ↓iteF, cond_true, cond_false, eq_self, argE, Env.get, Env.push, ev, evs, evo, retV, Value.cells, Value.oneCell', setR, overR, fillL, zl, places, allSizes, heldC, ne_eq, Int.reduceLE, Int.reduceLT, Int.reduceEq, Int.reduceNe, Int.reduceToNat, Int.cast_ofNat_Int, Nat.reduceMul, Nat.reduceLeDiff, reduceIte, Nat.reduceEqDiff, Nat.reduceAdd, ↓reduceIte, Try.vcT, F, h.cell0, gets, vsD, if_true, if_false, Bool.false_eq_true,  decide_eq_false hlt]
        exact fin (finB hd0) h
      | false =>
        (try simp only [nfD] at h); have F := h.facts; (try simp only [nfF, emp_fact, rds_fact, frm_fact, tab_fact, two_fact] at F); try simp -dsimp only [↓vcA, vcB, vcD, ↓pureT_lenS, ↓iteT, ↓iteF, cond_true, cond_false, eq_self, argE, Env.get, Env.push, ev, evs, evo, retV, Value.cells, Value.oneCell', setR, overR, fillL, zl, places, allSizes, heldC, ne_eq, Int.reduceLE, Int.reduceLT, Int.reduceEq, Int.reduceNe, Int.reduceToNat, Int.cast_ofNat_Int, Nat.reduceMul, Nat.reduceLeDiff, reduceIte, Nat.reduceEqDiff, Nat.reduceAdd, ↓reduceIte, Try.vcT, F, h.cell0, gets, vsD, if_true, if_false, Bool.false_eq_true,  decide_eq_false hlt]
        exact fin2 (M := [_]) hd0 h
    have hil : i < las.length := by omega
    have hfold : (las.take (i + 1)).foldl wLa E0 = wLa ((las.take i).foldl wLa E0) las[i] := by
      rw [List.take_succ_eq_append_getElem hil, List.foldl_append]; rfl
    have ei : IntKind.i64.wrap ((i : Int) + 1) = ((i + 1 : Nat) : Int) := by rw [i64w _ (by omega) (by omega)]; omega
    have h0i : (0 : Int) ≤ i := by omega
    obtain ⟨b, o, eb, hcx⟩ := Rla.at hil
    have ox := Ola _ (List.getElem_mem hil)
    generalize las[i] = x at *
    rw [eb] at h ⊢
    (try simp only [nfD] at h); have F := h.facts; (try simp only [nfF, emp_fact, rds_fact, frm_fact, tab_fact, two_fact] at F); try simp -dsimp only [↓vcA, vcB, vcD, ↓pureT_lenS, ↓iteT, ↓iteF, cond_true, cond_false, eq_self, argE, Env.get, Env.push, ev, evs, evo, retV, Value.cells, Value.oneCell', setR, overR, fillL, zl, places, allSizes, heldC, ne_eq, Int.reduceLE, Int.reduceLT, Int.reduceEq, Int.reduceNe, Int.reduceToNat, Int.cast_ofNat_Int, Nat.reduceMul, Nat.reduceLeDiff, reduceIte, Nat.reduceEqDiff, Nat.reduceAdd, ↓reduceIte, Try.vcT, F, h.cell0, gets, vsD, if_true, if_false, Bool.false_eq_true,  decide_eq_true hlt]
    refine ⟨⟨h0i, hlt⟩, ?_⟩
    (try simp only [nfD] at h); have F := h.facts; (try simp only [nfF, emp_fact, rds_fact, frm_fact, tab_fact, two_fact] at F); try simp -dsimp only [↓vcA, vcB, vcD, ↓pureT_lenS, ↓iteT, ↓iteF, cond_true, cond_false, eq_self, argE, Env.get, Env.push, ev, evs, evo, retV, Value.cells, Value.oneCell', setR, overR, fillL, zl, places, allSizes, heldC, ne_eq, Int.reduceLE, Int.reduceLT, Int.reduceEq, Int.reduceNe, Int.reduceToNat, Int.cast_ofNat_Int, Nat.reduceMul, Nat.reduceLeDiff, reduceIte, Nat.reduceEqDiff, Nat.reduceAdd, ↓reduceIte, Try.vcT, F, h.cell0, gets, vsD, if_true, if_false, Bool.false_eq_true,  hcx]
    refine Sep.rnum 1 h rfl (by omega) (by omega) (by omega) ?_
    clear h F
    intro w6 h
    (try simp only [nfD] at h); have F := h.facts; (try simp only [nfF, emp_fact, rds_fact, frm_fact, tab_fact, two_fact] at F); try simp -dsimp only [↓vcA, vcB, vcD, ↓pureT_lenS, ↓iteT, ↓iteF, cond_true, cond_false, eq_self, argE, Env.get, Env.push, ev, evs, evo, retV, Value.cells, Value.oneCell', setR, overR, fillL, zl, places, allSizes, heldC, ne_eq, Int.reduceLE, Int.reduceLT, Int.reduceEq, Int.reduceNe, Int.reduceToNat, Int.cast_ofNat_Int, Nat.reduceMul, Nat.reduceLeDiff, reduceIte, Nat.reduceEqDiff, Nat.reduceAdd, ↓reduceIte, Try.vcT, F, h.cell0, gets, vsD, if_true, if_false, Bool.false_eq_true,  ei]
    refine ⟨_, ?_, i + 1, by omega, rfl, rfl, ?_⟩
    · omega
    rw [hfold]
    exact h.wrMono' 1 _ rfl (by omega)
  have n1 : ¬ z = 1 := fun e => h12 (.inl e)
  have n2 : ¬ z = 2 := fun e => h12 (.inr e)
  have n3 : ¬ z = 3 := fun e => h34 (.inl e)
  have n4 : ¬ z = 4 := fun e => h34 (.inr e)
  by_cases e12 : z = 12
  case pos =>
    have ht : tellsR s z ⟨code, ps, more, cas, las, n, sum⟩ = s.num n 1 := by unfold tellsR; rw [if_neg h12, if_neg h34, if_neg h14, if_neg h15, if_pos e12]
    rw [ht] at hd0
    (try simp only [nfD] at h); have F := h.facts; (try simp only [nfF, emp_fact, rds_fact, frm_fact, tab_fact, two_fact] at F); try simp -dsimp only [↓vcA, vcB, vcD, ↓pureT_lenS, ↓iteT, ↓iteF, cond_true, cond_false, eq_self, argE, Env.get, Env.push, ev, evs, evo, retV, Value.cells, Value.oneCell', setR, overR, fillL, zl, places, allSizes, heldC, ne_eq, Int.reduceLE, Int.reduceLT, Int.reduceEq, Int.reduceNe, Int.reduceToNat, Int.cast_ofNat_Int, Nat.reduceMul, Nat.reduceLeDiff, reduceIte, Nat.reduceEqDiff, Nat.reduceAdd, ↓reduceIte, Try.vcT, F, h.cell0, gets, vsD, if_true, if_false, Bool.false_eq_true,  decide_eq_true h0, decide_eq_false n1, decide_eq_false n2, decide_eq_false n3, decide_eq_false n4, decide_eq_false h14, decide_eq_false h15, decide_eq_true e12]
    refine Sep.rnum 1 h rfl (by omega) (by omega) (by omega) ?_
    clear h F
    intro w4 h
    obtain ⟨a9, c9, h, hlen9⟩ := h.wrOpen 1 rfl
    generalize s.num n 1 = E9 at *
    obtain ⟨El, Eb⟩ := E9
    cases Eb with
    | true =>
      (try simp only [nfD] at h); have F := h.facts; (try simp only [nfF, emp_fact, rds_fact, frm_fact, tab_fact, two_fact] at F); try simp -dsimp only [↓vcA, vcB, vcD, ↓pureT_lenS, ↓iteT, ↓iteF, cond_true, cond_false, eq_self, argE, Env.get, Env.push, ev, evs, evo, retV, Value.cells, Value.oneCell', setR, overR, fillL, zl, places, allSizes, heldC, ne_eq, Int.reduceLE, Int.reduceLT, Int.reduceEq, Int.reduceNe, Int.reduceToNat, Int.cast_ofNat_Int, Nat.reduceMul, Nat.reduceLeDiff, reduceIte, Nat.reduceEqDiff, Nat.reduceAdd, ↓reduceIte, Try.vcT, F, h.cell0, gets, vsD, if_true, if_false, Bool.false_eq_true]
      exact fin (finB hd0) h
    | false =>
      (try simp only [nfD] at h); have F := h.facts; (try simp only [nfF, emp_fact, rds_fact, frm_fact, tab_fact, two_fact] at F); try simp -dsimp only [↓vcA, vcB, vcD, ↓pureT_lenS, ↓iteT, ↓iteF, cond_true, cond_false, eq_self, argE, Env.get, Env.push, ev, evs, evo, retV, Value.cells, Value.oneCell', setR, overR, fillL, zl, places, allSizes, heldC, ne_eq, Int.reduceLE, Int.reduceLT, Int.reduceEq, Int.reduceNe, Int.reduceToNat, Int.cast_ofNat_Int, Nat.reduceMul, Nat.reduceLeDiff, reduceIte, Nat.reduceEqDiff, Nat.reduceAdd, ↓reduceIte, Try.vcT, F, h.cell0, gets, vsD, if_true, if_false, Bool.false_eq_true]
      exact fin2 (M := [_]) hd0 h
  by_cases e16 : z = 16
  case pos =>
    have ht : tellsR s z ⟨code, ps, more, cas, las, n, sum⟩ = ((s.num n 4).num (sum / 4294967296) 4).num (sum % 4294967296) 4 := by unfold tellsR; rw [if_neg h12, if_neg h34, if_neg h14, if_neg h15, if_neg e12, if_pos e16]
    rw [ht] at hd0
    (try simp only [nfD] at h); have F := h.facts; (try simp only [nfF, emp_fact, rds_fact, frm_fact, tab_fact, two_fact] at F); try simp -dsimp only [↓vcA, vcB, vcD, ↓pureT_lenS, ↓iteT, ↓iteF, cond_true, cond_false, eq_self, argE, Env.get, Env.push, ev, evs, evo, retV, Value.cells, Value.oneCell', setR, overR, fillL, zl, places, allSizes, heldC, ne_eq, Int.reduceLE, Int.reduceLT, Int.reduceEq, Int.reduceNe, Int.reduceToNat, Int.cast_ofNat_Int, Nat.reduceMul, Nat.reduceLeDiff, reduceIte, Nat.reduceEqDiff, Nat.reduceAdd, ↓reduceIte, Try.vcT, F, h.cell0, gets, vsD, if_true, if_false, Bool.false_eq_true,  decide_eq_true h0, decide_eq_false n1, decide_eq_false n2, decide_eq_false n3, decide_eq_false n4, decide_eq_false h14, decide_eq_false h15, decide_eq_false e12, decide_eq_true e16]
    refine Sep.rnum 1 h rfl (by omega) (by omega) (by omega) ?_
    clear h F
    intro w4 h
    have es : IntKind.i64.wrap (sum / 2 ^ min 32 IntKind.u64.bits) = sum / 4294967296 := by
      have : (2 : Int) ^ min 32 IntKind.u64.bits = 4294967296 := by decide
      rw [this, i64w _ (by omega) (by omega)]
    (try simp only [nfD] at h); have F := h.facts; (try simp only [nfF, emp_fact, rds_fact, frm_fact, tab_fact, two_fact] at F); try simp -dsimp only [↓vcA, vcB, vcD, ↓pureT_lenS, ↓iteT, ↓iteF, cond_true, cond_false, eq_self, argE, Env.get, Env.push, ev, evs, evo, retV, Value.cells, Value.oneCell', setR, overR, fillL, zl, places, allSizes, heldC, ne_eq, Int.reduceLE, Int.reduceLT, Int.reduceEq, Int.reduceNe, Int.reduceToNat, Int.cast_ofNat_Int, Nat.reduceMul, Nat.reduceLeDiff, reduceIte, Nat.reduceEqDiff, Nat.reduceAdd, ↓reduceIte, Try.vcT, F, h.cell0, gets, vsD, if_true, if_false, Bool.false_eq_true,  es]
    refine Sep.rnum 1 h rfl (by omega) (by omega) (by omega) ?_
    clear h F
    intro w5 h
    have ea := and32 Os
    (try simp only [nfD] at h); have F := h.facts; (try simp only [nfF, emp_fact, rds_fact, frm_fact, tab_fact, two_fact] at F); try simp -dsimp only [↓vcA, vcB, vcD, ↓pureT_lenS, ↓iteT, ↓iteF, cond_true, cond_false, eq_self, argE, Env.get, Env.push, ev, evs, evo, retV, Value.cells, Value.oneCell', setR, overR, fillL, zl, places, allSizes, heldC, ne_eq, Int.reduceLE, Int.reduceLT, Int.reduceEq, Int.reduceNe, Int.reduceToNat, Int.cast_ofNat_Int, Nat.reduceMul, Nat.reduceLeDiff, reduceIte, Nat.reduceEqDiff, Nat.reduceAdd, ↓reduceIte, Try.vcT, F, h.cell0, gets, vsD, if_true, if_false, Bool.false_eq_true,  ea]
    refine Sep.rnum 1 h rfl (by omega) (by omega) (by omega) ?_
    clear h F
    intro w6 h
    obtain ⟨a9, c9, h, hlen9⟩ := h.wrOpen 1 rfl
    generalize ((s.num n 4).num (sum / 4294967296) 4).num (sum % 4294967296) 4 = E9 at *
    obtain ⟨El, Eb⟩ := E9
    cases Eb with
    | true =>
      (try simp only [nfD] at h); have F := h.facts; (try simp only [nfF, emp_fact, rds_fact, frm_fact, tab_fact, two_fact] at F); try simp -dsimp only [↓vcA, vcB, vcD, ↓pureT_lenS, ↓iteT, ↓iteF, cond_true, cond_false, eq_self, argE, Env.get, Env.push, ev, evs, evo, retV, Value.cells, Value.oneCell', setR, overR, fillL, zl, places, allSizes, heldC, ne_eq, Int.reduceLE, Int.reduceLT, Int.reduceEq, Int.reduceNe, Int.reduceToNat, Int.cast_ofNat_Int, Nat.reduceMul, Nat.reduceLeDiff, reduceIte, Nat.reduceEqDiff, Nat.reduceAdd, ↓reduceIte, Try.vcT, F, h.cell0, gets, vsD, if_true, if_false, Bool.false_eq_true]
      exact fin (finB hd0) h
    | false =>
      (try simp only [nfD] at h); have F := h.facts; (try simp only [nfF, emp_fact, rds_fact, frm_fact, tab_fact, two_fact] at F); try simp -dsimp only [↓vcA, vcB, vcD, ↓pureT_lenS, ↓iteT, ↓iteF, cond_true, cond_false, eq_self, argE, Env.get, Env.push, ev, evs, evo, retV, Value.cells, Value.oneCell', setR, overR, fillL, zl, places, allSizes, heldC, ne_eq, Int.reduceLE, Int.reduceLT, Int.reduceEq, Int.reduceNe, Int.reduceToNat, Int.cast_ofNat_Int, Nat.reduceMul, Nat.reduceLeDiff, reduceIte, Nat.reduceEqDiff, Nat.reduceAdd, ↓reduceIte, Try.vcT, F, h.cell0, gets, vsD, if_true, if_false, Bool.false_eq_true]
      exact fin2 (M := [_]) hd0 h
  have ht : tellsR s z ⟨code, ps, more, cas, las, n, sum⟩ = s := by unfold tellsR; rw [if_neg h12, if_neg h34, if_neg h14, if_neg h15, if_neg e12, if_neg e16]
  rw [ht] at hd0
  obtain ⟨a9, c9, h, hlen9⟩ := h.wrOpen 1 rfl
  generalize s = E9 at *
  obtain ⟨El, Eb⟩ := E9
  cases Eb with
  | true =>
    (try simp only [nfD] at h); have F := h.facts; (try simp only [nfF, emp_fact, rds_fact, frm_fact, tab_fact, two_fact] at F); try simp -dsimp only [↓vcA, vcB, vcD, ↓pureT_lenS, ↓iteT, ↓iteF, cond_true, cond_false, eq_self, argE, Env.get, Env.push, ev, evs, evo, retV, Value.cells, Value.oneCell', setR, overR, fillL, zl, places, allSizes, heldC, ne_eq, Int.reduceLE, Int.reduceLT, Int.reduceEq, Int.reduceNe, Int.reduceToNat, Int.cast_ofNat_Int, Nat.reduceMul, Nat.reduceLeDiff, reduceIte, Nat.reduceEqDiff, Nat.reduceAdd, ↓reduceIte, Try.vcT, F, h.cell0, gets, vsD, if_true, if_false, Bool.false_eq_true,  decide_eq_true h0, decide_eq_false n1, decide_eq_false n2, decide_eq_false n3, decide_eq_false n4, decide_eq_false h14, decide_eq_false h15, decide_eq_false e12, decide_eq_false e16]
    exact fin (finB hd0) h
  | false =>
    (try simp only [nfD] at h); have F := h.facts; (try simp only [nfF, emp_fact, rds_fact, frm_fact, tab_fact, two_fact] at F); try simp -dsimp only [↓vcA, vcB, vcD, ↓pureT_lenS, ↓iteT, ↓iteF, cond_true, cond_false, eq_self, argE, Env.get, Env.push, ev, evs, evo, retV, Value.cells, Value.oneCell', setR, overR, fillL, zl, places, allSizes, heldC, ne_eq, Int.reduceLE, Int.reduceLT, Int.reduceEq, Int.reduceNe, Int.reduceToNat, Int.cast_ofNat_Int, Nat.reduceMul, Nat.reduceLeDiff, reduceIte, Nat.reduceEqDiff, Nat.reduceAdd, ↓reduceIte, Try.vcT, F, h.cell0, gets, vsD, if_true, if_false, Bool.false_eq_true,  decide_eq_true h0, decide_eq_false n1, decide_eq_false n2, decide_eq_false n3, decide_eq_false n4, decide_eq_false h14, decide_eq_false h15, decide_eq_false e12, decide_eq_false e16]
    exact fin2 (M := [_]) hd0 h
end Go.Proofs.Ytnhgjgoglmadnaa
namespace Go.Proofs.Ytnhgjgoglmadnaa
open Go.RowKit
set_option maxRecDepth 100000
set_option linter.unusedSimpArgs false
set_option linter.unusedVariables false
set_option pp.maxSteps 1500
set_option pp.deepTerms.threshold 8

def rPcR (s : R8) : List Int := [s.rtriV.ax, s.rtriV.ay, s.rtriV.bx, s.rtriV.by', s.rtriV.cx, s.rtriV.cy, s.rtriS.numV 1, (s.rtriS.numS 1).numV 2, ((s.rtriS.numS 1).numS 2).numV 1]
def sPcR (s : R8) : R8 := ((s.rtriS.numS 1).numS 2).numS 1
theorem agPc {s s' : R8} (h : Agr s s') : rPc s = rPcR s' ∧ Agr (sPc s) (sPcR s') := by
  obtain ⟨t1, t2⟩ := h.tri
  obtain ⟨a1, a2⟩ := t2.num 1
  obtain ⟨b1, b2⟩ := a2.num 2
  obtain ⟨c1, c2⟩ := b2.num 1
  exact ⟨by unfold rPc rPcR; rw [t1, a1, b1, c1], c2⟩
def moreS (s : R8) : R8 := if 1 < s.numV 1 then ⟨(s.numS 1).l, true⟩ else s.numS 1
theorem agMore {s s' : R8} (h : Agr s s') : s.numV 1 = s'.numV 1 ∧ Agr (moreS s) (moreS s') := by
  obtain ⟨a1, a2⟩ := h.num 1
  refine ⟨a1, ?_⟩
  unfold moreS
  rw [← a1]
  split
  · rcases a2 with e | ⟨e1, e2⟩
    · rw [e]; exact .inl rfl
    · exact .inr ⟨rfl, rfl⟩
  · exact a2
def sumR (h l : Int) : Int := IntKind.u64.wrap (BitVec.ofInt IntKind.u64.bits (IntKind.u64.wrap (IntKind.u64.wrap h * 2 ^ min 32 IntKind.u64.bits)) ||| BitVec.ofInt IntKind.u64.bits (IntKind.u64.wrap l)).toNat
def toldRQ (s : R8) (z : Int) : AnV × R8 :=
  if z = 1 ∨ z = 2 then ({AnV.zero with p := [rPc s]}, sPc s) else
  if z = 3 ∨ z = 4 then ({AnV.zero with p := (itemsB rPc sPc (s.numV 1).toNat (s.numS 1)).1, more := decide ((itemsB rPc sPc (s.numV 1).toNat (s.numS 1)).2.numV 1 = 1)}, moreS (itemsB rPc sPc (s.numV 1).toNat (s.numS 1)).2) else
  if z = 14 then ({AnV.zero with ca := (itemsB rCp sCp (s.numV 1).toNat (s.numS 1)).1, more := decide ((itemsB rCp sCp (s.numV 1).toNat (s.numS 1)).2.numV 1 = 1)}, moreS (itemsB rCp sCp (s.numV 1).toNat (s.numS 1)).2) else
  if z = 15 then ({AnV.zero with la := (itemsB rLa sLa (s.numV 1).toNat (s.numS 1)).1}, (itemsB rLa sLa (s.numV 1).toNat (s.numS 1)).2) else
  if z = 12 then ({AnV.zero with n := s.numV 1}, s.numS 1) else
  if z = 16 then ({AnV.zero with n := s.numV 4, sum := sumR ((s.numS 4).numV 4) (((s.numS 4).numS 4).numV 4)}, ((s.numS 4).numS 4).numS 4) else (AnV.zero, s)
def toldRA (z : Int) (b : List Int) : AnV × R8 :=
  let q := if (⟨b, false⟩ : R8).numV 1 = 0 then toldRQ ((⟨b, false⟩ : R8).numS 1) z else (AnV.zero, (⟨b, false⟩ : R8).numS 1)
  ({q.1 with code := (⟨b, false⟩ : R8).numV 1}, q.2)
def toldROk (z : Int) (b : List Int) : Bool := (toldRA z b).2.done
def toldRV (z : Int) (b : List Int) : AnV := if toldROk z b then (toldRA z b).1 else AnV.zero
section
variable {w0 w : World}
theorem Sep.ansP {A : AnV} {v : Value} (h1 : A.ca = []) (h2 : A.la = []) (h : Sep w0 (fun _ => False) [tab 205 9 v A.p] w) : Sep w0 (fun _ => False) [ansX A ⟨v, .slice Option.none 0 0, .slice Option.none 0 0⟩] w := by
  unfold ansX
  rw [h1, h2]
  exact (((h.tabNil 159 9).two 0 1 rfl rfl).erase 1).inrNil.two 0 1 rfl rfl |>.erase 1
theorem Sep.ansC {A : AnV} {v : Value} (h1 : A.p = []) (h2 : A.la = []) (h : Sep w0 (fun _ => False) [tab 159 9 v A.ca] w) : Sep w0 (fun _ => False) [ansX A ⟨.slice Option.none 0 0, v, .slice Option.none 0 0⟩] w := by
  unfold ansX
  rw [h1, h2]
  exact (((h.tabNil 205 9).two 1 0 rfl rfl).erase 0).inrNil.two 0 1 rfl rfl |>.erase 1
theorem Sep.ansL {A : AnV} {v : Value} (h1 : A.p = []) (h2 : A.ca = []) (h : Sep w0 (fun _ => False) [inr v A.la] w) : Sep w0 (fun _ => False) [ansX A ⟨.slice Option.none 0 0, .slice Option.none 0 0, v⟩] w := by
  unfold ansX
  rw [h1, h2]
  exact ((((h.tabNil 205 9).tabNil 159 9).two 1 2 rfl rfl).erase 2).two 1 0 rfl rfl |>.erase 0
theorem Sep.ansN {A : AnV} {M : List Res} (h1 : A.p = []) (h2 : A.ca = []) (h3 : A.la = []) (h : Sep w0 (fun _ => False) M w) : Sep w0 (fun _ => False) [ansX A AnS.zero] w := by
  have := h.ansZero
  unfold ansX at this ⊢
  rw [h1, h2, h3]; exact this
end
theorem onePiece132 {A : Nat → Prop} (p : Nat) (s : R8) (Z : Nat → Prop) (w : World) (h : Sep w A [rdr 85 p s Z] w) :
    Calls Try.prog 132 [.pointer (some ⟨p, 0, none⟩)].toArray w
      (RetK fun v w' => ∃ r' N, Sep w A (r' :: N) w' ∧ (∀ x, r'.rd x → (rdr 85 p s Z).rd x) ∧ (∀ q ∈ N, ∀ x, ¬ q.rd x) ∧ (v = .agg (cellsI (rPcR s)).toArray ∧ r' = rdr 85 p (sPcR s) Z ∧ N = [])) := by
  refine walk Try.func132 rfl (by kernel_rfl) (by rw [Try.nt132]; simp) ?_
  (try simp only [nfD] at h); have F := h.facts; (try simp only [nfF, emp_fact, rds_fact, frm_fact, tab_fact, two_fact, inr_fact, ansX_fact] at F)
  simp -dsimp only [↓vcA, vcB, vcD, ↓pureT_lenS, ↓iteT, ↓iteF, cond_true, cond_false, eq_self, argE, Env.get, Env.push, ev, evs, evo, retV, Value.cells, Value.oneCell', setR, overR, fillL, zl, places, allSizes, heldC, ne_eq, Int.reduceLE, Int.reduceLT, Int.reduceEq, Int.reduceNe, Int.reduceToNat, Int.cast_ofNat_Int, Nat.reduceMul, Nat.reduceLeDiff, reduceIte, Nat.reduceEqDiff, Nat.reduceAdd, ↓reduceIte, Try.vcT]
  refine h.new ?_
  clear h F
  intro w1 b1 h
  (try simp only [nfD] at h); have F := h.facts; (try simp only [nfF, emp_fact, rds_fact, frm_fact, tab_fact, two_fact, inr_fact, ansX_fact] at F); try simp -dsimp only [↓vcA, vcB, vcD, ↓pureT_lenS, ↓iteT, ↓iteF, cond_true, cond_false, eq_self, argE, Env.get, Env.push, ev, evs, evo, retV, Value.cells, Value.oneCell', setR, overR, fillL, zl, places, allSizes, heldC, ne_eq, Int.reduceLE, Int.reduceLT, Int.reduceEq, Int.reduceNe, Int.reduceToNat, Int.cast_ofNat_Int, Nat.reduceMul, Nat.reduceLeDiff, reduceIte, Nat.reduceEqDiff, Nat.reduceAdd, ↓reduceIte, Try.vcT, F, h.cell0, gets, vsD, if_true, if_false, Bool.false_eq_true]
  repeat ((first | refine Sep.new h ?_ | refine Sep.put 0 h rfl ?_ | refine Sep.put 1 h rfl ?_ | refine Sep.put 2 h rfl ?_ | refine Sep.put 3 h rfl ?_ | refine Sep.put 4 h rfl ?_ | refine Sep.put 5 h rfl ?_ | refine Sep.rrNum 0 h rfl ?_ | refine Sep.rrTri 0 h rfl ?_); (clear F; (try clear h); intros; rename_i h; (try simp only [nfD] at h); have F := h.facts; (try simp only [nfF, emp_fact, rds_fact, frm_fact, tab_fact, two_fact, inr_fact, ansX_fact] at F); try simp -dsimp only [↓vcA, vcB, vcD, ↓pureT_lenS, ↓iteT, ↓iteF, cond_true, cond_false, eq_self, argE, Env.get, Env.push, ev, evs, evo, retV, Value.cells, Value.oneCell', setR, overR, fillL, zl, places, allSizes, heldC, ne_eq, Int.reduceLE, Int.reduceLT, Int.reduceEq, Int.reduceNe, Int.reduceToNat, Int.cast_ofNat_Int, Nat.reduceMul, Nat.reduceLeDiff, reduceIte, Nat.reduceEqDiff, Nat.reduceAdd, ↓reduceIte, Try.vcT, F, h.cell0, gets, vsD, if_true, if_false, Bool.false_eq_true, cellsAt, T3.cells]))
  (try simp only [nfD] at h); have F := h.facts; (try simp only [nfF, emp_fact, rds_fact, frm_fact, tab_fact, two_fact, inr_fact, ansX_fact] at F); try simp -dsimp only [↓vcA, vcB, vcD, ↓pureT_lenS, ↓iteT, ↓iteF, cond_true, cond_false, eq_self, argE, Env.get, Env.push, ev, evs, evo, retV, Value.cells, Value.oneCell', setR, overR, fillL, zl, places, allSizes, heldC, ne_eq, Int.reduceLE, Int.reduceLT, Int.reduceEq, Int.reduceNe, Int.reduceToNat, Int.cast_ofNat_Int, Nat.reduceMul, Nat.reduceLeDiff, reduceIte, Nat.reduceEqDiff, Nat.reduceAdd, ↓reduceIte, Try.vcT, F, h.cell0, gets, vsD, if_true, if_false, Bool.false_eq_true,  cellsAt]
  have h := (h.erase 2).erase 1
  exact ⟨_, [], h, (fun _ f => f), (fun q hq => by cases hq), rfl, rfl, rfl⟩
theorem Sep.onePiece (i : Nat) {w0 w : World} {S : Nat → Prop} {M : List Res} {K : Value → World → Prop} {p : Nat} {s : R8} {Z : Nat → Prop} (h : Sep w0 S M w) (hi : M[i]? = some (rdr 85 p s Z))
    (hk : ∀ w1, Sep w0 S (M.set i (rdr 85 p (sPcR s) Z)) w1 → K (.agg (cellsI (rPcR s)).toArray) w1) :
    callsK Try.prog 132 [.pointer (some ⟨p, 0, Option.none⟩)].toArray w K := by
  refine Sep.call1 i h hi (fun A _ hA => onePiece132 p s Z w hA) ?_
  rintro v r' N w1 ⟨rfl, rfl, rfl⟩ h
  rw [List.append_nil] at h
  exact hk w1 h
theorem Sep.rdSet (i : Nat) {w0 w : World} {S : Nat → Prop} {M : List Res} {t p : Nat} {s : R8} {Z : Nat → Prop} {v : Value} {b' : Bool} {K : World → Prop} (h : Sep w0 S M w) (hi : M[i]? = some (rdr t p s Z)) (hv : w.cell? ⟨p, 0, Option.none⟩ = some v)
    (hk : ∀ w1, Sep w0 S (M.set i (rdr t p ⟨s.l, b'⟩ Z)) w1 → K w1) : ∀ w1, Put w w1 p [v, .bool b'] t → K w1 := fun w1 hp => by
  obtain ⟨h1, v', h2, h3⟩ := h.rdAt hi
  have e : v' = v := by have a := h2.c0; rw [hv] at a; injection a with a; exact a.symm
  subst e
  obtain ⟨k1, k2⟩ := h2.put (s' := ⟨s.l, b'⟩) (Chg.refl _ _) hp h2.rd (fun _ => id) (Nat.le_refl _)
  exact hk w1 (h3 ⟨s.l, b'⟩ w1 ⟨v', k1, k2, fun _ => id⟩ (Nat.le_refl _))
theorem more133 {A : Nat → Prop} (p : Nat) (s : R8) (Z : Nat → Prop) (w : World) (h : Sep w A [rdr 85 p s Z] w) :
    Calls Try.prog 133 [.pointer (some ⟨p, 0, none⟩)].toArray w
      (RetK fun v w' => ∃ r' N, Sep w A (r' :: N) w' ∧ (∀ x, r'.rd x → (rdr 85 p s Z).rd x) ∧ (∀ q ∈ N, ∀ x, ¬ q.rd x) ∧ (v = .bool (decide (s.numV 1 = 1)) ∧ r' = rdr 85 p (moreS s) Z ∧ N = [])) := by
  refine walk Try.func133 rfl (by kernel_rfl) (by rw [Try.nt133]; simp) ?_
  (try simp only [nfD] at h); have F := h.facts; (try simp only [nfF, emp_fact, rds_fact, frm_fact, tab_fact, two_fact, inr_fact, ansX_fact] at F)
  simp -dsimp only [↓vcA, vcB, vcD, ↓pureT_lenS, ↓iteT, ↓iteF, cond_true, cond_false, eq_self, argE, Env.get, Env.push, ev, evs, evo, retV, Value.cells, Value.oneCell', setR, overR, fillL, zl, places, allSizes, heldC, ne_eq, Int.reduceLE, Int.reduceLT, Int.reduceEq, Int.reduceNe, Int.reduceToNat, Int.cast_ofNat_Int, Nat.reduceMul, Nat.reduceLeDiff, reduceIte, Nat.reduceEqDiff, Nat.reduceAdd, ↓reduceIte, Try.vcT]
  refine Sep.rrNum 0 h rfl ?_
  clear h F
  intro w1 h
  obtain ⟨_, v, hw, _⟩ := h.rdAt (i := 0) rfl
  have hc1 := hw.c1
  have hc0 := hw.c0
  have hbk := hw.bk
  have close : ∀ {b' : Bool} {w' : World}, b' = ((s.numS 1).bad || decide (1 < s.numV 1)) → Sep w A [rdr 85 p ⟨(s.numS 1).l, b'⟩ Z] w' → Sep w A [rdr 85 p (moreS s) Z] w' := fun {b' w'} e h => by
    have : moreS s = ⟨(s.numS 1).l, b'⟩ := by
      unfold moreS
      by_cases hg : 1 < s.numV 1
      · rw [if_pos hg, e, decide_eq_true hg, Bool.or_true]
      · rw [if_neg hg, e, decide_eq_false hg, Bool.or_false]
    rw [this]; exact h
  cases hb : (s.numS 1).bad with
  | true =>
    rw [hb] at hc1 hbk
    (try simp only [nfD] at h); have F := h.facts; (try simp only [nfF, emp_fact, rds_fact, frm_fact, tab_fact, two_fact, inr_fact, ansX_fact] at F); try simp -dsimp only [↓vcA, vcB, vcD, ↓pureT_lenS, ↓iteT, ↓iteF, cond_true, cond_false, eq_self, argE, Env.get, Env.push, ev, evs, evo, retV, Value.cells, Value.oneCell', setR, overR, fillL, zl, places, allSizes, heldC, ne_eq, Int.reduceLE, Int.reduceLT, Int.reduceEq, Int.reduceNe, Int.reduceToNat, Int.cast_ofNat_Int, Nat.reduceMul, Nat.reduceLeDiff, reduceIte, Nat.reduceEqDiff, Nat.reduceAdd, ↓reduceIte, Try.vcT, F, h.cell0, gets, vsD, if_true, if_false, Bool.false_eq_true,  hc1, hbk]
    refine Sep.rdSet 0 h rfl hc0 ?_
    clear h F
    intro w2 h
    (try simp only [nfD] at h); have F := h.facts; (try simp only [nfF, emp_fact, rds_fact, frm_fact, tab_fact, two_fact, inr_fact, ansX_fact] at F); try simp -dsimp only [↓vcA, vcB, vcD, ↓pureT_lenS, ↓iteT, ↓iteF, cond_true, cond_false, eq_self, argE, Env.get, Env.push, ev, evs, evo, retV, Value.cells, Value.oneCell', setR, overR, fillL, zl, places, allSizes, heldC, ne_eq, Int.reduceLE, Int.reduceLT, Int.reduceEq, Int.reduceNe, Int.reduceToNat, Int.cast_ofNat_Int, Nat.reduceMul, Nat.reduceLeDiff, reduceIte, Nat.reduceEqDiff, Nat.reduceAdd, ↓reduceIte, Try.vcT, F, h.cell0, gets, vsD, if_true, if_false, Bool.false_eq_true]
    exact ⟨_, [], close (by rw [hb]; rfl) h, (fun _ f => f), (fun q hq => by cases hq), rfl, rfl⟩
  | false =>
    rw [hb] at hc1 hbk
    (try simp only [nfD] at h); have F := h.facts; (try simp only [nfF, emp_fact, rds_fact, frm_fact, tab_fact, two_fact, inr_fact, ansX_fact] at F); try simp -dsimp only [↓vcA, vcB, vcD, ↓pureT_lenS, ↓iteT, ↓iteF, cond_true, cond_false, eq_self, argE, Env.get, Env.push, ev, evs, evo, retV, Value.cells, Value.oneCell', setR, overR, fillL, zl, places, allSizes, heldC, ne_eq, Int.reduceLE, Int.reduceLT, Int.reduceEq, Int.reduceNe, Int.reduceToNat, Int.cast_ofNat_Int, Nat.reduceMul, Nat.reduceLeDiff, reduceIte, Nat.reduceEqDiff, Nat.reduceAdd, ↓reduceIte, Try.vcT, F, h.cell0, gets, vsD, if_true, if_false, Bool.false_eq_true,  hc1, hbk]
    refine Sep.rdSet 0 h rfl hc0 ?_
    clear h F
    intro w2 h
    (try simp only [nfD] at h); have F := h.facts; (try simp only [nfF, emp_fact, rds_fact, frm_fact, tab_fact, two_fact, inr_fact, ansX_fact] at F); try simp -dsimp only [↓vcA, vcB, vcD, ↓pureT_lenS, ↓iteT, ↓iteF, cond_true, cond_false, eq_self, argE, Env.get, Env.push, ev, evs, evo, retV, Value.cells, Value.oneCell', setR, overR, fillL, zl, places, allSizes, heldC, ne_eq, Int.reduceLE, Int.reduceLT, Int.reduceEq, Int.reduceNe, Int.reduceToNat, Int.cast_ofNat_Int, Nat.reduceMul, Nat.reduceLeDiff, reduceIte, Nat.reduceEqDiff, Nat.reduceAdd, ↓reduceIte, Try.vcT, F, h.cell0, gets, vsD, if_true, if_false, Bool.false_eq_true]
    exact ⟨_, [], close (by rw [hb]; rfl) h, (fun _ f => f), (fun q hq => by cases hq), rfl, rfl⟩
theorem Sep.more (i : Nat) {w0 w : World} {S : Nat → Prop} {M : List Res} {K : Value → World → Prop} {p : Nat} {s : R8} {Z : Nat → Prop} (h : Sep w0 S M w) (hi : M[i]? = some (rdr 85 p s Z))
    (hk : ∀ w1, Sep w0 S (M.set i (rdr 85 p (moreS s) Z)) w1 → K (.bool (decide (s.numV 1 = 1))) w1) :
    callsK Try.prog 133 [.pointer (some ⟨p, 0, Option.none⟩)].toArray w K := by
  refine Sep.call1 i h hi (fun A _ hA => more133 p s Z w hA) ?_
  rintro v r' N w1 ⟨rfl, rfl, rfl⟩ h
  rw [List.append_nil] at h
  exact hk w1 h
end Go.Proofs.Ytnhgjgoglmadnaa
