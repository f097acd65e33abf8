/- Joined texts of this claim (part 16), printed by a program of this work. The last part holds the claimed theorem: the law answers true at every input of its row. -/
import Derived.Test.YtnhgjgoglmadnaaSP14o
namespace Go.Proofs.Ytnhgjgoglmadnaa
open Go.RowKit
set_option maxRecDepth 100000
set_option linter.unusedSimpArgs false
set_option linter.unusedVariables false
set_option pp.maxSteps 1500
set_option pp.deepTerms.threshold 8

theorem Rd.at' {w : World} {a : Option Addr} {n c : Nat} {xs : List Int} (h : Rd w (.slice a n c) xs) {i : Nat} (hi : i < xs.length) : ∃ b o, a = some ⟨b, o, none⟩ ∧ w.cell? ⟨b, o + i, none⟩ = some (.int .u8 xs[i]) := by
  obtain ⟨a', c', e, _, _, _, h4⟩ := h
  injection e with e1 _ _
  obtain ⟨b, o, e4, hc⟩ := h4 (by omega)
  refine ⟨b, o, by rw [e1, e4], ?_⟩
  rw [hc i hi]
  simp [List.getD, hi]
def rPc (s : R8) : List Int := [s.triV.ax, s.triV.ay, s.triV.bx, s.triV.by', s.triV.cx, s.triV.cy, s.triS.numV 1, (s.triS.numS 1).numV 2, ((s.triS.numS 1).numS 2).numV 1]
def sPc (s : R8) : R8 := ((s.triS.numS 1).numS 2).numS 1
def rCp (s : R8) : List Int := [s.numV 1, (s.numS 1).numV 1, ((s.numS 1).numS 1).numV 1, 0, (((s.numS 1).numS 1).numS 1).numV 2, ((((s.numS 1).numS 1).numS 1).numS 2).numV 1, (((((s.numS 1).numS 1).numS 1).numS 2).numS 1).numV 4, 0, 0]
def sCp (s : R8) : R8 := (((((s.numS 1).numS 1).numS 1).numS 2).numS 1).numS 4
def rLa (s : R8) : Int := s.numV 2
def sLa (s : R8) : R8 := s.numS 2
def itemsN {α : Type} (f : R8 → α) (g : R8 → R8) : Nat → R8 → List α × R8
  | 0, s => ([], s)
  | n + 1, s => (f s :: (itemsN f g n (g s)).1, (itemsN f g n (g s)).2)
theorem itemsN_len {α : Type} (f : R8 → α) (g : R8 → R8) : ∀ n s, (itemsN f g n s).1.length = n
  | 0, s => rfl
  | n + 1, s => by simp [itemsN, itemsN_len f g n (g s)]
def AnV.zero : AnV := ⟨0, [], false, [], [], 0, 0⟩
def shl8 (a x : Int) : Int := IntKind.u64.wrap (BitVec.ofInt IntKind.u64.bits (IntKind.u64.wrap (a * 2 ^ min 8 IntKind.u64.bits)) ||| BitVec.ofInt IntKind.u64.bits (IntKind.u64.wrap x)).toNat
def toldQ (s : R8) (z : Int) : AnV × R8 :=
  if z = 1 ∨ z = 2 then ({AnV.zero with p := [rPc s]}, sPc s) else
  if z = 3 ∨ z = 4 then ({AnV.zero with p := (itemsN rPc sPc (s.numV 1).toNat (s.numS 1)).1, more := decide ((itemsN rPc sPc (s.numV 1).toNat (s.numS 1)).2.numV 1 = 1)}, (itemsN rPc sPc (s.numV 1).toNat (s.numS 1)).2.numS 1) else
  if z = 14 then ({AnV.zero with ca := (itemsN rCp sCp (s.numV 1).toNat (s.numS 1)).1, more := decide ((itemsN rCp sCp (s.numV 1).toNat (s.numS 1)).2.numV 1 = 1)}, (itemsN rCp sCp (s.numV 1).toNat (s.numS 1)).2.numS 1) else
  if z = 15 then ({AnV.zero with la := (itemsN rLa sLa (s.numV 1).toNat (s.numS 1)).1}, (itemsN rLa sLa (s.numV 1).toNat (s.numS 1)).2) else
  if z = 12 then ({AnV.zero with n := s.numV 1}, s.numS 1) else
  if z = 16 then ({AnV.zero with n := s.numV 4, sum := ((s.numS 4).rawV 8).foldl shl8 0}, (s.numS 4).rawS 8) else (AnV.zero, s)

def inr (v : Value) (ns : List Int) : Res where
  on w A := w.ownsRow 0 3 1 v ns.length (ns.map (Value.int .i64)) ∧ A = fun x => v.ownBlock = some x
  rd _ := False
  fact w := IntsR w v ns
  lt := fun ⟨h, e⟩ x hx => by subst e; exact (World.ownsRow.lt h x hx).2
  chg := fun {w w' A} ⟨h, e⟩ hs hc => ⟨owns_same h fun k hk => hc k (World.ownsRow.lt h k hk).2 (.inl (by rw [e]; exact hk)), e⟩
  ok := fun ⟨h, _⟩ => row_of_owns h fun u hu => by obtain ⟨y, _, rfl⟩ := List.mem_map.1 hu; rfl
theorem inr_fact (v : Value) (ns : List Int) (w : World) : (inr v ns).fact w = IntsR w v ns := (rfl)
theorem Sep.inrNil {w0 w : World} {S : Nat → Prop} {M : List Res} (h : Sep w0 S M w) : Sep w0 S (M ++ [inr (.slice Option.none 0 0) []]) w :=
  h.push (Chg.refl _ _) (A := fun _ => False) ⟨World.ownsRow_nil _ _ _ _, by funext x; simp [Value.ownBlock]⟩ (fun _ f => f.elim) (fun _ f => f.elim)
theorem info3 : (Try.prog.info? 3).map (fun i => (i.zero, i.size, i.bytes)) = some (some (.int .i64 0), 1, 8) := by kernel_rfl
theorem Sep.appInr (i k : Nat) {w0 w : World} {S : Nat → Prop} {M : List Res} {b : Nat} {v : Value} {xs : List Int} (x : Int) {ty : TypeId} {K : Value → World → Prop} (h : Sep w0 S M w) (hi : M[i]? = some (inr v xs)) (hk : M[k]? = some (blk b 3 [.int .i64 x])) (hl : xs.length ≤ 1000000)
    (hK : ∀ a c w', Sep w0 S (M.set i (inr (.slice a (xs ++ [x]).length c) (xs ++ [x]))) w' → K (.slice a (xs ++ [x]).length c) w') : RunK Try.prog (Builtin.append_ #[60, 60] ty #[v, .slice (some ⟨b, 0, Option.none⟩) 1 1]) w K := by
  obtain ⟨C, ⟨c1, _⟩, _, _⟩ := h.at hk
  obtain ⟨A, ⟨h1, rfl⟩, _, h3⟩ := h.at hi
  have hrow : Row 1 w (.slice (some ⟨b, 0, Option.none⟩) 1 1) 1 [.int .i64 x] := ⟨rfl, fun u hu => (by simp at hu; subst hu; rfl), _, _, rfl, Nat.le_refl _, by simp [maxLen], fun e => by (cases e), fun _ => ⟨b, 0, rfl, fun j u hj => by rw [cell_of_row w b _ _ _ _ c1, Nat.zero_add]; simpa using hj⟩⟩
  refine append_rule info3 Try.underlying60 rfl (by decide) h1 hrow (by omega) (by simp only [maxLen]; omega) fun v' w' ho hg hat => ?_
  have hsh : ∃ a c, v' = .slice a (xs.length + 1) c := by
    rcases ho.2 with ⟨rfl, hz⟩ | ⟨g, cap, cur, rfl, _⟩
    · exact ⟨Option.none, 0, by rw [hz]⟩
    · exact ⟨_, _, rfl⟩
  obtain ⟨a, c, rfl⟩ := hsh
  have el : (xs ++ [x]).length = xs.length + 1 := by simp
  have := hK a c w' (h3 _ _ w' ⟨by rw [el]; simpa using ho, rfl⟩ (fun y hy => ?_) (Chg.ofGrown hg) (fun _ f => f))
  · rw [el] at this; exact this
  · rw [el] at hy
    rcases hat with e | e
    · exact .inl (by rw [← e]; exact hy)
    · rw [hy] at e; injection e with e; exact .inr (by omega)
def ansX (a : AnV) (t : AnS) : Res := two (two (tab 205 9 t.p a.p) (tab 159 9 t.ca a.ca)) (inr t.la a.la)
theorem ansX_fact (a : AnV) (t : AnS) (w : World) : (ansX a t).fact w = AnR w a t := by
  simp only [ansX, two_fact, tab_fact, inr_fact, and_assoc]
  exact propext ⟨fun ⟨a, b, c⟩ => ⟨a, b, c⟩, fun ⟨a, b, c⟩ => ⟨a, b, c⟩⟩
theorem ansX_rd (a : AnV) (t : AnS) (x : Nat) : ¬ (ansX a t).rd x := by
  simp [ansX, two, tab, inr]
def AnS.zero : AnS := ⟨.slice none 0 0, .slice none 0 0, .slice none 0 0⟩
theorem infoPc : (Try.prog.info? 205).map (fun i => (i.zero, i.size, i.bytes)) = some (some (.agg #[.int .i64 0, .int .i64 0, .int .i64 0, .int .i64 0, .int .i64 0, .int .i64 0, .int .i64 0, .int .i64 0, .int .i64 0]), 9, 72) := by kernel_rfl

theorem piece139 {w0 w : World} {q G1 G2 : Res} {r c : Nat} {s : R8} {K : Value → World → Prop} (h : Sep w0 (fun _ => False) [q, rdr 134 r s (fun _ => False), blk c 53 [.pointer (some ⟨r, 0, none⟩)], G1, G2] w)
    (hK : ∀ w1, Sep w0 (fun _ => False) [q, rdr 134 r (sPc s) (fun _ => False), blk c 53 [.pointer (some ⟨r, 0, none⟩)], G1, G2] w1 → K (.agg (cellsI (rPc s)).toArray) w1) :
    callsK Try.prog 139 [.pointer (some ⟨c, 0, none⟩)].toArray w K := by
  refine walk Try.func139 rfl (by kernel_rfl) (by rw [Try.nt139]; simp) ?_
  (try simp only [nfD] at h); have F := h.facts; (try simp only [nfF, emp_fact, rds_fact, frm_fact, tab_fact, two_fact, inr_fact, ansX_fact] at F)
  simp -dsimp only [↓vcA, vcB, vcD, ↓pureT_lenS, ↓iteT, ↓iteF, cond_true, cond_false, eq_self, argE, Env.get, Env.push, ev, evs, evo, retV, Value.cells, Value.oneCell', setR, overR, fillL, zl, places, allSizes, heldC, ne_eq, Int.reduceLE, Int.reduceLT, Int.reduceEq, Int.reduceNe, Int.reduceToNat, Int.cast_ofNat_Int, Nat.reduceMul, Nat.reduceLeDiff, reduceIte, Nat.reduceEqDiff, Nat.reduceAdd, ↓reduceIte, Try.vcT]
  refine h.new ?_
  clear h F
  intro w1 b1 h
  (try simp only [nfD] at h); have F := h.facts; (try simp only [nfF, emp_fact, rds_fact, frm_fact, tab_fact, two_fact, inr_fact, ansX_fact] at F); try simp -dsimp only [↓vcA, vcB, vcD, ↓pureT_lenS, ↓iteT, ↓iteF, cond_true, cond_false, eq_self, argE, Env.get, Env.push, ev, evs, evo, retV, Value.cells, Value.oneCell', setR, overR, fillL, zl, places, allSizes, heldC, ne_eq, Int.reduceLE, Int.reduceLT, Int.reduceEq, Int.reduceNe, Int.reduceToNat, Int.cast_ofNat_Int, Nat.reduceMul, Nat.reduceLeDiff, reduceIte, Nat.reduceEqDiff, Nat.reduceAdd, ↓reduceIte, Try.vcT, F, h.cell0, gets, vsD, if_true, if_false, Bool.false_eq_true]
  refine walkDraw (.h 0 0 (.h 2 0 (.h 4 0 (.h 6 0 (.l 1 (.l 3 (.l 5 (.l 7 (.q 8 (.l 9 .fin)))))))))) [(c, 0, .pointer (some ⟨r, 0, none⟩))] (by kernel_rfl) (by simp [Holds_nil, Holds_cons, F]) ?_
  refine h.draw ?_
  clear h F
  intro w2 h
  (try simp only [nfD] at h); have F := h.facts; (try simp only [nfF, emp_fact, rds_fact, frm_fact, tab_fact, two_fact, inr_fact, ansX_fact] at F); try simp -dsimp only [↓vcA, vcB, vcD, ↓pureT_lenS, ↓iteT, ↓iteF, cond_true, cond_false, eq_self, argE, Env.get, Env.push, ev, evs, evo, retV, Value.cells, Value.oneCell', setR, overR, fillL, zl, places, allSizes, heldC, ne_eq, Int.reduceLE, Int.reduceLT, Int.reduceEq, Int.reduceNe, Int.reduceToNat, Int.cast_ofNat_Int, Nat.reduceMul, Nat.reduceLeDiff, reduceIte, Nat.reduceEqDiff, Nat.reduceAdd, ↓reduceIte, Try.vcT, F, h.cell0, gets, vsD, if_true, if_false, Bool.false_eq_true]
  repeat ((first | refine Sep.new h ?_ | refine Sep.put 0 h rfl ?_ | refine Sep.put 1 h rfl ?_ | refine Sep.put 2 h rfl ?_ | refine Sep.put 3 h rfl ?_ | refine Sep.put 4 h rfl ?_ | refine Sep.put 5 h rfl ?_ | refine Sep.rdNum 1 h rfl ?_ | refine Sep.rdTri 1 h rfl ?_); (clear F; (try clear h); intros; rename_i h; (try simp only [nfD] at h); have F := h.facts; (try simp only [nfF, emp_fact, rds_fact, frm_fact, tab_fact, two_fact, inr_fact, ansX_fact] at F); try simp -dsimp only [↓vcA, vcB, vcD, ↓pureT_lenS, ↓iteT, ↓iteF, cond_true, cond_false, eq_self, argE, Env.get, Env.push, ev, evs, evo, retV, Value.cells, Value.oneCell', setR, overR, fillL, zl, places, allSizes, heldC, ne_eq, Int.reduceLE, Int.reduceLT, Int.reduceEq, Int.reduceNe, Int.reduceToNat, Int.cast_ofNat_Int, Nat.reduceMul, Nat.reduceLeDiff, reduceIte, Nat.reduceEqDiff, Nat.reduceAdd, ↓reduceIte, Try.vcT, F, h.cell0, gets, vsD, if_true, if_false, Bool.false_eq_true, T3.cells]))
  (try simp only [nfD] at h); have F := h.facts; (try simp only [nfF, emp_fact, rds_fact, frm_fact, tab_fact, two_fact, inr_fact, ansX_fact] at F); try simp -dsimp only [↓vcA, vcB, vcD, ↓pureT_lenS, ↓iteT, ↓iteF, cond_true, cond_false, eq_self, argE, Env.get, Env.push, ev, evs, evo, retV, Value.cells, Value.oneCell', setR, overR, fillL, zl, places, allSizes, heldC, ne_eq, Int.reduceLE, Int.reduceLT, Int.reduceEq, Int.reduceNe, Int.reduceToNat, Int.cast_ofNat_Int, Nat.reduceMul, Nat.reduceLeDiff, reduceIte, Nat.reduceEqDiff, Nat.reduceAdd, ↓reduceIte, Try.vcT, F, h.cell0, gets, vsD, if_true, if_false, Bool.false_eq_true,  cellsAt]
  exact hK _ (h.erase 5)
theorem sPc_byt {s : R8} (hb : Byt s.l) : Byt (sPc s).l := numS_byt _ 1 (numS_byt _ 2 (numS_byt _ 1 (triS_byt s hb)))
theorem sCp_byt {s : R8} (hb : Byt s.l) : Byt (sCp s).l := numS_byt _ 4 (numS_byt _ 1 (numS_byt _ 2 (numS_byt _ 1 (numS_byt _ 1 (numS_byt _ 1 hb)))))
set_option maxHeartbeats 4000000 in
theorem told131 {w0 w : World} {q : Res} {r : Nat} {s : R8} {z : Int} {K : Value → World → Prop} (h : Sep w0 (fun _ => False) [q, rdr 134 r s (fun _ => False)] w) (hb : Byt s.l)
    (hK : ∀ t w1, Sep w0 (fun _ => False) [q, rdr 134 r (toldQ s z).2 (fun _ => False), ansX (toldQ s z).1 t] w1 → K (.agg ((toldQ s z).1.cells t).toArray) w1) :
    callsK Try.prog 131 [.pointer (some ⟨r, 0, none⟩), .int .i64 z].toArray w K := by
  refine walk Try.func131 rfl (by kernel_rfl) (by rw [Try.nt131]; simp) ?_
  (try simp only [nfD] at h); have F := h.facts; (try simp only [nfF, emp_fact, rds_fact, frm_fact, tab_fact, two_fact, inr_fact, ansX_fact] at F)
  simp -dsimp only [↓vcA, vcB, vcD, ↓pureT_lenS, ↓iteT, ↓iteF, cond_true, cond_false, eq_self, argE, Env.get, Env.push, ev, evs, evo, retV, Value.cells, Value.oneCell', setR, overR, fillL, zl, places, allSizes, heldC, ne_eq, Int.reduceLE, Int.reduceLT, Int.reduceEq, Int.reduceNe, Int.reduceToNat, Int.cast_ofNat_Int, Nat.reduceMul, Nat.reduceLeDiff, reduceIte, Nat.reduceEqDiff, Nat.reduceAdd, ↓reduceIte, Try.vcT]
  refine h.new ?_
  clear h F
  intro w1 c h
  (try simp only [nfD] at h); have F := h.facts; (try simp only [nfF, emp_fact, rds_fact, frm_fact, tab_fact, two_fact, inr_fact, ansX_fact] at F); try simp -dsimp only [↓vcA, vcB, vcD, ↓pureT_lenS, ↓iteT, ↓iteF, cond_true, cond_false, eq_self, argE, Env.get, Env.push, ev, evs, evo, retV, Value.cells, Value.oneCell', setR, overR, fillL, zl, places, allSizes, heldC, ne_eq, Int.reduceLE, Int.reduceLT, Int.reduceEq, Int.reduceNe, Int.reduceToNat, Int.cast_ofNat_Int, Nat.reduceMul, Nat.reduceLeDiff, reduceIte, Nat.reduceEqDiff, Nat.reduceAdd, ↓reduceIte, Try.vcT, F, h.cell0, gets, vsD, if_true, if_false, Bool.false_eq_true]
  refine h.new ?_
  clear h F
  intro w2 b4 h
  have hn1 := num1_rng s hb
  have hs1 := numS_byt s 1 hb
  obtain ⟨N, hN⟩ := Int.eq_ofNat_of_zero_le hn1.1
  have eN : (s.numV 1).toNat = N := by omega
  by_cases h12 : z = 1 ∨ z = 2
  case pos =>
    have ht : toldQ s z = ({AnV.zero with p := [rPc s]}, sPc s) := by unfold toldQ; rw [if_pos h12]
    rw [ht] at hK
    have h := h.tabNil 205 9
    rcases h12 with rfl | rfl
    all_goals
      (try simp only [nfD] at h); have F := h.facts; (try simp only [nfF, emp_fact, rds_fact, frm_fact, tab_fact, two_fact, inr_fact, ansX_fact] at F); try simp -dsimp only [↓vcA, vcB, vcD, ↓pureT_lenS, ↓iteT, ↓iteF, cond_true, cond_false, eq_self, argE, Env.get, Env.push, ev, evs, evo, retV, Value.cells, Value.oneCell', setR, overR, fillL, zl, places, allSizes, heldC, ne_eq, Int.reduceLE, Int.reduceLT, Int.reduceEq, Int.reduceNe, Int.reduceToNat, Int.cast_ofNat_Int, Nat.reduceMul, Nat.reduceLeDiff, reduceIte, Nat.reduceEqDiff, Nat.reduceAdd, ↓reduceIte, Try.vcT, F, h.cell0, gets, vsD, if_true, if_false, Bool.false_eq_true,  Int.reduceEq, decide_true, decide_false]
      refine walkDraw (.q 0 (.q 2 (.ll 1 (.l 3 (.l 4 (.l 5 (.q 6 (.l 7 .fin))))) 3 (.ll 1 (.l 4 (.l 5 (.q 6 (.l 7 .fin)))) 4 (.l 1 (.l 5 (.q 6 (.l 7 .fin)))))))) [] (by kernel_rfl) (by simp [Holds_nil]) ?_
      refine h.draw ?_
      clear h F
      intro w3 h
      (try simp only [nfD] at h); have F := h.facts; (try simp only [nfF, emp_fact, rds_fact, frm_fact, tab_fact, two_fact, inr_fact, ansX_fact] at F); try simp -dsimp only [↓vcA, vcB, vcD, ↓pureT_lenS, ↓iteT, ↓iteF, cond_true, cond_false, eq_self, argE, Env.get, Env.push, ev, evs, evo, retV, Value.cells, Value.oneCell', setR, overR, fillL, zl, places, allSizes, heldC, ne_eq, Int.reduceLE, Int.reduceLT, Int.reduceEq, Int.reduceNe, Int.reduceToNat, Int.cast_ofNat_Int, Nat.reduceMul, Nat.reduceLeDiff, reduceIte, Nat.reduceEqDiff, Nat.reduceAdd, ↓reduceIte, Try.vcT, F, h.cell0, gets, vsD, if_true, if_false, Bool.false_eq_true]
      repeat' (first | ((first | refine Sep.new h ?_ | refine Sep.put 0 h rfl ?_ | refine Sep.put 1 h rfl ?_ | refine Sep.put 2 h rfl ?_ | refine Sep.put 3 h rfl ?_ | refine Sep.put 4 h rfl ?_ | refine Sep.put 5 h rfl ?_ | refine piece139 h ?_ | refine Sep.appTab 4 5 infoPc Try.underlying112 rfl (by decide) (rPc s) h rfl rfl rfl (by simp) (by simp [maxLen]) ?_) <;> (clear F; (try clear h); intros; rename_i h; (try simp only [nfD] at h); have F := h.facts; (try simp only [nfF, emp_fact, rds_fact, frm_fact, tab_fact, two_fact, inr_fact, ansX_fact] at F); try simp -dsimp only [↓vcA, vcB, vcD, ↓pureT_lenS, ↓iteT, ↓iteF, cond_true, cond_false, eq_self, argE, Env.get, Env.push, ev, evs, evo, retV, Value.cells, Value.oneCell', setR, overR, fillL, zl, places, allSizes, heldC, ne_eq, Int.reduceLE, Int.reduceLT, Int.reduceEq, Int.reduceNe, Int.reduceToNat, Int.cast_ofNat_Int, Nat.reduceMul, Nat.reduceLeDiff, reduceIte, Nat.reduceEqDiff, Nat.reduceAdd, ↓reduceIte, Try.vcT, F, h.cell0, gets, vsD, if_true, if_false, Bool.false_eq_true, cellsAt])) | (apply And.intro <;> (clear F; (try simp only [nfD] at h); have F := h.facts; (try simp only [nfF, emp_fact, rds_fact, frm_fact, tab_fact, two_fact, inr_fact, ansX_fact] at F); try simp -dsimp only [↓vcA, vcB, vcD, ↓pureT_lenS, ↓iteT, ↓iteF, cond_true, cond_false, eq_self, argE, Env.get, Env.push, ev, evs, evo, retV, Value.cells, Value.oneCell', setR, overR, fillL, zl, places, allSizes, heldC, ne_eq, Int.reduceLE, Int.reduceLT, Int.reduceEq, Int.reduceNe, Int.reduceToNat, Int.cast_ofNat_Int, Nat.reduceMul, Nat.reduceLeDiff, reduceIte, Nat.reduceEqDiff, Nat.reduceAdd, ↓reduceIte, Try.vcT, F, h.cell0, gets, vsD, if_true, if_false, Bool.false_eq_true, cellsAt])))
      all_goals
        (try simp only [nfD] at h); have F := h.facts; (try simp only [nfF, emp_fact, rds_fact, frm_fact, tab_fact, two_fact, inr_fact, ansX_fact] at F); try simp -dsimp only [↓vcA, vcB, vcD, ↓pureT_lenS, ↓iteT, ↓iteF, cond_true, cond_false, eq_self, argE, Env.get, Env.push, ev, evs, evo, retV, Value.cells, Value.oneCell', setR, overR, fillL, zl, places, allSizes, heldC, ne_eq, Int.reduceLE, Int.reduceLT, Int.reduceEq, Int.reduceNe, Int.reduceToNat, Int.cast_ofNat_Int, Nat.reduceMul, Nat.reduceLeDiff, reduceIte, Nat.reduceEqDiff, Nat.reduceAdd, ↓reduceIte, Try.vcT, F, h.cell0, gets, vsD, if_true, if_false, Bool.false_eq_true,  cellsAt]
        repeat ((first | refine Sep.new h ?_ | refine Sep.put 0 h rfl ?_ | refine Sep.put 1 h rfl ?_ | refine Sep.put 2 h rfl ?_ | refine Sep.put 3 h rfl ?_ | refine Sep.put 4 h rfl ?_ | refine Sep.put 5 h rfl ?_); (clear F; (try clear h); intros; rename_i h; (try simp only [nfD] at h); have F := h.facts; (try simp only [nfF, emp_fact, rds_fact, frm_fact, tab_fact, two_fact, inr_fact, ansX_fact] at F); try simp -dsimp only [↓vcA, vcB, vcD, ↓pureT_lenS, ↓iteT, ↓iteF, cond_true, cond_false, eq_self, argE, Env.get, Env.push, ev, evs, evo, retV, Value.cells, Value.oneCell', setR, overR, fillL, zl, places, allSizes, heldC, ne_eq, Int.reduceLE, Int.reduceLT, Int.reduceEq, Int.reduceNe, Int.reduceToNat, Int.cast_ofNat_Int, Nat.reduceMul, Nat.reduceLeDiff, reduceIte, Nat.reduceEqDiff, Nat.reduceAdd, ↓reduceIte, Try.vcT, F, h.cell0, gets, vsD, if_true, if_false, Bool.false_eq_true, cellsAt]))
        have h := (((h.erase 5).erase 3).erase 2)
        have h := h.tabNil 159 9
        have h := (h.inrNil)
        (try simp only [nfD] at h); have F := h.facts; (try simp only [nfF, emp_fact, rds_fact, frm_fact, tab_fact, two_fact, inr_fact, ansX_fact] at F)
        have h := ((h.two 2 3 rfl rfl).erase 3)
        (try simp only [nfD] at h); have F := h.facts; (try simp only [nfF, emp_fact, rds_fact, frm_fact, tab_fact, two_fact, inr_fact, ansX_fact] at F)
        have h := ((h.two 2 3 rfl rfl).erase 3)
        (try simp only [nfD] at h); have F := h.facts; (try simp only [nfF, emp_fact, rds_fact, frm_fact, tab_fact, two_fact, inr_fact, ansX_fact] at F)
        exact hK ⟨.slice _ _ _, .slice none 0 0, .slice none 0 0⟩ _ h
  by_cases h34 : z = 3 ∨ z = 4
  case pos =>
    have ht : toldQ s z = ({AnV.zero with p := (itemsN rPc sPc N (s.numS 1)).1, more := decide ((itemsN rPc sPc N (s.numS 1)).2.numV 1 = 1)}, (itemsN rPc sPc N (s.numS 1)).2.numS 1) := by unfold toldQ; rw [if_neg h12, if_pos h34, eN]
    rw [ht] at hK
    have h := h.tabNil 205 9
    rcases h34 with rfl | rfl
    all_goals
      (try simp only [nfD] at h); have F := h.facts; (try simp only [nfF, emp_fact, rds_fact, frm_fact, tab_fact, two_fact, inr_fact, ansX_fact] at F); try simp -dsimp only [↓vcA, vcB, vcD, ↓pureT_lenS, ↓iteT, ↓iteF, cond_true, cond_false, eq_self, argE, Env.get, Env.push, ev, evs, evo, retV, Value.cells, Value.oneCell', setR, overR, fillL, zl, places, allSizes, heldC, ne_eq, Int.reduceLE, Int.reduceLT, Int.reduceEq, Int.reduceNe, Int.reduceToNat, Int.cast_ofNat_Int, Nat.reduceMul, Nat.reduceLeDiff, reduceIte, Nat.reduceEqDiff, Nat.reduceAdd, ↓reduceIte, Try.vcT, F, h.cell0, gets, vsD, if_true, if_false, Bool.false_eq_true,  Int.reduceEq, decide_true, decide_false]
      refine Sep.rdNum 1 h rfl ?_
      clear h F
      intro w3 h
      (try simp only [nfD] at h); have F := h.facts; (try simp only [nfF, emp_fact, rds_fact, frm_fact, tab_fact, two_fact, inr_fact, ansX_fact] at F); try simp -dsimp only [↓vcA, vcB, vcD, ↓pureT_lenS, ↓iteT, ↓iteF, cond_true, cond_false, eq_self, argE, Env.get, Env.push, ev, evs, evo, retV, Value.cells, Value.oneCell', setR, overR, fillL, zl, places, allSizes, heldC, ne_eq, Int.reduceLE, Int.reduceLT, Int.reduceEq, Int.reduceNe, Int.reduceToNat, Int.cast_ofNat_Int, Nat.reduceMul, Nat.reduceLeDiff, reduceIte, Nat.reduceEqDiff, Nat.reduceAdd, ↓reduceIte, Try.vcT, F, h.cell0, gets, vsD, if_true, if_false, Bool.false_eq_true]
      rw [hN]
      refine walkLoop [2, 4, 5, 24] [25] (fun m vs w' => ∃ n i t out a cc, m = n ∧ i + n = N ∧ vs = [.int .i64 (i : Nat)] ∧ Sep w0 (fun _ => False) [q, rdr 134 r t (fun _ => False), blk c 53 [.pointer (some ⟨r, 0, none⟩)], blk b4 114 [.int .i64 0, .slice a out.length cc, .bool false, .slice none 0 0, .slice none 0 0, .int .i64 0, .int .u64 0], tab 205 9 (.slice a out.length cc) out] w' ∧
        Byt t.l ∧ itemsN rPc sPc N (s.numS 1) = (out ++ (itemsN rPc sPc n t).1, (itemsN rPc sPc n t).2) ∧ out.length = i) (by kernel_rfl) ?_ ?_
      · simp -dsimp only [↓vcA, vcB, vcD, ↓pureT_lenS, ↓iteT, ↓iteF, cond_true, cond_false, eq_self, argE, Env.get, Env.push, ev, evs, evo, retV, Value.cells, Value.oneCell', setR, overR, fillL, zl, places, allSizes, heldC, ne_eq, Int.reduceLE, Int.reduceLT, Int.reduceEq, Int.reduceNe, Int.reduceToNat, Int.cast_ofNat_Int, Nat.reduceMul, Nat.reduceLeDiff, reduceIte, Nat.reduceEqDiff, Nat.reduceAdd, ↓reduceIte, Try.vcT, gets]
        exact ⟨_, N, 0, _, [], none, 0, rfl, by omega, rfl, h, hs1, by simp, rfl⟩
      intro ks hk m vs w4 hi
      clear h
      try clear F
      obtain ⟨n, i, t, out, a, cc, rfl, hin, rfl, h, hbt, hit, hlen⟩ := hi
      simp -dsimp only [gets, argE, List.zip_cons_cons, List.zip_nil_left, List.cons_append, List.nil_append, Env.get, Env.push, Option.bind_some, Option.map_some, Option.some.injEq, reduceIte, Nat.reduceEqDiff, Nat.reduceAdd, ↓reduceIte] at hk; subst hk
      match m, hit, hin with
      | 0, hit, hin =>
        have h0 : ¬ (i : Int) < (N : Int) := by omega
        (try simp only [nfD] at h); have F := h.facts; (try simp only [nfF, emp_fact, rds_fact, frm_fact, tab_fact, two_fact, inr_fact, ansX_fact] at F); try simp -dsimp only [↓vcA, vcB, vcD, ↓pureT_lenS, ↓iteT, ↓iteF, cond_true, cond_false, eq_self, argE, Env.get, Env.push, ev, evs, evo, retV, Value.cells, Value.oneCell', setR, overR, fillL, zl, places, allSizes, heldC, ne_eq, Int.reduceLE, Int.reduceLT, Int.reduceEq, Int.reduceNe, Int.reduceToNat, Int.cast_ofNat_Int, Nat.reduceMul, Nat.reduceLeDiff, reduceIte, Nat.reduceEqDiff, Nat.reduceAdd, ↓reduceIte, Try.vcT, F, h.cell0, gets, vsD, if_true, if_false, Bool.false_eq_true,  decide_eq_false h0]
        refine Sep.rdNum 1 h rfl ?_
        clear h F
        intro w5 h
        (try simp only [nfD] at h); have F := h.facts; (try simp only [nfF, emp_fact, rds_fact, frm_fact, tab_fact, two_fact, inr_fact, ansX_fact] at F); try simp -dsimp only [↓vcA, vcB, vcD, ↓pureT_lenS, ↓iteT, ↓iteF, cond_true, cond_false, eq_self, argE, Env.get, Env.push, ev, evs, evo, retV, Value.cells, Value.oneCell', setR, overR, fillL, zl, places, allSizes, heldC, ne_eq, Int.reduceLE, Int.reduceLT, Int.reduceEq, Int.reduceNe, Int.reduceToNat, Int.cast_ofNat_Int, Nat.reduceMul, Nat.reduceLeDiff, reduceIte, Nat.reduceEqDiff, Nat.reduceAdd, ↓reduceIte, Try.vcT, F, h.cell0, gets, vsD, if_true, if_false, Bool.false_eq_true]
        repeat ((first | refine Sep.new h ?_ | refine Sep.put 0 h rfl ?_ | refine Sep.put 1 h rfl ?_ | refine Sep.put 2 h rfl ?_ | refine Sep.put 3 h rfl ?_ | refine Sep.put 4 h rfl ?_ | refine Sep.put 5 h rfl ?_); (clear F; (try clear h); intros; rename_i h; (try simp only [nfD] at h); have F := h.facts; (try simp only [nfF, emp_fact, rds_fact, frm_fact, tab_fact, two_fact, inr_fact, ansX_fact] at F); try simp -dsimp only [↓vcA, vcB, vcD, ↓pureT_lenS, ↓iteT, ↓iteF, cond_true, cond_false, eq_self, argE, Env.get, Env.push, ev, evs, evo, retV, Value.cells, Value.oneCell', setR, overR, fillL, zl, places, allSizes, heldC, ne_eq, Int.reduceLE, Int.reduceLT, Int.reduceEq, Int.reduceNe, Int.reduceToNat, Int.cast_ofNat_Int, Nat.reduceMul, Nat.reduceLeDiff, reduceIte, Nat.reduceEqDiff, Nat.reduceAdd, ↓reduceIte, Try.vcT, F, h.cell0, gets, vsD, if_true, if_false, Bool.false_eq_true, cellsAt]))
        (try simp only [nfD] at h); have F := h.facts; (try simp only [nfF, emp_fact, rds_fact, frm_fact, tab_fact, two_fact, inr_fact, ansX_fact] at F); try simp -dsimp only [↓vcA, vcB, vcD, ↓pureT_lenS, ↓iteT, ↓iteF, cond_true, cond_false, eq_self, argE, Env.get, Env.push, ev, evs, evo, retV, Value.cells, Value.oneCell', setR, overR, fillL, zl, places, allSizes, heldC, ne_eq, Int.reduceLE, Int.reduceLT, Int.reduceEq, Int.reduceNe, Int.reduceToNat, Int.cast_ofNat_Int, Nat.reduceMul, Nat.reduceLeDiff, reduceIte, Nat.reduceEqDiff, Nat.reduceAdd, ↓reduceIte, Try.vcT, F, h.cell0, gets, vsD, if_true, if_false, Bool.false_eq_true,  cellsAt]
        have e1 : (itemsN rPc sPc N (s.numS 1)).1 = out := by rw [hit]; simp [itemsN]
        have e2 : (itemsN rPc sPc N (s.numS 1)).2 = t := by rw [hit]; rfl
        rw [e1, e2] at hK
        have h := ((h.erase 3).erase 2)
        have h := h.tabNil 159 9
        have h := (h.inrNil)
        (try simp only [nfD] at h); have F := h.facts; (try simp only [nfF, emp_fact, rds_fact, frm_fact, tab_fact, two_fact, inr_fact, ansX_fact] at F)
        have h := ((h.two 2 3 rfl rfl).erase 3)
        (try simp only [nfD] at h); have F := h.facts; (try simp only [nfF, emp_fact, rds_fact, frm_fact, tab_fact, two_fact, inr_fact, ansX_fact] at F)
        have h := ((h.two 2 3 rfl rfl).erase 3)
        (try simp only [nfD] at h); have F := h.facts; (try simp only [nfF, emp_fact, rds_fact, frm_fact, tab_fact, two_fact, inr_fact, ansX_fact] at F)
        exact hK ⟨.slice _ _ _, .slice none 0 0, .slice none 0 0⟩ _ h
      | n + 1, hit, hin =>
        have h0 : (i : Int) < (N : Int) := by omega
        have ei : IntKind.i64.wrap ((i : Int) + 1) = ((i + 1 : Nat) : Int) := by rw [i64w _ (by omega) (by omega)]; omega
        have hit2 : itemsN rPc sPc N (s.numS 1) = ((out ++ [rPc t]) ++ (itemsN rPc sPc n (sPc t)).1, (itemsN rPc sPc n (sPc t)).2) := by
          rw [hit]; simp [itemsN]
        (try simp only [nfD] at h); have F := h.facts; (try simp only [nfF, emp_fact, rds_fact, frm_fact, tab_fact, two_fact, inr_fact, ansX_fact] at F); try simp -dsimp only [↓vcA, vcB, vcD, ↓pureT_lenS, ↓iteT, ↓iteF, cond_true, cond_false, eq_self, argE, Env.get, Env.push, ev, evs, evo, retV, Value.cells, Value.oneCell', setR, overR, fillL, zl, places, allSizes, heldC, ne_eq, Int.reduceLE, Int.reduceLT, Int.reduceEq, Int.reduceNe, Int.reduceToNat, Int.cast_ofNat_Int, Nat.reduceMul, Nat.reduceLeDiff, reduceIte, Nat.reduceEqDiff, Nat.reduceAdd, ↓reduceIte, Try.vcT, F, h.cell0, gets, vsD, if_true, if_false, Bool.false_eq_true,  decide_eq_true h0]
        refine walkDraw (.q 0 (.q 2 (.ll 1 (.l 3 (.l 4 (.l 5 (.q 6 (.l 7 .fin))))) 3 (.ll 1 (.l 4 (.l 5 (.q 6 (.l 7 .fin)))) 4 (.l 1 (.l 5 (.q 6 (.l 7 .fin)))))))) [] (by kernel_rfl) (by simp [Holds_nil]) ?_
        refine h.draw ?_
        clear h F
        intro w5 h
        (try simp only [nfD] at h); have F := h.facts; (try simp only [nfF, emp_fact, rds_fact, frm_fact, tab_fact, two_fact, inr_fact, ansX_fact] at F); try simp -dsimp only [↓vcA, vcB, vcD, ↓pureT_lenS, ↓iteT, ↓iteF, cond_true, cond_false, eq_self, argE, Env.get, Env.push, ev, evs, evo, retV, Value.cells, Value.oneCell', setR, overR, fillL, zl, places, allSizes, heldC, ne_eq, Int.reduceLE, Int.reduceLT, Int.reduceEq, Int.reduceNe, Int.reduceToNat, Int.cast_ofNat_Int, Nat.reduceMul, Nat.reduceLeDiff, reduceIte, Nat.reduceEqDiff, Nat.reduceAdd, ↓reduceIte, Try.vcT, F, h.cell0, gets, vsD, if_true, if_false, Bool.false_eq_true]
        repeat' (first | ((first | refine Sep.new h ?_ | refine Sep.put 0 h rfl ?_ | refine Sep.put 1 h rfl ?_ | refine Sep.put 2 h rfl ?_ | refine Sep.put 3 h rfl ?_ | refine Sep.put 4 h rfl ?_ | refine Sep.put 5 h rfl ?_ | refine piece139 h ?_ | refine Sep.appTab 4 5 infoPc Try.underlying112 rfl (by decide) (rPc t) h rfl rfl rfl (by omega) (by simp only [maxLen]; omega) ?_) <;> (clear F; (try clear h); intros; rename_i h; (try simp only [nfD] at h); have F := h.facts; (try simp only [nfF, emp_fact, rds_fact, frm_fact, tab_fact, two_fact, inr_fact, ansX_fact] at F); try simp -dsimp only [↓vcA, vcB, vcD, ↓pureT_lenS, ↓iteT, ↓iteF, cond_true, cond_false, eq_self, argE, Env.get, Env.push, ev, evs, evo, retV, Value.cells, Value.oneCell', setR, overR, fillL, zl, places, allSizes, heldC, ne_eq, Int.reduceLE, Int.reduceLT, Int.reduceEq, Int.reduceNe, Int.reduceToNat, Int.cast_ofNat_Int, Nat.reduceMul, Nat.reduceLeDiff, reduceIte, Nat.reduceEqDiff, Nat.reduceAdd, ↓reduceIte, Try.vcT, F, h.cell0, gets, vsD, if_true, if_false, Bool.false_eq_true, cellsAt, ei])) | (apply And.intro <;> (clear F; (try simp only [nfD] at h); have F := h.facts; (try simp only [nfF, emp_fact, rds_fact, frm_fact, tab_fact, two_fact, inr_fact, ansX_fact] at F); try simp -dsimp only [↓vcA, vcB, vcD, ↓pureT_lenS, ↓iteT, ↓iteF, cond_true, cond_false, eq_self, argE, Env.get, Env.push, ev, evs, evo, retV, Value.cells, Value.oneCell', setR, overR, fillL, zl, places, allSizes, heldC, ne_eq, Int.reduceLE, Int.reduceLT, Int.reduceEq, Int.reduceNe, Int.reduceToNat, Int.cast_ofNat_Int, Nat.reduceMul, Nat.reduceLeDiff, reduceIte, Nat.reduceEqDiff, Nat.reduceAdd, ↓reduceIte, Try.vcT, F, h.cell0, gets, vsD, if_true, if_false, Bool.false_eq_true, cellsAt, ei])))
        all_goals
          refine ⟨_, ?_, n, i + 1, sPc t, out ++ [rPc t], _, _, rfl, by omega, rfl, h.erase 5, sPc_byt hbt, hit2, by simp; omega⟩
          omega
  by_cases h14 : z = 14
  case pos =>
    have ht : toldQ s z = ({AnV.zero with ca := (itemsN rCp sCp N (s.numS 1)).1, more := decide ((itemsN rCp sCp N (s.numS 1)).2.numV 1 = 1)}, (itemsN rCp sCp N (s.numS 1)).2.numS 1) := by unfold toldQ; rw [if_neg h12, if_neg h34, if_pos h14, eN]
    rw [ht] at hK
    have h := h.tabNil 159 9
    subst h14
    (try simp only [nfD] at h); have F := h.facts; (try simp only [nfF, emp_fact, rds_fact, frm_fact, tab_fact, two_fact, inr_fact, ansX_fact] at F); try simp -dsimp only [↓vcA, vcB, vcD, ↓pureT_lenS, ↓iteT, ↓iteF, cond_true, cond_false, eq_self, argE, Env.get, Env.push, ev, evs, evo, retV, Value.cells, Value.oneCell', setR, overR, fillL, zl, places, allSizes, heldC, ne_eq, Int.reduceLE, Int.reduceLT, Int.reduceEq, Int.reduceNe, Int.reduceToNat, Int.cast_ofNat_Int, Nat.reduceMul, Nat.reduceLeDiff, reduceIte, Nat.reduceEqDiff, Nat.reduceAdd, ↓reduceIte, Try.vcT, F, h.cell0, gets, vsD, if_true, if_false, Bool.false_eq_true,  Int.reduceEq, decide_true, decide_false]
    refine Sep.rdNum 1 h rfl ?_
    clear h F
    intro w3 h
    (try simp only [nfD] at h); have F := h.facts; (try simp only [nfF, emp_fact, rds_fact, frm_fact, tab_fact, two_fact, inr_fact, ansX_fact] at F); try simp -dsimp only [↓vcA, vcB, vcD, ↓pureT_lenS, ↓iteT, ↓iteF, cond_true, cond_false, eq_self, argE, Env.get, Env.push, ev, evs, evo, retV, Value.cells, Value.oneCell', setR, overR, fillL, zl, places, allSizes, heldC, ne_eq, Int.reduceLE, Int.reduceLT, Int.reduceEq, Int.reduceNe, Int.reduceToNat, Int.cast_ofNat_Int, Nat.reduceMul, Nat.reduceLeDiff, reduceIte, Nat.reduceEqDiff, Nat.reduceAdd, ↓reduceIte, Try.vcT, F, h.cell0, gets, vsD, if_true, if_false, Bool.false_eq_true]
    rw [hN]
    refine walkLoop [2, 4, 42] [43] (fun m vs w' => ∃ n i t out a cc, m = n ∧ i + n = N ∧ vs = [.int .i64 (i : Nat)] ∧ Sep w0 (fun _ => False) [q, rdr 134 r t (fun _ => False), blk c 53 [.pointer (some ⟨r, 0, none⟩)], blk b4 114 [.int .i64 0, .slice none 0 0, .bool false, .slice a out.length cc, .slice none 0 0, .int .i64 0, .int .u64 0], tab 159 9 (.slice a out.length cc) out] w' ∧
      Byt t.l ∧ itemsN rCp sCp N (s.numS 1) = (out ++ (itemsN rCp sCp n t).1, (itemsN rCp sCp n t).2) ∧ out.length = i) (by kernel_rfl) ?_ ?_
    · simp -dsimp only [↓vcA, vcB, vcD, ↓pureT_lenS, ↓iteT, ↓iteF, cond_true, cond_false, eq_self, argE, Env.get, Env.push, ev, evs, evo, retV, Value.cells, Value.oneCell', setR, overR, fillL, zl, places, allSizes, heldC, ne_eq, Int.reduceLE, Int.reduceLT, Int.reduceEq, Int.reduceNe, Int.reduceToNat, Int.cast_ofNat_Int, Nat.reduceMul, Nat.reduceLeDiff, reduceIte, Nat.reduceEqDiff, Nat.reduceAdd, ↓reduceIte, Try.vcT, gets]
      exact ⟨_, N, 0, _, [], none, 0, rfl, by omega, rfl, h, hs1, by simp, rfl⟩
    intro ks hk m vs w4 hi
    clear h
    try clear F
    obtain ⟨n, i, t, out, a, cc, rfl, hin, rfl, h, hbt, hit, hlen⟩ := hi
    simp -dsimp only [gets, argE, List.zip_cons_cons, List.zip_nil_left, List.cons_append, List.nil_append, Env.get, Env.push, Option.bind_some, Option.map_some, Option.some.injEq, reduceIte, Nat.reduceEqDiff, Nat.reduceAdd, ↓reduceIte] at hk; subst hk
    match m, hit, hin with
    | 0, hit, hin =>
      have h0 : ¬ (i : Int) < (N : Int) := by omega
      (try simp only [nfD] at h); have F := h.facts; (try simp only [nfF, emp_fact, rds_fact, frm_fact, tab_fact, two_fact, inr_fact, ansX_fact] at F); try simp -dsimp only [↓vcA, vcB, vcD, ↓pureT_lenS, ↓iteT, ↓iteF, cond_true, cond_false, eq_self, argE, Env.get, Env.push, ev, evs, evo, retV, Value.cells, Value.oneCell', setR, overR, fillL, zl, places, allSizes, heldC, ne_eq, Int.reduceLE, Int.reduceLT, Int.reduceEq, Int.reduceNe, Int.reduceToNat, Int.cast_ofNat_Int, Nat.reduceMul, Nat.reduceLeDiff, reduceIte, Nat.reduceEqDiff, Nat.reduceAdd, ↓reduceIte, Try.vcT, F, h.cell0, gets, vsD, if_true, if_false, Bool.false_eq_true,  decide_eq_false h0]
      refine Sep.rdNum 1 h rfl ?_
      clear h F
      intro w5 h
      (try simp only [nfD] at h); have F := h.facts; (try simp only [nfF, emp_fact, rds_fact, frm_fact, tab_fact, two_fact, inr_fact, ansX_fact] at F); try simp -dsimp only [↓vcA, vcB, vcD, ↓pureT_lenS, ↓iteT, ↓iteF, cond_true, cond_false, eq_self, argE, Env.get, Env.push, ev, evs, evo, retV, Value.cells, Value.oneCell', setR, overR, fillL, zl, places, allSizes, heldC, ne_eq, Int.reduceLE, Int.reduceLT, Int.reduceEq, Int.reduceNe, Int.reduceToNat, Int.cast_ofNat_Int, Nat.reduceMul, Nat.reduceLeDiff, reduceIte, Nat.reduceEqDiff, Nat.reduceAdd, ↓reduceIte, Try.vcT, F, h.cell0, gets, vsD, if_true, if_false, Bool.false_eq_true]
      repeat ((first | refine Sep.new h ?_ | refine Sep.put 0 h rfl ?_ | refine Sep.put 1 h rfl ?_ | refine Sep.put 2 h rfl ?_ | refine Sep.put 3 h rfl ?_ | refine Sep.put 4 h rfl ?_ | refine Sep.put 5 h rfl ?_); (clear F; (try clear h); intros; rename_i h; (try simp only [nfD] at h); have F := h.facts; (try simp only [nfF, emp_fact, rds_fact, frm_fact, tab_fact, two_fact, inr_fact, ansX_fact] at F); try simp -dsimp only [↓vcA, vcB, vcD, ↓pureT_lenS, ↓iteT, ↓iteF, cond_true, cond_false, eq_self, argE, Env.get, Env.push, ev, evs, evo, retV, Value.cells, Value.oneCell', setR, overR, fillL, zl, places, allSizes, heldC, ne_eq, Int.reduceLE, Int.reduceLT, Int.reduceEq, Int.reduceNe, Int.reduceToNat, Int.cast_ofNat_Int, Nat.reduceMul, Nat.reduceLeDiff, reduceIte, Nat.reduceEqDiff, Nat.reduceAdd, ↓reduceIte, Try.vcT, F, h.cell0, gets, vsD, if_true, if_false, Bool.false_eq_true, cellsAt]))
      (try simp only [nfD] at h); have F := h.facts; (try simp only [nfF, emp_fact, rds_fact, frm_fact, tab_fact, two_fact, inr_fact, ansX_fact] at F); try simp -dsimp only [↓vcA, vcB, vcD, ↓pureT_lenS, ↓iteT, ↓iteF, cond_true, cond_false, eq_self, argE, Env.get, Env.push, ev, evs, evo, retV, Value.cells, Value.oneCell', setR, overR, fillL, zl, places, allSizes, heldC, ne_eq, Int.reduceLE, Int.reduceLT, Int.reduceEq, Int.reduceNe, Int.reduceToNat, Int.cast_ofNat_Int, Nat.reduceMul, Nat.reduceLeDiff, reduceIte, Nat.reduceEqDiff, Nat.reduceAdd, ↓reduceIte, Try.vcT, F, h.cell0, gets, vsD, if_true, if_false, Bool.false_eq_true,  cellsAt]
      have e1 : (itemsN rCp sCp N (s.numS 1)).1 = out := by rw [hit]; simp [itemsN]
      have e2 : (itemsN rCp sCp N (s.numS 1)).2 = t := by rw [hit]; rfl
      rw [e1, e2] at hK
      have h := ((h.erase 3).erase 2)
      have h := h.tabNil 205 9
      have h := (h.inrNil)
      (try simp only [nfD] at h); have F := h.facts; (try simp only [nfF, emp_fact, rds_fact, frm_fact, tab_fact, two_fact, inr_fact, ansX_fact] at F)
      have h := ((h.two 3 2 rfl rfl).erase 2)
      (try simp only [nfD] at h); have F := h.facts; (try simp only [nfF, emp_fact, rds_fact, frm_fact, tab_fact, two_fact, inr_fact, ansX_fact] at F)
      have h := ((h.two 2 3 rfl rfl).erase 3)
      (try simp only [nfD] at h); have F := h.facts; (try simp only [nfF, emp_fact, rds_fact, frm_fact, tab_fact, two_fact, inr_fact, ansX_fact] at F)
      exact hK ⟨.slice none 0 0, .slice _ _ _, .slice none 0 0⟩ _ h
    | n + 1, hit, hin =>
      have h0 : (i : Int) < (N : Int) := by omega
      have ei : IntKind.i64.wrap ((i : Int) + 1) = ((i + 1 : Nat) : Int) := by rw [i64w _ (by omega) (by omega)]; omega
      have hit2 : itemsN rCp sCp N (s.numS 1) = ((out ++ [rCp t]) ++ (itemsN rCp sCp n (sCp t)).1, (itemsN rCp sCp n (sCp t)).2) := by
        rw [hit]; simp [itemsN]
      (try simp only [nfD] at h); have F := h.facts; (try simp only [nfF, emp_fact, rds_fact, frm_fact, tab_fact, two_fact, inr_fact, ansX_fact] at F); try simp -dsimp only [↓vcA, vcB, vcD, ↓pureT_lenS, ↓iteT, ↓iteF, cond_true, cond_false, eq_self, argE, Env.get, Env.push, ev, evs, evo, retV, Value.cells, Value.oneCell', setR, overR, fillL, zl, places, allSizes, heldC, ne_eq, Int.reduceLE, Int.reduceLT, Int.reduceEq, Int.reduceNe, Int.reduceToNat, Int.cast_ofNat_Int, Nat.reduceMul, Nat.reduceLeDiff, reduceIte, Nat.reduceEqDiff, Nat.reduceAdd, ↓reduceIte, Try.vcT, F, h.cell0, gets, vsD, if_true, if_false, Bool.false_eq_true,  decide_eq_true h0]
      refine walkDraw (.q 0 (.h 2 0 (.h 4 0 (.h 6 0 (.h 8 0 (.h 10 0 (.h 12 0 (.ll 1 (.l 3 (.l 5 (.l 7 (.l 9 (.l 11 (.l 13 (.q 14 (.l 15 (.l 16 (.q 17 (.l 18 .fin))))))))))) 3 (.ll 1 (.l 5 (.l 7 (.l 9 (.l 11 (.l 13 (.q 14 (.l 15 (.l 16 (.q 17 (.l 18 .fin)))))))))) 5 (.ll 1 (.l 7 (.l 9 (.l 11 (.l 13 (.q 14 (.l 15 (.l 16 (.q 17 (.l 18 .fin))))))))) 7 (.ll 1 (.l 9 (.l 11 (.l 13 (.q 14 (.l 15 (.l 16 (.q 17 (.l 18 .fin)))))))) 9 (.ll 1 (.l 11 (.l 13 (.q 14 (.l 15 (.l 16 (.q 17 (.l 18 .fin))))))) 11 (.ll 1 (.l 13 (.q 14 (.l 15 (.l 16 (.q 17 (.l 18 .fin)))))) 13 (.q 14 (.ll 1 (.l 15 (.l 16 (.q 17 (.l 18 .fin)))) 15 (.l 1 (.l 16 (.q 17 (.l 18 .fin))))))))))))))))))) [(c, 0, .pointer (some ⟨r, 0, none⟩))] (by kernel_rfl) (by simp [Holds_nil, Holds_cons, F]) ?_
      refine h.draw ?_
      clear h F
      intro w5 h
      (try simp only [nfD] at h); have F := h.facts; (try simp only [nfF, emp_fact, rds_fact, frm_fact, tab_fact, two_fact, inr_fact, ansX_fact] at F); try simp -dsimp only [↓vcA, vcB, vcD, ↓pureT_lenS, ↓iteT, ↓iteF, cond_true, cond_false, eq_self, argE, Env.get, Env.push, ev, evs, evo, retV, Value.cells, Value.oneCell', setR, overR, fillL, zl, places, allSizes, heldC, ne_eq, Int.reduceLE, Int.reduceLT, Int.reduceEq, Int.reduceNe, Int.reduceToNat, Int.cast_ofNat_Int, Nat.reduceMul, Nat.reduceLeDiff, reduceIte, Nat.reduceEqDiff, Nat.reduceAdd, ↓reduceIte, Try.vcT, F, h.cell0, gets, vsD, if_true, if_false, Bool.false_eq_true]
      repeat' (first | ((first | refine Sep.new h ?_ | refine Sep.put 0 h rfl ?_ | refine Sep.put 1 h rfl ?_ | refine Sep.put 2 h rfl ?_ | refine Sep.put 3 h rfl ?_ | refine Sep.put 4 h rfl ?_ | refine Sep.put 5 h rfl ?_ | refine Sep.rdNum 1 h rfl ?_ | refine Sep.appTab 4 5 infoCa Try.underlying91 rfl (by decide) (rCp t) h rfl rfl rfl (by omega) (by simp only [maxLen]; omega) ?_) <;> (clear F; (try clear h); intros; rename_i h; (try simp only [nfD] at h); have F := h.facts; (try simp only [nfF, emp_fact, rds_fact, frm_fact, tab_fact, two_fact, inr_fact, ansX_fact] at F); try simp -dsimp only [↓vcA, vcB, vcD, ↓pureT_lenS, ↓iteT, ↓iteF, cond_true, cond_false, eq_self, argE, Env.get, Env.push, ev, evs, evo, retV, Value.cells, Value.oneCell', setR, overR, fillL, zl, places, allSizes, heldC, ne_eq, Int.reduceLE, Int.reduceLT, Int.reduceEq, Int.reduceNe, Int.reduceToNat, Int.cast_ofNat_Int, Nat.reduceMul, Nat.reduceLeDiff, reduceIte, Nat.reduceEqDiff, Nat.reduceAdd, ↓reduceIte, Try.vcT, F, h.cell0, gets, vsD, if_true, if_false, Bool.false_eq_true, cellsAt, ei])) | (apply And.intro <;> (clear F; (try simp only [nfD] at h); have F := h.facts; (try simp only [nfF, emp_fact, rds_fact, frm_fact, tab_fact, two_fact, inr_fact, ansX_fact] at F); try simp -dsimp only [↓vcA, vcB, vcD, ↓pureT_lenS, ↓iteT, ↓iteF, cond_true, cond_false, eq_self, argE, Env.get, Env.push, ev, evs, evo, retV, Value.cells, Value.oneCell', setR, overR, fillL, zl, places, allSizes, heldC, ne_eq, Int.reduceLE, Int.reduceLT, Int.reduceEq, Int.reduceNe, Int.reduceToNat, Int.cast_ofNat_Int, Nat.reduceMul, Nat.reduceLeDiff, reduceIte, Nat.reduceEqDiff, Nat.reduceAdd, ↓reduceIte, Try.vcT, F, h.cell0, gets, vsD, if_true, if_false, Bool.false_eq_true, cellsAt, ei])))
      all_goals
        refine ⟨_, ?_, n, i + 1, sCp t, out ++ [rCp t], _, _, rfl, by omega, rfl, h.erase 5, sCp_byt hbt, hit2, by simp; omega⟩
        omega
  by_cases h15 : z = 15
  case pos =>
    have ht : toldQ s z = ({AnV.zero with la := (itemsN rLa sLa N (s.numS 1)).1}, (itemsN rLa sLa N (s.numS 1)).2) := by unfold toldQ; rw [if_neg h12, if_neg h34, if_neg h14, if_pos h15, eN]
    rw [ht] at hK
    have h := h.inrNil
    subst h15
    (try simp only [nfD] at h); have F := h.facts; (try simp only [nfF, emp_fact, rds_fact, frm_fact, tab_fact, two_fact, inr_fact, ansX_fact] at F); try simp -dsimp only [↓vcA, vcB, vcD, ↓pureT_lenS, ↓iteT, ↓iteF, cond_true, cond_false, eq_self, argE, Env.get, Env.push, ev, evs, evo, retV, Value.cells, Value.oneCell', setR, overR, fillL, zl, places, allSizes, heldC, ne_eq, Int.reduceLE, Int.reduceLT, Int.reduceEq, Int.reduceNe, Int.reduceToNat, Int.cast_ofNat_Int, Nat.reduceMul, Nat.reduceLeDiff, reduceIte, Nat.reduceEqDiff, Nat.reduceAdd, ↓reduceIte, Try.vcT, F, h.cell0, gets, vsD, if_true, if_false, Bool.false_eq_true,  Int.reduceEq, decide_true, decide_false]
    refine Sep.rdNum 1 h rfl ?_
    clear h F
    intro w3 h
    (try simp only [nfD] at h); have F := h.facts; (try simp only [nfF, emp_fact, rds_fact, frm_fact, tab_fact, two_fact, inr_fact, ansX_fact] at F); try simp -dsimp only [↓vcA, vcB, vcD, ↓pureT_lenS, ↓iteT, ↓iteF, cond_true, cond_false, eq_self, argE, Env.get, Env.push, ev, evs, evo, retV, Value.cells, Value.oneCell', setR, overR, fillL, zl, places, allSizes, heldC, ne_eq, Int.reduceLE, Int.reduceLT, Int.reduceEq, Int.reduceNe, Int.reduceToNat, Int.cast_ofNat_Int, Nat.reduceMul, Nat.reduceLeDiff, reduceIte, Nat.reduceEqDiff, Nat.reduceAdd, ↓reduceIte, Try.vcT, F, h.cell0, gets, vsD, if_true, if_false, Bool.false_eq_true]
    rw [hN]
    refine walkLoop [2, 4, 71] [72] (fun m vs w' => ∃ n i t out a cc, m = n ∧ i + n = N ∧ vs = [.int .i64 (i : Nat)] ∧ Sep w0 (fun _ => False) [q, rdr 134 r t (fun _ => False), blk c 53 [.pointer (some ⟨r, 0, none⟩)], blk b4 114 [.int .i64 0, .slice none 0 0, .bool false, .slice none 0 0, .slice a out.length cc, .int .i64 0, .int .u64 0], inr (.slice a out.length cc) out] w' ∧
      Byt t.l ∧ itemsN rLa sLa N (s.numS 1) = (out ++ (itemsN rLa sLa n t).1, (itemsN rLa sLa n t).2) ∧ out.length = i) (by kernel_rfl) ?_ ?_
    · simp -dsimp only [↓vcA, vcB, vcD, ↓pureT_lenS, ↓iteT, ↓iteF, cond_true, cond_false, eq_self, argE, Env.get, Env.push, ev, evs, evo, retV, Value.cells, Value.oneCell', setR, overR, fillL, zl, places, allSizes, heldC, ne_eq, Int.reduceLE, Int.reduceLT, Int.reduceEq, Int.reduceNe, Int.reduceToNat, Int.cast_ofNat_Int, Nat.reduceMul, Nat.reduceLeDiff, reduceIte, Nat.reduceEqDiff, Nat.reduceAdd, ↓reduceIte, Try.vcT, gets]
      exact ⟨_, N, 0, _, [], none, 0, rfl, by omega, rfl, h, hs1, by simp, rfl⟩
    intro ks hk m vs w4 hi
    clear h
    try clear F
    obtain ⟨n, i, t, out, a, cc, rfl, hin, rfl, h, hbt, hit, hlen⟩ := hi
    simp -dsimp only [gets, argE, List.zip_cons_cons, List.zip_nil_left, List.cons_append, List.nil_append, Env.get, Env.push, Option.bind_some, Option.map_some, Option.some.injEq, reduceIte, Nat.reduceEqDiff, Nat.reduceAdd, ↓reduceIte] at hk; subst hk
    match m, hit, hin with
    | 0, hit, hin =>
      have h0 : ¬ (i : Int) < (N : Int) := by omega
      (try simp only [nfD] at h); have F := h.facts; (try simp only [nfF, emp_fact, rds_fact, frm_fact, tab_fact, two_fact, inr_fact, ansX_fact] at F); try simp -dsimp only [↓vcA, vcB, vcD, ↓pureT_lenS, ↓iteT, ↓iteF, cond_true, cond_false, eq_self, argE, Env.get, Env.push, ev, evs, evo, retV, Value.cells, Value.oneCell', setR, overR, fillL, zl, places, allSizes, heldC, ne_eq, Int.reduceLE, Int.reduceLT, Int.reduceEq, Int.reduceNe, Int.reduceToNat, Int.cast_ofNat_Int, Nat.reduceMul, Nat.reduceLeDiff, reduceIte, Nat.reduceEqDiff, Nat.reduceAdd, ↓reduceIte, Try.vcT, F, h.cell0, gets, vsD, if_true, if_false, Bool.false_eq_true,  decide_eq_false h0, cellsAt]
      repeat ((first | refine Sep.new h ?_ | refine Sep.put 0 h rfl ?_ | refine Sep.put 1 h rfl ?_ | refine Sep.put 2 h rfl ?_ | refine Sep.put 3 h rfl ?_ | refine Sep.put 4 h rfl ?_ | refine Sep.put 5 h rfl ?_); (clear F; (try clear h); intros; rename_i h; (try simp only [nfD] at h); have F := h.facts; (try simp only [nfF, emp_fact, rds_fact, frm_fact, tab_fact, two_fact, inr_fact, ansX_fact] at F); try simp -dsimp only [↓vcA, vcB, vcD, ↓pureT_lenS, ↓iteT, ↓iteF, cond_true, cond_false, eq_self, argE, Env.get, Env.push, ev, evs, evo, retV, Value.cells, Value.oneCell', setR, overR, fillL, zl, places, allSizes, heldC, ne_eq, Int.reduceLE, Int.reduceLT, Int.reduceEq, Int.reduceNe, Int.reduceToNat, Int.cast_ofNat_Int, Nat.reduceMul, Nat.reduceLeDiff, reduceIte, Nat.reduceEqDiff, Nat.reduceAdd, ↓reduceIte, Try.vcT, F, h.cell0, gets, vsD, if_true, if_false, Bool.false_eq_true, cellsAt]))
      (try simp only [nfD] at h); have F := h.facts; (try simp only [nfF, emp_fact, rds_fact, frm_fact, tab_fact, two_fact, inr_fact, ansX_fact] at F); try simp -dsimp only [↓vcA, vcB, vcD, ↓pureT_lenS, ↓iteT, ↓iteF, cond_true, cond_false, eq_self, argE, Env.get, Env.push, ev, evs, evo, retV, Value.cells, Value.oneCell', setR, overR, fillL, zl, places, allSizes, heldC, ne_eq, Int.reduceLE, Int.reduceLT, Int.reduceEq, Int.reduceNe, Int.reduceToNat, Int.cast_ofNat_Int, Nat.reduceMul, Nat.reduceLeDiff, reduceIte, Nat.reduceEqDiff, Nat.reduceAdd, ↓reduceIte, Try.vcT, F, h.cell0, gets, vsD, if_true, if_false, Bool.false_eq_true,  cellsAt]
      have e1 : (itemsN rLa sLa N (s.numS 1)).1 = out := by rw [hit]; simp [itemsN]
      have e2 : (itemsN rLa sLa N (s.numS 1)).2 = t := by rw [hit]; rfl
      rw [e1, e2] at hK
      have h := ((h.erase 3).erase 2)
      have h := h.tabNil 205 9
      have h := h.tabNil 159 9
      (try simp only [nfD] at h); have F := h.facts; (try simp only [nfF, emp_fact, rds_fact, frm_fact, tab_fact, two_fact, inr_fact, ansX_fact] at F)
      have h := ((h.two 3 4 rfl rfl).erase 4)
      (try simp only [nfD] at h); have F := h.facts; (try simp only [nfF, emp_fact, rds_fact, frm_fact, tab_fact, two_fact, inr_fact, ansX_fact] at F)
      have h := ((h.two 3 2 rfl rfl).erase 2)
      (try simp only [nfD] at h); have F := h.facts; (try simp only [nfF, emp_fact, rds_fact, frm_fact, tab_fact, two_fact, inr_fact, ansX_fact] at F)
      exact hK ⟨.slice none 0 0, .slice none 0 0, .slice _ _ _⟩ _ h
    | n + 1, hit, hin =>
      have h0 : (i : Int) < (N : Int) := by omega
      have ei : IntKind.i64.wrap ((i : Int) + 1) = ((i + 1 : Nat) : Int) := by rw [i64w _ (by omega) (by omega)]; omega
      have hit2 : itemsN rLa sLa N (s.numS 1) = ((out ++ [rLa t]) ++ (itemsN rLa sLa n (sLa t)).1, (itemsN rLa sLa n (sLa t)).2) := by
        rw [hit]; simp [itemsN]
      (try simp only [nfD] at h); have F := h.facts; (try simp only [nfF, emp_fact, rds_fact, frm_fact, tab_fact, two_fact, inr_fact, ansX_fact] at F); try simp -dsimp only [↓vcA, vcB, vcD, ↓pureT_lenS, ↓iteT, ↓iteF, cond_true, cond_false, eq_self, argE, Env.get, Env.push, ev, evs, evo, retV, Value.cells, Value.oneCell', setR, overR, fillL, zl, places, allSizes, heldC, ne_eq, Int.reduceLE, Int.reduceLT, Int.reduceEq, Int.reduceNe, Int.reduceToNat, Int.cast_ofNat_Int, Nat.reduceMul, Nat.reduceLeDiff, reduceIte, Nat.reduceEqDiff, Nat.reduceAdd, ↓reduceIte, Try.vcT, F, h.cell0, gets, vsD, if_true, if_false, Bool.false_eq_true,  decide_eq_true h0]
      refine walkDraw (.q 0 (.h 2 0 (.ll 1 (.l 3 (.l 4 (.l 5 (.q 6 (.l 7 .fin))))) 3 (.ll 1 (.l 4 (.l 5 (.q 6 (.l 7 .fin)))) 4 (.l 1 (.l 5 (.q 6 (.l 7 .fin)))))))) [(c, 0, .pointer (some ⟨r, 0, none⟩))] (by kernel_rfl) (by simp [Holds_nil, Holds_cons, F]) ?_
      refine h.draw ?_
      clear h F
      intro w5 h
      (try simp only [nfD] at h); have F := h.facts; (try simp only [nfF, emp_fact, rds_fact, frm_fact, tab_fact, two_fact, inr_fact, ansX_fact] at F); try simp -dsimp only [↓vcA, vcB, vcD, ↓pureT_lenS, ↓iteT, ↓iteF, cond_true, cond_false, eq_self, argE, Env.get, Env.push, ev, evs, evo, retV, Value.cells, Value.oneCell', setR, overR, fillL, zl, places, allSizes, heldC, ne_eq, Int.reduceLE, Int.reduceLT, Int.reduceEq, Int.reduceNe, Int.reduceToNat, Int.cast_ofNat_Int, Nat.reduceMul, Nat.reduceLeDiff, reduceIte, Nat.reduceEqDiff, Nat.reduceAdd, ↓reduceIte, Try.vcT, F, h.cell0, gets, vsD, if_true, if_false, Bool.false_eq_true]
      repeat' (first | ((first | refine Sep.new h ?_ | refine Sep.put 0 h rfl ?_ | refine Sep.put 1 h rfl ?_ | refine Sep.put 2 h rfl ?_ | refine Sep.put 3 h rfl ?_ | refine Sep.put 4 h rfl ?_ | refine Sep.put 5 h rfl ?_ | refine Sep.rdNum 1 h rfl ?_ | refine Sep.appInr 4 5 (rLa t) h rfl rfl (by omega) ?_) <;> (clear F; (try clear h); intros; rename_i h; (try simp only [nfD] at h); have F := h.facts; (try simp only [nfF, emp_fact, rds_fact, frm_fact, tab_fact, two_fact, inr_fact, ansX_fact] at F); try simp -dsimp only [↓vcA, vcB, vcD, ↓pureT_lenS, ↓iteT, ↓iteF, cond_true, cond_false, eq_self, argE, Env.get, Env.push, ev, evs, evo, retV, Value.cells, Value.oneCell', setR, overR, fillL, zl, places, allSizes, heldC, ne_eq, Int.reduceLE, Int.reduceLT, Int.reduceEq, Int.reduceNe, Int.reduceToNat, Int.cast_ofNat_Int, Nat.reduceMul, Nat.reduceLeDiff, reduceIte, Nat.reduceEqDiff, Nat.reduceAdd, ↓reduceIte, Try.vcT, F, h.cell0, gets, vsD, if_true, if_false, Bool.false_eq_true, cellsAt, ei])) | (apply And.intro <;> (clear F; (try simp only [nfD] at h); have F := h.facts; (try simp only [nfF, emp_fact, rds_fact, frm_fact, tab_fact, two_fact, inr_fact, ansX_fact] at F); try simp -dsimp only [↓vcA, vcB, vcD, ↓pureT_lenS, ↓iteT, ↓iteF, cond_true, cond_false, eq_self, argE, Env.get, Env.push, ev, evs, evo, retV, Value.cells, Value.oneCell', setR, overR, fillL, zl, places, allSizes, heldC, ne_eq, Int.reduceLE, Int.reduceLT, Int.reduceEq, Int.reduceNe, Int.reduceToNat, Int.cast_ofNat_Int, Nat.reduceMul, Nat.reduceLeDiff, reduceIte, Nat.reduceEqDiff, Nat.reduceAdd, ↓reduceIte, Try.vcT, F, h.cell0, gets, vsD, if_true, if_false, Bool.false_eq_true, cellsAt, ei])))
      all_goals
        refine ⟨_, ?_, n, i + 1, sLa t, out ++ [rLa t], _, _, rfl, by omega, rfl, h.erase 5, numS_byt _ 2 hbt, hit2, by simp; omega⟩
        omega
  have n1 : ¬ z = 1 := fun e => h12 (.inl e)
  have n2 : ¬ z = 2 := fun e => h12 (.inr e)
  have n3 : ¬ z = 3 := fun e => h34 (.inl e)
  have n4 : ¬ z = 4 := fun e => h34 (.inr e)
  have fin : ∀ {w' : World} {M : List Res} {s' : R8} {a : AnV}, toldQ s z = (a, s') → a.p = [] ∧ a.ca = [] ∧ a.la = [] → Sep w0 (fun _ => False) [q, rdr 134 r s' (fun _ => False), blk c 53 [.pointer (some ⟨r, 0, none⟩)], blk b4 114 (a.cells AnS.zero)] w' → K (.agg (a.cells AnS.zero).toArray) w' := fun {w' M s' a} he ⟨h1, h2, h3⟩ h => by
    have h := (h.erase 3).erase 2
    have h := h.tabNil 205 9
    have h := h.tabNil 159 9
    have h := h.inrNil
    simp only [List.eraseIdx_cons_succ, List.eraseIdx_cons_zero, List.cons_append, List.nil_append] at h
    have h := ((h.two 2 3 rfl rfl).erase 3)
    simp only [List.eraseIdx_cons_succ, List.eraseIdx_cons_zero, List.set_cons_succ, List.set_cons_zero] at h
    have h := ((h.two 2 3 rfl rfl).erase 3)
    simp only [List.eraseIdx_cons_succ, List.eraseIdx_cons_zero, List.set_cons_succ, List.set_cons_zero] at h
    rw [he] at hK
    refine hK AnS.zero _ ?_
    unfold ansX
    rw [h1, h2, h3]
    exact h
  by_cases e12 : z = 12
  case pos =>
    have ht : toldQ s z = ({AnV.zero with n := s.numV 1}, s.numS 1) := by unfold toldQ; rw [if_neg h12, if_neg h34, if_neg h14, if_neg h15, if_pos e12]
    (try simp only [nfD] at h); have F := h.facts; (try simp only [nfF, emp_fact, rds_fact, frm_fact, tab_fact, two_fact, inr_fact, ansX_fact] at F); try simp -dsimp only [↓vcA, vcB, vcD, ↓pureT_lenS, ↓iteT, ↓iteF, cond_true, cond_false, eq_self, argE, Env.get, Env.push, ev, evs, evo, retV, Value.cells, Value.oneCell', setR, overR, fillL, zl, places, allSizes, heldC, ne_eq, Int.reduceLE, Int.reduceLT, Int.reduceEq, Int.reduceNe, Int.reduceToNat, Int.cast_ofNat_Int, Nat.reduceMul, Nat.reduceLeDiff, reduceIte, Nat.reduceEqDiff, Nat.reduceAdd, ↓reduceIte, Try.vcT, F, h.cell0, gets, vsD, if_true, if_false, Bool.false_eq_true,  decide_eq_false n1, decide_eq_false n2, decide_eq_false n3, decide_eq_false n4, decide_eq_false h14, decide_eq_false h15, decide_eq_true e12]
    refine Sep.rdNum 1 h rfl ?_
    clear h F
    intro w3 h
    (try simp only [nfD] at h); have F := h.facts; (try simp only [nfF, emp_fact, rds_fact, frm_fact, tab_fact, two_fact, inr_fact, ansX_fact] at F); try simp -dsimp only [↓vcA, vcB, vcD, ↓pureT_lenS, ↓iteT, ↓iteF, cond_true, cond_false, eq_self, argE, Env.get, Env.push, ev, evs, evo, retV, Value.cells, Value.oneCell', setR, overR, fillL, zl, places, allSizes, heldC, ne_eq, Int.reduceLE, Int.reduceLT, Int.reduceEq, Int.reduceNe, Int.reduceToNat, Int.cast_ofNat_Int, Nat.reduceMul, Nat.reduceLeDiff, reduceIte, Nat.reduceEqDiff, Nat.reduceAdd, ↓reduceIte, Try.vcT, F, h.cell0, gets, vsD, if_true, if_false, Bool.false_eq_true]
    repeat ((first | refine Sep.new h ?_ | refine Sep.put 0 h rfl ?_ | refine Sep.put 1 h rfl ?_ | refine Sep.put 2 h rfl ?_ | refine Sep.put 3 h rfl ?_ | refine Sep.put 4 h rfl ?_ | refine Sep.put 5 h rfl ?_); (clear F; (try clear h); intros; rename_i h; (try simp only [nfD] at h); have F := h.facts; (try simp only [nfF, emp_fact, rds_fact, frm_fact, tab_fact, two_fact, inr_fact, ansX_fact] at F); try simp -dsimp only [↓vcA, vcB, vcD, ↓pureT_lenS, ↓iteT, ↓iteF, cond_true, cond_false, eq_self, argE, Env.get, Env.push, ev, evs, evo, retV, Value.cells, Value.oneCell', setR, overR, fillL, zl, places, allSizes, heldC, ne_eq, Int.reduceLE, Int.reduceLT, Int.reduceEq, Int.reduceNe, Int.reduceToNat, Int.cast_ofNat_Int, Nat.reduceMul, Nat.reduceLeDiff, reduceIte, Nat.reduceEqDiff, Nat.reduceAdd, ↓reduceIte, Try.vcT, F, h.cell0, gets, vsD, if_true, if_false, Bool.false_eq_true, cellsAt]))
    (try simp only [nfD] at h); have F := h.facts; (try simp only [nfF, emp_fact, rds_fact, frm_fact, tab_fact, two_fact, inr_fact, ansX_fact] at F); try simp -dsimp only [↓vcA, vcB, vcD, ↓pureT_lenS, ↓iteT, ↓iteF, cond_true, cond_false, eq_self, argE, Env.get, Env.push, ev, evs, evo, retV, Value.cells, Value.oneCell', setR, overR, fillL, zl, places, allSizes, heldC, ne_eq, Int.reduceLE, Int.reduceLT, Int.reduceEq, Int.reduceNe, Int.reduceToNat, Int.cast_ofNat_Int, Nat.reduceMul, Nat.reduceLeDiff, reduceIte, Nat.reduceEqDiff, Nat.reduceAdd, ↓reduceIte, Try.vcT, F, h.cell0, gets, vsD, if_true, if_false, Bool.false_eq_true,  cellsAt]
    exact fin (M := []) ht ⟨rfl, rfl, rfl⟩ h
  by_cases e16 : z = 16
  case pos =>
    have ht : toldQ s z = ({AnV.zero with n := s.numV 4, sum := ((s.numS 4).rawV 8).foldl shl8 0}, (s.numS 4).rawS 8) := by unfold toldQ; rw [if_neg h12, if_neg h34, if_neg h14, if_neg h15, if_neg e12, if_pos e16]
    (try simp only [nfD] at h); have F := h.facts; (try simp only [nfF, emp_fact, rds_fact, frm_fact, tab_fact, two_fact, inr_fact, ansX_fact] at F); try simp -dsimp only [↓vcA, vcB, vcD, ↓pureT_lenS, ↓iteT, ↓iteF, cond_true, cond_false, eq_self, argE, Env.get, Env.push, ev, evs, evo, retV, Value.cells, Value.oneCell', setR, overR, fillL, zl, places, allSizes, heldC, ne_eq, Int.reduceLE, Int.reduceLT, Int.reduceEq, Int.reduceNe, Int.reduceToNat, Int.cast_ofNat_Int, Nat.reduceMul, Nat.reduceLeDiff, reduceIte, Nat.reduceEqDiff, Nat.reduceAdd, ↓reduceIte, Try.vcT, F, h.cell0, gets, vsD, if_true, if_false, Bool.false_eq_true,  decide_eq_false n1, decide_eq_false n2, decide_eq_false n3, decide_eq_false n4, decide_eq_false h14, decide_eq_false h15, decide_eq_false e12, decide_eq_true e16]
    refine Sep.rdNum 1 h rfl ?_
    clear h F
    intro w3 h
    (try simp only [nfD] at h); have F := h.facts; (try simp only [nfF, emp_fact, rds_fact, frm_fact, tab_fact, two_fact, inr_fact, ansX_fact] at F); try simp -dsimp only [↓vcA, vcB, vcD, ↓pureT_lenS, ↓iteT, ↓iteF, cond_true, cond_false, eq_self, argE, Env.get, Env.push, ev, evs, evo, retV, Value.cells, Value.oneCell', setR, overR, fillL, zl, places, allSizes, heldC, ne_eq, Int.reduceLE, Int.reduceLT, Int.reduceEq, Int.reduceNe, Int.reduceToNat, Int.cast_ofNat_Int, Nat.reduceMul, Nat.reduceLeDiff, reduceIte, Nat.reduceEqDiff, Nat.reduceAdd, ↓reduceIte, Try.vcT, F, h.cell0, gets, vsD, if_true, if_false, Bool.false_eq_true]
    refine Sep.put 3 h rfl ?_
    clear h F
    intro w4 h
    (try simp only [nfD] at h); have F := h.facts; (try simp only [nfF, emp_fact, rds_fact, frm_fact, tab_fact, two_fact, inr_fact, ansX_fact] at F); try simp -dsimp only [↓vcA, vcB, vcD, ↓pureT_lenS, ↓iteT, ↓iteF, cond_true, cond_false, eq_self, argE, Env.get, Env.push, ev, evs, evo, retV, Value.cells, Value.oneCell', setR, overR, fillL, zl, places, allSizes, heldC, ne_eq, Int.reduceLE, Int.reduceLT, Int.reduceEq, Int.reduceNe, Int.reduceToNat, Int.cast_ofNat_Int, Nat.reduceMul, Nat.reduceLeDiff, reduceIte, Nat.reduceEqDiff, Nat.reduceAdd, ↓reduceIte, Try.vcT, F, h.cell0, gets, vsD, if_true, if_false, Bool.false_eq_true]
    refine Sep.rdRaw 1 h rfl ?_
    clear h F
    intro a8 c8 w5 h
    have hbx : Byt ((s.numS 4).rawV 8) := (rawS_byt _ 8 (numS_byt s 4 hb)).2
    have hlx : ((s.numS 4).rawV 8).length ≤ 8 := by
      unfold R8.rawV
      split
      · simp
      · simp; omega
    generalize (s.numS 4).rawV 8 = X at *
    (try simp only [nfD] at h); have F := h.facts; (try simp only [nfF, emp_fact, rds_fact, frm_fact, tab_fact, two_fact, inr_fact, ansX_fact] at F); try simp -dsimp only [↓vcA, vcB, vcD, ↓pureT_lenS, ↓iteT, ↓iteF, cond_true, cond_false, eq_self, argE, Env.get, Env.push, ev, evs, evo, retV, Value.cells, Value.oneCell', setR, overR, fillL, zl, places, allSizes, heldC, ne_eq, Int.reduceLE, Int.reduceLT, Int.reduceEq, Int.reduceNe, Int.reduceToNat, Int.cast_ofNat_Int, Nat.reduceMul, Nat.reduceLeDiff, reduceIte, Nat.reduceEqDiff, Nat.reduceAdd, ↓reduceIte, Try.vcT, F, h.cell0, gets, vsD, if_true, if_false, Bool.false_eq_true]
    refine walkLoop [4, 93, 94] [95] (fun m vs w' => ∃ i, i ≤ X.length ∧ m = X.length - i ∧ vs = [.int .i64 i] ∧ Sep w0 (fun _ => False) [q, rdr 134 r ((s.numS 4).rawS 8) (fun _ => False), blk c 53 [.pointer (some ⟨r, 0, none⟩)], blk b4 114 [.int .i64 0, .slice none 0 0, .bool false, .slice none 0 0, .slice none 0 0, .int .i64 (s.numV 4), .int .u64 ((X.take i).foldl shl8 0)], byt (.slice a8 X.length c8) X] w') (by kernel_rfl) ?_ ?_
    · simp -dsimp only [↓vcA, vcB, vcD, ↓pureT_lenS, ↓iteT, ↓iteF, cond_true, cond_false, eq_self, argE, Env.get, Env.push, ev, evs, evo, retV, Value.cells, Value.oneCell', setR, overR, fillL, zl, places, allSizes, heldC, ne_eq, Int.reduceLE, Int.reduceLT, Int.reduceEq, Int.reduceNe, Int.reduceToNat, Int.cast_ofNat_Int, Nat.reduceMul, Nat.reduceLeDiff, reduceIte, Nat.reduceEqDiff, Nat.reduceAdd, ↓reduceIte, Try.vcT, gets]
      exact ⟨_, 0, Nat.zero_le _, rfl, rfl, h⟩
    intro ks hk m vs w6 hi
    clear h
    try clear F
    obtain ⟨i, hi, rfl, rfl, h⟩ := hi
    simp -dsimp only [gets, argE, List.zip_cons_cons, List.zip_nil_left, List.cons_append, List.nil_append, Env.get, Env.push, Option.bind_some, Option.map_some, Option.some.injEq, reduceIte, Nat.reduceEqDiff, Nat.reduceAdd, ↓reduceIte] at hk; subst hk
    by_cases hlt : (i : Int) < X.length
    case neg =>
      have hil : i = X.length := by omega
      subst hil
      rw [List.take_length] at h
      (try simp only [nfD] at h); have F := h.facts; (try simp only [nfF, emp_fact, rds_fact, frm_fact, tab_fact, two_fact, inr_fact, ansX_fact] at F); try simp -dsimp only [↓vcA, vcB, vcD, ↓pureT_lenS, ↓iteT, ↓iteF, cond_true, cond_false, eq_self, argE, Env.get, Env.push, ev, evs, evo, retV, Value.cells, Value.oneCell', setR, overR, fillL, zl, places, allSizes, heldC, ne_eq, Int.reduceLE, Int.reduceLT, Int.reduceEq, Int.reduceNe, Int.reduceToNat, Int.cast_ofNat_Int, Nat.reduceMul, Nat.reduceLeDiff, reduceIte, Nat.reduceEqDiff, Nat.reduceAdd, ↓reduceIte, Try.vcT, F, h.cell0, gets, vsD, if_true, if_false, Bool.false_eq_true,  decide_eq_false hlt, cellsAt]
      repeat ((first | refine Sep.new h ?_ | refine Sep.put 0 h rfl ?_ | refine Sep.put 1 h rfl ?_ | refine Sep.put 2 h rfl ?_ | refine Sep.put 3 h rfl ?_ | refine Sep.put 4 h rfl ?_ | refine Sep.put 5 h rfl ?_); (clear F; (try clear h); intros; rename_i h; (try simp only [nfD] at h); have F := h.facts; (try simp only [nfF, emp_fact, rds_fact, frm_fact, tab_fact, two_fact, inr_fact, ansX_fact] at F); try simp -dsimp only [↓vcA, vcB, vcD, ↓pureT_lenS, ↓iteT, ↓iteF, cond_true, cond_false, eq_self, argE, Env.get, Env.push, ev, evs, evo, retV, Value.cells, Value.oneCell', setR, overR, fillL, zl, places, allSizes, heldC, ne_eq, Int.reduceLE, Int.reduceLT, Int.reduceEq, Int.reduceNe, Int.reduceToNat, Int.cast_ofNat_Int, Nat.reduceMul, Nat.reduceLeDiff, reduceIte, Nat.reduceEqDiff, Nat.reduceAdd, ↓reduceIte, Try.vcT, F, h.cell0, gets, vsD, if_true, if_false, Bool.false_eq_true, cellsAt]))
      (try simp only [nfD] at h); have F := h.facts; (try simp only [nfF, emp_fact, rds_fact, frm_fact, tab_fact, two_fact, inr_fact, ansX_fact] at F); try simp -dsimp only [↓vcA, vcB, vcD, ↓pureT_lenS, ↓iteT, ↓iteF, cond_true, cond_false, eq_self, argE, Env.get, Env.push, ev, evs, evo, retV, Value.cells, Value.oneCell', setR, overR, fillL, zl, places, allSizes, heldC, ne_eq, Int.reduceLE, Int.reduceLT, Int.reduceEq, Int.reduceNe, Int.reduceToNat, Int.cast_ofNat_Int, Nat.reduceMul, Nat.reduceLeDiff, reduceIte, Nat.reduceEqDiff, Nat.reduceAdd, ↓reduceIte, Try.vcT, F, h.cell0, gets, vsD, if_true, if_false, Bool.false_eq_true,  cellsAt]
      exact fin (M := []) ht ⟨rfl, rfl, rfl⟩ (h.erase 4)
    have hil : i < X.length := by omega
    have hfold : (X.take (i + 1)).foldl shl8 0 = shl8 ((X.take i).foldl shl8 0) X[i] := by
      rw [List.take_succ_eq_append_getElem hil, List.foldl_append]; rfl
    have ei : IntKind.i64.wrap ((i : Int) + 1) = ((i + 1 : Nat) : Int) := by rw [i64w _ (by omega) (by omega)]; omega
    have h0i : (0 : Int) ≤ i := by omega
    have hx := hbx _ (List.getElem_mem hil)
    (try simp only [nfD] at h); have F := h.facts; (try simp only [nfF, emp_fact, rds_fact, frm_fact, tab_fact, two_fact, inr_fact, ansX_fact] at F)
    obtain ⟨bb, oo, eb, hcx⟩ := (F.2.2.2.2.1).at' hil
    rw [eb] at h ⊢
    (try simp only [nfD] at h); have F := h.facts; (try simp only [nfF, emp_fact, rds_fact, frm_fact, tab_fact, two_fact, inr_fact, ansX_fact] at F); try simp -dsimp only [↓vcA, vcB, vcD, ↓pureT_lenS, ↓iteT, ↓iteF, cond_true, cond_false, eq_self, argE, Env.get, Env.push, ev, evs, evo, retV, Value.cells, Value.oneCell', setR, overR, fillL, zl, places, allSizes, heldC, ne_eq, Int.reduceLE, Int.reduceLT, Int.reduceEq, Int.reduceNe, Int.reduceToNat, Int.cast_ofNat_Int, Nat.reduceMul, Nat.reduceLeDiff, reduceIte, Nat.reduceEqDiff, Nat.reduceAdd, ↓reduceIte, Try.vcT, F, h.cell0, gets, vsD, if_true, if_false, Bool.false_eq_true,  decide_eq_true hlt]
    refine ⟨⟨h0i, hlt⟩, ?_⟩
    (try simp only [nfD] at h); have F := h.facts; (try simp only [nfF, emp_fact, rds_fact, frm_fact, tab_fact, two_fact, inr_fact, ansX_fact] at F); try simp -dsimp only [↓vcA, vcB, vcD, ↓pureT_lenS, ↓iteT, ↓iteF, cond_true, cond_false, eq_self, argE, Env.get, Env.push, ev, evs, evo, retV, Value.cells, Value.oneCell', setR, overR, fillL, zl, places, allSizes, heldC, ne_eq, Int.reduceLE, Int.reduceLT, Int.reduceEq, Int.reduceNe, Int.reduceToNat, Int.cast_ofNat_Int, Nat.reduceMul, Nat.reduceLeDiff, reduceIte, Nat.reduceEqDiff, Nat.reduceAdd, ↓reduceIte, Try.vcT, F, h.cell0, gets, vsD, if_true, if_false, Bool.false_eq_true,  hcx]
    trace_state
    refine Sep.put 3 h rfl ?_
    clear h F
    intro w7 h
    (try simp only [nfD] at h); have F := h.facts; (try simp only [nfF, emp_fact, rds_fact, frm_fact, tab_fact, two_fact, inr_fact, ansX_fact] at F); try simp -dsimp only [↓vcA, vcB, vcD, ↓pureT_lenS, ↓iteT, ↓iteF, cond_true, cond_false, eq_self, argE, Env.get, Env.push, ev, evs, evo, retV, Value.cells, Value.oneCell', setR, overR, fillL, zl, places, allSizes, heldC, ne_eq, Int.reduceLE, Int.reduceLT, Int.reduceEq, Int.reduceNe, Int.reduceToNat, Int.cast_ofNat_Int, Nat.reduceMul, Nat.reduceLeDiff, reduceIte, Nat.reduceEqDiff, Nat.reduceAdd, ↓reduceIte, Try.vcT, F, h.cell0, gets, vsD, if_true, if_false, Bool.false_eq_true,  ei]
    refine ⟨_, ?_, i + 1, by omega, rfl, rfl, ?_⟩
    · omega
    rw [hfold]
    exact h
  have ht : toldQ s z = (AnV.zero, s) := by unfold toldQ; rw [if_neg h12, if_neg h34, if_neg h14, if_neg h15, if_neg e12, if_neg e16]
  (try simp only [nfD] at h); have F := h.facts; (try simp only [nfF, emp_fact, rds_fact, frm_fact, tab_fact, two_fact, inr_fact, ansX_fact] at F); try simp -dsimp only [↓vcA, vcB, vcD, ↓pureT_lenS, ↓iteT, ↓iteF, cond_true, cond_false, eq_self, argE, Env.get, Env.push, ev, evs, evo, retV, Value.cells, Value.oneCell', setR, overR, fillL, zl, places, allSizes, heldC, ne_eq, Int.reduceLE, Int.reduceLT, Int.reduceEq, Int.reduceNe, Int.reduceToNat, Int.cast_ofNat_Int, Nat.reduceMul, Nat.reduceLeDiff, reduceIte, Nat.reduceEqDiff, Nat.reduceAdd, ↓reduceIte, Try.vcT, F, h.cell0, gets, vsD, if_true, if_false, Bool.false_eq_true,  decide_eq_false n1, decide_eq_false n2, decide_eq_false n3, decide_eq_false n4, decide_eq_false h14, decide_eq_false h15, decide_eq_false e12, decide_eq_false e16, cellsAt]
  repeat ((first | refine Sep.new h ?_ | refine Sep.put 0 h rfl ?_ | refine Sep.put 1 h rfl ?_ | refine Sep.put 2 h rfl ?_ | refine Sep.put 3 h rfl ?_ | refine Sep.put 4 h rfl ?_ | refine Sep.put 5 h rfl ?_); (clear F; (try clear h); intros; rename_i h; (try simp only [nfD] at h); have F := h.facts; (try simp only [nfF, emp_fact, rds_fact, frm_fact, tab_fact, two_fact, inr_fact, ansX_fact] at F); try simp -dsimp only [↓vcA, vcB, vcD, ↓pureT_lenS, ↓iteT, ↓iteF, cond_true, cond_false, eq_self, argE, Env.get, Env.push, ev, evs, evo, retV, Value.cells, Value.oneCell', setR, overR, fillL, zl, places, allSizes, heldC, ne_eq, Int.reduceLE, Int.reduceLT, Int.reduceEq, Int.reduceNe, Int.reduceToNat, Int.cast_ofNat_Int, Nat.reduceMul, Nat.reduceLeDiff, reduceIte, Nat.reduceEqDiff, Nat.reduceAdd, ↓reduceIte, Try.vcT, F, h.cell0, gets, vsD, if_true, if_false, Bool.false_eq_true, cellsAt]))
  (try simp only [nfD] at h); have F := h.facts; (try simp only [nfF, emp_fact, rds_fact, frm_fact, tab_fact, two_fact, inr_fact, ansX_fact] at F); try simp -dsimp only [↓vcA, vcB, vcD, ↓pureT_lenS, ↓iteT, ↓iteF, cond_true, cond_false, eq_self, argE, Env.get, Env.push, ev, evs, evo, retV, Value.cells, Value.oneCell', setR, overR, fillL, zl, places, allSizes, heldC, ne_eq, Int.reduceLE, Int.reduceLT, Int.reduceEq, Int.reduceNe, Int.reduceToNat, Int.cast_ofNat_Int, Nat.reduceMul, Nat.reduceLeDiff, reduceIte, Nat.reduceEqDiff, Nat.reduceAdd, ↓reduceIte, Try.vcT, F, h.cell0, gets, vsD, if_true, if_false, Bool.false_eq_true,  cellsAt]
  exact fin (M := []) ht ⟨rfl, rfl, rfl⟩ h
end Go.Proofs.Ytnhgjgoglmadnaa
namespace Go.Proofs.Ytnhgjgoglmadnaa
open Go.ChangeShapes Go.WideShapes Go.ChangeAt Go.RowKit Go.Deep
set_option linter.unusedVariables false
set_option maxRecDepth 100000
section
variable {H : Type} {enc : TypeId × Value → H} {w : World} {base : Nat} {spare : Nat → Bool} {held : Bool}
theorem cReq : Try.prog.cellsOf 111 = 26 := by kernel_rfl
theorem cAns : Try.prog.cellsOf 114 = 7 := by kernel_rfl
theorem cPiece : Try.prog.cellsOf 205 = 9 := by kernel_rfl
theorem cErr : Try.prog.cellsOf 49 = 1 := by kernel_rfl
theorem cRect : Try.prog.cellsOf 109 = 4 := by kernel_rfl
theorem cU64 : Try.prog.cellsOf 24 = 1 := by kernel_rfl
theorem cInts : Try.prog.cellsOf 60 = 1 := by kernel_rfl
theorem cPcs : Try.prog.cellsOf 112 = 1 := by kernel_rfl
theorem u64_of {P : Program} {t : TypeId} {fuel : Nat} {c : Value} {x : DataW H × List MemPlace} (ht : P.underlying t = some (.int .u64)) (h : DataW.trod enc P w base spare held fuel t [c] = some x) :
    ∃ n, c = .int .u64 n ∧ 0 ≤ n ∧ n < 18446744073709551616 := by
  obtain ⟨n, h1, _, h2⟩ := DataW.trod_int ht h
  simp [Lit.wf, IntKind.min, IntKind.max, IntKind.signed, IntKind.bits] at h2
  injection h1 with h1
  exact ⟨n, h1, by omega⟩
theorem tri_of' {fuel : Nat} {c0 c1 c2 c3 c4 c5 : Value} {x : DataW H × List MemPlace} (h : DataW.trod enc Try.prog w base spare held fuel 39 [c0, c1, c2, c3, c4, c5] = some x) :
    ∃ a b c d e f, [c0, c1, c2, c3, c4, c5] = cellsI [a, b, c, d, e, f] ∧ (-9223372036854775808 ≤ a ∧ a ≤ 9223372036854775807) ∧ (-9223372036854775808 ≤ b ∧ b ≤ 9223372036854775807) ∧ (-9223372036854775808 ≤ c ∧ c ≤ 9223372036854775807) ∧ (-9223372036854775808 ≤ d ∧ d ≤ 9223372036854775807) ∧ (-9223372036854775808 ≤ e ∧ e ≤ 9223372036854775807) ∧ (-9223372036854775808 ≤ f ∧ f ≤ 9223372036854775807) := by
  obtain ⟨_, n4, hf4⟩ := fields_of Try.underlying39 h
  obtain ⟨z0, g0⟩ := hf4 0 0 37 2 rfl c37
  obtain ⟨z1, g1⟩ := hf4 1 2 37 2 rfl c37
  obtain ⟨z2, g2⟩ := hf4 2 4 37 2 rfl c37
  obtain ⟨ax, ay, rfl, rfl, hax, hay⟩ := pt_of g0
  obtain ⟨bx, by', rfl, rfl, hbx, hby⟩ := pt_of g1
  obtain ⟨cx, cy, rfl, rfl, hcx, hcy⟩ := pt_of g2
  exact ⟨ax, ay, bx, by', cx, cy, rfl, hax, hay, hbx, hby, hcx, hcy⟩
theorem rect_of' {fuel : Nat} {u0 u1 u2 u3 : Value} {x : DataW H × List MemPlace} (h : DataW.trod enc Try.prog w base spare held fuel 109 [u0, u1, u2, u3] = some x) :
    ∃ a b c d, [u0, u1, u2, u3] = cellsI [a, b, c, d] ∧ (-9223372036854775808 ≤ a ∧ a ≤ 9223372036854775807) ∧ (-9223372036854775808 ≤ b ∧ b ≤ 9223372036854775807) ∧ (-9223372036854775808 ≤ c ∧ c ≤ 9223372036854775807) ∧ (-9223372036854775808 ≤ d ∧ d ≤ 9223372036854775807) := by
  obtain ⟨_, n4, hf4⟩ := fields_of Try.underlying109 h
  obtain ⟨z0, g0⟩ := hf4 0 0 3 1 rfl c3
  obtain ⟨z1, g1⟩ := hf4 1 1 3 1 rfl c3
  obtain ⟨z2, g2⟩ := hf4 2 2 3 1 rfl c3
  obtain ⟨z3, g3⟩ := hf4 3 3 3 1 rfl c3
  obtain ⟨a, rfl, ha⟩ := int_of Try.underlying3 g0
  obtain ⟨b, rfl, hb⟩ := int_of Try.underlying3 g1
  obtain ⟨c, rfl, hc⟩ := int_of Try.underlying3 g2
  obtain ⟨d, rfl, hd⟩ := int_of Try.underlying3 g3
  exact ⟨a, b, c, d, rfl, ha, hb, hc, hd⟩
theorem piece_of {fuel : Nat} {cs : List Value} {x : DataW H × List MemPlace} (h : DataW.trod enc Try.prog w base spare held fuel 205 cs = some x) : ∃ q : List Int, cs = cellsI q ∧ q.length = 9 ∧ Ok64 q := by
  obtain ⟨hl, n, hf⟩ := fields_of Try.underlying205 h
  rw [cPiece] at hl
  match cs, hl with
  | [x0, x1, x2, x3, x4, x5, x6, x7, x8], _ =>
    obtain ⟨y0, h0⟩ := hf 0 0 39 6 rfl c39
    obtain ⟨y1, h1⟩ := hf 1 6 3 1 rfl c3
    obtain ⟨y2, h2⟩ := hf 2 7 3 1 rfl c3
    obtain ⟨y3, h3⟩ := hf 3 8 3 1 rfl c3
    obtain ⟨a0, a1, a2, a3, a4, a5, e, k0, k1, k2, k3, k4, k5⟩ := tri_of' h0
    simp only [cellsI, List.map_cons, List.map_nil, List.cons.injEq, and_true] at e
    obtain ⟨rfl, rfl, rfl, rfl, rfl, rfl⟩ := e
    obtain ⟨a6, rfl, k6⟩ := int_of Try.underlying3 h1
    obtain ⟨a7, rfl, k7⟩ := int_of Try.underlying3 h2
    obtain ⟨a8, rfl, k8⟩ := int_of Try.underlying3 h3
    exact ⟨[a0, a1, a2, a3, a4, a5, a6, a7, a8], rfl, rfl, by simp only [Ok64, List.forall_mem_cons, List.not_mem_nil, false_implies, implies_true, and_true]; exact ⟨k0, k1, k2, k3, k4, k5, k6, k7, k8⟩⟩
theorem ans_of {fuel : Nat} {cs : List Value} {x : DataW H × List MemPlace} (h : DataW.trod enc Try.prog w base (fun _ => true) held fuel 114 cs = some x) :
    ∃ (a : AnV) (s : AnS), cs = a.cells s ∧ AnR w a s ∧ a.Ok := by
  obtain ⟨hl, n, hf⟩ := fields_of Try.underlying114 h
  rw [cAns] at hl
  match cs, hl with
  | [x0, x1, x2, x3, x4, x5, x6], _ =>
    obtain ⟨y0, h0⟩ := hf 0 0 49 1 rfl cErr
    obtain ⟨y1, h1⟩ := hf 1 1 112 1 rfl cPcs
    obtain ⟨y2, h2⟩ := hf 2 2 4 1 rfl c4
    obtain ⟨y3, h3⟩ := hf 3 3 91 1 rfl cs91
    obtain ⟨y4, h4⟩ := hf 4 4 60 1 rfl cInts
    obtain ⟨y5, h5⟩ := hf 5 5 3 1 rfl c3
    obtain ⟨y6, h6⟩ := hf 6 6 24 1 rfl cU64
    obtain ⟨a0, rfl, k0⟩ := int_of Try.underlying49 h0
    obtain ⟨p, r1, o1, _⟩ := tab_of Try.underlying112 cPiece (by decide) (fun _ _ _ => piece_of) h1
    obtain ⟨d, hd, _⟩ := DataW.trod_bool Try.underlying4 h2
    obtain ⟨ca, r3, o3, _⟩ := tab_of Try.underlying91 c159 (by decide) (fun _ _ _ => cap_of) h3
    obtain ⟨la, r4, o4⟩ := ints_of h4
    obtain ⟨a5, rfl, k5⟩ := int_of Try.underlying3 h5
    obtain ⟨a6, rfl, k6⟩ := u64_of Try.underlying24 h6
    have hd : x2 = .bool d := by simpa using hd
    subst hd
    exact ⟨⟨a0, p, d, ca, la, a5, a6⟩, ⟨x1, x3, x4⟩, rfl, ⟨r1, r3, r4⟩, ⟨k0, k5, k6, o1, o3, o4⟩⟩
theorem req_of {fuel : Nat} {cs : List Value} {x : DataW H × List MemPlace} (h : DataW.trod enc Try.prog w base spare held fuel 111 cs = some x) :
    ∃ r : Rq, cs = r.cells ∧ Ok64 r.vals := by
  obtain ⟨hl, n, hf⟩ := fields_of Try.underlying111 h
  rw [cReq] at hl
  match cs, hl with
  | [x0, x1, x2, x3, x4, x5, x6, x7, x8, x9, x10, x11, x12, x13, x14, x15, x16, x17, x18, x19, x20, x21, x22, x23, x24, x25], _ =>
    obtain ⟨y0, h0⟩ := hf 0 0 3 1 rfl c3
    obtain ⟨y1, h1⟩ := hf 1 1 37 2 rfl c37
    obtain ⟨y2, h2⟩ := hf 2 3 37 2 rfl c37
    obtain ⟨y3, h3⟩ := hf 3 5 39 6 rfl c39
    obtain ⟨y4, h4⟩ := hf 4 11 3 1 rfl c3
    obtain ⟨y5, h5⟩ := hf 5 12 3 1 rfl c3
    obtain ⟨y6, h6⟩ := hf 6 13 3 1 rfl c3
    obtain ⟨y7, h7⟩ := hf 7 14 3 1 rfl c3
    obtain ⟨y8, h8⟩ := hf 8 15 109 4 rfl cRect
    obtain ⟨y9, h9⟩ := hf 9 19 3 1 rfl c3
    obtain ⟨y10, h10⟩ := hf 10 20 3 1 rfl c3
    obtain ⟨y11, h11⟩ := hf 11 21 3 1 rfl c3
    obtain ⟨y12, h12⟩ := hf 12 22 3 1 rfl c3
    obtain ⟨y13, h13⟩ := hf 13 23 3 1 rfl c3
    obtain ⟨y14, h14⟩ := hf 14 24 3 1 rfl c3
    obtain ⟨y15, h15⟩ := hf 15 25 3 1 rfl c3
    obtain ⟨a0, rfl, k0⟩ := int_of Try.underlying3 h0
    obtain ⟨a1, a2, rfl, rfl, k1, k2⟩ := pt_of h1
    obtain ⟨a3, a4, rfl, rfl, k3, k4⟩ := pt_of h2
    obtain ⟨a5, a6, a7, a8, a9, a10, e, k5, k6, k7, k8, k9, k10⟩ := tri_of' h3
    simp only [cellsI, List.map_cons, List.map_nil, List.cons.injEq, and_true] at e
    obtain ⟨rfl, rfl, rfl, rfl, rfl, rfl⟩ := e
    obtain ⟨a11, rfl, k11⟩ := int_of Try.underlying3 h4
    obtain ⟨a12, rfl, k12⟩ := int_of Try.underlying3 h5
    obtain ⟨a13, rfl, k13⟩ := int_of Try.underlying3 h6
    obtain ⟨a14, rfl, k14⟩ := int_of Try.underlying3 h7
    obtain ⟨a15, a16, a17, a18, e, k15, k16, k17, k18⟩ := rect_of' h8
    simp only [cellsI, List.map_cons, List.map_nil, List.cons.injEq, and_true] at e
    obtain ⟨rfl, rfl, rfl, rfl⟩ := e
    obtain ⟨a19, rfl, k19⟩ := int_of Try.underlying3 h9
    obtain ⟨a20, rfl, k20⟩ := int_of Try.underlying3 h10
    obtain ⟨a21, rfl, k21⟩ := int_of Try.underlying3 h11
    obtain ⟨a22, rfl, k22⟩ := int_of Try.underlying3 h12
    obtain ⟨a23, rfl, k23⟩ := int_of Try.underlying3 h13
    obtain ⟨a24, rfl, k24⟩ := int_of Try.underlying3 h14
    obtain ⟨a25, rfl, k25⟩ := int_of Try.underlying3 h15
    exact ⟨⟨a0, a1, a2, a3, a4, a5, a6, a7, a8, a9, a10, a11, a12, a13, a14, a15, a16, a17, a18, a19, a20, a21, a22, a23, a24, a25⟩, rfl, by simp only [Rq.vals, Ok64, List.forall_mem_cons, List.not_mem_nil, false_implies, implies_true, and_true]; exact ⟨k0, k1, k2, k3, k4, k5, k6, k7, k8, k9, k10, k11, k12, k13, k14, k15, k16, k17, k18, k19, k20, k21, k22, k23, k24, k25⟩⟩
end
end Go.Proofs.Ytnhgjgoglmadnaa
