/- Joined texts of this claim (part 16), printed by a program of this work. The last part holds the claimed theorem: the law answers true at every input of its row. -/
import Derived.Test.YtnhgjgoglmadnaaSP18o
namespace Go.Proofs.Ytnhgjgoglmadnaa
open Go.RowKit
set_option maxRecDepth 100000
set_option linter.unusedSimpArgs false
set_option linter.unusedVariables false
set_option pp.maxSteps 1500
set_option pp.deepTerms.threshold 8

theorem ite_stp {k : Nat} {s a b : W8} {p : Prop} [Decidable p] (h : Stp k s a) (g : Stp k s b) : Stp k s (if p then a else b) := by
  by_cases e : p
  · rw [if_pos e]; exact h
  · rw [if_neg e]; exact g
theorem put1_stp (r : Rq) (s : W8) (c : Nat) : Stp 48 s (put1 r s c) := by
  unfold put1
  exact (ite_stp ((Stp.pt s _ _).mono (by omega)) (ite_stp ((Stp.pt s _ _).mono (by omega)) (ite_stp (Stp.tri s _ _ _ _ _ _) (ite_stp ((Stp.num s _ _).mono (by omega)) (ite_stp ((Stp.num s _ _).mono (by omega)) (ite_stp ((Stp.num s _ _).mono (by omega)) (ite_stp ((Stp.num s _ _).mono (by omega)) (ite_stp (((((Stp.num s r.x0 3).trans (Stp.num _ r.y0 3)).trans (Stp.num _ r.x1 3)).trans (Stp.num _ r.y1 3)).mono (by omega)) (ite_stp ((Stp.num s _ _).mono (by omega)) (ite_stp ((Stp.num s _ _).mono (by omega)) (ite_stp ((Stp.num s _ _).mono (by omega)) (ite_stp ((Stp.num s _ _).mono (by omega)) (ite_stp ((Stp.num s _ _).mono (by omega)) (ite_stp ((Stp.num s _ _).mono (by omega)) (ite_stp ((Stp.num s _ _).mono (by omega)) ((Stp.refl s).mono (by omega)))))))))))))))))
theorem puts_stp (r : Rq) : ∀ (L : List Nat) (s : W8), Stp (L.length * 48) s (L.foldl (put1 r) s)
  | [], s => (Stp.refl s).mono (by omega)
  | c :: L, s => ((put1_stp r s c).trans (puts_stp r L _)).mono (by simp only [List.length_cons, Nat.succ_mul]; omega)
theorem rqP_byt (r : Rq) : Byt (rqP r).l := ((Stp.num (⟨[], false⟩ : W8) r.k 1).trans (puts_stp r _ _)).1 Byt.nil
def qW : Rq := {Rq.zero with k := 1, px := 1, py := 2}
def aW : AnV := {AnV.zero with la := [7]}
def aW1 : AnV := {AnV.zero with code := 1}
theorem qW_ok : Ok64 qW.vals := by
  simp only [qW, Rq.zero, Rq.vals, Ok64, List.forall_mem_cons, List.not_mem_nil, false_implies, implies_true, and_true]; omega
theorem qW_1 : rqPB qW = [1, 0, 0, 1, 0, 0, 2] := by decide +kernel
theorem qW_2 : rqPOk qW = true := by decide +kernel
theorem qW_3 : askRV [1, 0, 0, 1, 0, 0, 2] = qW := by decide +kernel
theorem qW_4 : askROk [1, 0, 0, 1, 0, 0, 2] = true := by decide +kernel
theorem qZ_1 : rqPB Rq.zero = [] := by decide +kernel
theorem qZ_2 : rqPOk Rq.zero = false := by decide +kernel
theorem qZ_3 : askRV [] = Rq.zero := by decide +kernel
theorem aW_1 : ansB 15 aW = [0, 1, 0, 7] := by decide +kernel
theorem aW_2 : ansOk 15 aW = true := by decide +kernel
theorem aW_3 : toldV 15 [0, 1, 0, 7] = aW := by decide +kernel
theorem aW_4 : toldOk 15 [0, 1, 0, 7] = true := by decide +kernel
theorem aW1_1 : ansB 3 aW1 = [1] := by decide +kernel
theorem aW1_2 : ansOk 3 aW1 = true := by decide +kernel
theorem aW_ok : aW.Ok := ⟨by simp [aW, AnV.zero], by simp [aW, AnV.zero], by simp [aW, AnV.zero], fun x hx => (by cases hx), fun x hx => (by cases hx), fun x hx => by
  simp only [aW, List.mem_cons, List.not_mem_nil, or_false] at hx; subst hx; omega⟩
theorem aW1_ok : aW1.Ok := ⟨by simp [aW1, AnV.zero], by simp [aW1, AnV.zero], by simp [aW1, AnV.zero], fun x hx => (by cases hx), fun x hx => (by cases hx), fun x hx => (by cases hx)⟩
theorem blk_ints {w0 w : World} {S : Nat → Prop} {M : List Res} {b : Nat} {ns : List Int} (h : Sep w0 S M w) (k : Nat) (hk : M[k]? = some (blk b 3 (ns.map (Value.int .i64)))) (hn : 0 < ns.length ∧ ns.length ≤ 1000) : IntsR w (.slice (some ⟨b, 0, none⟩) ns.length ns.length) ns := by
  obtain ⟨C, ⟨c1, _⟩, _, _⟩ := h.at hk
  exact ⟨by simp, fun u hu => (by obtain ⟨x, _, rfl⟩ := List.mem_map.1 hu; rfl), _, _, rfl, Nat.le_refl _, by simp only [maxLen]; omega, fun e => by (cases e), fun _ => ⟨b, 0, rfl, fun j u hj => by rw [cell_of_row w b _ _ _ _ c1, Nat.zero_add]; simpa using hj⟩⟩
set_option maxHeartbeats 4000000 in
theorem awake65 (w : World) : Calls Try.prog 65 [].toArray w (RetK fun r w' => r = .bool true ∧ Chg (fun _ => False) w w') := by
  have h := Sep.nil w
  refine walk Try.func65 rfl (by kernel_rfl) (by rw [Try.nt65]; simp) ?_
  (try simp only [nfD] at h); have F := h.facts; (try simp only [nfF, emp_fact, rds_fact, frm_fact, tab_fact, two_fact, inr_fact, ansX_fact] at F)
  simp -dsimp only [↓vcA, vcB, vcD, ↓pureT_lenS, ↓iteT, ↓iteF, cond_true, cond_false, eq_self, argE, Env.get, Env.push, ev, evs, evo, retV, Value.cells, Value.oneCell', setR, overR, fillL, zl, places, allSizes, heldC, ne_eq, Int.reduceLE, Int.reduceLT, Int.reduceEq, Int.reduceNe, Int.reduceToNat, Int.cast_ofNat_Int, Nat.reduceMul, Nat.reduceLeDiff, reduceIte, Nat.reduceEqDiff, Nat.reduceAdd, ↓reduceIte, Try.vcT]
  refine Sep.callN h (request66 qW w qW_ok (rqP_byt _)) ?_
  clear h F
  intro e N w1 hQ h
  rw [qW_1, qW_2] at hQ
  obtain ⟨a1, c1, rfl, rfl⟩ := hQ
  (try simp only [nfD] at h); have F := h.facts; (try simp only [nfF, emp_fact, rds_fact, frm_fact, tab_fact, two_fact, inr_fact, ansX_fact] at F); try simp -dsimp only [↓vcA, vcB, vcD, ↓pureT_lenS, ↓iteT, ↓iteF, cond_true, cond_false, eq_self, argE, Env.get, Env.push, ev, evs, evo, retV, Value.cells, Value.oneCell', setR, overR, fillL, zl, places, allSizes, heldC, ne_eq, Int.reduceLE, Int.reduceLT, Int.reduceEq, Int.reduceNe, Int.reduceToNat, Int.cast_ofNat_Int, Nat.reduceMul, Nat.reduceLeDiff, reduceIte, Nat.reduceEqDiff, Nat.reduceAdd, ↓reduceIte, Try.vcT, F, h.cell0, gets, vsD, if_true, if_false, Bool.false_eq_true]
  refine Sep.callp h (ask68 _ [1, 0, 0, 1, 0, 0, 2] _ F.1 (by simp [Byt]) (by simp)) ?_
  clear h F
  intro w2 h
  rw [qW_3, qW_4]
  (try simp only [nfD] at h); have F := h.facts; (try simp only [nfF, emp_fact, rds_fact, frm_fact, tab_fact, two_fact, inr_fact, ansX_fact] at F); try simp -dsimp only [↓vcA, vcB, vcD, ↓pureT_lenS, ↓iteT, ↓iteF, cond_true, cond_false, eq_self, argE, Env.get, Env.push, ev, evs, evo, retV, Value.cells, Value.oneCell', setR, overR, fillL, zl, places, allSizes, heldC, ne_eq, Int.reduceLE, Int.reduceLT, Int.reduceEq, Int.reduceNe, Int.reduceToNat, Int.cast_ofNat_Int, Nat.reduceMul, Nat.reduceLeDiff, reduceIte, Nat.reduceEqDiff, Nat.reduceAdd, ↓reduceIte, Try.vcT, F, h.cell0, gets, vsD, if_true, if_false, Bool.false_eq_true,  Rq.cells, qW, Rq.zero]
  refine h.new ?_
  clear h F
  intro w3 b3 h
  (try simp only [nfD] at h); have F := h.facts; (try simp only [nfF, emp_fact, rds_fact, frm_fact, tab_fact, two_fact, inr_fact, ansX_fact] at F); try simp -dsimp only [↓vcA, vcB, vcD, ↓pureT_lenS, ↓iteT, ↓iteF, cond_true, cond_false, eq_self, argE, Env.get, Env.push, ev, evs, evo, retV, Value.cells, Value.oneCell', setR, overR, fillL, zl, places, allSizes, heldC, ne_eq, Int.reduceLE, Int.reduceLT, Int.reduceEq, Int.reduceNe, Int.reduceToNat, Int.cast_ofNat_Int, Nat.reduceMul, Nat.reduceLeDiff, reduceIte, Nat.reduceEqDiff, Nat.reduceAdd, ↓reduceIte, Try.vcT, F, h.cell0, gets, vsD, if_true, if_false, Bool.false_eq_true]
  refine Sep.put 1 h rfl ?_
  clear h F
  intro w4 h
  (try simp only [nfD] at h); have F := h.facts; (try simp only [nfF, emp_fact, rds_fact, frm_fact, tab_fact, two_fact, inr_fact, ansX_fact] at F); try simp -dsimp only [↓vcA, vcB, vcD, ↓pureT_lenS, ↓iteT, ↓iteF, cond_true, cond_false, eq_self, argE, Env.get, Env.push, ev, evs, evo, retV, Value.cells, Value.oneCell', setR, overR, fillL, zl, places, allSizes, heldC, ne_eq, Int.reduceLE, Int.reduceLT, Int.reduceEq, Int.reduceNe, Int.reduceToNat, Int.cast_ofNat_Int, Nat.reduceMul, Nat.reduceLeDiff, reduceIte, Nat.reduceEqDiff, Nat.reduceAdd, ↓reduceIte, Try.vcT, F, h.cell0, gets, vsD, if_true, if_false, Bool.false_eq_true]
  refine Sep.callp h (ask68 _ [] _ (Rd.nil _) Byt.nil (by simp)) ?_
  clear h F
  intro w5 h
  rw [qZ_3, askROk_nil]
  (try simp only [nfD] at h); have F := h.facts; (try simp only [nfF, emp_fact, rds_fact, frm_fact, tab_fact, two_fact, inr_fact, ansX_fact] at F); try simp -dsimp only [↓vcA, vcB, vcD, ↓pureT_lenS, ↓iteT, ↓iteF, cond_true, cond_false, eq_self, argE, Env.get, Env.push, ev, evs, evo, retV, Value.cells, Value.oneCell', setR, overR, fillL, zl, places, allSizes, heldC, ne_eq, Int.reduceLE, Int.reduceLT, Int.reduceEq, Int.reduceNe, Int.reduceToNat, Int.cast_ofNat_Int, Nat.reduceMul, Nat.reduceLeDiff, reduceIte, Nat.reduceEqDiff, Nat.reduceAdd, ↓reduceIte, Try.vcT, F, h.cell0, gets, vsD, if_true, if_false, Bool.false_eq_true,  Rq.cells, Rq.zero]
  refine h.new ?_
  clear h F
  intro w6 b6 h
  (try simp only [nfD] at h); have F := h.facts; (try simp only [nfF, emp_fact, rds_fact, frm_fact, tab_fact, two_fact, inr_fact, ansX_fact] at F); try simp -dsimp only [↓vcA, vcB, vcD, ↓pureT_lenS, ↓iteT, ↓iteF, cond_true, cond_false, eq_self, argE, Env.get, Env.push, ev, evs, evo, retV, Value.cells, Value.oneCell', setR, overR, fillL, zl, places, allSizes, heldC, ne_eq, Int.reduceLE, Int.reduceLT, Int.reduceEq, Int.reduceNe, Int.reduceToNat, Int.cast_ofNat_Int, Nat.reduceMul, Nat.reduceLeDiff, reduceIte, Nat.reduceEqDiff, Nat.reduceAdd, ↓reduceIte, Try.vcT, F, h.cell0, gets, vsD, if_true, if_false, Bool.false_eq_true]
  refine Sep.put 2 h rfl ?_
  clear h F
  intro w7 h
  (try simp only [nfD] at h); have F := h.facts; (try simp only [nfF, emp_fact, rds_fact, frm_fact, tab_fact, two_fact, inr_fact, ansX_fact] at F); try simp -dsimp only [↓vcA, vcB, vcD, ↓pureT_lenS, ↓iteT, ↓iteF, cond_true, cond_false, eq_self, argE, Env.get, Env.push, ev, evs, evo, retV, Value.cells, Value.oneCell', setR, overR, fillL, zl, places, allSizes, heldC, ne_eq, Int.reduceLE, Int.reduceLT, Int.reduceEq, Int.reduceNe, Int.reduceToNat, Int.cast_ofNat_Int, Nat.reduceMul, Nat.reduceLeDiff, reduceIte, Nat.reduceEqDiff, Nat.reduceAdd, ↓reduceIte, Try.vcT, F, h.cell0, gets, vsD, if_true, if_false, Bool.false_eq_true]
  refine h.new ?_
  clear h F
  intro w8 b8 h
  (try simp only [nfD] at h); have F := h.facts; (try simp only [nfF, emp_fact, rds_fact, frm_fact, tab_fact, two_fact, inr_fact, ansX_fact] at F); try simp -dsimp only [↓vcA, vcB, vcD, ↓pureT_lenS, ↓iteT, ↓iteF, cond_true, cond_false, eq_self, argE, Env.get, Env.push, ev, evs, evo, retV, Value.cells, Value.oneCell', setR, overR, fillL, zl, places, allSizes, heldC, ne_eq, Int.reduceLE, Int.reduceLT, Int.reduceEq, Int.reduceNe, Int.reduceToNat, Int.cast_ofNat_Int, Nat.reduceMul, Nat.reduceLeDiff, reduceIte, Nat.reduceEqDiff, Nat.reduceAdd, ↓reduceIte, Try.vcT, F, h.cell0, gets, vsD, if_true, if_false, Bool.false_eq_true]
  refine Sep.callN h (answer70 15 aW ⟨.slice none 0 0, .slice none 0 0, .slice (some ⟨b8, 0, none⟩) 1 1⟩ _ ⟨Tab.nil 9 _, Tab.nil 9 _, blk_ints (ns := [7]) h 3 rfl (by decide)⟩ aW_ok (by decide)) ?_
  clear h F
  intro e N w9 hQ h
  rw [aW_1, aW_2] at hQ
  obtain ⟨a9, c9, rfl, rfl⟩ := hQ
  (try simp only [nfD] at h); have F := h.facts; (try simp only [nfF, emp_fact, rds_fact, frm_fact, tab_fact, two_fact, inr_fact, ansX_fact] at F); try simp -dsimp only [↓vcA, vcB, vcD, ↓pureT_lenS, ↓iteT, ↓iteF, cond_true, cond_false, eq_self, argE, Env.get, Env.push, ev, evs, evo, retV, Value.cells, Value.oneCell', setR, overR, fillL, zl, places, allSizes, heldC, ne_eq, Int.reduceLE, Int.reduceLT, Int.reduceEq, Int.reduceNe, Int.reduceToNat, Int.cast_ofNat_Int, Nat.reduceMul, Nat.reduceLeDiff, reduceIte, Nat.reduceEqDiff, Nat.reduceAdd, ↓reduceIte, Try.vcT, F, h.cell0, gets, vsD, if_true, if_false, Bool.false_eq_true]
  refine Sep.callN h (told72 15 _ [0, 1, 0, 7] _ F.2.2.2.2.1 (by simp [Byt]) (by simp)) ?_
  clear h F
  intro e N w10 hQ h
  rw [aW_3, aW_4] at hQ
  obtain ⟨t, rfl, rfl⟩ := hQ
  (try simp only [nfD] at h); have F := h.facts; (try simp only [nfF, emp_fact, rds_fact, frm_fact, tab_fact, two_fact, inr_fact, ansX_fact] at F)
  have R := F.2.2.2.2.2.1
  obtain ⟨tp, tca, tla⟩ := t
  obtain ⟨Ap, Cp, ep⟩ := R.p.shape
  obtain ⟨Aca, Cca, eca⟩ := R.ca.shape
  obtain ⟨Ala, Cla, ela⟩ := R.la.shape
  dsimp only [aW, AnV.zero, List.length_nil, List.length_cons] at ep eca ela
  subst ep eca ela
  (try simp only [nfD] at h); have F := h.facts; (try simp only [nfF, emp_fact, rds_fact, frm_fact, tab_fact, two_fact, inr_fact, ansX_fact] at F); try simp -dsimp only [↓vcA, vcB, vcD, ↓pureT_lenS, ↓iteT, ↓iteF, cond_true, cond_false, eq_self, argE, Env.get, Env.push, ev, evs, evo, retV, Value.cells, Value.oneCell', setR, overR, fillL, zl, places, allSizes, heldC, ne_eq, Int.reduceLE, Int.reduceLT, Int.reduceEq, Int.reduceNe, Int.reduceToNat, Int.cast_ofNat_Int, Nat.reduceMul, Nat.reduceLeDiff, reduceIte, Nat.reduceEqDiff, Nat.reduceAdd, ↓reduceIte, Try.vcT, F, h.cell0, gets, vsD, if_true, if_false, Bool.false_eq_true,  AnV.cells, aW, AnV.zero]
  refine h.new ?_
  clear h F
  intro w11 b11 h
  (try simp only [nfD] at h); have F := h.facts; (try simp only [nfF, emp_fact, rds_fact, frm_fact, tab_fact, two_fact, inr_fact, ansX_fact] at F); try simp -dsimp only [↓vcA, vcB, vcD, ↓pureT_lenS, ↓iteT, ↓iteF, cond_true, cond_false, eq_self, argE, Env.get, Env.push, ev, evs, evo, retV, Value.cells, Value.oneCell', setR, overR, fillL, zl, places, allSizes, heldC, ne_eq, Int.reduceLE, Int.reduceLT, Int.reduceEq, Int.reduceNe, Int.reduceToNat, Int.cast_ofNat_Int, Nat.reduceMul, Nat.reduceLeDiff, reduceIte, Nat.reduceEqDiff, Nat.reduceAdd, ↓reduceIte, Try.vcT, F, h.cell0, gets, vsD, if_true, if_false, Bool.false_eq_true]
  refine Sep.put 6 h rfl ?_
  clear h F
  intro w12 h
  (try simp only [nfD] at h); have F := h.facts; (try simp only [nfF, emp_fact, rds_fact, frm_fact, tab_fact, two_fact, inr_fact, ansX_fact] at F); try simp -dsimp only [↓vcA, vcB, vcD, ↓pureT_lenS, ↓iteT, ↓iteF, cond_true, cond_false, eq_self, argE, Env.get, Env.push, ev, evs, evo, retV, Value.cells, Value.oneCell', setR, overR, fillL, zl, places, allSizes, heldC, ne_eq, Int.reduceLE, Int.reduceLT, Int.reduceEq, Int.reduceNe, Int.reduceToNat, Int.cast_ofNat_Int, Nat.reduceMul, Nat.reduceLeDiff, reduceIte, Nat.reduceEqDiff, Nat.reduceAdd, ↓reduceIte, Try.vcT, F, h.cell0, gets, vsD, if_true, if_false, Bool.false_eq_true]
  refine Sep.callN h (answer70 3 aW1 AnS.zero _ ⟨Tab.nil 9 _, Tab.nil 9 _, (show IntsR _ (.slice none 0 0) [] from Row.nil 1 _)⟩ aW1_ok (by decide)) ?_
  clear h F
  intro e N w13 hQ h
  rw [aW1_1, aW1_2] at hQ
  obtain ⟨a13, c13, rfl, rfl⟩ := hQ
  (try simp only [nfD] at h); have F := h.facts; (try simp only [nfF, emp_fact, rds_fact, frm_fact, tab_fact, two_fact, inr_fact, ansX_fact] at F); try simp -dsimp only [↓vcA, vcB, vcD, ↓pureT_lenS, ↓iteT, ↓iteF, cond_true, cond_false, eq_self, argE, Env.get, Env.push, ev, evs, evo, retV, Value.cells, Value.oneCell', setR, overR, fillL, zl, places, allSizes, heldC, ne_eq, Int.reduceLE, Int.reduceLT, Int.reduceEq, Int.reduceNe, Int.reduceToNat, Int.cast_ofNat_Int, Nat.reduceMul, Nat.reduceLeDiff, reduceIte, Nat.reduceEqDiff, Nat.reduceAdd, ↓reduceIte, Try.vcT, F, h.cell0, gets, vsD, if_true, if_false, Bool.false_eq_true]
  refine Sep.callN h (request66 Rq.zero _ zero_ok (rqP_byt _)) ?_
  clear h F
  intro e N w14 hQ h
  rw [qZ_1, qZ_2] at hQ
  obtain ⟨a14, c14, rfl, rfl⟩ := hQ
  have s1 : ((strOfNums [1, 0, 0, 1, 0, 0, 2]).toList == (⟨#[1, 0, 0, 1, 0, 0, 2]⟩ : ByteArray).toList) = true := by rw [strLit]; decide
  have s2 : ((strOfNums [0, 1, 0, 7]).toList == (⟨#[0, 1, 0, 7]⟩ : ByteArray).toList) = true := by rw [strLit]; decide
  have s3 : ((strOfNums [1]).toList == (⟨#[1]⟩ : ByteArray).toList) = true := by rw [strLit]; decide
  (try simp only [nfD] at h); have F := h.facts; (try simp only [nfF, emp_fact, rds_fact, frm_fact, tab_fact, two_fact, inr_fact, ansX_fact] at F); try simp -dsimp only [↓vcA, vcB, vcD, ↓pureT_lenS, ↓iteT, ↓iteF, cond_true, cond_false, eq_self, argE, Env.get, Env.push, ev, evs, evo, retV, Value.cells, Value.oneCell', setR, overR, fillL, zl, places, allSizes, heldC, ne_eq, Int.reduceLE, Int.reduceLT, Int.reduceEq, Int.reduceNe, Int.reduceToNat, Int.cast_ofNat_Int, Nat.reduceMul, Nat.reduceLeDiff, reduceIte, Nat.reduceEqDiff, Nat.reduceAdd, ↓reduceIte, Try.vcT, F, h.cell0, gets, vsD, if_true, if_false, Bool.false_eq_true]
  refine str_rule F.1 ?_
  (try simp only [nfD] at h); have F := h.facts; (try simp only [nfF, emp_fact, rds_fact, frm_fact, tab_fact, two_fact, inr_fact, ansX_fact] at F); try simp -dsimp only [↓vcA, vcB, vcD, ↓pureT_lenS, ↓iteT, ↓iteF, cond_true, cond_false, eq_self, argE, Env.get, Env.push, ev, evs, evo, retV, Value.cells, Value.oneCell', setR, overR, fillL, zl, places, allSizes, heldC, ne_eq, Int.reduceLE, Int.reduceLT, Int.reduceEq, Int.reduceNe, Int.reduceToNat, Int.cast_ofNat_Int, Nat.reduceMul, Nat.reduceLeDiff, reduceIte, Nat.reduceEqDiff, Nat.reduceAdd, ↓reduceIte, Try.vcT, F, h.cell0, gets, vsD, if_true, if_false, Bool.false_eq_true,  s1, cellsAt]
  refine binK_eql_agg (by kernel_rfl) (fun w => seqRq (d := 9996) 1 1 2 0 0 0 0 0 0 0 0 0 0 0 0 0 0 0 0 0 0 0 0 0 0 0 1 1 2 0 0 0 0 0 0 0 0 0 0 0 0 0 0 0 0 0 0 0 0 0 0 0 w) ?_
  (try simp only [nfD] at h); have F := h.facts; (try simp only [nfF, emp_fact, rds_fact, frm_fact, tab_fact, two_fact, inr_fact, ansX_fact] at F); try simp -dsimp only [↓vcA, vcB, vcD, ↓pureT_lenS, ↓iteT, ↓iteF, cond_true, cond_false, eq_self, argE, Env.get, Env.push, ev, evs, evo, retV, Value.cells, Value.oneCell', setR, overR, fillL, zl, places, allSizes, heldC, ne_eq, Int.reduceLE, Int.reduceLT, Int.reduceEq, Int.reduceNe, Int.reduceToNat, Int.cast_ofNat_Int, Nat.reduceMul, Nat.reduceLeDiff, reduceIte, Nat.reduceEqDiff, Nat.reduceAdd, ↓reduceIte, Try.vcT, F, h.cell0, gets, vsD, if_true, if_false, Bool.false_eq_true,  decide_true, s2]
  refine str_rule F.2.2.2.2.1 ?_
  have R := F.2.2.2.2.2.1
  obtain ⟨b, o, rfl, hc⟩ := R.la.at (i := 0) (by decide)
  have hc : w14.cell? ⟨b, o, none⟩ = some (.int .i64 7) := hc
  (try simp only [nfD] at h); have F := h.facts; (try simp only [nfF, emp_fact, rds_fact, frm_fact, tab_fact, two_fact, inr_fact, ansX_fact] at F); try simp -dsimp only [↓vcA, vcB, vcD, ↓pureT_lenS, ↓iteT, ↓iteF, cond_true, cond_false, eq_self, argE, Env.get, Env.push, ev, evs, evo, retV, Value.cells, Value.oneCell', setR, overR, fillL, zl, places, allSizes, heldC, ne_eq, Int.reduceLE, Int.reduceLT, Int.reduceEq, Int.reduceNe, Int.reduceToNat, Int.cast_ofNat_Int, Nat.reduceMul, Nat.reduceLeDiff, reduceIte, Nat.reduceEqDiff, Nat.reduceAdd, ↓reduceIte, Try.vcT, F, h.cell0, gets, vsD, if_true, if_false, Bool.false_eq_true,  s2, hc, cellsAt]
  refine str_rule F.2.2.2.2.2.2.2.1 ?_
  (try simp only [nfD] at h); have F := h.facts; (try simp only [nfF, emp_fact, rds_fact, frm_fact, tab_fact, two_fact, inr_fact, ansX_fact] at F); try simp -dsimp only [↓vcA, vcB, vcD, ↓pureT_lenS, ↓iteT, ↓iteF, cond_true, cond_false, eq_self, argE, Env.get, Env.push, ev, evs, evo, retV, Value.cells, Value.oneCell', setR, overR, fillL, zl, places, allSizes, heldC, ne_eq, Int.reduceLE, Int.reduceLT, Int.reduceEq, Int.reduceNe, Int.reduceToNat, Int.cast_ofNat_Int, Nat.reduceMul, Nat.reduceLeDiff, reduceIte, Nat.reduceEqDiff, Nat.reduceAdd, ↓reduceIte, Try.vcT, F, h.cell0, gets, vsD, if_true, if_false, Bool.false_eq_true,  s3]
  exact h.done
end Go.Proofs.Ytnhgjgoglmadnaa
namespace Go.Proofs.Ytnhgjgoglmadnaa
open Go.RowKit
set_option maxRecDepth 100000
set_option linter.unusedSimpArgs false
set_option linter.unusedVariables false
set_option pp.maxSteps 1500
set_option pp.deepTerms.threshold 8

theorem num_one {c : Int} (hc : 0 ≤ c ∧ c ≤ 255) (s : W8) : s.num c 1 = ⟨s.l ++ [c], s.bad⟩ := by
  have hf : fits c 1 = true := by
    simp only [fits, decide_eq_true_eq]
    refine ⟨by omega, by omega, by omega, fun _ => ?_⟩
    have e : ((2 : Int) ^ (8 * (1 : Int)).toNat) = 256 := by decide
    rw [e]; omega
  have hb : be c 1 = [c] := by
    have : be c 1 = [c / 2 ^ 0 % 256] := rfl
    rw [this]
    have e : (2 : Int) ^ 0 = 1 := by decide
    rw [e]
    congr 1
    omega
  simp only [W8.num, hf, if_true]
  rw [show (1 : Int).toNat = 1 from rfl, hb]
theorem num_big {c : Int} (hc : 256 ≤ c) (s : W8) : (s.num c 1).bad = true := by
  have hf : fits c 1 = false := by
    simp only [fits, decide_eq_false_iff_not]
    rintro ⟨_, _, _, h⟩
    have h := h (by omega)
    have e : ((2 : Int) ^ (8 * (1 : Int)).toNat) = 256 := by decide
    rw [e] at h; omega
  simp [W8.num, hf]
def codeA (c : Int) : AnV := {AnV.zero with code := c}
theorem code_W (z : Int) (a : AnV) {c : Int} (hc : 1 ≤ c ∧ c ≤ 255) : writtenW z {a with code := c} = ⟨[c], false⟩ := by
  unfold writtenW
  rw [if_neg (show ¬ c = 0 by omega)]
  show (⟨[], false⟩ : W8).num c 1 = _
  rw [num_one (by omega)]; rfl
theorem code_told (z : Int) {c : Int} (hc : 1 ≤ c ∧ c ≤ 255) (l : List Int) : toldA z (c :: l) = (codeA c, ⟨l, false⟩) := by
  obtain ⟨e1, e2⟩ := one_read (x := c) (by omega) l
  unfold toldA
  rw [e1, e2, if_neg (show ¬ c = 0 by omega)]; rfl
theorem code_ok (z : Int) {c : Int} (hc : 1 ≤ c ∧ c ≤ 255) : toldOk z [c] = true ∧ toldV z [c] = codeA c := by
  have h1 : toldOk z [c] = true := by
    unfold toldOk writtenB
    rw [code_told z hc, show (codeA c) = {AnV.zero with code := c} from rfl, code_W z AnV.zero hc]
    simp [R8.done]
  refine ⟨h1, ?_⟩
  unfold toldV
  rw [if_pos h1, code_told z hc]
theorem code_more (z : Int) {c : Int} (hc : 1 ≤ c ∧ c ≤ 255) (x : Int) (l : List Int) : toldOk z (c :: x :: l) = false ∧ toldV z (c :: x :: l) = AnV.zero := by
  have h1 : toldOk z (c :: x :: l) = false := by
    unfold toldOk
    rw [code_told z hc]
    simp [R8.done]
  exact ⟨h1, by unfold toldV; rw [h1]; rfl⟩
theorem toldQ_bad {s : R8} (h : s.bad = true) (z : Int) : (toldQ s z).2.bad = true := by
  have hv : (s.numV 1).toNat = 0 := by rw [(num_bad h 1).1]; rfl
  have h1 := numS_bad s 1 h
  have hp : (sPc s).bad = true := by
    cases e : (sPc s).bad with
    | true => rfl
    | false =>
      have a := (num1_ok (s := (s.triS.numS 1).numS 2) e).1
      have b := (num2_ok a).1
      have c := (num1_ok b).1
      have d := (tri_ok c).1.1
      rw [h] at d; cases d
  unfold toldQ
  split
  · exact hp
  split
  · rw [hv]; exact numS_bad _ 1 h1
  split
  · rw [hv]; exact numS_bad _ 1 h1
  split
  · rw [hv]; exact h1
  split
  · exact h1
  split
  · exact (raw_bad (numS_bad s 4 h) 8).2
  · exact h
theorem nil_told (z : Int) : toldOk z [] = false ∧ toldV z [] = AnV.zero := by
  have h1 : toldOk z [] = false := by
    obtain ⟨e1, e2⟩ := (⟨[], false⟩ : R8).num_no 1 (.inr (.inr (.inr (by decide))))
    have : (toldA z []).2.bad = true := by
      unfold toldA
      rw [e1, e2, if_pos rfl]
      exact toldQ_bad rfl z
    unfold toldOk
    simp [R8.done, this]
  exact ⟨h1, by unfold toldV; rw [h1]; rfl⟩
theorem few_room {a : AnV} (h : a.few = true) : a.room ≤ 5000 := by
  simp only [AnV.few, Bool.and_eq_true, decide_eq_true_eq] at h
  unfold AnV.room; omega
set_option maxHeartbeats 4000000 in
theorem walk18 (z k : Int) (a : AnV) (t : AnS) (w : World) (R : AnR w a t) (O : a.Ok) :
    Calls Try.prog 18 [.int .i64 z, .int .i64 k, .agg (a.cells t).toArray].toArray w (RetK fun r w' => r = .bool true ∧ Chg (fun _ => False) w w') := by
  obtain ⟨c, hc0, hc⟩ : ∃ c, c = 1 + k % 255 ∧ (1 ≤ c ∧ c ≤ 255) := ⟨_, rfl, by omega⟩
  have f1 := fun w' (R : AnR w' a t) => few64 a t w' R
  have a1 := fun w' (R : AnR w' a t) (hl : a.room ≤ 90000) => answer70 z {a with code := c} t w' ⟨R.p, R.ca, R.la⟩ ⟨⟨by show _ ≤ c; omega, by show c ≤ _; omega⟩, O.n, O.sum, O.p, O.ca, O.la⟩ hl
  have a2 := fun w' (R : AnR w' a t) (hl : a.room ≤ 90000) => answer70 z {a with code := c + 256} t w' ⟨R.p, R.ca, R.la⟩ ⟨⟨by show _ ≤ c + 256; omega, by show c + 256 ≤ _; omega⟩, O.n, O.sum, O.p, O.ca, O.la⟩ hl
  have hW := code_W z a hc
  obtain ⟨hk1, hk2⟩ := code_ok z hc
  have e1 : ansOk z {a with code := c} = true := by unfold ansOk; rw [hW, hk1]; rfl
  have e2 : ansB z {a with code := c} = [c] := by unfold ansB; rw [e1, hW]; rfl
  have e3 : ansOk z {a with code := c + 256} = false := by
    have : (writtenW z {a with code := c + 256}).bad = true := by
      unfold writtenW
      rw [if_neg (show ¬ c + 256 = 0 by omega)]
      exact num_big (show 256 ≤ c + 256 by omega) _
    unfold ansOk; rw [this]; rfl
  have e4 : ansB z {a with code := c + 256} = [] := by unfold ansB; rw [e3]; rfl
  rw [e1, e2] at a1
  rw [e3, e4] at a2
  have Rs : ∀ {M : List Res} {w' : World}, Sep w (fun _ => False) M w' → AnR w' a t := fun h => R.sep h
  obtain ⟨tp, tca, tla⟩ := t
  obtain ⟨ap, cp, ep⟩ := R.p.shape
  obtain ⟨aca, cca, eca⟩ := R.ca.shape
  obtain ⟨ala, cla, ela⟩ := R.la.shape
  dsimp only at ep eca ela
  subst ep eca ela
  simp only [AnV.cells] at f1 a1 a2
  have h := Sep.nil w
  refine walk Try.func18 rfl (by kernel_rfl) (by rw [Try.nt18]; simp) ?_
  (try simp only [nfD] at h); have F := h.facts; (try simp only [nfF, emp_fact, rds_fact, frm_fact, tab_fact, two_fact, inr_fact, ansX_fact] at F)
  simp -dsimp only [↓vcA, vcB, vcD, ↓pureT_lenS, ↓iteT, ↓iteF, cond_true, cond_false, eq_self, argE, Env.get, Env.push, ev, evs, evo, retV, Value.cells, Value.oneCell', setR, overR, fillL, zl, places, allSizes, heldC, ne_eq, Int.reduceLE, Int.reduceLT, Int.reduceEq, Int.reduceNe, Int.reduceToNat, Int.cast_ofNat_Int, Nat.reduceMul, Nat.reduceLeDiff, reduceIte, Nat.reduceEqDiff, Nat.reduceAdd, ↓reduceIte, Try.vcT, AnV.cells]
  refine h.new ?_
  clear h F
  intro w1 b1 h
  (try simp only [nfD] at h); have F := h.facts; (try simp only [nfF, emp_fact, rds_fact, frm_fact, tab_fact, two_fact, inr_fact, ansX_fact] at F); try simp -dsimp only [↓vcA, vcB, vcD, ↓pureT_lenS, ↓iteT, ↓iteF, cond_true, cond_false, eq_self, argE, Env.get, Env.push, ev, evs, evo, retV, Value.cells, Value.oneCell', setR, overR, fillL, zl, places, allSizes, heldC, ne_eq, Int.reduceLE, Int.reduceLT, Int.reduceEq, Int.reduceNe, Int.reduceToNat, Int.cast_ofNat_Int, Nat.reduceMul, Nat.reduceLeDiff, reduceIte, Nat.reduceEqDiff, Nat.reduceAdd, ↓reduceIte, Try.vcT, F, h.cell0, gets, vsD, if_true, if_false, Bool.false_eq_true,  cellsAt]
  refine Sep.callp h (f1 w1 (Rs h)) ?_
  clear h F
  intro w2 h
  have aw : ∀ {w' : World} {M : List Res} {K : Value → World → Prop}, Sep w (fun _ => False) M w' → (∀ w1, Sep w (fun _ => False) M w1 → K (.bool true) w1) → callsK Try.prog 65 [].toArray w' K := fun h hk => Sep.callp h (awake65 _) hk
  cases hfm : a.few with
  | false =>
    (try simp only [nfD] at h); have F := h.facts; (try simp only [nfF, emp_fact, rds_fact, frm_fact, tab_fact, two_fact, inr_fact, ansX_fact] at F); try simp -dsimp only [↓vcA, vcB, vcD, ↓pureT_lenS, ↓iteT, ↓iteF, cond_true, cond_false, eq_self, argE, Env.get, Env.push, ev, evs, evo, retV, Value.cells, Value.oneCell', setR, overR, fillL, zl, places, allSizes, heldC, ne_eq, Int.reduceLE, Int.reduceLT, Int.reduceEq, Int.reduceNe, Int.reduceToNat, Int.cast_ofNat_Int, Nat.reduceMul, Nat.reduceLeDiff, reduceIte, Nat.reduceEqDiff, Nat.reduceAdd, ↓reduceIte, Try.vcT, F, h.cell0, gets, vsD, if_true, if_false, Bool.false_eq_true,  hfm, cellsAt]
    refine aw h ?_
    clear h F
    intro w4 h
    (try simp only [nfD] at h); have F := h.facts; (try simp only [nfF, emp_fact, rds_fact, frm_fact, tab_fact, two_fact, inr_fact, ansX_fact] at F); try simp -dsimp only [↓vcA, vcB, vcD, ↓pureT_lenS, ↓iteT, ↓iteF, cond_true, cond_false, eq_self, argE, Env.get, Env.push, ev, evs, evo, retV, Value.cells, Value.oneCell', setR, overR, fillL, zl, places, allSizes, heldC, ne_eq, Int.reduceLE, Int.reduceLT, Int.reduceEq, Int.reduceNe, Int.reduceToNat, Int.cast_ofNat_Int, Nat.reduceMul, Nat.reduceLeDiff, reduceIte, Nat.reduceEqDiff, Nat.reduceAdd, ↓reduceIte, Try.vcT, F, h.cell0, gets, vsD, if_true, if_false, Bool.false_eq_true]
    exact h.done
  | true =>
  have hr := few_room hfm
  (try simp only [nfD] at h); have F := h.facts; (try simp only [nfF, emp_fact, rds_fact, frm_fact, tab_fact, two_fact, inr_fact, ansX_fact] at F); try simp -dsimp only [↓vcA, vcB, vcD, ↓pureT_lenS, ↓iteT, ↓iteF, cond_true, cond_false, eq_self, argE, Env.get, Env.push, ev, evs, evo, retV, Value.cells, Value.oneCell', setR, overR, fillL, zl, places, allSizes, heldC, ne_eq, Int.reduceLE, Int.reduceLT, Int.reduceEq, Int.reduceNe, Int.reduceToNat, Int.cast_ofNat_Int, Nat.reduceMul, Nat.reduceLeDiff, reduceIte, Nat.reduceEqDiff, Nat.reduceAdd, ↓reduceIte, Try.vcT, F, h.cell0, gets, vsD, if_true, if_false, Bool.false_eq_true,  hfm, cellsAt]
  refine Sep.callp h ((round k 255 _ (by omega) (by omega)).mono fun e w' ⟨r, e, er, ew⟩ => ⟨r, e, er, ew ▸ Chg.refl _ _⟩) ?_
  clear h F
  intro w3 h
  have ec : IntKind.i64.wrap (1 + k % 255) = c := by rw [i64w _ (by omega) (by omega)]; omega
  (try simp only [nfD] at h); have F := h.facts; (try simp only [nfF, emp_fact, rds_fact, frm_fact, tab_fact, two_fact, inr_fact, ansX_fact] at F); try simp -dsimp only [↓vcA, vcB, vcD, ↓pureT_lenS, ↓iteT, ↓iteF, cond_true, cond_false, eq_self, argE, Env.get, Env.push, ev, evs, evo, retV, Value.cells, Value.oneCell', setR, overR, fillL, zl, places, allSizes, heldC, ne_eq, Int.reduceLE, Int.reduceLT, Int.reduceEq, Int.reduceNe, Int.reduceToNat, Int.cast_ofNat_Int, Nat.reduceMul, Nat.reduceLeDiff, reduceIte, Nat.reduceEqDiff, Nat.reduceAdd, ↓reduceIte, Try.vcT, F, h.cell0, gets, vsD, if_true, if_false, Bool.false_eq_true,  ec]
  refine Sep.put 0 h rfl ?_
  clear h F
  intro w4 h
  (try simp only [nfD] at h); have F := h.facts; (try simp only [nfF, emp_fact, rds_fact, frm_fact, tab_fact, two_fact, inr_fact, ansX_fact] at F); try simp -dsimp only [↓vcA, vcB, vcD, ↓pureT_lenS, ↓iteT, ↓iteF, cond_true, cond_false, eq_self, argE, Env.get, Env.push, ev, evs, evo, retV, Value.cells, Value.oneCell', setR, overR, fillL, zl, places, allSizes, heldC, ne_eq, Int.reduceLE, Int.reduceLT, Int.reduceEq, Int.reduceNe, Int.reduceToNat, Int.cast_ofNat_Int, Nat.reduceMul, Nat.reduceLeDiff, reduceIte, Nat.reduceEqDiff, Nat.reduceAdd, ↓reduceIte, Try.vcT, F, h.cell0, gets, vsD, if_true, if_false, Bool.false_eq_true,  cellsAt]
  refine Sep.callN h (a1 _ (Rs h) (by omega)) ?_
  clear h F
  intro e N w5 hQ h
  obtain ⟨a5, c5, rfl, rfl⟩ := hQ
  have bc : Byt [c] := fun x hx => by simp only [List.mem_cons, List.not_mem_nil, or_false] at hx; subst hx; omega
  have bc0 : Byt [c, 0] := fun x hx => by simp only [List.mem_cons, List.not_mem_nil, or_false] at hx; rcases hx with rfl | rfl <;> omega
  (try simp only [nfD] at h); have F := h.facts; (try simp only [nfF, emp_fact, rds_fact, frm_fact, tab_fact, two_fact, inr_fact, ansX_fact] at F); try simp -dsimp only [↓vcA, vcB, vcD, ↓pureT_lenS, ↓iteT, ↓iteF, cond_true, cond_false, eq_self, argE, Env.get, Env.push, ev, evs, evo, retV, Value.cells, Value.oneCell', setR, overR, fillL, zl, places, allSizes, heldC, ne_eq, Int.reduceLE, Int.reduceLT, Int.reduceEq, Int.reduceNe, Int.reduceToNat, Int.cast_ofNat_Int, Nat.reduceMul, Nat.reduceLeDiff, reduceIte, Nat.reduceEqDiff, Nat.reduceAdd, ↓reduceIte, Try.vcT, F, h.cell0, gets, vsD, if_true, if_false, Bool.false_eq_true]
  refine Sep.callN h (told72 z _ [c] _ F.2.1 bc (by simp)) ?_
  clear h F
  intro e N w6 hQ h
  rw [hk1, hk2] at hQ
  obtain ⟨u, rfl, rfl⟩ := hQ
  (try simp only [nfD] at h); have F := h.facts; (try simp only [nfF, emp_fact, rds_fact, frm_fact, tab_fact, two_fact, inr_fact, ansX_fact] at F)
  have RU := F.2.2.1
  obtain ⟨up, uca, ula⟩ := u
  obtain ⟨Ap, Cp, ep⟩ := RU.p.shape
  obtain ⟨Aca, Cca, eca⟩ := RU.ca.shape
  obtain ⟨Ala, Cla, ela⟩ := RU.la.shape
  dsimp only at ep eca ela
  subst ep eca ela
  (try simp only [nfD] at h); have F := h.facts; (try simp only [nfF, emp_fact, rds_fact, frm_fact, tab_fact, two_fact, inr_fact, ansX_fact] at F); try simp -dsimp only [↓vcA, vcB, vcD, ↓pureT_lenS, ↓iteT, ↓iteF, cond_true, cond_false, eq_self, argE, Env.get, Env.push, ev, evs, evo, retV, Value.cells, Value.oneCell', setR, overR, fillL, zl, places, allSizes, heldC, ne_eq, Int.reduceLE, Int.reduceLT, Int.reduceEq, Int.reduceNe, Int.reduceToNat, Int.cast_ofNat_Int, Nat.reduceMul, Nat.reduceLeDiff, reduceIte, Nat.reduceEqDiff, Nat.reduceAdd, ↓reduceIte, Try.vcT, F, h.cell0, gets, vsD, if_true, if_false, Bool.false_eq_true,  AnV.cells]
  refine h.new ?_
  clear h F RU
  intro w7 b7 h
  (try simp only [nfD] at h); have F := h.facts; (try simp only [nfF, emp_fact, rds_fact, frm_fact, tab_fact, two_fact, inr_fact, ansX_fact] at F); try simp -dsimp only [↓vcA, vcB, vcD, ↓pureT_lenS, ↓iteT, ↓iteF, cond_true, cond_false, eq_self, argE, Env.get, Env.push, ev, evs, evo, retV, Value.cells, Value.oneCell', setR, overR, fillL, zl, places, allSizes, heldC, ne_eq, Int.reduceLE, Int.reduceLT, Int.reduceEq, Int.reduceNe, Int.reduceToNat, Int.cast_ofNat_Int, Nat.reduceMul, Nat.reduceLeDiff, reduceIte, Nat.reduceEqDiff, Nat.reduceAdd, ↓reduceIte, Try.vcT, F, h.cell0, gets, vsD, if_true, if_false, Bool.false_eq_true,  AnV.cells]
  refine Sep.put 3 h rfl ?_
  clear h F
  intro w8 h
  (try simp only [nfD] at h); have F := h.facts; (try simp only [nfF, emp_fact, rds_fact, frm_fact, tab_fact, two_fact, inr_fact, ansX_fact] at F); try simp -dsimp only [↓vcA, vcB, vcD, ↓pureT_lenS, ↓iteT, ↓iteF, cond_true, cond_false, eq_self, argE, Env.get, Env.push, ev, evs, evo, retV, Value.cells, Value.oneCell', setR, overR, fillL, zl, places, allSizes, heldC, ne_eq, Int.reduceLE, Int.reduceLT, Int.reduceEq, Int.reduceNe, Int.reduceToNat, Int.cast_ofNat_Int, Nat.reduceMul, Nat.reduceLeDiff, reduceIte, Nat.reduceEqDiff, Nat.reduceAdd, ↓reduceIte, Try.vcT, F, h.cell0, gets, vsD, if_true, if_false, Bool.false_eq_true]
  refine h.new ?_
  clear h F
  intro w9 b9 h
  have h := h.toRow 4 1 0 rfl rfl (by simp [maxLen])
  (try simp only [nfD] at h); have F := h.facts; (try simp only [nfF, emp_fact, rds_fact, frm_fact, tab_fact, two_fact, inr_fact, ansX_fact] at F); try simp -dsimp only [↓vcA, vcB, vcD, ↓pureT_lenS, ↓iteT, ↓iteF, cond_true, cond_false, eq_self, argE, Env.get, Env.push, ev, evs, evo, retV, Value.cells, Value.oneCell', setR, overR, fillL, zl, places, allSizes, heldC, ne_eq, Int.reduceLE, Int.reduceLT, Int.reduceEq, Int.reduceNe, Int.reduceToNat, Int.cast_ofNat_Int, Nat.reduceMul, Nat.reduceLeDiff, reduceIte, Nat.reduceEqDiff, Nat.reduceAdd, ↓reduceIte, Try.vcT, F, h.cell0, gets, vsD, if_true, if_false, Bool.false_eq_true]
  refine Sep.app (n := 0) (m := 1) 4 Try.info5 Try.underlying22 rfl (by decide) h rfl F.2.1.row (by simp) (by simp [maxLen]) ?_
  clear h F
  intro a10 c10 w10 h
  simp only [Nat.zero_add, List.nil_append] at h ⊢
  (try simp only [nfD] at h); have F := h.facts; (try simp only [nfF, emp_fact, rds_fact, frm_fact, tab_fact, two_fact, inr_fact, ansX_fact] at F); try simp -dsimp only [↓vcA, vcB, vcD, ↓pureT_lenS, ↓iteT, ↓iteF, cond_true, cond_false, eq_self, argE, Env.get, Env.push, ev, evs, evo, retV, Value.cells, Value.oneCell', setR, overR, fillL, zl, places, allSizes, heldC, ne_eq, Int.reduceLE, Int.reduceLT, Int.reduceEq, Int.reduceNe, Int.reduceToNat, Int.cast_ofNat_Int, Nat.reduceMul, Nat.reduceLeDiff, reduceIte, Nat.reduceEqDiff, Nat.reduceAdd, ↓reduceIte, Try.vcT, F, h.cell0, gets, vsD, if_true, if_false, Bool.false_eq_true]
  refine h.new ?_
  clear h F
  intro w11 b11 h
  have h := h.toRow 5 1 1 rfl rfl (by simp [maxLen])
  have h := h.conv 5 rfl (fun A => row_byt _ [0] _ A) (fun _ f => f)
  (try simp only [nfD] at h); have F := h.facts; (try simp only [nfF, emp_fact, rds_fact, frm_fact, tab_fact, two_fact, inr_fact, ansX_fact] at F); try simp -dsimp only [↓vcA, vcB, vcD, ↓pureT_lenS, ↓iteT, ↓iteF, cond_true, cond_false, eq_self, argE, Env.get, Env.push, ev, evs, evo, retV, Value.cells, Value.oneCell', setR, overR, fillL, zl, places, allSizes, heldC, ne_eq, Int.reduceLE, Int.reduceLT, Int.reduceEq, Int.reduceNe, Int.reduceToNat, Int.cast_ofNat_Int, Nat.reduceMul, Nat.reduceLeDiff, reduceIte, Nat.reduceEqDiff, Nat.reduceAdd, ↓reduceIte, Try.vcT, F, h.cell0, gets, vsD, if_true, if_false, Bool.false_eq_true]
  refine Sep.app (n := 1) (m := 1) 4 Try.info5 Try.underlying22 rfl (by decide) h rfl F.2.2.2.2.2.1.row (by simp) (by simp [maxLen]) ?_
  clear h F
  intro a12 c12 w12 h
  have h := h.conv (r' := byt (.slice a12 2 c12) [c, 0]) 4 rfl (fun A hA => row_byt _ [c, 0] _ A (by simpa [u8s] using hA)) (fun _ f => f)
  obtain ⟨m1, m2⟩ := code_more z hc 0 []
  (try simp only [nfD] at h); have F := h.facts; (try simp only [nfF, emp_fact, rds_fact, frm_fact, tab_fact, two_fact, inr_fact, ansX_fact] at F); try simp -dsimp only [↓vcA, vcB, vcD, ↓pureT_lenS, ↓iteT, ↓iteF, cond_true, cond_false, eq_self, argE, Env.get, Env.push, ev, evs, evo, retV, Value.cells, Value.oneCell', setR, overR, fillL, zl, places, allSizes, heldC, ne_eq, Int.reduceLE, Int.reduceLT, Int.reduceEq, Int.reduceNe, Int.reduceToNat, Int.cast_ofNat_Int, Nat.reduceMul, Nat.reduceLeDiff, reduceIte, Nat.reduceEqDiff, Nat.reduceAdd, ↓reduceIte, Try.vcT, F, h.cell0, gets, vsD, if_true, if_false, Bool.false_eq_true]
  refine Sep.callN h (told72 z _ [c, 0] _ F.2.2.2.2.1 bc0 (by simp)) ?_
  clear h F
  intro e N w13 hQ h
  rw [m1, m2] at hQ
  obtain ⟨u, rfl, rfl⟩ := hQ
  (try simp only [nfD] at h); have F := h.facts; (try simp only [nfF, emp_fact, rds_fact, frm_fact, tab_fact, two_fact, inr_fact, ansX_fact] at F)
  have RU := F.2.2.2.2.2.2.1
  obtain ⟨up, uca, ula⟩ := u
  obtain ⟨A'p, C'p, ep⟩ := RU.p.shape
  obtain ⟨A'ca, C'ca, eca⟩ := RU.ca.shape
  obtain ⟨A'la, C'la, ela⟩ := RU.la.shape
  dsimp only at ep eca ela
  subst ep eca ela
  (try simp only [nfD] at h); have F := h.facts; (try simp only [nfF, emp_fact, rds_fact, frm_fact, tab_fact, two_fact, inr_fact, ansX_fact] at F); try simp -dsimp only [↓vcA, vcB, vcD, ↓pureT_lenS, ↓iteT, ↓iteF, cond_true, cond_false, eq_self, argE, Env.get, Env.push, ev, evs, evo, retV, Value.cells, Value.oneCell', setR, overR, fillL, zl, places, allSizes, heldC, ne_eq, Int.reduceLE, Int.reduceLT, Int.reduceEq, Int.reduceNe, Int.reduceToNat, Int.cast_ofNat_Int, Nat.reduceMul, Nat.reduceLeDiff, reduceIte, Nat.reduceEqDiff, Nat.reduceAdd, ↓reduceIte, Try.vcT, F, h.cell0, gets, vsD, if_true, if_false, Bool.false_eq_true,  AnV.cells]
  refine h.new ?_
  clear h F RU
  intro w14 b14 h
  (try simp only [nfD] at h); have F := h.facts; (try simp only [nfF, emp_fact, rds_fact, frm_fact, tab_fact, two_fact, inr_fact, ansX_fact] at F); try simp -dsimp only [↓vcA, vcB, vcD, ↓pureT_lenS, ↓iteT, ↓iteF, cond_true, cond_false, eq_self, argE, Env.get, Env.push, ev, evs, evo, retV, Value.cells, Value.oneCell', setR, overR, fillL, zl, places, allSizes, heldC, ne_eq, Int.reduceLE, Int.reduceLT, Int.reduceEq, Int.reduceNe, Int.reduceToNat, Int.cast_ofNat_Int, Nat.reduceMul, Nat.reduceLeDiff, reduceIte, Nat.reduceEqDiff, Nat.reduceAdd, ↓reduceIte, Try.vcT, F, h.cell0, gets, vsD, if_true, if_false, Bool.false_eq_true,  AnV.cells]
  refine Sep.put 7 h rfl ?_
  clear h F
  intro w15 h
  (try simp only [nfD] at h); have F := h.facts; (try simp only [nfF, emp_fact, rds_fact, frm_fact, tab_fact, two_fact, inr_fact, ansX_fact] at F); try simp -dsimp only [↓vcA, vcB, vcD, ↓pureT_lenS, ↓iteT, ↓iteF, cond_true, cond_false, eq_self, argE, Env.get, Env.push, ev, evs, evo, retV, Value.cells, Value.oneCell', setR, overR, fillL, zl, places, allSizes, heldC, ne_eq, Int.reduceLE, Int.reduceLT, Int.reduceEq, Int.reduceNe, Int.reduceToNat, Int.cast_ofNat_Int, Nat.reduceMul, Nat.reduceLeDiff, reduceIte, Nat.reduceEqDiff, Nat.reduceAdd, ↓reduceIte, Try.vcT, F, h.cell0, gets, vsD, if_true, if_false, Bool.false_eq_true]
  obtain ⟨m3, m4⟩ := nil_told z
  refine Sep.callN h (told72 z _ [] _ (Rd.nil _) Byt.nil (by simp)) ?_
  clear h F
  intro e N w16 hQ h
  rw [m3, m4] at hQ
  obtain ⟨u, rfl, rfl⟩ := hQ
  (try simp only [nfD] at h); have F := h.facts; (try simp only [nfF, emp_fact, rds_fact, frm_fact, tab_fact, two_fact, inr_fact, ansX_fact] at F)
  have RU := F.2.2.2.2.2.2.2.2.1
  obtain ⟨up, uca, ula⟩ := u
  obtain ⟨B'p, D'p, ep⟩ := RU.p.shape
  obtain ⟨B'ca, D'ca, eca⟩ := RU.ca.shape
  obtain ⟨B'la, D'la, ela⟩ := RU.la.shape
  dsimp only at ep eca ela
  subst ep eca ela
  (try simp only [nfD] at h); have F := h.facts; (try simp only [nfF, emp_fact, rds_fact, frm_fact, tab_fact, two_fact, inr_fact, ansX_fact] at F); try simp -dsimp only [↓vcA, vcB, vcD, ↓pureT_lenS, ↓iteT, ↓iteF, cond_true, cond_false, eq_self, argE, Env.get, Env.push, ev, evs, evo, retV, Value.cells, Value.oneCell', setR, overR, fillL, zl, places, allSizes, heldC, ne_eq, Int.reduceLE, Int.reduceLT, Int.reduceEq, Int.reduceNe, Int.reduceToNat, Int.cast_ofNat_Int, Nat.reduceMul, Nat.reduceLeDiff, reduceIte, Nat.reduceEqDiff, Nat.reduceAdd, ↓reduceIte, Try.vcT, F, h.cell0, gets, vsD, if_true, if_false, Bool.false_eq_true,  AnV.cells]
  refine h.new ?_
  clear h F RU
  intro w17 b17 h
  (try simp only [nfD] at h); have F := h.facts; (try simp only [nfF, emp_fact, rds_fact, frm_fact, tab_fact, two_fact, inr_fact, ansX_fact] at F); try simp -dsimp only [↓vcA, vcB, vcD, ↓pureT_lenS, ↓iteT, ↓iteF, cond_true, cond_false, eq_self, argE, Env.get, Env.push, ev, evs, evo, retV, Value.cells, Value.oneCell', setR, overR, fillL, zl, places, allSizes, heldC, ne_eq, Int.reduceLE, Int.reduceLT, Int.reduceEq, Int.reduceNe, Int.reduceToNat, Int.cast_ofNat_Int, Nat.reduceMul, Nat.reduceLeDiff, reduceIte, Nat.reduceEqDiff, Nat.reduceAdd, ↓reduceIte, Try.vcT, F, h.cell0, gets, vsD, if_true, if_false, Bool.false_eq_true,  AnV.cells]
  refine Sep.put 9 h rfl ?_
  clear h F
  intro w18 h
  have ec2 : IntKind.i64.wrap (c + 256) = c + 256 := i64w _ (by omega) (by omega)
  (try simp only [nfD] at h); have F := h.facts; (try simp only [nfF, emp_fact, rds_fact, frm_fact, tab_fact, two_fact, inr_fact, ansX_fact] at F); try simp -dsimp only [↓vcA, vcB, vcD, ↓pureT_lenS, ↓iteT, ↓iteF, cond_true, cond_false, eq_self, argE, Env.get, Env.push, ev, evs, evo, retV, Value.cells, Value.oneCell', setR, overR, fillL, zl, places, allSizes, heldC, ne_eq, Int.reduceLE, Int.reduceLT, Int.reduceEq, Int.reduceNe, Int.reduceToNat, Int.cast_ofNat_Int, Nat.reduceMul, Nat.reduceLeDiff, reduceIte, Nat.reduceEqDiff, Nat.reduceAdd, ↓reduceIte, Try.vcT, F, h.cell0, gets, vsD, if_true, if_false, Bool.false_eq_true,  ec2, cellsAt]
  refine Sep.put 0 h rfl ?_
  clear h F
  intro w19 h
  (try simp only [nfD] at h); have F := h.facts; (try simp only [nfF, emp_fact, rds_fact, frm_fact, tab_fact, two_fact, inr_fact, ansX_fact] at F); try simp -dsimp only [↓vcA, vcB, vcD, ↓pureT_lenS, ↓iteT, ↓iteF, cond_true, cond_false, eq_self, argE, Env.get, Env.push, ev, evs, evo, retV, Value.cells, Value.oneCell', setR, overR, fillL, zl, places, allSizes, heldC, ne_eq, Int.reduceLE, Int.reduceLT, Int.reduceEq, Int.reduceNe, Int.reduceToNat, Int.cast_ofNat_Int, Nat.reduceMul, Nat.reduceLeDiff, reduceIte, Nat.reduceEqDiff, Nat.reduceAdd, ↓reduceIte, Try.vcT, F, h.cell0, gets, vsD, if_true, if_false, Bool.false_eq_true,  cellsAt]
  refine Sep.callN h (a2 _ (Rs h) (by omega)) ?_
  clear h F
  intro e N w20 hQ h
  obtain ⟨a20, c20, rfl, rfl⟩ := hQ
  (try simp only [nfD] at h); have F := h.facts; (try simp only [nfF, emp_fact, rds_fact, frm_fact, tab_fact, two_fact, inr_fact, ansX_fact] at F)
  obtain ⟨b, o, rfl, hcx⟩ := F.2.1.at' (i := 0) (by simp)
  have hcx : w20.cell? ⟨b, o, none⟩ = some (.int .u8 c) := hcx
  have s1 := same74 (codeA c) (codeA c) _ AnS.zero w20 F.2.2.1 ⟨Tab.nil 9 _, Tab.nil 9 _, (show IntsR _ (.slice none 0 0) [] from Row.nil 1 _)⟩
  simp only [AnV.cells, codeA, AnV.zero, AnS.zero, decide_true] at s1
  have ei : IntKind.i64.wrap c = c := i64w _ (by omega) (by omega)
  clear F
  (try simp only [nfD] at h); have F := h.facts; (try simp only [nfF, emp_fact, rds_fact, frm_fact, tab_fact, two_fact, inr_fact, ansX_fact] at F); try simp -dsimp only [↓vcA, vcB, vcD, ↓pureT_lenS, ↓iteT, ↓iteF, cond_true, cond_false, eq_self, argE, Env.get, Env.push, ev, evs, evo, retV, Value.cells, Value.oneCell', setR, overR, fillL, zl, places, allSizes, heldC, ne_eq, Int.reduceLE, Int.reduceLT, Int.reduceEq, Int.reduceNe, Int.reduceToNat, Int.cast_ofNat_Int, Nat.reduceMul, Nat.reduceLeDiff, reduceIte, Nat.reduceEqDiff, Nat.reduceAdd, ↓reduceIte, Try.vcT, F, h.cell0, gets, vsD, if_true, if_false, Bool.false_eq_true,  hcx, cellsAt, ei, decide_true]
  refine Sep.callp h s1 ?_
  clear h s1 hcx
  intro w21 h
  (try simp only [nfD] at h); have F := h.facts; (try simp only [nfF, emp_fact, rds_fact, frm_fact, tab_fact, two_fact, inr_fact, ansX_fact] at F); try simp -dsimp only [↓vcA, vcB, vcD, ↓pureT_lenS, ↓iteT, ↓iteF, cond_true, cond_false, eq_self, argE, Env.get, Env.push, ev, evs, evo, retV, Value.cells, Value.oneCell', setR, overR, fillL, zl, places, allSizes, heldC, ne_eq, Int.reduceLE, Int.reduceLT, Int.reduceEq, Int.reduceNe, Int.reduceToNat, Int.cast_ofNat_Int, Nat.reduceMul, Nat.reduceLeDiff, reduceIte, Nat.reduceEqDiff, Nat.reduceAdd, ↓reduceIte, Try.vcT, F, h.cell0, gets, vsD, if_true, if_false, Bool.false_eq_true,  decide_true]
  refine aw h ?_
  clear h F
  intro w22 h
  (try simp only [nfD] at h); have F := h.facts; (try simp only [nfF, emp_fact, rds_fact, frm_fact, tab_fact, two_fact, inr_fact, ansX_fact] at F); try simp -dsimp only [↓vcA, vcB, vcD, ↓pureT_lenS, ↓iteT, ↓iteF, cond_true, cond_false, eq_self, argE, Env.get, Env.push, ev, evs, evo, retV, Value.cells, Value.oneCell', setR, overR, fillL, zl, places, allSizes, heldC, ne_eq, Int.reduceLE, Int.reduceLT, Int.reduceEq, Int.reduceNe, Int.reduceToNat, Int.cast_ofNat_Int, Nat.reduceMul, Nat.reduceLeDiff, reduceIte, Nat.reduceEqDiff, Nat.reduceAdd, ↓reduceIte, Try.vcT, F, h.cell0, gets, vsD, if_true, if_false, Bool.false_eq_true]
  exact h.done
end Go.Proofs.Ytnhgjgoglmadnaa
