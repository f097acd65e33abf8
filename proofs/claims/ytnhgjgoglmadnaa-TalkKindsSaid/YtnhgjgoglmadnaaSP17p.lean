/- Joined texts of this claim (part 16), printed by a program of this work. The last part holds the claimed theorem: the law answers true at every input of its row. -/
import Derived.Test.YtnhgjgoglmadnaaSP17o
namespace Go.Proofs.Ytnhgjgoglmadnaa
open Go.RowKit
set_option maxRecDepth 100000
set_option linter.unusedSimpArgs false
set_option linter.unusedVariables false
set_option pp.maxSteps 1500
set_option pp.deepTerms.threshold 8

theorem Sep.bytOpen (i : Nat) {w0 w : World} {S : Nat → Prop} {M : List Res} {a : Option Addr} {n c : Nat} {xs : List Int} (h : Sep w0 S M w) (hi : M[i]? = some (byt (.slice a n c) xs)) (hx : 0 < xs.length) :
    ∃ g cur, a = some ⟨g, 0, Option.none⟩ ∧ Sep w0 S (M.set i (blk g 5 cur)) w ∧ cur.take xs.length = u8s xs ∧ cur.length = c ∧ xs.length ≤ c ∧ c ≤ maxLen := by
  obtain ⟨A, ⟨h1, hA⟩, _, h3⟩ := h.at hi
  rcases h1.2 with ⟨_, hz⟩ | ⟨g, cap, cur, e, hb, hg, k1, k2, k3, k4⟩
  · omega
  injection e with e1 e2 e3
  subst e1 e3
  refine ⟨g, cur.toList, rfl, h3 _ A w ⟨by simpa using hg, ?_⟩ (fun x hx => .inl hx) (Chg.refl _ _) (fun _ f => f), by simpa using k4, by simpa using k3, k1, k2⟩
  rw [hA]; funext x; simp [Value.ownBlock, eq_comm]
theorem Sep.bytShut (i : Nat) {w0 w : World} {S : Nat → Prop} {M : List Res} {g c : Nat} {cur : List Value} (xs : List Int) (h : Sep w0 S M w) (hi : M[i]? = some (blk g 5 cur)) (h1 : cur.take xs.length = u8s xs) (h2 : cur.length = c) (h3 : xs.length ≤ c) (h4 : c ≤ maxLen) :
    Sep w0 S (M.set i (byt (.slice (some ⟨g, 0, Option.none⟩) xs.length c) xs)) w :=
  h.conv i hi (fun A ⟨k1, e⟩ => ⟨⟨by simp [u8s], .inr ⟨g, c, cur.toArray, rfl, Nat.zero_le _, k1, h3, h4, by simpa using h2, by simpa using h1⟩⟩, by rw [e]; funext x; simp [Value.ownBlock, eq_comm]⟩) (fun _ f => f)
def wants : List Int := [0, 7, 20, 7, 19, 7, 7, 13, 13, 15, 6, 6, 12, 4, 5, 2, 1]
theorem wants_eq {n : Nat} (h : 1 ≤ n ∧ n ≤ 16) : wants[n]? = some (sizeR n : Int) ∧ (form n).isSome = true := by
  have : n = 1 ∨ n = 2 ∨ n = 3 ∨ n = 4 ∨ n = 5 ∨ n = 6 ∨ n = 7 ∨ n = 8 ∨ n = 9 ∨ n = 10 ∨ n = 11 ∨ n = 12 ∨ n = 13 ∨ n = 14 ∨ n = 15 ∨ n = 16 := by omega
  clear h
  rcases this with rfl | rfl | rfl | rfl | rfl | rfl | rfl | rfl | rfl | rfl | rfl | rfl | rfl | rfl | rfl | rfl
  all_goals decide +kernel
theorem kinds_ok {n : Nat} {l : List Int} (h : 1 ≤ n ∧ n ≤ 16) (h2 : n ≠ 2) (hl : l.length + 1 = sizeR n) : askROk ((n : Int) :: l) = true := by
  rw [askROk_cons (by omega) l (by omega), (wants_eq h).2, decide_eq_true hl]; rfl
theorem kinds_no {n : Nat} {l : List Int} (hb : Byt ((n : Int) :: l)) (h : (1 ≤ n ∧ n ≤ 16) → l.length + 1 ≠ sizeR n) : askROk ((n : Int) :: l) = false := by
  cases e : askROk ((n : Int) :: l) with
  | false => rfl
  | true =>
    obtain ⟨x, m, e1, e2, e3, e4⟩ := askROk_len hb e
    injection e1 with e5 e6
    subst e5 e6
    have := form_kinds e3
    exact absurd e4 (h (by omega))
set_option maxHeartbeats 4000000 in
theorem walk17 (r : Rq) (kind : Int) (w : World) (hO : Ok64 r.vals) (hkind : 0 ≤ kind ∧ kind ≤ 255) :
    Calls Try.prog 17 [.agg r.cells.toArray, .int .u8 kind].toArray w (RetK fun r w' => r = .bool true ∧ Chg (fun _ => False) w w') := by
  have h := Sep.nil w
  obtain ⟨kn, rfl⟩ := Int.eq_ofNat_of_zero_le hkind.1
  refine walk Try.func17 rfl (by kernel_rfl) (by rw [Try.nt17]; simp) ?_
  (try simp only [nfD] at h); have F := h.facts; (try simp only [nfF, emp_fact, rds_fact, frm_fact, tab_fact, two_fact, inr_fact, ansX_fact] at F)
  simp -dsimp only [↓vcA, vcB, vcD, ↓pureT_lenS, ↓iteT, ↓iteF, cond_true, cond_false, eq_self, argE, Env.get, Env.push, ev, evs, evo, retV, Value.cells, Value.oneCell', setR, overR, fillL, zl, places, allSizes, heldC, ne_eq, Int.reduceLE, Int.reduceLT, Int.reduceEq, Int.reduceNe, Int.reduceToNat, Int.cast_ofNat_Int, Nat.reduceMul, Nat.reduceLeDiff, reduceIte, Nat.reduceEqDiff, Nat.reduceAdd, ↓reduceIte, Try.vcT, Rq.cells]
  refine h.new ?_
  clear h F
  intro w1 b1 h
  have aw : ∀ {w' : World} {M : List Res} {K : Value → World → Prop}, Sep w (fun _ => False) M w' → (∀ w1, Sep w (fun _ => False) M w1 → K (.bool true) w1) → callsK Try.prog 65 [].toArray w' K := fun h hk => Sep.callp h (awake65 _) hk
  (try simp only [nfD] at h); have F := h.facts; (try simp only [nfF, emp_fact, rds_fact, frm_fact, tab_fact, two_fact, inr_fact, ansX_fact] at F); try simp -dsimp only [↓vcA, vcB, vcD, ↓pureT_lenS, ↓iteT, ↓iteF, cond_true, cond_false, eq_self, argE, Env.get, Env.push, ev, evs, evo, retV, Value.cells, Value.oneCell', setR, overR, fillL, zl, places, allSizes, heldC, ne_eq, Int.reduceLE, Int.reduceLT, Int.reduceEq, Int.reduceNe, Int.reduceToNat, Int.cast_ofNat_Int, Nat.reduceMul, Nat.reduceLeDiff, reduceIte, Nat.reduceEqDiff, Nat.reduceAdd, ↓reduceIte, Try.vcT, F, h.cell0, gets, vsD, if_true, if_false, Bool.false_eq_true,  cellsAt]
  refine Sep.callN h (request66 r w1 hO (rqP_byt _)) ?_
  clear h F
  intro e N w2 hQ h
  obtain ⟨a2, c2, rfl, rfl⟩ := hQ
  cases hf : rqPOk r with
  | false =>
    (try simp only [nfD] at h); have F := h.facts; (try simp only [nfF, emp_fact, rds_fact, frm_fact, tab_fact, two_fact, inr_fact, ansX_fact] at F); try simp -dsimp only [↓vcA, vcB, vcD, ↓pureT_lenS, ↓iteT, ↓iteF, cond_true, cond_false, eq_self, argE, Env.get, Env.push, ev, evs, evo, retV, Value.cells, Value.oneCell', setR, overR, fillL, zl, places, allSizes, heldC, ne_eq, Int.reduceLE, Int.reduceLT, Int.reduceEq, Int.reduceNe, Int.reduceToNat, Int.cast_ofNat_Int, Nat.reduceMul, Nat.reduceLeDiff, reduceIte, Nat.reduceEqDiff, Nat.reduceAdd, ↓reduceIte, Try.vcT, F, h.cell0, gets, vsD, if_true, if_false, Bool.false_eq_true,  if_true, if_false, Bool.not_true, Bool.not_false, Bool.false_eq_true]
    refine aw h ?_
    clear h F
    intro w3 h
    (try simp only [nfD] at h); have F := h.facts; (try simp only [nfF, emp_fact, rds_fact, frm_fact, tab_fact, two_fact, inr_fact, ansX_fact] at F); try simp -dsimp only [↓vcA, vcB, vcD, ↓pureT_lenS, ↓iteT, ↓iteF, cond_true, cond_false, eq_self, argE, Env.get, Env.push, ev, evs, evo, retV, Value.cells, Value.oneCell', setR, overR, fillL, zl, places, allSizes, heldC, ne_eq, Int.reduceLE, Int.reduceLT, Int.reduceEq, Int.reduceNe, Int.reduceToNat, Int.cast_ofNat_Int, Nat.reduceMul, Nat.reduceLeDiff, reduceIte, Nat.reduceEqDiff, Nat.reduceAdd, ↓reduceIte, Try.vcT, F, h.cell0, gets, vsD, if_true, if_false, Bool.false_eq_true]
    exact h.done
  | true =>
  obtain ⟨hform, _, _⟩ := rqPOk_parts hf
  have hrk := form_kinds hform
  obtain ⟨hby, hpO, ⟨hpos, hlen⟩, ha, hv, hk0, hpok, hpb⟩ := Rq.said hf
  have hsz : ((rqPB r).length : Int) = sizeR r.k := by
    obtain ⟨x, l, e, _, _, e4⟩ := askROk_len hby ha
    have h0 : (rqPB r).headD 0 = r.k := by
      have e5 : askRV (rqPB r) = r.pick := hv
      have e6 : (askRV (rqPB r)).k = x := by
        have : askRV (rqPB r) = (askR ⟨rqPB r, false⟩).1 := by unfold askRV; rw [ha]; rfl
        rw [this, askR_eq, e]
        exact (one_read (hby x (by rw [e]; exact .head _)) l).1
      rw [e]; show x = r.k
      rw [← e6, e5]; exact hk0
    rw [e] at h0
    have : x = r.k := h0
    rw [e4, this]
  (try simp only [nfD] at h); have F := h.facts; (try simp only [nfF, emp_fact, rds_fact, frm_fact, tab_fact, two_fact, inr_fact, ansX_fact] at F); try simp -dsimp only [↓vcA, vcB, vcD, ↓pureT_lenS, ↓iteT, ↓iteF, cond_true, cond_false, eq_self, argE, Env.get, Env.push, ev, evs, evo, retV, Value.cells, Value.oneCell', setR, overR, fillL, zl, places, allSizes, heldC, ne_eq, Int.reduceLE, Int.reduceLT, Int.reduceEq, Int.reduceNe, Int.reduceToNat, Int.cast_ofNat_Int, Nat.reduceMul, Nat.reduceLeDiff, reduceIte, Nat.reduceEqDiff, Nat.reduceAdd, ↓reduceIte, Try.vcT, F, h.cell0, gets, vsD, if_true, if_false, Bool.false_eq_true,  if_true, if_false, Bool.not_true, Bool.not_false, Bool.false_eq_true]
  refine h.new ?_
  clear h F
  intro w3 b3 h
  have tabAt : ∀ n : Nat, 1 ≤ n ∧ n ≤ 16 → (wants.map (Value.int .i64))[n]? = some (.int .i64 (sizeR n)) := fun n hn => by
    rw [List.getElem?_map, (wants_eq hn).1]; rfl
  simp only [wants, List.map_cons, List.map_nil] at tabAt
  obtain ⟨n, hn⟩ := Int.eq_ofNat_of_zero_le (a := r.k) (by omega)
  have t1 := tabAt n (by omega)
  have n1 : ¬ (n : Int) < 1 := by omega
  have n2 : ¬ (n : Int) > 16 := by omega
  rw [hn] at hsz
  have hszd : decide (((rqPB r).length : Int) = (sizeR n : Int)) = true := decide_eq_true hsz
  (try simp only [nfD] at h); have F := h.facts; (try simp only [nfF, emp_fact, rds_fact, frm_fact, tab_fact, two_fact, inr_fact, ansX_fact] at F); try simp -dsimp only [↓vcA, vcB, vcD, ↓pureT_lenS, ↓iteT, ↓iteF, cond_true, cond_false, eq_self, argE, Env.get, Env.push, ev, evs, evo, retV, Value.cells, Value.oneCell', setR, overR, fillL, zl, places, allSizes, heldC, ne_eq, Int.reduceLE, Int.reduceLT, Int.reduceEq, Int.reduceNe, Int.reduceToNat, Int.cast_ofNat_Int, Nat.reduceMul, Nat.reduceLeDiff, reduceIte, Nat.reduceEqDiff, Nat.reduceAdd, ↓reduceIte, Try.vcT, F, h.cell0, gets, vsD, if_true, if_false, Bool.false_eq_true,  hn, decide_eq_false n1, decide_eq_false n2, t1, hszd, if_true, if_false, Bool.not_true, Bool.not_false, Bool.false_eq_true]
  refine ⟨⟨by omega, by omega⟩, ?_⟩
  (try simp only [nfD] at h); have F := h.facts; (try simp only [nfF, emp_fact, rds_fact, frm_fact, tab_fact, two_fact, inr_fact, ansX_fact] at F); try simp -dsimp only [↓vcA, vcB, vcD, ↓pureT_lenS, ↓iteT, ↓iteF, cond_true, cond_false, eq_self, argE, Env.get, Env.push, ev, evs, evo, retV, Value.cells, Value.oneCell', setR, overR, fillL, zl, places, allSizes, heldC, ne_eq, Int.reduceLE, Int.reduceLT, Int.reduceEq, Int.reduceNe, Int.reduceToNat, Int.cast_ofNat_Int, Nat.reduceMul, Nat.reduceLeDiff, reduceIte, Nat.reduceEqDiff, Nat.reduceAdd, ↓reduceIte, Try.vcT, F, h.cell0, gets, vsD, if_true, if_false, Bool.false_eq_true,  hn, decide_eq_false n1, decide_eq_false n2, t1, hszd, if_true, if_false, Bool.not_true, Bool.not_false, Bool.false_eq_true]
  refine h.new ?_
  clear h F
  intro w4 b4 h
  have h := h.toRow 3 1 0 rfl rfl (by simp [maxLen])
  (try simp only [nfD] at h); have F := h.facts; (try simp only [nfF, emp_fact, rds_fact, frm_fact, tab_fact, two_fact, inr_fact, ansX_fact] at F); try simp -dsimp only [↓vcA, vcB, vcD, ↓pureT_lenS, ↓iteT, ↓iteF, cond_true, cond_false, eq_self, argE, Env.get, Env.push, ev, evs, evo, retV, Value.cells, Value.oneCell', setR, overR, fillL, zl, places, allSizes, heldC, ne_eq, Int.reduceLE, Int.reduceLT, Int.reduceEq, Int.reduceNe, Int.reduceToNat, Int.cast_ofNat_Int, Nat.reduceMul, Nat.reduceLeDiff, reduceIte, Nat.reduceEqDiff, Nat.reduceAdd, ↓reduceIte, Try.vcT, F, h.cell0, gets, vsD, if_true, if_false, Bool.false_eq_true]
  generalize hbs : rqPB r = bs at *
  refine Sep.app 3 Try.info5 Try.underlying22 rfl (by decide) h rfl F.2.1.row (by simp; omega) (by simp [maxLen]; omega) ?_
  clear h F
  intro a5 c5 w5 h
  simp only [Nat.zero_add, List.nil_append] at h ⊢
  have h := h.conv (r' := byt (.slice a5 bs.length c5) bs) 3 rfl (fun A hA => row_byt _ bs _ A hA) (fun _ f => f)
  obtain ⟨g, cur, rfl, h, k1, k2, k3, k4⟩ := h.bytOpen 3 rfl hpos
  obtain ⟨x, l, ebs⟩ : ∃ x l, bs = x :: l := by
    cases bs with
    | nil => simp at hpos
    | cons x l => exact ⟨x, l, rfl⟩
  have hlpos : 0 < (bs.length : Int) := by omega
  (try simp only [nfD] at h); have F := h.facts; (try simp only [nfF, emp_fact, rds_fact, frm_fact, tab_fact, two_fact, inr_fact, ansX_fact] at F); try simp -dsimp only [↓vcA, vcB, vcD, ↓pureT_lenS, ↓iteT, ↓iteF, cond_true, cond_false, eq_self, argE, Env.get, Env.push, ev, evs, evo, retV, Value.cells, Value.oneCell', setR, overR, fillL, zl, places, allSizes, heldC, ne_eq, Int.reduceLE, Int.reduceLT, Int.reduceEq, Int.reduceNe, Int.reduceToNat, Int.cast_ofNat_Int, Nat.reduceMul, Nat.reduceLeDiff, reduceIte, Nat.reduceEqDiff, Nat.reduceAdd, ↓reduceIte, Try.vcT, F, h.cell0, gets, vsD, if_true, if_false, Bool.false_eq_true,  hlpos]
  refine ⟨by omega, ?_⟩
  refine Sep.put 3 h rfl ?_
  clear h F
  intro w6 h
  subst ebs
  obtain ⟨c0, cs, rfl⟩ : ∃ c0 cs, cur = c0 :: cs := by
    cases cur with
    | nil => simp at k2 k3; omega
    | cons c0 cs => exact ⟨c0, cs, rfl⟩
  simp only [List.length_cons, List.take_succ_cons, u8s, List.map_cons] at k1 k2 k3
  injection k1 with _ k1
  have hbl : Byt ((kn : Int) :: l) := fun y hy => by
    rcases List.mem_cons.1 hy with rfl | hy
    · exact hkind
    · exact hby y (.tail _ hy)
  have h := h.bytShut (c := c5) 3 ((kn : Int) :: l) rfl (by simp only [overR, List.length_cons, List.take_succ_cons, u8s, List.map_cons, k1]; try rfl) (by simpa [overR] using k2) (by simpa using k3) k4
  have hl1 : (x :: l).length = ((kn : Int) :: l).length := rfl
  rw [hl1] at hsz hlen hpos
  refine Sep.callp h (ask68 _ ((kn : Int) :: l) _ ?_ hbl (by omega)) ?_
  · have G := h.facts
    simp only [Facts_cons, byt_fact, List.set_cons_succ, List.set_cons_zero] at G
    exact G.2.2.2.1
  clear h F
  intro w7 h
  have t2 := tabAt kn
  have hAs : ∀ (b : Bool) (K : Prop), True := fun _ _ => trivial
  generalize hq : askRV ((kn : Int) :: l) = q at *
  have fin0 : True := trivial
  by_cases hin : 1 ≤ kn ∧ kn ≤ 16
  case pos =>
    have t2 := t2 hin
    have g1 : (kn : Int) ≥ 1 := by omega
    have g2 : (kn : Int) ≤ 16 := by omega
    by_cases hw : sizeR kn = l.length + 1
    case pos =>
      have hw' : decide ((sizeR kn : Int) = ((l.length + 1 : Nat) : Int)) = true := decide_eq_true (by rw [hw])
      cases hak : askROk ((kn : Int) :: l) with
      | true =>
        (try simp only [nfD] at h); have F := h.facts; (try simp only [nfF, emp_fact, rds_fact, frm_fact, tab_fact, two_fact, inr_fact, ansX_fact] at F); try simp -dsimp only [↓vcA, vcB, vcD, ↓pureT_lenS, ↓iteT, ↓iteF, cond_true, cond_false, eq_self, argE, Env.get, Env.push, ev, evs, evo, retV, Value.cells, Value.oneCell', setR, overR, fillL, zl, places, allSizes, heldC, ne_eq, Int.reduceLE, Int.reduceLT, Int.reduceEq, Int.reduceNe, Int.reduceToNat, Int.cast_ofNat_Int, Nat.reduceMul, Nat.reduceLeDiff, reduceIte, Nat.reduceEqDiff, Nat.reduceAdd, ↓reduceIte, Try.vcT, F, h.cell0, gets, vsD, if_true, if_false, Bool.false_eq_true,  Rq.cells, hak]
        refine h.new ?_
        clear h F
        intro w8 b8 h
        (try simp only [nfD] at h); have F := h.facts; (try simp only [nfF, emp_fact, rds_fact, frm_fact, tab_fact, two_fact, inr_fact, ansX_fact] at F); try simp -dsimp only [↓vcA, vcB, vcD, ↓pureT_lenS, ↓iteT, ↓iteF, cond_true, cond_false, eq_self, argE, Env.get, Env.push, ev, evs, evo, retV, Value.cells, Value.oneCell', setR, overR, fillL, zl, places, allSizes, heldC, ne_eq, Int.reduceLE, Int.reduceLT, Int.reduceEq, Int.reduceNe, Int.reduceToNat, Int.cast_ofNat_Int, Nat.reduceMul, Nat.reduceLeDiff, reduceIte, Nat.reduceEqDiff, Nat.reduceAdd, ↓reduceIte, Try.vcT, F, h.cell0, gets, vsD, if_true, if_false, Bool.false_eq_true]
        refine Sep.put 4 h rfl ?_
        clear h F
        intro w9 h
        (try simp only [nfD] at h); have F := h.facts; (try simp only [nfF, emp_fact, rds_fact, frm_fact, tab_fact, two_fact, inr_fact, ansX_fact] at F); try simp -dsimp only [↓vcA, vcB, vcD, ↓pureT_lenS, ↓iteT, ↓iteF, cond_true, cond_false, eq_self, argE, Env.get, Env.push, ev, evs, evo, retV, Value.cells, Value.oneCell', setR, overR, fillL, zl, places, allSizes, heldC, ne_eq, Int.reduceLE, Int.reduceLT, Int.reduceEq, Int.reduceNe, Int.reduceToNat, Int.cast_ofNat_Int, Nat.reduceMul, Nat.reduceLeDiff, reduceIte, Nat.reduceEqDiff, Nat.reduceAdd, ↓reduceIte, Try.vcT, F, h.cell0, gets, vsD, if_true, if_false, Bool.false_eq_true,  decide_eq_true g1, decide_eq_true g2, t2, hw', if_true, if_false, Bool.not_true, Bool.not_false, Bool.false_eq_true]
        refine ⟨⟨by omega, by omega⟩, ?_⟩
        cases hd2 : decide ((kn : Int) = 2)
        all_goals
          (try simp only [nfD] at h); have F := h.facts; (try simp only [nfF, emp_fact, rds_fact, frm_fact, tab_fact, two_fact, inr_fact, ansX_fact] at F); try simp -dsimp only [↓vcA, vcB, vcD, ↓pureT_lenS, ↓iteT, ↓iteF, cond_true, cond_false, eq_self, argE, Env.get, Env.push, ev, evs, evo, retV, Value.cells, Value.oneCell', setR, overR, fillL, zl, places, allSizes, heldC, ne_eq, Int.reduceLE, Int.reduceLT, Int.reduceEq, Int.reduceNe, Int.reduceToNat, Int.cast_ofNat_Int, Nat.reduceMul, Nat.reduceLeDiff, reduceIte, Nat.reduceEqDiff, Nat.reduceAdd, ↓reduceIte, Try.vcT, F, h.cell0, gets, vsD, if_true, if_false, Bool.false_eq_true,  decide_eq_true g1, decide_eq_true g2, t2, hw', if_true, if_false, Bool.not_true, Bool.not_false, Bool.false_eq_true, hd2]
          refine aw h ?_
          clear h F
          intro w10 h
          (try simp only [nfD] at h); have F := h.facts; (try simp only [nfF, emp_fact, rds_fact, frm_fact, tab_fact, two_fact, inr_fact, ansX_fact] at F); try simp -dsimp only [↓vcA, vcB, vcD, ↓pureT_lenS, ↓iteT, ↓iteF, cond_true, cond_false, eq_self, argE, Env.get, Env.push, ev, evs, evo, retV, Value.cells, Value.oneCell', setR, overR, fillL, zl, places, allSizes, heldC, ne_eq, Int.reduceLE, Int.reduceLT, Int.reduceEq, Int.reduceNe, Int.reduceToNat, Int.cast_ofNat_Int, Nat.reduceMul, Nat.reduceLeDiff, reduceIte, Nat.reduceEqDiff, Nat.reduceAdd, ↓reduceIte, Try.vcT, F, h.cell0, gets, vsD, if_true, if_false, Bool.false_eq_true]
          exact h.done
      | false =>
        have e2 : kn = 2 := by
          by_cases e : kn = 2
          · exact e
          · rw [kinds_ok hin e hw.symm] at hak; cases hak
        have hd2 : decide ((kn : Int) = 2) = true := decide_eq_true (by omega)
        (try simp only [nfD] at h); have F := h.facts; (try simp only [nfF, emp_fact, rds_fact, frm_fact, tab_fact, two_fact, inr_fact, ansX_fact] at F); try simp -dsimp only [↓vcA, vcB, vcD, ↓pureT_lenS, ↓iteT, ↓iteF, cond_true, cond_false, eq_self, argE, Env.get, Env.push, ev, evs, evo, retV, Value.cells, Value.oneCell', setR, overR, fillL, zl, places, allSizes, heldC, ne_eq, Int.reduceLE, Int.reduceLT, Int.reduceEq, Int.reduceNe, Int.reduceToNat, Int.cast_ofNat_Int, Nat.reduceMul, Nat.reduceLeDiff, reduceIte, Nat.reduceEqDiff, Nat.reduceAdd, ↓reduceIte, Try.vcT, F, h.cell0, gets, vsD, if_true, if_false, Bool.false_eq_true,  Rq.cells, hak]
        refine h.new ?_
        clear h F
        intro w8 b8 h
        (try simp only [nfD] at h); have F := h.facts; (try simp only [nfF, emp_fact, rds_fact, frm_fact, tab_fact, two_fact, inr_fact, ansX_fact] at F); try simp -dsimp only [↓vcA, vcB, vcD, ↓pureT_lenS, ↓iteT, ↓iteF, cond_true, cond_false, eq_self, argE, Env.get, Env.push, ev, evs, evo, retV, Value.cells, Value.oneCell', setR, overR, fillL, zl, places, allSizes, heldC, ne_eq, Int.reduceLE, Int.reduceLT, Int.reduceEq, Int.reduceNe, Int.reduceToNat, Int.cast_ofNat_Int, Nat.reduceMul, Nat.reduceLeDiff, reduceIte, Nat.reduceEqDiff, Nat.reduceAdd, ↓reduceIte, Try.vcT, F, h.cell0, gets, vsD, if_true, if_false, Bool.false_eq_true]
        refine Sep.put 4 h rfl ?_
        clear h F
        intro w9 h
        (try simp only [nfD] at h); have F := h.facts; (try simp only [nfF, emp_fact, rds_fact, frm_fact, tab_fact, two_fact, inr_fact, ansX_fact] at F); try simp -dsimp only [↓vcA, vcB, vcD, ↓pureT_lenS, ↓iteT, ↓iteF, cond_true, cond_false, eq_self, argE, Env.get, Env.push, ev, evs, evo, retV, Value.cells, Value.oneCell', setR, overR, fillL, zl, places, allSizes, heldC, ne_eq, Int.reduceLE, Int.reduceLT, Int.reduceEq, Int.reduceNe, Int.reduceToNat, Int.cast_ofNat_Int, Nat.reduceMul, Nat.reduceLeDiff, reduceIte, Nat.reduceEqDiff, Nat.reduceAdd, ↓reduceIte, Try.vcT, F, h.cell0, gets, vsD, if_true, if_false, Bool.false_eq_true,  decide_eq_true g1, decide_eq_true g2, t2, hw', if_true, if_false, Bool.not_true, Bool.not_false, Bool.false_eq_true, hd2]
        refine ⟨⟨by omega, by omega⟩, ?_⟩
        (try simp only [nfD] at h); have F := h.facts; (try simp only [nfF, emp_fact, rds_fact, frm_fact, tab_fact, two_fact, inr_fact, ansX_fact] at F); try simp -dsimp only [↓vcA, vcB, vcD, ↓pureT_lenS, ↓iteT, ↓iteF, cond_true, cond_false, eq_self, argE, Env.get, Env.push, ev, evs, evo, retV, Value.cells, Value.oneCell', setR, overR, fillL, zl, places, allSizes, heldC, ne_eq, Int.reduceLE, Int.reduceLT, Int.reduceEq, Int.reduceNe, Int.reduceToNat, Int.cast_ofNat_Int, Nat.reduceMul, Nat.reduceLeDiff, reduceIte, Nat.reduceEqDiff, Nat.reduceAdd, ↓reduceIte, Try.vcT, F, h.cell0, gets, vsD, if_true, if_false, Bool.false_eq_true,  decide_eq_true g1, decide_eq_true g2, t2, hw', if_true, if_false, Bool.not_true, Bool.not_false, Bool.false_eq_true, hd2]
        refine aw h ?_
        clear h F
        intro w10 h
        (try simp only [nfD] at h); have F := h.facts; (try simp only [nfF, emp_fact, rds_fact, frm_fact, tab_fact, two_fact, inr_fact, ansX_fact] at F); try simp -dsimp only [↓vcA, vcB, vcD, ↓pureT_lenS, ↓iteT, ↓iteF, cond_true, cond_false, eq_self, argE, Env.get, Env.push, ev, evs, evo, retV, Value.cells, Value.oneCell', setR, overR, fillL, zl, places, allSizes, heldC, ne_eq, Int.reduceLE, Int.reduceLT, Int.reduceEq, Int.reduceNe, Int.reduceToNat, Int.cast_ofNat_Int, Nat.reduceMul, Nat.reduceLeDiff, reduceIte, Nat.reduceEqDiff, Nat.reduceAdd, ↓reduceIte, Try.vcT, F, h.cell0, gets, vsD, if_true, if_false, Bool.false_eq_true]
        exact h.done
    case neg =>
        have hw' : decide ((sizeR kn : Int) = ((l.length + 1 : Nat) : Int)) = false := decide_eq_false (by omega)
        have hak := kinds_no hbl (fun _ e => hw e.symm)
        (try simp only [nfD] at h); have F := h.facts; (try simp only [nfF, emp_fact, rds_fact, frm_fact, tab_fact, two_fact, inr_fact, ansX_fact] at F); try simp -dsimp only [↓vcA, vcB, vcD, ↓pureT_lenS, ↓iteT, ↓iteF, cond_true, cond_false, eq_self, argE, Env.get, Env.push, ev, evs, evo, retV, Value.cells, Value.oneCell', setR, overR, fillL, zl, places, allSizes, heldC, ne_eq, Int.reduceLE, Int.reduceLT, Int.reduceEq, Int.reduceNe, Int.reduceToNat, Int.cast_ofNat_Int, Nat.reduceMul, Nat.reduceLeDiff, reduceIte, Nat.reduceEqDiff, Nat.reduceAdd, ↓reduceIte, Try.vcT, F, h.cell0, gets, vsD, if_true, if_false, Bool.false_eq_true,  Rq.cells, hak]
        refine h.new ?_
        clear h F
        intro w8 b8 h
        (try simp only [nfD] at h); have F := h.facts; (try simp only [nfF, emp_fact, rds_fact, frm_fact, tab_fact, two_fact, inr_fact, ansX_fact] at F); try simp -dsimp only [↓vcA, vcB, vcD, ↓pureT_lenS, ↓iteT, ↓iteF, cond_true, cond_false, eq_self, argE, Env.get, Env.push, ev, evs, evo, retV, Value.cells, Value.oneCell', setR, overR, fillL, zl, places, allSizes, heldC, ne_eq, Int.reduceLE, Int.reduceLT, Int.reduceEq, Int.reduceNe, Int.reduceToNat, Int.cast_ofNat_Int, Nat.reduceMul, Nat.reduceLeDiff, reduceIte, Nat.reduceEqDiff, Nat.reduceAdd, ↓reduceIte, Try.vcT, F, h.cell0, gets, vsD, if_true, if_false, Bool.false_eq_true]
        refine Sep.put 4 h rfl ?_
        clear h F
        intro w9 h
        (try simp only [nfD] at h); have F := h.facts; (try simp only [nfF, emp_fact, rds_fact, frm_fact, tab_fact, two_fact, inr_fact, ansX_fact] at F); try simp -dsimp only [↓vcA, vcB, vcD, ↓pureT_lenS, ↓iteT, ↓iteF, cond_true, cond_false, eq_self, argE, Env.get, Env.push, ev, evs, evo, retV, Value.cells, Value.oneCell', setR, overR, fillL, zl, places, allSizes, heldC, ne_eq, Int.reduceLE, Int.reduceLT, Int.reduceEq, Int.reduceNe, Int.reduceToNat, Int.cast_ofNat_Int, Nat.reduceMul, Nat.reduceLeDiff, reduceIte, Nat.reduceEqDiff, Nat.reduceAdd, ↓reduceIte, Try.vcT, F, h.cell0, gets, vsD, if_true, if_false, Bool.false_eq_true,  decide_eq_true g1, decide_eq_true g2, t2, hw', if_true, if_false, Bool.not_true, Bool.not_false, Bool.false_eq_true]
        refine ⟨⟨by omega, by omega⟩, ?_⟩
        (try simp only [nfD] at h); have F := h.facts; (try simp only [nfF, emp_fact, rds_fact, frm_fact, tab_fact, two_fact, inr_fact, ansX_fact] at F); try simp -dsimp only [↓vcA, vcB, vcD, ↓pureT_lenS, ↓iteT, ↓iteF, cond_true, cond_false, eq_self, argE, Env.get, Env.push, ev, evs, evo, retV, Value.cells, Value.oneCell', setR, overR, fillL, zl, places, allSizes, heldC, ne_eq, Int.reduceLE, Int.reduceLT, Int.reduceEq, Int.reduceNe, Int.reduceToNat, Int.cast_ofNat_Int, Nat.reduceMul, Nat.reduceLeDiff, reduceIte, Nat.reduceEqDiff, Nat.reduceAdd, ↓reduceIte, Try.vcT, F, h.cell0, gets, vsD, if_true, if_false, Bool.false_eq_true,  decide_eq_true g1, decide_eq_true g2, t2, hw', if_true, if_false, Bool.not_true, Bool.not_false, Bool.false_eq_true]
        refine aw h ?_
        clear h F
        intro w10 h
        (try simp only [nfD] at h); have F := h.facts; (try simp only [nfF, emp_fact, rds_fact, frm_fact, tab_fact, two_fact, inr_fact, ansX_fact] at F); try simp -dsimp only [↓vcA, vcB, vcD, ↓pureT_lenS, ↓iteT, ↓iteF, cond_true, cond_false, eq_self, argE, Env.get, Env.push, ev, evs, evo, retV, Value.cells, Value.oneCell', setR, overR, fillL, zl, places, allSizes, heldC, ne_eq, Int.reduceLE, Int.reduceLT, Int.reduceEq, Int.reduceNe, Int.reduceToNat, Int.cast_ofNat_Int, Nat.reduceMul, Nat.reduceLeDiff, reduceIte, Nat.reduceEqDiff, Nat.reduceAdd, ↓reduceIte, Try.vcT, F, h.cell0, gets, vsD, if_true, if_false, Bool.false_eq_true]
        exact h.done
  case neg =>
        have hak := kinds_no hbl (fun e _ => hin e)
        (try simp only [nfD] at h); have F := h.facts; (try simp only [nfF, emp_fact, rds_fact, frm_fact, tab_fact, two_fact, inr_fact, ansX_fact] at F); try simp -dsimp only [↓vcA, vcB, vcD, ↓pureT_lenS, ↓iteT, ↓iteF, cond_true, cond_false, eq_self, argE, Env.get, Env.push, ev, evs, evo, retV, Value.cells, Value.oneCell', setR, overR, fillL, zl, places, allSizes, heldC, ne_eq, Int.reduceLE, Int.reduceLT, Int.reduceEq, Int.reduceNe, Int.reduceToNat, Int.cast_ofNat_Int, Nat.reduceMul, Nat.reduceLeDiff, reduceIte, Nat.reduceEqDiff, Nat.reduceAdd, ↓reduceIte, Try.vcT, F, h.cell0, gets, vsD, if_true, if_false, Bool.false_eq_true,  Rq.cells, hak]
        refine h.new ?_
        clear h F
        intro w8 b8 h
        (try simp only [nfD] at h); have F := h.facts; (try simp only [nfF, emp_fact, rds_fact, frm_fact, tab_fact, two_fact, inr_fact, ansX_fact] at F); try simp -dsimp only [↓vcA, vcB, vcD, ↓pureT_lenS, ↓iteT, ↓iteF, cond_true, cond_false, eq_self, argE, Env.get, Env.push, ev, evs, evo, retV, Value.cells, Value.oneCell', setR, overR, fillL, zl, places, allSizes, heldC, ne_eq, Int.reduceLE, Int.reduceLT, Int.reduceEq, Int.reduceNe, Int.reduceToNat, Int.cast_ofNat_Int, Nat.reduceMul, Nat.reduceLeDiff, reduceIte, Nat.reduceEqDiff, Nat.reduceAdd, ↓reduceIte, Try.vcT, F, h.cell0, gets, vsD, if_true, if_false, Bool.false_eq_true]
        refine Sep.put 4 h rfl ?_
        clear h F
        intro w9 h
        by_cases g1 : (kn : Int) ≥ 1
        case' pos =>
          have g2 : ¬ (kn : Int) ≤ 16 := by omega
          (try simp only [nfD] at h); have F := h.facts; (try simp only [nfF, emp_fact, rds_fact, frm_fact, tab_fact, two_fact, inr_fact, ansX_fact] at F); try simp -dsimp only [↓vcA, vcB, vcD, ↓pureT_lenS, ↓iteT, ↓iteF, cond_true, cond_false, eq_self, argE, Env.get, Env.push, ev, evs, evo, retV, Value.cells, Value.oneCell', setR, overR, fillL, zl, places, allSizes, heldC, ne_eq, Int.reduceLE, Int.reduceLT, Int.reduceEq, Int.reduceNe, Int.reduceToNat, Int.cast_ofNat_Int, Nat.reduceMul, Nat.reduceLeDiff, reduceIte, Nat.reduceEqDiff, Nat.reduceAdd, ↓reduceIte, Try.vcT, F, h.cell0, gets, vsD, if_true, if_false, Bool.false_eq_true,  decide_eq_true g1, decide_eq_false g2, if_true, if_false, Bool.not_true, Bool.not_false, Bool.false_eq_true]
        case' neg =>
          (try simp only [nfD] at h); have F := h.facts; (try simp only [nfF, emp_fact, rds_fact, frm_fact, tab_fact, two_fact, inr_fact, ansX_fact] at F); try simp -dsimp only [↓vcA, vcB, vcD, ↓pureT_lenS, ↓iteT, ↓iteF, cond_true, cond_false, eq_self, argE, Env.get, Env.push, ev, evs, evo, retV, Value.cells, Value.oneCell', setR, overR, fillL, zl, places, allSizes, heldC, ne_eq, Int.reduceLE, Int.reduceLT, Int.reduceEq, Int.reduceNe, Int.reduceToNat, Int.cast_ofNat_Int, Nat.reduceMul, Nat.reduceLeDiff, reduceIte, Nat.reduceEqDiff, Nat.reduceAdd, ↓reduceIte, Try.vcT, F, h.cell0, gets, vsD, if_true, if_false, Bool.false_eq_true,  decide_eq_false g1, if_true, if_false, Bool.not_true, Bool.not_false, Bool.false_eq_true]
        all_goals
          refine aw h ?_
          clear h F
          intro w10 h
          (try simp only [nfD] at h); have F := h.facts; (try simp only [nfF, emp_fact, rds_fact, frm_fact, tab_fact, two_fact, inr_fact, ansX_fact] at F); try simp -dsimp only [↓vcA, vcB, vcD, ↓pureT_lenS, ↓iteT, ↓iteF, cond_true, cond_false, eq_self, argE, Env.get, Env.push, ev, evs, evo, retV, Value.cells, Value.oneCell', setR, overR, fillL, zl, places, allSizes, heldC, ne_eq, Int.reduceLE, Int.reduceLT, Int.reduceEq, Int.reduceNe, Int.reduceToNat, Int.cast_ofNat_Int, Nat.reduceMul, Nat.reduceLeDiff, reduceIte, Nat.reduceEqDiff, Nat.reduceAdd, ↓reduceIte, Try.vcT, F, h.cell0, gets, vsD, if_true, if_false, Bool.false_eq_true]
          exact h.done
end Go.Proofs.Ytnhgjgoglmadnaa
