/- The walk of WireCut. -/
import Derived.Test.YtnhgjgoglmadnaaL4
namespace Go.Proofs.Ytnhgjgoglmadnaa
open Go.RowKit
-- FACTS emp_fact, rds_fact, frm_fact, strm_fact, strr_fact, rdz_fact
set_option maxRecDepth 100000
set_option linter.unusedSimpArgs false
set_option linter.unusedVariables false
set_option pp.maxSteps 1500
set_option pp.deepTerms.threshold 8

theorem Sep.awake24 {w0 w : World} {S : Nat → Prop} {M : List Res} {K : Value → World → Prop} (h : Sep w0 S M w) (hk : ∀ w1, Sep w0 S M w1 → K (.bool true) w1) : callsK Try.prog 36 [].toArray w K := h.callp (Go.Proofs.Ytnhgjgoglmadnaa.awake24 w) hk
theorem encs_take {ls : List (List Int)} {i : Nat} (h : i < ls.length) : encs (ls.take (i + 1)) = encs (ls.take i) ++ enc ls[i] := by
  rw [List.take_succ_eq_append_getElem h, encs_append]; simp [encs]
theorem encs_len : ∀ {ls : List (List Int)}, (∀ l ∈ ls, l.length ≤ 256) → (encs ls).length ≤ ls.length * 258
  | [], _ => by simp [encs]
  | l :: ls, h => by
    have h1 := h l (by simp)
    have h2 := encs_len (ls := ls) fun x hx => h x (by simp [hx])
    simp only [encs, List.length_append, enc, List.length_cons]; omega
/-- a row of numbers that lay there -/
def IntsR (w : World) (v : Value) (ns : List Int) : Prop := Row 1 w v ns.length (ns.map (Value.int .i64))
theorem IntsR.shape {w : World} {v : Value} {ns : List Int} (h : IntsR w v ns) : ∃ a c, v = .slice a ns.length c := by
  obtain ⟨a, c, e, _⟩ := Row.shape h
  exact ⟨a, c, e⟩
theorem IntsR.len {w : World} {v : Value} {ns : List Int} (h : IntsR w v ns) : ns.length ≤ maxLen := by
  obtain ⟨a, c, e, h1, h2, _⟩ := Row.shape h
  omega
theorem IntsR.at {w : World} {a : Option Addr} {n c : Nat} {ns : List Int} (h : IntsR w (.slice a n c) ns) {i : Nat} (hi : i < ns.length) :
    ∃ b o, a = some ⟨b, o, none⟩ ∧ w.cell? ⟨b, o + i, none⟩ = some (.int .i64 ns[i]) := by
  obtain ⟨a', c', e, h4, h5, h6, h7⟩ := Row.shape h
  obtain ⟨b, o, rfl, hc⟩ := h7 (by omega)
  injection e with e1 e2 e3
  exact ⟨b, o, e1, hc i _ (by simp [hi])⟩

theorem walk7 (v u : Value) (ls : List (List Int)) (ns : List Int) (w : World) (h1 : Frs w v ls) (hb : BytL ls) (h2 : IntsR w u ns) :
    Calls Try.prog 7 [v, u].toArray w (RetK fun r w' => r = .bool true ∧ Chg (fun _ => False) w w') := by
  obtain ⟨a, c, rfl⟩ := h1.shape
  obtain ⟨a', c', rfl⟩ := h2.shape
  have l1 := h1.len
  have l2 := h2.len
  simp only [maxLen] at l1 l2
  have h := Sep.nil w
  refine walk Try.func7 rfl (by kernel_rfl) (by rw [Try.nt7]; simp) ?_
  (try simp only [nfD] at h); have F := h.facts; (try simp only [nfF, emp_fact, rds_fact, frm_fact, strm_fact, strr_fact, rdz_fact] at F)
  by_cases hbig : (12 : Int) < ls.length
  · simp -dsimp only [↓vcA, vcB, vcD, ↓pureT_lenS, ↓iteT, ↓iteF, cond_true, cond_false, eq_self, argE, Env.get, Env.push, ev, evs, evo, retV, Value.cells, Value.oneCell', setR, overR, fillL, zl, places, allSizes, heldC, ne_eq, Int.reduceLE, Int.reduceLT, Int.reduceEq, Int.reduceNe, Int.reduceToNat, Int.cast_ofNat_Int, Nat.reduceMul, Nat.reduceLeDiff, reduceIte, Nat.reduceEqDiff, Nat.reduceAdd, ↓reduceIte, Try.vcT, decide_eq_true hbig]
    repeat ((first | refine Sep.new h ?_ | refine Sep.put 0 h rfl ?_ | refine Sep.put 1 h rfl ?_ | refine Sep.put 2 h rfl ?_ | refine Sep.put 3 h rfl ?_ | refine Sep.put 4 h rfl ?_ | refine Sep.put 5 h rfl ?_ | refine Sep.awake24 h ?_); (clear F; (try clear h); intros; rename_i h; (try simp only [nfD] at h); have F := h.facts; (try simp only [nfF, emp_fact, rds_fact, frm_fact, strm_fact, strr_fact, rdz_fact] at F); try simp -dsimp only [↓vcA, vcB, vcD, ↓pureT_lenS, ↓iteT, ↓iteF, cond_true, cond_false, eq_self, argE, Env.get, Env.push, ev, evs, evo, retV, Value.cells, Value.oneCell', setR, overR, fillL, zl, places, allSizes, heldC, ne_eq, Int.reduceLE, Int.reduceLT, Int.reduceEq, Int.reduceNe, Int.reduceToNat, Int.cast_ofNat_Int, Nat.reduceMul, Nat.reduceLeDiff, reduceIte, Nat.reduceEqDiff, Nat.reduceAdd, ↓reduceIte, Try.vcT, F, h.cell0, gets, vsD, if_true, if_false, Bool.false_eq_true]))
    exact h.done
  by_cases hbig2 : (30 : Int) < ns.length
  · simp -dsimp only [↓vcA, vcB, vcD, ↓pureT_lenS, ↓iteT, ↓iteF, cond_true, cond_false, eq_self, argE, Env.get, Env.push, ev, evs, evo, retV, Value.cells, Value.oneCell', setR, overR, fillL, zl, places, allSizes, heldC, ne_eq, Int.reduceLE, Int.reduceLT, Int.reduceEq, Int.reduceNe, Int.reduceToNat, Int.cast_ofNat_Int, Nat.reduceMul, Nat.reduceLeDiff, reduceIte, Nat.reduceEqDiff, Nat.reduceAdd, ↓reduceIte, Try.vcT, decide_eq_false hbig, decide_eq_true hbig2]
    repeat ((first | refine Sep.new h ?_ | refine Sep.put 0 h rfl ?_ | refine Sep.put 1 h rfl ?_ | refine Sep.put 2 h rfl ?_ | refine Sep.put 3 h rfl ?_ | refine Sep.put 4 h rfl ?_ | refine Sep.put 5 h rfl ?_ | refine Sep.awake24 h ?_); (clear F; (try clear h); intros; rename_i h; (try simp only [nfD] at h); have F := h.facts; (try simp only [nfF, emp_fact, rds_fact, frm_fact, strm_fact, strr_fact, rdz_fact] at F); try simp -dsimp only [↓vcA, vcB, vcD, ↓pureT_lenS, ↓iteT, ↓iteF, cond_true, cond_false, eq_self, argE, Env.get, Env.push, ev, evs, evo, retV, Value.cells, Value.oneCell', setR, overR, fillL, zl, places, allSizes, heldC, ne_eq, Int.reduceLE, Int.reduceLT, Int.reduceEq, Int.reduceNe, Int.reduceToNat, Int.cast_ofNat_Int, Nat.reduceMul, Nat.reduceLeDiff, reduceIte, Nat.reduceEqDiff, Nat.reduceAdd, ↓reduceIte, Try.vcT, F, h.cell0, gets, vsD, if_true, if_false, Bool.false_eq_true]))
    exact h.done
  simp -dsimp only [↓vcA, vcB, vcD, ↓pureT_lenS, ↓iteT, ↓iteF, cond_true, cond_false, eq_self, argE, Env.get, Env.push, ev, evs, evo, retV, Value.cells, Value.oneCell', setR, overR, fillL, zl, places, allSizes, heldC, ne_eq, Int.reduceLE, Int.reduceLT, Int.reduceEq, Int.reduceNe, Int.reduceToNat, Int.cast_ofNat_Int, Nat.reduceMul, Nat.reduceLeDiff, reduceIte, Nat.reduceEqDiff, Nat.reduceAdd, ↓reduceIte, Try.vcT, decide_eq_false hbig, decide_eq_false hbig2]
  have h := h.bytNil
  refine walkLoop [0, 1] [5, 6] (fun m vs w' => ∃ i a1 c1, i ≤ ls.length ∧ m = ls.length - i ∧ vs = [.slice a1 (encs (ls.take i)).length c1, .int .i64 i] ∧ (∀ l ∈ ls.take i, l.length ≤ 256) ∧ Sep w (fun _ => False) [byt (.slice a1 (encs (ls.take i)).length c1) (encs (ls.take i))] w') (by kernel_rfl) ?_ ?_
  · simp -dsimp only [↓vcA, vcB, vcD, ↓pureT_lenS, ↓iteT, ↓iteF, cond_true, cond_false, eq_self, argE, Env.get, Env.push, ev, evs, evo, retV, Value.cells, Value.oneCell', setR, overR, fillL, zl, places, allSizes, heldC, ne_eq, Int.reduceLE, Int.reduceLT, Int.reduceEq, Int.reduceNe, Int.reduceToNat, Int.cast_ofNat_Int, Nat.reduceMul, Nat.reduceLeDiff, reduceIte, Nat.reduceEqDiff, Nat.reduceAdd, ↓reduceIte, Try.vcT, gets]
    exact ⟨_, 0, none, 0, Nat.zero_le _, rfl, by simp [encs], by simp, h⟩
  intro ks hk m vs w1 hi
  clear h F
  obtain ⟨i, a1, c1, hi, rfl, rfl, h256, h⟩ := hi
  simp -dsimp only [gets, argE, List.zip_cons_cons, List.zip_nil_left, List.cons_append, List.nil_append, Env.get, Env.push, Option.bind_some, Option.map_some, Option.some.injEq, reduceIte, Nat.reduceEqDiff, Nat.reduceAdd, ↓reduceIte] at hk; subst hk
  by_cases hlt : (i : Int) < ls.length
  case pos =>
    have hil : i < ls.length := by omega
    obtain ⟨b, o, x, rfl, k1, r1⟩ := h1.at hil
    have r1' := r1
    obtain ⟨ax, cx, rfl, _⟩ := r1'
    have hlb := hb _ (List.getElem_mem hil)
    have e : IntKind.i64.wrap ((i : Int) + 1) = ((i + 1 : Nat) : Int) := by rw [i64w _ (by omega) (by omega)]; omega
    (try simp only [nfD] at h); have F := h.facts; (try simp only [nfF, emp_fact, rds_fact, frm_fact, strm_fact, strr_fact, rdz_fact] at F); try simp -dsimp only [↓vcA, vcB, vcD, ↓pureT_lenS, ↓iteT, ↓iteF, cond_true, cond_false, eq_self, argE, Env.get, Env.push, ev, evs, evo, retV, Value.cells, Value.oneCell', setR, overR, fillL, zl, places, allSizes, heldC, ne_eq, Int.reduceLE, Int.reduceLT, Int.reduceEq, Int.reduceNe, Int.reduceToNat, Int.cast_ofNat_Int, Nat.reduceMul, Nat.reduceLeDiff, reduceIte, Nat.reduceEqDiff, Nat.reduceAdd, ↓reduceIte, Try.vcT, F, h.cell0, gets, vsD, if_true, if_false, Bool.false_eq_true,  decide_eq_true hlt]
    refine ⟨⟨by omega, by omega⟩, ?_⟩
    by_cases h6 : (256 : Int) < ls[i].length
    · (try simp only [nfD] at h); have F := h.facts; (try simp only [nfF, emp_fact, rds_fact, frm_fact, strm_fact, strr_fact, rdz_fact] at F); try simp -dsimp only [↓vcA, vcB, vcD, ↓pureT_lenS, ↓iteT, ↓iteF, cond_true, cond_false, eq_self, argE, Env.get, Env.push, ev, evs, evo, retV, Value.cells, Value.oneCell', setR, overR, fillL, zl, places, allSizes, heldC, ne_eq, Int.reduceLE, Int.reduceLT, Int.reduceEq, Int.reduceNe, Int.reduceToNat, Int.cast_ofNat_Int, Nat.reduceMul, Nat.reduceLeDiff, reduceIte, Nat.reduceEqDiff, Nat.reduceAdd, ↓reduceIte, Try.vcT, F, h.cell0, gets, vsD, if_true, if_false, Bool.false_eq_true,  k1, decide_eq_true h6]
      repeat ((first | refine Sep.new h ?_ | refine Sep.put 0 h rfl ?_ | refine Sep.put 1 h rfl ?_ | refine Sep.put 2 h rfl ?_ | refine Sep.put 3 h rfl ?_ | refine Sep.put 4 h rfl ?_ | refine Sep.put 5 h rfl ?_ | refine Sep.awake24 h ?_); (clear F; (try clear h); intros; rename_i h; (try simp only [nfD] at h); have F := h.facts; (try simp only [nfF, emp_fact, rds_fact, frm_fact, strm_fact, strr_fact, rdz_fact] at F); try simp -dsimp only [↓vcA, vcB, vcD, ↓pureT_lenS, ↓iteT, ↓iteF, cond_true, cond_false, eq_self, argE, Env.get, Env.push, ev, evs, evo, retV, Value.cells, Value.oneCell', setR, overR, fillL, zl, places, allSizes, heldC, ne_eq, Int.reduceLE, Int.reduceLT, Int.reduceEq, Int.reduceNe, Int.reduceToNat, Int.cast_ofNat_Int, Nat.reduceMul, Nat.reduceLeDiff, reduceIte, Nat.reduceEqDiff, Nat.reduceAdd, ↓reduceIte, Try.vcT, F, h.cell0, gets, vsD, if_true, if_false, Bool.false_eq_true, k1]))
      exact h.done
    · (try simp only [nfD] at h); have F := h.facts; (try simp only [nfF, emp_fact, rds_fact, frm_fact, strm_fact, strr_fact, rdz_fact] at F); try simp -dsimp only [↓vcA, vcB, vcD, ↓pureT_lenS, ↓iteT, ↓iteF, cond_true, cond_false, eq_self, argE, Env.get, Env.push, ev, evs, evo, retV, Value.cells, Value.oneCell', setR, overR, fillL, zl, places, allSizes, heldC, ne_eq, Int.reduceLE, Int.reduceLT, Int.reduceEq, Int.reduceNe, Int.reduceToNat, Int.cast_ofNat_Int, Nat.reduceMul, Nat.reduceLeDiff, reduceIte, Nat.reduceEqDiff, Nat.reduceAdd, ↓reduceIte, Try.vcT, F, h.cell0, gets, vsD, if_true, if_false, Bool.false_eq_true,  k1, decide_eq_false h6]
      refine ⟨⟨by omega, by omega⟩, ?_⟩
      (try simp only [nfD] at h); have F := h.facts; (try simp only [nfF, emp_fact, rds_fact, frm_fact, strm_fact, strr_fact, rdz_fact] at F); try simp -dsimp only [↓vcA, vcB, vcD, ↓pureT_lenS, ↓iteT, ↓iteF, cond_true, cond_false, eq_self, argE, Env.get, Env.push, ev, evs, evo, retV, Value.cells, Value.oneCell', setR, overR, fillL, zl, places, allSizes, heldC, ne_eq, Int.reduceLE, Int.reduceLT, Int.reduceEq, Int.reduceNe, Int.reduceToNat, Int.cast_ofNat_Int, Nat.reduceMul, Nat.reduceLeDiff, reduceIte, Nat.reduceEqDiff, Nat.reduceAdd, ↓reduceIte, Try.vcT, F, h.cell0, gets, vsD, if_true, if_false, Bool.false_eq_true,  k1]
      refine Sep.frame ls[i] h (r1.sep h fun _ _ => id) (by omega) ?_
      clear h F
      intro a2 c2 w2 h
      (try simp only [nfD] at h); have F := h.facts; (try simp only [nfF, emp_fact, rds_fact, frm_fact, strm_fact, strr_fact, rdz_fact] at F); try simp -dsimp only [↓vcA, vcB, vcD, ↓pureT_lenS, ↓iteT, ↓iteF, cond_true, cond_false, eq_self, argE, Env.get, Env.push, ev, evs, evo, retV, Value.cells, Value.oneCell', setR, overR, fillL, zl, places, allSizes, heldC, ne_eq, Int.reduceLE, Int.reduceLT, Int.reduceEq, Int.reduceNe, Int.reduceToNat, Int.cast_ofNat_Int, Nat.reduceMul, Nat.reduceLeDiff, reduceIte, Nat.reduceEqDiff, Nat.reduceAdd, ↓reduceIte, Try.vcT, F, h.cell0, gets, vsD, if_true, if_false, Bool.false_eq_true]
      have hlen := encs_len h256
      rw [List.length_take] at hlen
      refine Sep.appB 0 (enc ls[i]) h rfl F.2.1 (by simp only [enc, List.length_cons]; omega) ?_
      clear h F
      intro a3 c3 w3 h
      have h := h.erase 1
      rw [← encs_take hil] at h ⊢
      (try simp only [nfD] at h); have F := h.facts; (try simp only [nfF, emp_fact, rds_fact, frm_fact, strm_fact, strr_fact, rdz_fact] at F); try simp -dsimp only [↓vcA, vcB, vcD, ↓pureT_lenS, ↓iteT, ↓iteF, cond_true, cond_false, eq_self, argE, Env.get, Env.push, ev, evs, evo, retV, Value.cells, Value.oneCell', setR, overR, fillL, zl, places, allSizes, heldC, ne_eq, Int.reduceLE, Int.reduceLT, Int.reduceEq, Int.reduceNe, Int.reduceToNat, Int.cast_ofNat_Int, Nat.reduceMul, Nat.reduceLeDiff, reduceIte, Nat.reduceEqDiff, Nat.reduceAdd, ↓reduceIte, Try.vcT, F, h.cell0, gets, vsD, if_true, if_false, Bool.false_eq_true,  e]
      refine ⟨_, ?_, i + 1, a3, c3, by omega, rfl, rfl, ?_, h⟩
      · omega
      · intro l hl
        rw [List.take_succ_eq_append_getElem hil] at hl
        rcases List.mem_append.1 hl with hl | hl
        · exact h256 l hl
        · simp at hl; subst hl; omega
  case neg =>
    have hil : i = ls.length := by omega
    subst hil
    rw [List.take_of_length_le (Nat.le_refl _)] at h h256 ⊢
    have hlen := encs_len h256
    have hB := encs_byt hb
    (try simp only [nfD] at h); have F := h.facts; (try simp only [nfF, emp_fact, rds_fact, frm_fact, strm_fact, strr_fact, rdz_fact] at F); try simp -dsimp only [↓vcA, vcB, vcD, ↓pureT_lenS, ↓iteT, ↓iteF, cond_true, cond_false, eq_self, argE, Env.get, Env.push, ev, evs, evo, retV, Value.cells, Value.oneCell', setR, overR, fillL, zl, places, allSizes, heldC, ne_eq, Int.reduceLE, Int.reduceLT, Int.reduceEq, Int.reduceNe, Int.reduceToNat, Int.cast_ofNat_Int, Nat.reduceMul, Nat.reduceLeDiff, reduceIte, Nat.reduceEqDiff, Nat.reduceAdd, ↓reduceIte, Try.vcT, F, h.cell0, gets, vsD, if_true, if_false, Bool.false_eq_true,  decide_eq_false hlt]
    refine Sep.wnew false [] h (Rd.nil _) Byt.nil (by simp) rfl ?_
    clear h F
    intro p w2 h
    (try simp only [nfD] at h); have F := h.facts; (try simp only [nfF, emp_fact, rds_fact, frm_fact, strm_fact, strr_fact, rdz_fact] at F); try simp -dsimp only [↓vcA, vcB, vcD, ↓pureT_lenS, ↓iteT, ↓iteF, cond_true, cond_false, eq_self, argE, Env.get, Env.push, ev, evs, evo, retV, Value.cells, Value.oneCell', setR, overR, fillL, zl, places, allSizes, heldC, ne_eq, Int.reduceLE, Int.reduceLT, Int.reduceEq, Int.reduceNe, Int.reduceToNat, Int.cast_ofNat_Int, Nat.reduceMul, Nat.reduceLeDiff, reduceIte, Nat.reduceEqDiff, Nat.reduceAdd, ↓reduceIte, Try.vcT, F, h.cell0, gets, vsD, if_true, if_false, Bool.false_eq_true]
    have h := (h.conv 0 (r' := rds (.slice a1 (encs ls).length c1) (encs ls)) rfl (fun A h => byt_rds h) (fun _ f => f)).frmNil
    (try simp only [nfD] at h); have F := h.facts; (try simp only [nfF, emp_fact, rds_fact, frm_fact, strm_fact, strr_fact, rdz_fact] at F)
    refine walkLoop [0, 1, 7] [9, 5, 10] (fun m vs w' => ∃ i fa fc fs a1 c1 all r, i ≤ ns.length ∧ m = ns.length - i ∧ vs = [.slice fa fs.length fc, .slice a1 all.length c1, .int .i64 i] ∧
      Sep w (fun _ => False) [rds (.slice a1 all.length c1) all, strm p ⟨false, r⟩, frm (.slice fa fs.length fc) fs] w' ∧ fs ++ (parse (r ++ all)).1 = ls ∧ (parse (r ++ all)).2 = (false, []) ∧ Byt all ∧ Byt r ∧ all.length + r.length ≤ 100000) (by kernel_rfl) ?_ ?_
    · simp -dsimp only [↓vcA, vcB, vcD, ↓pureT_lenS, ↓iteT, ↓iteF, cond_true, cond_false, eq_self, argE, Env.get, Env.push, ev, evs, evo, retV, Value.cells, Value.oneCell', setR, overR, fillL, zl, places, allSizes, heldC, ne_eq, Int.reduceLE, Int.reduceLT, Int.reduceEq, Int.reduceNe, Int.reduceToNat, Int.cast_ofNat_Int, Nat.reduceMul, Nat.reduceLeDiff, reduceIte, Nat.reduceEqDiff, Nat.reduceAdd, ↓reduceIte, Try.vcT, gets]
      refine ⟨_, 0, none, 0, [], a1, c1, encs ls, [], Nat.zero_le _, rfl, rfl, h, ?_, ?_, hB, Byt.nil, ?_⟩
      · have := parse_encs ls [] h256
        rw [List.append_nil] at this
        simp [this, parse_nil]
      · have := parse_encs ls [] h256
        rw [List.append_nil] at this
        simp [this, parse_nil]
      · simp; omega
    intro ks hk m vs w3 hi
    clear h F
    obtain ⟨i, fa, fc, fs, a1, c1, all, r, hi, rfl, rfl, h, hp1, hp2, hba, hbr, hal⟩ := hi
    simp -dsimp only [gets, argE, List.zip_cons_cons, List.zip_nil_left, List.cons_append, List.nil_append, Env.get, Env.push, Option.bind_some, Option.map_some, Option.some.injEq, reduceIte, Nat.reduceEqDiff, Nat.reduceAdd, ↓reduceIte] at hk; subst hk
    by_cases hlt : (i : Int) < ns.length
    case pos =>
      have hil : i < ns.length := by omega
      obtain ⟨b, o, rfl, k1⟩ := h2.at hil
      have e : IntKind.i64.wrap ((i : Int) + 1) = ((i + 1 : Nat) : Int) := by rw [i64w _ (by omega) (by omega)]; omega
      have e2 : IntKind.i64.wrap ((all.length : Int) + 1) = ((all.length + 1 : Nat) : Int) := by rw [i64w _ (by omega) (by omega)]; omega
      (try simp only [nfD] at h); have F := h.facts; (try simp only [nfF, emp_fact, rds_fact, frm_fact, strm_fact, strr_fact, rdz_fact] at F); try simp -dsimp only [↓vcA, vcB, vcD, ↓pureT_lenS, ↓iteT, ↓iteF, cond_true, cond_false, eq_self, argE, Env.get, Env.push, ev, evs, evo, retV, Value.cells, Value.oneCell', setR, overR, fillL, zl, places, allSizes, heldC, ne_eq, Int.reduceLE, Int.reduceLT, Int.reduceEq, Int.reduceNe, Int.reduceToNat, Int.cast_ofNat_Int, Nat.reduceMul, Nat.reduceLeDiff, reduceIte, Nat.reduceEqDiff, Nat.reduceAdd, ↓reduceIte, Try.vcT, F, h.cell0, gets, vsD, if_true, if_false, Bool.false_eq_true,  decide_eq_true hlt]
      refine ⟨⟨by omega, by omega⟩, ?_⟩
      (try simp only [nfD] at h); have F := h.facts; (try simp only [nfF, emp_fact, rds_fact, frm_fact, strm_fact, strr_fact, rdz_fact] at F); try simp -dsimp only [↓vcA, vcB, vcD, ↓pureT_lenS, ↓iteT, ↓iteF, cond_true, cond_false, eq_self, argE, Env.get, Env.push, ev, evs, evo, retV, Value.cells, Value.oneCell', setR, overR, fillL, zl, places, allSizes, heldC, ne_eq, Int.reduceLE, Int.reduceLT, Int.reduceEq, Int.reduceNe, Int.reduceToNat, Int.cast_ofNat_Int, Nat.reduceMul, Nat.reduceLeDiff, reduceIte, Nat.reduceEqDiff, Nat.reduceAdd, ↓reduceIte, Try.vcT, F, h.cell0, gets, vsD, if_true, if_false, Bool.false_eq_true,  k1, e2]
      refine callsK_pure (round ns[i] _ w3 (by omega) (by omega)) ?_
      have hm0 := Int.emod_nonneg ns[i] (show ((all.length + 1 : Nat) : Int) ≠ 0 by omega)
      have hm1 := Int.emod_lt_of_pos ns[i] (show (0 : Int) < ((all.length + 1 : Nat) : Int) by omega)
      generalize ns[i] % ((all.length + 1 : Nat) : Int) = q at *
      obtain ⟨n, rfl⟩ := Int.eq_ofNat_of_zero_le hm0
      (try simp only [nfD] at h); have F := h.facts; (try simp only [nfF, emp_fact, rds_fact, frm_fact, strm_fact, strr_fact, rdz_fact] at F); try simp -dsimp only [↓vcA, vcB, vcD, ↓pureT_lenS, ↓iteT, ↓iteF, cond_true, cond_false, eq_self, argE, Env.get, Env.push, ev, evs, evo, retV, Value.cells, Value.oneCell', setR, overR, fillL, zl, places, allSizes, heldC, ne_eq, Int.reduceLE, Int.reduceLT, Int.reduceEq, Int.reduceNe, Int.reduceToNat, Int.cast_ofNat_Int, Nat.reduceMul, Nat.reduceLeDiff, reduceIte, Nat.reduceEqDiff, Nat.reduceAdd, ↓reduceIte, Try.vcT, F, h.cell0, gets, vsD, if_true, if_false, Bool.false_eq_true]
      have hcl : all.length ≤ c1 := by
        obtain ⟨_, _, e, hc1, _⟩ := F.1
        injection e with _ _ e; omega
      refine ⟨by omega, ?_⟩
      have hcut := F.1.cut (l := 0) (m := n) (by omega) (by omega)
      simp only [Nat.sub_zero, List.drop_zero] at hcut
      obtain ⟨c0, r2, es, g1, g2, g3, rfl⟩ := feed_cut (r := r) (all := all) (got := []) (n := n) hp1 hp2
      have hbt : Byt (all.take n) := fun x hx => hba x (List.mem_of_mem_take hx)
      have hbd : Byt (all.drop n) := fun x hx => hba x (List.mem_of_mem_drop hx)
      obtain ⟨j1, j2, j3⟩ := parse_rest _ _ (Nat.le_refl _) (hbr.append hbt) g3
      have hfl : (fs ++ S24.feedF ⟨false, r⟩ (all.take n)).length ≤ ls.length := by rw [← g1]; simp
      refine Sep.feed 1 (all.take n) h rfl hcut (hbr.append hbt) (by simp only [List.length_take]; omega) ?_
      clear h F hcut
      intro fa2 fc2 w4 h
      rw [es] at h
      rw [c0]
      (try simp only [nfD] at h); have F := h.facts; (try simp only [nfF, emp_fact, rds_fact, frm_fact, strm_fact, strr_fact, rdz_fact] at F); try simp -dsimp only [↓vcA, vcB, vcD, ↓pureT_lenS, ↓iteT, ↓iteF, cond_true, cond_false, eq_self, argE, Env.get, Env.push, ev, evs, evo, retV, Value.cells, Value.oneCell', setR, overR, fillL, zl, places, allSizes, heldC, ne_eq, Int.reduceLE, Int.reduceLT, Int.reduceEq, Int.reduceNe, Int.reduceToNat, Int.cast_ofNat_Int, Nat.reduceMul, Nat.reduceLeDiff, reduceIte, Nat.reduceEqDiff, Nat.reduceAdd, ↓reduceIte, Try.vcT, F, h.cell0, gets, vsD, if_true, if_false, Bool.false_eq_true]
      refine Sep.appFrm 2 3 h rfl rfl (by rw [List.length_append] at hfl; omega) ?_
      clear h F
      intro fa3 fc3 w5 h
      rw [← List.length_append] at h ⊢
      have hcut : ∀ A, (rds (.slice a1 all.length c1) all).on w5 A → (rds (.slice (cutA a1 c1 n 1) (all.length - n) (c1 - n)) (all.drop n)).on w5 A := fun A hA => by
        have := rds_cut (l := n) (m := all.length) (by omega) (Nat.le_refl _) hA
        rwa [List.take_of_length_le (Nat.le_refl _)] at this
      have h := (h.conv 0 rfl hcut (fun _ f => f)).erase 3
      (try simp only [nfD] at h); have F := h.facts; (try simp only [nfF, emp_fact, rds_fact, frm_fact, strm_fact, strr_fact, rdz_fact] at F); try simp -dsimp only [↓vcA, vcB, vcD, ↓pureT_lenS, ↓iteT, ↓iteF, cond_true, cond_false, eq_self, argE, Env.get, Env.push, ev, evs, evo, retV, Value.cells, Value.oneCell', setR, overR, fillL, zl, places, allSizes, heldC, ne_eq, Int.reduceLE, Int.reduceLT, Int.reduceEq, Int.reduceNe, Int.reduceToNat, Int.cast_ofNat_Int, Nat.reduceMul, Nat.reduceLeDiff, reduceIte, Nat.reduceEqDiff, Nat.reduceAdd, ↓reduceIte, Try.vcT, F, h.cell0, gets, vsD, if_true, if_false, Bool.false_eq_true,  e]
      refine ⟨by omega, _, ?_, i + 1, fa3, fc3, fs ++ S24.feedF ⟨false, r⟩ (all.take n), cutA a1 c1 n 1, c1 - n, all.drop n, _, by omega, rfl, by simp, ?_, g1, g2, hbd, j2, ?_⟩
      · omega
      · simpa using h
      · simp at j3 ⊢; omega
    case neg =>
      (try simp only [nfD] at h); have F := h.facts; (try simp only [nfF, emp_fact, rds_fact, frm_fact, strm_fact, strr_fact, rdz_fact] at F); try simp -dsimp only [↓vcA, vcB, vcD, ↓pureT_lenS, ↓iteT, ↓iteF, cond_true, cond_false, eq_self, argE, Env.get, Env.push, ev, evs, evo, retV, Value.cells, Value.oneCell', setR, overR, fillL, zl, places, allSizes, heldC, ne_eq, Int.reduceLE, Int.reduceLT, Int.reduceEq, Int.reduceNe, Int.reduceToNat, Int.cast_ofNat_Int, Nat.reduceMul, Nat.reduceLeDiff, reduceIte, Nat.reduceEqDiff, Nat.reduceAdd, ↓reduceIte, Try.vcT, F, h.cell0, gets, vsD, if_true, if_false, Bool.false_eq_true,  decide_eq_false hlt]
      have hbb := hbr.append hba
      have ec : S24.feedC ⟨false, r⟩ all = 0 ∧ S24.feedS ⟨false, r⟩ all = ⟨false, []⟩ ∧ fs ++ S24.feedF ⟨false, r⟩ all = ls := by
        simp [S24.feedC, S24.feedS, S24.feedF, hp2, hp1]
      have hfl : (fs ++ S24.feedF ⟨false, r⟩ all).length ≤ ls.length := by rw [ec.2.2]; exact Nat.le_refl _
      refine Sep.feed 1 all h rfl F.1 hbb (by simp only; omega) ?_
      clear h F
      intro fa2 fc2 w4 h
      rw [ec.2.1] at h
      rw [ec.1]
      (try simp only [nfD] at h); have F := h.facts; (try simp only [nfF, emp_fact, rds_fact, frm_fact, strm_fact, strr_fact, rdz_fact] at F); try simp -dsimp only [↓vcA, vcB, vcD, ↓pureT_lenS, ↓iteT, ↓iteF, cond_true, cond_false, eq_self, argE, Env.get, Env.push, ev, evs, evo, retV, Value.cells, Value.oneCell', setR, overR, fillL, zl, places, allSizes, heldC, ne_eq, Int.reduceLE, Int.reduceLT, Int.reduceEq, Int.reduceNe, Int.reduceToNat, Int.cast_ofNat_Int, Nat.reduceMul, Nat.reduceLeDiff, reduceIte, Nat.reduceEqDiff, Nat.reduceAdd, ↓reduceIte, Try.vcT, F, h.cell0, gets, vsD, if_true, if_false, Bool.false_eq_true]
      refine Sep.appFrm 2 3 h rfl rfl (by rw [List.length_append] at hfl; omega) ?_
      clear h F
      intro fa3 fc3 w5 h
      rw [← List.length_append, ec.2.2] at h
      rw [← List.length_append, ec.2.2]
      have h := h.erase 3
      (try simp only [nfD] at h); have F := h.facts; (try simp only [nfF, emp_fact, rds_fact, frm_fact, strm_fact, strr_fact, rdz_fact] at F); try simp -dsimp only [↓vcA, vcB, vcD, ↓pureT_lenS, ↓iteT, ↓iteF, cond_true, cond_false, eq_self, argE, Env.get, Env.push, ev, evs, evo, retV, Value.cells, Value.oneCell', setR, overR, fillL, zl, places, allSizes, heldC, ne_eq, Int.reduceLE, Int.reduceLT, Int.reduceEq, Int.reduceNe, Int.reduceToNat, Int.cast_ofNat_Int, Nat.reduceMul, Nat.reduceLeDiff, reduceIte, Nat.reduceEqDiff, Nat.reduceAdd, ↓reduceIte, Try.vcT, F, h.cell0, gets, vsD, if_true, if_false, Bool.false_eq_true]
      refine Sep.callp h (same24 _ _ ls ls _ F.2.2.1 (h1.sep h) hb hb) ?_
      clear h F
      intro w6 h
      (try simp only [nfD] at h); have F := h.facts; (try simp only [nfF, emp_fact, rds_fact, frm_fact, strm_fact, strr_fact, rdz_fact] at F); try simp -dsimp only [↓vcA, vcB, vcD, ↓pureT_lenS, ↓iteT, ↓iteF, cond_true, cond_false, eq_self, argE, Env.get, Env.push, ev, evs, evo, retV, Value.cells, Value.oneCell', setR, overR, fillL, zl, places, allSizes, heldC, ne_eq, Int.reduceLE, Int.reduceLT, Int.reduceEq, Int.reduceNe, Int.reduceToNat, Int.cast_ofNat_Int, Nat.reduceMul, Nat.reduceLeDiff, reduceIte, Nat.reduceEqDiff, Nat.reduceAdd, ↓reduceIte, Try.vcT, F, h.cell0, gets, vsD, if_true, if_false, Bool.false_eq_true,  decide_true]
      refine Sep.rest 1 h rfl ?_
      clear h F
      intro ra rc w7 h
      (try simp only [nfD] at h); have F := h.facts; (try simp only [nfF, emp_fact, rds_fact, frm_fact, strm_fact, strr_fact, rdz_fact] at F); try simp -dsimp only [↓vcA, vcB, vcD, ↓pureT_lenS, ↓iteT, ↓iteF, cond_true, cond_false, eq_self, argE, Env.get, Env.push, ev, evs, evo, retV, Value.cells, Value.oneCell', setR, overR, fillL, zl, places, allSizes, heldC, ne_eq, Int.reduceLE, Int.reduceLT, Int.reduceEq, Int.reduceNe, Int.reduceToNat, Int.cast_ofNat_Int, Nat.reduceMul, Nat.reduceLeDiff, reduceIte, Nat.reduceEqDiff, Nat.reduceAdd, ↓reduceIte, Try.vcT, F, h.cell0, gets, vsD, if_true, if_false, Bool.false_eq_true]
      refine Sep.dead 1 h rfl ?_
      clear h F
      intro w8 h
      (try simp only [nfD] at h); have F := h.facts; (try simp only [nfF, emp_fact, rds_fact, frm_fact, strm_fact, strr_fact, rdz_fact] at F); try simp -dsimp only [↓vcA, vcB, vcD, ↓pureT_lenS, ↓iteT, ↓iteF, cond_true, cond_false, eq_self, argE, Env.get, Env.push, ev, evs, evo, retV, Value.cells, Value.oneCell', setR, overR, fillL, zl, places, allSizes, heldC, ne_eq, Int.reduceLE, Int.reduceLT, Int.reduceEq, Int.reduceNe, Int.reduceToNat, Int.cast_ofNat_Int, Nat.reduceMul, Nat.reduceLeDiff, reduceIte, Nat.reduceEqDiff, Nat.reduceAdd, ↓reduceIte, Try.vcT, F, h.cell0, gets, vsD, if_true, if_false, Bool.false_eq_true]
      refine Sep.awake24 h ?_
      clear h F
      intro w9 h
      (try simp only [nfD] at h); have F := h.facts; (try simp only [nfF, emp_fact, rds_fact, frm_fact, strm_fact, strr_fact, rdz_fact] at F); try simp -dsimp only [↓vcA, vcB, vcD, ↓pureT_lenS, ↓iteT, ↓iteF, cond_true, cond_false, eq_self, argE, Env.get, Env.push, ev, evs, evo, retV, Value.cells, Value.oneCell', setR, overR, fillL, zl, places, allSizes, heldC, ne_eq, Int.reduceLE, Int.reduceLT, Int.reduceEq, Int.reduceNe, Int.reduceToNat, Int.cast_ofNat_Int, Nat.reduceMul, Nat.reduceLeDiff, reduceIte, Nat.reduceEqDiff, Nat.reduceAdd, ↓reduceIte, Try.vcT, F, h.cell0, gets, vsD, if_true, if_false, Bool.false_eq_true]
      exact h.done
end Go.Proofs.Ytnhgjgoglmadnaa
