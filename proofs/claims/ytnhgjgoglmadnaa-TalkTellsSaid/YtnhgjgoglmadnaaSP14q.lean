/- Joined texts of this claim (part 17), printed by a program of this work. The last part holds the claimed theorem: the law answers true at every input of its row. -/
import Derived.Test.YtnhgjgoglmadnaaSP14p
namespace Go.Proofs.Ytnhgjgoglmadnaa
open Go.RowKit
set_option maxRecDepth 100000
set_option linter.unusedSimpArgs false
set_option linter.unusedVariables false
set_option pp.maxSteps 1500
set_option pp.deepTerms.threshold 8

def writtenW (z : Int) (a : AnV) : W8 := if a.code = 0 then tellsW ((⟨[], false⟩ : W8).num a.code 1) z a else (⟨[], false⟩ : W8).num a.code 1
def writtenB (z : Int) (a : AnV) : List Int := if (writtenW z a).bad then [] else (writtenW z a).l
set_option maxHeartbeats 2000000 in
theorem written128 (z : Int) (a : AnV) (t : AnS) (w : World) (R : AnR w a t) (O : a.Ok) (hl : a.room ≤ 500000) :
    Calls Try.prog 128 [.int .i64 z, .agg (a.cells t).toArray].toArray w (RetK fun v w' => ∃ N, Sep w (fun _ => False) N w' ∧ (∀ q ∈ N, ∀ x, ¬ q.rd x) ∧
      ∃ b c, v = .tuple #[.slice b (writtenB z a).length c, .int .i64 (if (writtenW z a).bad then 2 else 0)] ∧ N = [byt (.slice b (writtenB z a).length c) (writtenB z a)]) := by
  have hc := O.code
  obtain ⟨ap, cp, ep⟩ := R.p.shape
  obtain ⟨aca, cca, eca⟩ := R.ca.shape
  obtain ⟨ala, cla, ela⟩ := R.la.shape
  have h := Sep.nil w
  refine walk Try.func128 rfl (by kernel_rfl) (by rw [Try.nt128]; simp) ?_
  (try simp only [nfD] at h); have F := h.facts; (try simp only [nfF, emp_fact, rds_fact, frm_fact, tab_fact, two_fact, inr_fact, ansX_fact] at F)
  simp -dsimp only [↓vcA, vcB, vcD, ↓pureT_lenS, ↓iteT, ↓iteF, cond_true, cond_false, eq_self, argE, Env.get, Env.push, ev, evs, evo, retV, Value.cells, Value.oneCell', setR, overR, fillL, zl, places, allSizes, heldC, ne_eq, Int.reduceLE, Int.reduceLT, Int.reduceEq, Int.reduceNe, Int.reduceToNat, Int.cast_ofNat_Int, Nat.reduceMul, Nat.reduceLeDiff, reduceIte, Nat.reduceEqDiff, Nat.reduceAdd, ↓reduceIte, Try.vcT, AnV.cells, ep, eca, ela]
  refine h.new ?_
  clear h F
  intro w1 b1 h
  (try simp only [nfD] at h); have F := h.facts; (try simp only [nfF, emp_fact, rds_fact, frm_fact, tab_fact, two_fact, inr_fact, ansX_fact] at F); try simp -dsimp only [↓vcA, vcB, vcD, ↓pureT_lenS, ↓iteT, ↓iteF, cond_true, cond_false, eq_self, argE, Env.get, Env.push, ev, evs, evo, retV, Value.cells, Value.oneCell', setR, overR, fillL, zl, places, allSizes, heldC, ne_eq, Int.reduceLE, Int.reduceLT, Int.reduceEq, Int.reduceNe, Int.reduceToNat, Int.cast_ofNat_Int, Nat.reduceMul, Nat.reduceLeDiff, reduceIte, Nat.reduceEqDiff, Nat.reduceAdd, ↓reduceIte, Try.vcT, F, h.cell0, gets, vsD, if_true, if_false, Bool.false_eq_true]
  refine h.new ?_
  clear h F
  intro w2 p h
  have h := h.wrNew 1 rfl (by decide)
  (try simp only [nfD] at h); have F := h.facts; (try simp only [nfF, emp_fact, rds_fact, frm_fact, tab_fact, two_fact, inr_fact, ansX_fact] at F); try simp -dsimp only [↓vcA, vcB, vcD, ↓pureT_lenS, ↓iteT, ↓iteF, cond_true, cond_false, eq_self, argE, Env.get, Env.push, ev, evs, evo, retV, Value.cells, Value.oneCell', setR, overR, fillL, zl, places, allSizes, heldC, ne_eq, Int.reduceLE, Int.reduceLT, Int.reduceEq, Int.reduceNe, Int.reduceToNat, Int.cast_ofNat_Int, Nat.reduceMul, Nat.reduceLeDiff, reduceIte, Nat.reduceEqDiff, Nat.reduceAdd, ↓reduceIte, Try.vcT, F, h.cell0, gets, vsD, if_true, if_false, Bool.false_eq_true,  cellsAt]
  refine Sep.num 1 h rfl (by omega) hc.1 hc.2 ?_
  clear h F
  intro w3 h
  by_cases h0 : a.code = 0
  case neg =>
    have e : writtenW z a = (⟨[], false⟩ : W8).num a.code 1 := by unfold writtenW; rw [if_neg h0]
    (try simp only [nfD] at h); have F := h.facts; (try simp only [nfF, emp_fact, rds_fact, frm_fact, tab_fact, two_fact, inr_fact, ansX_fact] at F); try simp -dsimp only [↓vcA, vcB, vcD, ↓pureT_lenS, ↓iteT, ↓iteF, cond_true, cond_false, eq_self, argE, Env.get, Env.push, ev, evs, evo, retV, Value.cells, Value.oneCell', setR, overR, fillL, zl, places, allSizes, heldC, ne_eq, Int.reduceLE, Int.reduceLT, Int.reduceEq, Int.reduceNe, Int.reduceToNat, Int.cast_ofNat_Int, Nat.reduceMul, Nat.reduceLeDiff, reduceIte, Nat.reduceEqDiff, Nat.reduceAdd, ↓reduceIte, Try.vcT, F, h.cell0, gets, vsD, if_true, if_false, Bool.false_eq_true,  cellsAt, decide_eq_false h0]
    refine Sep.bytes 1 h rfl (by omega) ?_
    clear h F
    intro b c w4 h
    rw [← e] at h
    rw [← e]
    (try simp only [nfD] at h); have F := h.facts; (try simp only [nfF, emp_fact, rds_fact, frm_fact, tab_fact, two_fact, inr_fact, ansX_fact] at F); try simp -dsimp only [↓vcA, vcB, vcD, ↓pureT_lenS, ↓iteT, ↓iteF, cond_true, cond_false, eq_self, argE, Env.get, Env.push, ev, evs, evo, retV, Value.cells, Value.oneCell', setR, overR, fillL, zl, places, allSizes, heldC, ne_eq, Int.reduceLE, Int.reduceLT, Int.reduceEq, Int.reduceNe, Int.reduceToNat, Int.cast_ofNat_Int, Nat.reduceMul, Nat.reduceLeDiff, reduceIte, Nat.reduceEqDiff, Nat.reduceAdd, ↓reduceIte, Try.vcT, F, h.cell0, gets, vsD, if_true, if_false, Bool.false_eq_true]
    exact ⟨_, (h.erase 0).erase 0, (fun q hq x hx => by simp at hq; subst hq; exact hx), b, c, rfl, rfl⟩
  case pos =>
    have e : writtenW z a = tellsW ((⟨[], false⟩ : W8).num a.code 1) z a := by unfold writtenW; rw [if_pos h0]
    have k1 := fun K => tells138 (w0 := w) (w := w3) (q := blk b1 114 (a.cells t)) (p := p) (k := 0 + 8) (s := (⟨[], false⟩ : W8).num a.code 1) (z := z) (a := a) (t := t) (K := K) (by simp only [AnV.cells, ep, eca, ela]; exact h) R O (by omega)
    simp only [AnV.cells, ep, eca, ela] at k1
    (try simp only [nfD] at h); have F := h.facts; (try simp only [nfF, emp_fact, rds_fact, frm_fact, tab_fact, two_fact, inr_fact, ansX_fact] at F); try simp -dsimp only [↓vcA, vcB, vcD, ↓pureT_lenS, ↓iteT, ↓iteF, cond_true, cond_false, eq_self, argE, Env.get, Env.push, ev, evs, evo, retV, Value.cells, Value.oneCell', setR, overR, fillL, zl, places, allSizes, heldC, ne_eq, Int.reduceLE, Int.reduceLT, Int.reduceEq, Int.reduceNe, Int.reduceToNat, Int.cast_ofNat_Int, Nat.reduceMul, Nat.reduceLeDiff, reduceIte, Nat.reduceEqDiff, Nat.reduceAdd, ↓reduceIte, Try.vcT, F, h.cell0, gets, vsD, if_true, if_false, Bool.false_eq_true,  cellsAt, decide_eq_true h0]
    refine k1 _ ?_
    clear h F k1
    intro w4 h
    rw [← e] at h
    (try simp only [nfD] at h); have F := h.facts; (try simp only [nfF, emp_fact, rds_fact, frm_fact, tab_fact, two_fact, inr_fact, ansX_fact] at F); try simp -dsimp only [↓vcA, vcB, vcD, ↓pureT_lenS, ↓iteT, ↓iteF, cond_true, cond_false, eq_self, argE, Env.get, Env.push, ev, evs, evo, retV, Value.cells, Value.oneCell', setR, overR, fillL, zl, places, allSizes, heldC, ne_eq, Int.reduceLE, Int.reduceLT, Int.reduceEq, Int.reduceNe, Int.reduceToNat, Int.cast_ofNat_Int, Nat.reduceMul, Nat.reduceLeDiff, reduceIte, Nat.reduceEqDiff, Nat.reduceAdd, ↓reduceIte, Try.vcT, F, h.cell0, gets, vsD, if_true, if_false, Bool.false_eq_true]
    refine Sep.bytes 1 h rfl (by omega) ?_
    clear h F
    intro b c w5 h
    (try simp only [nfD] at h); have F := h.facts; (try simp only [nfF, emp_fact, rds_fact, frm_fact, tab_fact, two_fact, inr_fact, ansX_fact] at F); try simp -dsimp only [↓vcA, vcB, vcD, ↓pureT_lenS, ↓iteT, ↓iteF, cond_true, cond_false, eq_self, argE, Env.get, Env.push, ev, evs, evo, retV, Value.cells, Value.oneCell', setR, overR, fillL, zl, places, allSizes, heldC, ne_eq, Int.reduceLE, Int.reduceLT, Int.reduceEq, Int.reduceNe, Int.reduceToNat, Int.cast_ofNat_Int, Nat.reduceMul, Nat.reduceLeDiff, reduceIte, Nat.reduceEqDiff, Nat.reduceAdd, ↓reduceIte, Try.vcT, F, h.cell0, gets, vsD, if_true, if_false, Bool.false_eq_true]
    exact ⟨_, (h.erase 0).erase 0, (fun q hq x hx => by simp at hq; subst hq; exact hx), b, c, rfl, rfl⟩

def toldA (z : Int) (b : List Int) : AnV × R8 :=
  let q := if (⟨b, false⟩ : R8).numV 1 = 0 then toldQ ((⟨b, false⟩ : R8).numS 1) z else (AnV.zero, (⟨b, false⟩ : R8).numS 1)
  ({q.1 with code := (⟨b, false⟩ : R8).numV 1}, q.2)
def toldOk (z : Int) (b : List Int) : Bool := (toldA z b).2.done && (!(writtenW z (toldA z b).1).bad && decide (writtenB z (toldA z b).1 = b))
def toldV (z : Int) (b : List Int) : AnV := if toldOk z b then (toldA z b).1 else AnV.zero
theorem itemsN_all {α : Type} {P : α → Prop} {f : R8 → α} {g : R8 → R8} (hf : ∀ s : R8, Byt s.l → P (f s)) (hg : ∀ s : R8, Byt s.l → Byt (g s).l) : ∀ n s, Byt s.l → (∀ x ∈ (itemsN f g n s).1, P x) ∧ Byt (itemsN f g n s).2.l
  | 0, s, hb => ⟨fun x hx => (by cases hx), hb⟩
  | n + 1, s, hb => by
    obtain ⟨h1, h2⟩ := itemsN_all hf hg n (g s) (hg s hb)
    refine ⟨fun x hx => ?_, h2⟩
    rcases List.mem_cons.1 hx with rfl | hx
    · exact hf s hb
    · exact h1 x hx
theorem rPc_ok {s : R8} (hb : Byt s.l) : Ok64 (rPc s) := by
  have h4 := triV_rng s hb
  unfold T3.rng at h4
  have b4 := triS_byt s hb
  have h5 := num1_rng _ b4
  have b5 := numS_byt _ 1 b4
  have h6 := num2_rng _ b5
  have b6 := numS_byt _ 2 b5
  have h7 := num1_rng _ b6
  unfold rPc Ok64
  simp only [List.forall_mem_cons, List.not_mem_nil, false_implies, implies_true, and_true]
  omega
theorem rCp_ok {s : R8} (hb : Byt s.l) : Ok64 (rCp s) := by
  have h0 := num1_rng s hb
  have b0 := numS_byt s 1 hb
  have h1 := num1_rng _ b0
  have b1 := numS_byt _ 1 b0
  have h2 := num1_rng _ b1
  have b2 := numS_byt _ 1 b1
  have h3 := num2_rng _ b2
  have b3 := numS_byt _ 2 b2
  have h4 := num1_rng _ b3
  have b4 := numS_byt _ 1 b3
  have h5 := num4_rng _ b4
  unfold rCp Ok64
  simp only [List.forall_mem_cons, List.not_mem_nil, false_implies, implies_true, and_true]
  omega
theorem u64_rng (n : Int) : 0 ≤ IntKind.u64.wrap n ∧ IntKind.u64.wrap n < 18446744073709551616 := by rw [u64wrap]; omega
theorem shl8_fold (xs : List Int) : ∀ a, 0 ≤ a ∧ a < 18446744073709551616 → 0 ≤ xs.foldl shl8 a ∧ xs.foldl shl8 a < 18446744073709551616 := by
  induction xs with
  | nil => intro a h; exact h
  | cons x xs ih => intro a h; exact ih _ (u64_rng _)
theorem zeroA_ok : AnV.zero.Ok := ⟨by simp [AnV.zero], by simp [AnV.zero], by simp [AnV.zero], fun x hx => (by cases hx), fun x hx => (by cases hx), fun x hx => (by cases hx)⟩
theorem toldQ_ok {s : R8} (hb : Byt s.l) (z : Int) : (toldQ s z).1.Ok ∧ Byt (toldQ s z).2.l ∧ (toldQ s z).1.room ≤ 45000 := by
  have hn1 := num1_rng s hb
  have hs1 := numS_byt s 1 hb
  have zo := zeroA_ok
  have hP := itemsN_all (P := Ok64) (fun s => rPc_ok (s := s)) (fun s => sPc_byt (s := s)) (s.numV 1).toNat _ hs1
  have hC := itemsN_all (P := Ok64) (fun s => rCp_ok (s := s)) (fun s => sCp_byt (s := s)) (s.numV 1).toNat _ hs1
  have hL := itemsN_all (P := fun n => -9223372036854775808 ≤ n ∧ n ≤ 9223372036854775807) (f := rLa) (g := sLa) (fun s hb => by have := num2_rng s hb; unfold rLa; omega) (fun s hb => numS_byt s 2 hb) (s.numV 1).toNat _ hs1
  have lP := itemsN_len rPc sPc (s.numV 1).toNat (s.numS 1)
  have lC := itemsN_len rCp sCp (s.numV 1).toNat (s.numS 1)
  have lL := itemsN_len rLa sLa (s.numV 1).toNat (s.numS 1)
  have hm : (s.numV 1).toNat ≤ 255 := by omega
  have h4 := num4_rng s hb
  unfold toldQ
  by_cases h12 : z = 1 ∨ z = 2
  · rw [if_pos h12]
    refine ⟨⟨zo.code, zo.n, zo.sum, fun x hx => ?_, zo.ca, zo.la⟩, sPc_byt hb, by simp [AnV.room, AnV.zero]⟩
    simp only [List.mem_cons, List.not_mem_nil, or_false] at hx
    subst hx; exact rPc_ok hb
  rw [if_neg h12]
  by_cases h34 : z = 3 ∨ z = 4
  · rw [if_pos h34]
    exact ⟨⟨zo.code, zo.n, zo.sum, hP.1, zo.ca, zo.la⟩, numS_byt _ 1 hP.2, by simp only [AnV.room, AnV.zero, lP, List.length_nil]; omega⟩
  rw [if_neg h34]
  by_cases h14 : z = 14
  · rw [if_pos h14]
    exact ⟨⟨zo.code, zo.n, zo.sum, zo.p, hC.1, zo.la⟩, numS_byt _ 1 hC.2, by simp only [AnV.room, AnV.zero, lC, List.length_nil]; omega⟩
  rw [if_neg h14]
  by_cases h15 : z = 15
  · rw [if_pos h15]
    exact ⟨⟨zo.code, zo.n, zo.sum, zo.p, zo.ca, hL.1⟩, hL.2, by simp only [AnV.room, AnV.zero, lL, List.length_nil]; omega⟩
  rw [if_neg h15]
  by_cases e12 : z = 12
  · rw [if_pos e12]
    exact ⟨⟨zo.code, by dsimp only; omega, zo.sum, zo.p, zo.ca, zo.la⟩, hs1, by simp [AnV.room, AnV.zero]⟩
  rw [if_neg e12]
  by_cases e16 : z = 16
  · rw [if_pos e16]
    exact ⟨⟨zo.code, by dsimp only; omega, shl8_fold _ 0 (by omega), zo.p, zo.ca, zo.la⟩, (rawS_byt _ _ (numS_byt s 4 hb)).1, by simp [AnV.room, AnV.zero]⟩
  rw [if_neg e16]
  exact ⟨zo, hb, by simp [AnV.room, AnV.zero]⟩
theorem toldA_ok {b : List Int} (hb : Byt b) (z : Int) : (toldA z b).1.Ok ∧ (toldA z b).1.room ≤ 45000 := by
  have h1 := num1_rng (⟨b, false⟩ : R8) hb
  have hs := numS_byt (⟨b, false⟩ : R8) 1 hb
  have zo := zeroA_ok
  unfold toldA
  dsimp only
  split
  · obtain ⟨o, _, r⟩ := toldQ_ok hs z
    exact ⟨⟨by dsimp only; omega, o.n, o.sum, o.p, o.ca, o.la⟩, r⟩
  · exact ⟨⟨by dsimp only; omega, zo.n, zo.sum, zo.p, zo.ca, zo.la⟩, by simp [AnV.room, AnV.zero]⟩
theorem Sep.ansZero {w0 w : World} {M : List Res} (h : Sep w0 (fun _ => False) M w) : Sep w0 (fun _ => False) [ansX AnV.zero AnS.zero] w :=
  (((((h.none.tabNil 205 9).tabNil 159 9).two 0 1 rfl rfl).erase 1).inrNil.two 0 1 rfl rfl).erase 1
theorem Sep.ansPush {w0 w : World} {r q : Res} (h : Sep w0 (fun _ => False) [r, q] w) : Sep w0 (fun _ => False) [r, q, ansX AnV.zero AnS.zero] w :=
  (((((h.tabNil 205 9).tabNil 159 9).two 2 3 rfl rfl).erase 3).inrNil.two 2 3 rfl rfl).erase 3
end Go.Proofs.Ytnhgjgoglmadnaa
namespace Go.Proofs.Ytnhgjgoglmadnaa
open Go.RowKit
set_option maxRecDepth 100000
set_option linter.unusedSimpArgs false
set_option linter.unusedVariables false
set_option pp.maxSteps 1500
set_option pp.deepTerms.threshold 8

theorem wPc_stp (s : W8) : ∀ x, Stp 80 s (wPc s x)
  | [a0, a1, a2, a3, a4, a5, a6, a7, a8] => ((((Stp.tri s a0 a1 a2 a3 a4 a5).trans (Stp.num _ _ _)).trans (Stp.num _ _ _)).trans (Stp.num _ _ _)).mono (by omega)
  | [] => (Stp.refl s).mono (by omega)
  | [_] => (Stp.refl s).mono (by omega)
  | [_, _] => (Stp.refl s).mono (by omega)
  | [_, _, _] => (Stp.refl s).mono (by omega)
  | [_, _, _, _] => (Stp.refl s).mono (by omega)
  | [_, _, _, _, _] => (Stp.refl s).mono (by omega)
  | [_, _, _, _, _, _] => (Stp.refl s).mono (by omega)
  | [_, _, _, _, _, _, _] => (Stp.refl s).mono (by omega)
  | [_, _, _, _, _, _, _, _] => (Stp.refl s).mono (by omega)
  | _ :: _ :: _ :: _ :: _ :: _ :: _ :: _ :: _ :: _ :: _ => (Stp.refl s).mono (by omega)
theorem wCp_stp (s : W8) : ∀ x, Stp 80 s (wCp s x)
  | [a0, a1, a2, a3, a4, a5, a6, a7, a8] => ((((((Stp.num s _ _).trans (Stp.num _ _ _)).trans (Stp.num _ _ _)).trans (Stp.num _ _ _)).trans (Stp.num _ _ _)).trans (Stp.num _ _ _)).mono (by omega)
  | [] => (Stp.refl s).mono (by omega)
  | [_] => (Stp.refl s).mono (by omega)
  | [_, _] => (Stp.refl s).mono (by omega)
  | [_, _, _] => (Stp.refl s).mono (by omega)
  | [_, _, _, _] => (Stp.refl s).mono (by omega)
  | [_, _, _, _, _] => (Stp.refl s).mono (by omega)
  | [_, _, _, _, _, _] => (Stp.refl s).mono (by omega)
  | [_, _, _, _, _, _, _] => (Stp.refl s).mono (by omega)
  | [_, _, _, _, _, _, _, _] => (Stp.refl s).mono (by omega)
  | _ :: _ :: _ :: _ :: _ :: _ :: _ :: _ :: _ :: _ :: _ => (Stp.refl s).mono (by omega)
theorem wLa_stp : ∀ (xs : List Int) (s : W8), Stp (xs.length * 8) s (xs.foldl wLa s)
  | [], s => (Stp.refl s).mono (by omega)
  | x :: xs, s => ((Stp.num s x 2).trans (wLa_stp xs _)).mono (by simp only [List.length_cons, Nat.succ_mul]; omega)
theorem tellsW_stp (s : W8) (z : Int) (a : AnV) : Stp (100 + a.p.length * 80 + a.ca.length * 80 + a.la.length * 8) s (tellsW s z a) := by
  unfold tellsW
  split
  · split
    · exact (Stp.list wPc_stp a.p s).mono (by omega)
    · exact (Stp.num s _ _).mono (by omega)
  split
  · exact (((Stp.num s _ _).trans (Stp.list wPc_stp a.p _)).trans (Stp.num _ _ _)).mono (by omega)
  split
  · exact (((Stp.num s _ _).trans (Stp.list wCp_stp a.ca _)).trans (Stp.num _ _ _)).mono (by omega)
  split
  · exact ((Stp.num s _ _).trans (wLa_stp a.la _)).mono (by omega)
  split
  · exact (Stp.num s _ _).mono (by omega)
  split
  · exact ((Stp.num s _ _).trans (Stp.raw _ (be_byt _ _))).mono (by rw [be_length]; omega)
  · exact (Stp.refl s).mono (by omega)
theorem writtenW_byt (z : Int) (a : AnV) : Byt (writtenW z a).l ∧ (writtenW z a).l.length ≤ a.room := by
  have h0 := Stp.num (⟨[], false⟩ : W8) a.code 1
  have h1 := h0.trans (tellsW_stp ((⟨[], false⟩ : W8).num a.code 1) z a)
  unfold writtenW AnV.room
  split
  · exact ⟨h1.1 Byt.nil, by have := h1.2.1; simp only [List.length_nil] at this; omega⟩
  · exact ⟨h0.1 Byt.nil, by have := h0.2.1; simp only [List.length_nil] at this; omega⟩
theorem writtenB_byt (z : Int) (a : AnV) : Byt (writtenB z a) := by
  unfold writtenB; split
  · exact Byt.nil
  · exact (writtenW_byt z a).1
set_option maxHeartbeats 4000000 in
theorem told72 (z : Int) (v : Value) (b : List Int) (w : World) (hr : Rd w v b) (hb : Byt b) (hl : b.length ≤ 99000) :
    Calls Try.prog 72 [.int .i64 z, v].toArray w (RetK fun r w' => ∃ N, Sep w (fun _ => False) N w' ∧ (∀ q ∈ N, ∀ x, ¬ q.rd x) ∧
      ∃ t, r = .tuple #[.agg ((toldV z b).cells t).toArray, .int .i64 (if toldOk z b then 0 else 2)] ∧ N = [ansX (toldV z b) t]) := by
  have hr' := hr
  obtain ⟨a, cc, rfl, _⟩ := hr'
  have h := Sep.nil w
  refine walk Try.func72 rfl (by kernel_rfl) (by rw [Try.nt72]; simp) ?_
  (try simp only [nfD] at h); have F := h.facts; (try simp only [nfF, emp_fact, rds_fact, frm_fact, tab_fact, two_fact, inr_fact, ansX_fact] at F)
  simp -dsimp only [↓vcA, vcB, vcD, ↓pureT_lenS, ↓iteT, ↓iteF, cond_true, cond_false, eq_self, argE, Env.get, Env.push, ev, evs, evo, retV, Value.cells, Value.oneCell', setR, overR, fillL, zl, places, allSizes, heldC, ne_eq, Int.reduceLE, Int.reduceLT, Int.reduceEq, Int.reduceNe, Int.reduceToNat, Int.cast_ofNat_Int, Nat.reduceMul, Nat.reduceLeDiff, reduceIte, Nat.reduceEqDiff, Nat.reduceAdd, ↓reduceIte, Try.vcT]
  refine h.new ?_
  clear h F
  intro w1 b1 h
  (try simp only [nfD] at h); have F := h.facts; (try simp only [nfF, emp_fact, rds_fact, frm_fact, tab_fact, two_fact, inr_fact, ansX_fact] at F); try simp -dsimp only [↓vcA, vcB, vcD, ↓pureT_lenS, ↓iteT, ↓iteF, cond_true, cond_false, eq_self, argE, Env.get, Env.push, ev, evs, evo, retV, Value.cells, Value.oneCell', setR, overR, fillL, zl, places, allSizes, heldC, ne_eq, Int.reduceLE, Int.reduceLT, Int.reduceEq, Int.reduceNe, Int.reduceToNat, Int.cast_ofNat_Int, Nat.reduceMul, Nat.reduceLeDiff, reduceIte, Nat.reduceEqDiff, Nat.reduceAdd, ↓reduceIte, Try.vcT, F, h.cell0, gets, vsD, if_true, if_false, Bool.false_eq_true]
  refine Sep.read b h (hr.sep h fun _ _ => id) (by omega) ?_
  clear h F
  intro r w2 h
  (try simp only [nfD] at h); have F := h.facts; (try simp only [nfF, emp_fact, rds_fact, frm_fact, tab_fact, two_fact, inr_fact, ansX_fact] at F); try simp -dsimp only [↓vcA, vcB, vcD, ↓pureT_lenS, ↓iteT, ↓iteF, cond_true, cond_false, eq_self, argE, Env.get, Env.push, ev, evs, evo, retV, Value.cells, Value.oneCell', setR, overR, fillL, zl, places, allSizes, heldC, ne_eq, Int.reduceLE, Int.reduceLT, Int.reduceEq, Int.reduceNe, Int.reduceToNat, Int.cast_ofNat_Int, Nat.reduceMul, Nat.reduceLeDiff, reduceIte, Nat.reduceEqDiff, Nat.reduceAdd, ↓reduceIte, Try.vcT, F, h.cell0, gets, vsD, if_true, if_false, Bool.false_eq_true]
  refine Sep.rdNum 1 h rfl ?_
  clear h F
  intro w3 h
  have hS1 := numS_byt (⟨b, false⟩ : R8) 1 hb
  have hok0 : toldOk z b = ((toldA z b).2.done && (!(writtenW z (toldA z b).1).bad && decide (writtenB z (toldA z b).1 = b))) := rfl
  have hv0 : toldV z b = if toldOk z b then (toldA z b).1 else AnV.zero := rfl
  obtain ⟨hO, hroom⟩ := toldA_ok hb z
  have hA : toldA z b = ({(if (⟨b, false⟩ : R8).numV 1 = 0 then toldQ ((⟨b, false⟩ : R8).numS 1) z else (AnV.zero, (⟨b, false⟩ : R8).numS 1)).1 with code := (⟨b, false⟩ : R8).numV 1}, (if (⟨b, false⟩ : R8).numV 1 = 0 then toldQ ((⟨b, false⟩ : R8).numS 1) z else (AnV.zero, (⟨b, false⟩ : R8).numS 1)).2) := rfl
  have fin : ∀ {w' : World} {M : List Res}, toldOk z b = false → Sep w (fun _ => False) M w' → ∃ N, Sep w (fun _ => False) N w' ∧ (∀ q ∈ N, ∀ x, ¬ q.rd x) ∧
      ∃ t, Value.tuple #[.agg #[.int .i64 0, .slice none 0 0, .bool false, .slice none 0 0, .slice none 0 0, .int .i64 0, .int .u64 0], .int .i64 2] = .tuple #[.agg ((toldV z b).cells t).toArray, .int .i64 (if toldOk z b then 0 else 2)] ∧ N = [ansX (toldV z b) t] := fun hf h => by
    have e : toldV z b = AnV.zero := by rw [hv0, hf]; rfl
    rw [e, hf]
    exact ⟨_, h.ansZero, (fun q hq x => by simp at hq; subst hq; exact ansX_rd _ _ x), AnS.zero, rfl, rfl⟩
  generalize (⟨b, false⟩ : R8).numS 1 = s1 at *
  generalize (⟨b, false⟩ : R8).numV 1 = code at *
  by_cases h0 : code = 0
  case' pos =>
    rw [if_pos h0] at hA
    (try simp only [nfD] at h); have F := h.facts; (try simp only [nfF, emp_fact, rds_fact, frm_fact, tab_fact, two_fact, inr_fact, ansX_fact] at F); try simp -dsimp only [↓vcA, vcB, vcD, ↓pureT_lenS, ↓iteT, ↓iteF, cond_true, cond_false, eq_self, argE, Env.get, Env.push, ev, evs, evo, retV, Value.cells, Value.oneCell', setR, overR, fillL, zl, places, allSizes, heldC, ne_eq, Int.reduceLE, Int.reduceLT, Int.reduceEq, Int.reduceNe, Int.reduceToNat, Int.cast_ofNat_Int, Nat.reduceMul, Nat.reduceLeDiff, reduceIte, Nat.reduceEqDiff, Nat.reduceAdd, ↓reduceIte, Try.vcT, F, h.cell0, gets, vsD, if_true, if_false, Bool.false_eq_true,  decide_eq_true h0]
    refine told131 h hS1 ?_
    clear h F
    intro t w4 h
    generalize hQ : toldQ s1 z = Q at *
    obtain ⟨A, s'⟩ := Q
    dsimp only at hA
    (try simp only [nfD] at h); have F := h.facts; (try simp only [nfF, emp_fact, rds_fact, frm_fact, tab_fact, two_fact, inr_fact, ansX_fact] at F)
    have R := F.2.2.1
    obtain ⟨tp, tca, tla⟩ := t
    obtain ⟨Ap, Cp, ep⟩ := R.p.shape
    obtain ⟨Aca, Cca, eca⟩ := R.ca.shape
    obtain ⟨Ala, Cla, ela⟩ := R.la.shape
    dsimp only at ep eca ela
    subst ep eca ela
    clear R
    (try simp only [nfD] at h); have F := h.facts; (try simp only [nfF, emp_fact, rds_fact, frm_fact, tab_fact, two_fact, inr_fact, ansX_fact] at F); try simp -dsimp only [↓vcA, vcB, vcD, ↓pureT_lenS, ↓iteT, ↓iteF, cond_true, cond_false, eq_self, argE, Env.get, Env.push, ev, evs, evo, retV, Value.cells, Value.oneCell', setR, overR, fillL, zl, places, allSizes, heldC, ne_eq, Int.reduceLE, Int.reduceLT, Int.reduceEq, Int.reduceNe, Int.reduceToNat, Int.cast_ofNat_Int, Nat.reduceMul, Nat.reduceLeDiff, reduceIte, Nat.reduceEqDiff, Nat.reduceAdd, ↓reduceIte, Try.vcT, F, h.cell0, gets, vsD, if_true, if_false, Bool.false_eq_true,  AnV.cells]
    refine Sep.put 0 h rfl ?_
    clear h F
    intro w5 h
    (try simp only [nfD] at h); have F := h.facts; (try simp only [nfF, emp_fact, rds_fact, frm_fact, tab_fact, two_fact, inr_fact, ansX_fact] at F); try simp -dsimp only [↓vcA, vcB, vcD, ↓pureT_lenS, ↓iteT, ↓iteF, cond_true, cond_false, eq_self, argE, Env.get, Env.push, ev, evs, evo, retV, Value.cells, Value.oneCell', setR, overR, fillL, zl, places, allSizes, heldC, ne_eq, Int.reduceLE, Int.reduceLT, Int.reduceEq, Int.reduceNe, Int.reduceToNat, Int.cast_ofNat_Int, Nat.reduceMul, Nat.reduceLeDiff, reduceIte, Nat.reduceEqDiff, Nat.reduceAdd, ↓reduceIte, Try.vcT, F, h.cell0, gets, vsD, if_true, if_false, Bool.false_eq_true,  AnV.cells]
  case' neg =>
    rw [if_neg h0] at hA
    dsimp only at hA
    have h := h.ansPush
    (try simp only [nfD] at h); have F := h.facts; (try simp only [nfF, emp_fact, rds_fact, frm_fact, tab_fact, two_fact, inr_fact, ansX_fact] at F); try simp -dsimp only [↓vcA, vcB, vcD, ↓pureT_lenS, ↓iteT, ↓iteF, cond_true, cond_false, eq_self, argE, Env.get, Env.push, ev, evs, evo, retV, Value.cells, Value.oneCell', setR, overR, fillL, zl, places, allSizes, heldC, ne_eq, Int.reduceLE, Int.reduceLT, Int.reduceEq, Int.reduceNe, Int.reduceToNat, Int.cast_ofNat_Int, Nat.reduceMul, Nat.reduceLeDiff, reduceIte, Nat.reduceEqDiff, Nat.reduceAdd, ↓reduceIte, Try.vcT, F, h.cell0, gets, vsD, if_true, if_false, Bool.false_eq_true,  decide_eq_false h0]
  all_goals
    refine Sep.put 0 h rfl ?_
    clear h F
    intro w6 h
    (try simp only [nfD] at h); have F := h.facts; (try simp only [nfF, emp_fact, rds_fact, frm_fact, tab_fact, two_fact, inr_fact, ansX_fact] at F); try simp -dsimp only [↓vcA, vcB, vcD, ↓pureT_lenS, ↓iteT, ↓iteF, cond_true, cond_false, eq_self, argE, Env.get, Env.push, ev, evs, evo, retV, Value.cells, Value.oneCell', setR, overR, fillL, zl, places, allSizes, heldC, ne_eq, Int.reduceLE, Int.reduceLT, Int.reduceEq, Int.reduceNe, Int.reduceToNat, Int.cast_ofNat_Int, Nat.reduceMul, Nat.reduceLeDiff, reduceIte, Nat.reduceEqDiff, Nat.reduceAdd, ↓reduceIte, Try.vcT, F, h.cell0, gets, vsD, if_true, if_false, Bool.false_eq_true,  cellsAt]
  all_goals
    have R := F.2.2.1
    have hd2 := congrArg Prod.snd hA
    dsimp only at hd2
    have k1 := written128 z (toldA z b).1 _ w6 (by rw [hA]; exact ⟨R.p, R.ca, R.la⟩) hO (by omega)
    have hbB := writtenB_byt z (toldA z b).1
    generalize writtenB z (toldA z b).1 = B at *
    generalize writtenW z (toldA z b).1 = W at *
    have hcell : ∀ t : AnS, (toldA z b).1.cells t = (toldA z b).1.cells t := fun _ => rfl
    rw [hA] at k1
    simp only [AnV.cells, AnV.zero, AnS.zero] at k1
    refine Sep.callN h k1 ?_
    clear h F k1 R
    intro e N w7 hQ h
    obtain ⟨a7, c7, rfl, rfl⟩ := hQ
    (try simp only [nfD] at h); have F := h.facts; (try simp only [nfF, emp_fact, rds_fact, frm_fact, tab_fact, two_fact, inr_fact, ansX_fact] at F); try simp -dsimp only [↓vcA, vcB, vcD, ↓pureT_lenS, ↓iteT, ↓iteF, cond_true, cond_false, eq_self, argE, Env.get, Env.push, ev, evs, evo, retV, Value.cells, Value.oneCell', setR, overR, fillL, zl, places, allSizes, heldC, ne_eq, Int.reduceLE, Int.reduceLT, Int.reduceEq, Int.reduceNe, Int.reduceToNat, Int.cast_ofNat_Int, Nat.reduceMul, Nat.reduceLeDiff, reduceIte, Nat.reduceEqDiff, Nat.reduceAdd, ↓reduceIte, Try.vcT, F, h.cell0, gets, vsD, if_true, if_false, Bool.false_eq_true]
    refine Sep.rdDone 1 h rfl ?_
    rw [← hd2]
    cases hd : (toldA z b).2.done with
    | false =>
      (try simp only [nfD] at h); have F := h.facts; (try simp only [nfF, emp_fact, rds_fact, frm_fact, tab_fact, two_fact, inr_fact, ansX_fact] at F); try simp -dsimp only [↓vcA, vcB, vcD, ↓pureT_lenS, ↓iteT, ↓iteF, cond_true, cond_false, eq_self, argE, Env.get, Env.push, ev, evs, evo, retV, Value.cells, Value.oneCell', setR, overR, fillL, zl, places, allSizes, heldC, ne_eq, Int.reduceLE, Int.reduceLT, Int.reduceEq, Int.reduceNe, Int.reduceToNat, Int.cast_ofNat_Int, Nat.reduceMul, Nat.reduceLeDiff, reduceIte, Nat.reduceEqDiff, Nat.reduceAdd, ↓reduceIte, Try.vcT, F, h.cell0, gets, vsD, if_true, if_false, Bool.false_eq_true,  hd, if_false, Bool.not_true, Bool.not_false, Bool.false_eq_true]
      refine Sep.put 0 h rfl ?_
      clear h F
      intro w8 h
      (try simp only [nfD] at h); have F := h.facts; (try simp only [nfF, emp_fact, rds_fact, frm_fact, tab_fact, two_fact, inr_fact, ansX_fact] at F); try simp -dsimp only [↓vcA, vcB, vcD, ↓pureT_lenS, ↓iteT, ↓iteF, cond_true, cond_false, eq_self, argE, Env.get, Env.push, ev, evs, evo, retV, Value.cells, Value.oneCell', setR, overR, fillL, zl, places, allSizes, heldC, ne_eq, Int.reduceLE, Int.reduceLT, Int.reduceEq, Int.reduceNe, Int.reduceToNat, Int.cast_ofNat_Int, Nat.reduceMul, Nat.reduceLeDiff, reduceIte, Nat.reduceEqDiff, Nat.reduceAdd, ↓reduceIte, Try.vcT, F, h.cell0, gets, vsD, if_true, if_false, Bool.false_eq_true,  cellsAt]
      exact fin (by rw [hok0, hd]; rfl) h
    | true =>
    cases hw : W.bad with
    | true =>
      (try simp only [nfD] at h); have F := h.facts; (try simp only [nfF, emp_fact, rds_fact, frm_fact, tab_fact, two_fact, inr_fact, ansX_fact] at F); try simp -dsimp only [↓vcA, vcB, vcD, ↓pureT_lenS, ↓iteT, ↓iteF, cond_true, cond_false, eq_self, argE, Env.get, Env.push, ev, evs, evo, retV, Value.cells, Value.oneCell', setR, overR, fillL, zl, places, allSizes, heldC, ne_eq, Int.reduceLE, Int.reduceLT, Int.reduceEq, Int.reduceNe, Int.reduceToNat, Int.cast_ofNat_Int, Nat.reduceMul, Nat.reduceLeDiff, reduceIte, Nat.reduceEqDiff, Nat.reduceAdd, ↓reduceIte, Try.vcT, F, h.cell0, gets, vsD, if_true, if_false, Bool.false_eq_true,  hd, hw, if_true, if_false, Bool.not_true, Bool.not_false, Bool.false_eq_true]
      refine Sep.put 0 h rfl ?_
      clear h F
      intro w8 h
      (try simp only [nfD] at h); have F := h.facts; (try simp only [nfF, emp_fact, rds_fact, frm_fact, tab_fact, two_fact, inr_fact, ansX_fact] at F); try simp -dsimp only [↓vcA, vcB, vcD, ↓pureT_lenS, ↓iteT, ↓iteF, cond_true, cond_false, eq_self, argE, Env.get, Env.push, ev, evs, evo, retV, Value.cells, Value.oneCell', setR, overR, fillL, zl, places, allSizes, heldC, ne_eq, Int.reduceLE, Int.reduceLT, Int.reduceEq, Int.reduceNe, Int.reduceToNat, Int.cast_ofNat_Int, Nat.reduceMul, Nat.reduceLeDiff, reduceIte, Nat.reduceEqDiff, Nat.reduceAdd, ↓reduceIte, Try.vcT, F, h.cell0, gets, vsD, if_true, if_false, Bool.false_eq_true,  cellsAt]
      exact fin (by rw [hok0, hd, hw]; rfl) h
    | false =>
    (try simp only [nfD] at h); have F := h.facts; (try simp only [nfF, emp_fact, rds_fact, frm_fact, tab_fact, two_fact, inr_fact, ansX_fact] at F); try simp -dsimp only [↓vcA, vcB, vcD, ↓pureT_lenS, ↓iteT, ↓iteF, cond_true, cond_false, eq_self, argE, Env.get, Env.push, ev, evs, evo, retV, Value.cells, Value.oneCell', setR, overR, fillL, zl, places, allSizes, heldC, ne_eq, Int.reduceLE, Int.reduceLT, Int.reduceEq, Int.reduceNe, Int.reduceToNat, Int.cast_ofNat_Int, Nat.reduceMul, Nat.reduceLeDiff, reduceIte, Nat.reduceEqDiff, Nat.reduceAdd, ↓reduceIte, Try.vcT, F, h.cell0, gets, vsD, if_true, if_false, Bool.false_eq_true,  hd, hw, if_true, if_false, Bool.not_true, Bool.not_false, Bool.false_eq_true]
    refine Sep.callp h (bytesEq _ _ _ _ _ F.2.2.2.1 (hr.sep h fun _ _ => id) hbB hb) ?_
    clear h F
    intro w8 h
    by_cases he : B = b
    case neg =>
      (try simp only [nfD] at h); have F := h.facts; (try simp only [nfF, emp_fact, rds_fact, frm_fact, tab_fact, two_fact, inr_fact, ansX_fact] at F); try simp -dsimp only [↓vcA, vcB, vcD, ↓pureT_lenS, ↓iteT, ↓iteF, cond_true, cond_false, eq_self, argE, Env.get, Env.push, ev, evs, evo, retV, Value.cells, Value.oneCell', setR, overR, fillL, zl, places, allSizes, heldC, ne_eq, Int.reduceLE, Int.reduceLT, Int.reduceEq, Int.reduceNe, Int.reduceToNat, Int.cast_ofNat_Int, Nat.reduceMul, Nat.reduceLeDiff, reduceIte, Nat.reduceEqDiff, Nat.reduceAdd, ↓reduceIte, Try.vcT, F, h.cell0, gets, vsD, if_true, if_false, Bool.false_eq_true,  decide_eq_false he, Bool.not_true, Bool.not_false]
      refine Sep.put 0 h rfl ?_
      clear h F
      intro w9 h
      (try simp only [nfD] at h); have F := h.facts; (try simp only [nfF, emp_fact, rds_fact, frm_fact, tab_fact, two_fact, inr_fact, ansX_fact] at F); try simp -dsimp only [↓vcA, vcB, vcD, ↓pureT_lenS, ↓iteT, ↓iteF, cond_true, cond_false, eq_self, argE, Env.get, Env.push, ev, evs, evo, retV, Value.cells, Value.oneCell', setR, overR, fillL, zl, places, allSizes, heldC, ne_eq, Int.reduceLE, Int.reduceLT, Int.reduceEq, Int.reduceNe, Int.reduceToNat, Int.cast_ofNat_Int, Nat.reduceMul, Nat.reduceLeDiff, reduceIte, Nat.reduceEqDiff, Nat.reduceAdd, ↓reduceIte, Try.vcT, F, h.cell0, gets, vsD, if_true, if_false, Bool.false_eq_true,  cellsAt]
      exact fin (by rw [hok0, hd, hw, decide_eq_false he]; rfl) h
    have ok : toldOk z b = true := by rw [hok0, hd, hw, decide_eq_true he]; rfl
    have etv : toldV z b = (toldA z b).1 := by rw [hv0, ok]; rfl
    (try simp only [nfD] at h); have F := h.facts; (try simp only [nfF, emp_fact, rds_fact, frm_fact, tab_fact, two_fact, inr_fact, ansX_fact] at F); try simp -dsimp only [↓vcA, vcB, vcD, ↓pureT_lenS, ↓iteT, ↓iteF, cond_true, cond_false, eq_self, argE, Env.get, Env.push, ev, evs, evo, retV, Value.cells, Value.oneCell', setR, overR, fillL, zl, places, allSizes, heldC, ne_eq, Int.reduceLE, Int.reduceLT, Int.reduceEq, Int.reduceNe, Int.reduceToNat, Int.cast_ofNat_Int, Nat.reduceMul, Nat.reduceLeDiff, reduceIte, Nat.reduceEqDiff, Nat.reduceAdd, ↓reduceIte, Try.vcT, F, h.cell0, gets, vsD, if_true, if_false, Bool.false_eq_true,  decide_eq_true he, Bool.not_true, Bool.not_false, cellsAt]
    refine Sep.put 0 h rfl ?_
    clear h F
    intro w9 h
    (try simp only [nfD] at h); have F := h.facts; (try simp only [nfF, emp_fact, rds_fact, frm_fact, tab_fact, two_fact, inr_fact, ansX_fact] at F); try simp -dsimp only [↓vcA, vcB, vcD, ↓pureT_lenS, ↓iteT, ↓iteF, cond_true, cond_false, eq_self, argE, Env.get, Env.push, ev, evs, evo, retV, Value.cells, Value.oneCell', setR, overR, fillL, zl, places, allSizes, heldC, ne_eq, Int.reduceLE, Int.reduceLT, Int.reduceEq, Int.reduceNe, Int.reduceToNat, Int.cast_ofNat_Int, Nat.reduceMul, Nat.reduceLeDiff, reduceIte, Nat.reduceEqDiff, Nat.reduceAdd, ↓reduceIte, Try.vcT, F, h.cell0, gets, vsD, if_true, if_false, Bool.false_eq_true,  cellsAt]
    rw [etv, ok, hA]
    exact ⟨_, ((h.erase 3).erase 0).erase 0, (fun q hq x hx => by simp at hq; subst hq; exact ansX_rd _ _ x hx), _, rfl, rfl⟩
def ansOk (z : Int) (a : AnV) : Bool := !(writtenW z a).bad && toldOk z (writtenW z a).l
def ansB (z : Int) (a : AnV) : List Int := if ansOk z a then (writtenW z a).l else []
set_option maxHeartbeats 4000000 in
theorem answer70 (z : Int) (a : AnV) (t : AnS) (w : World) (R : AnR w a t) (O : a.Ok) (hl : a.room ≤ 90000) :
    Calls Try.prog 70 [.int .i64 z, .agg (a.cells t).toArray].toArray w (RetK fun v w' => ∃ N, Sep w (fun _ => False) N w' ∧ (∀ q ∈ N, ∀ x, ¬ q.rd x) ∧
      ∃ b c, v = .tuple #[.slice b (ansB z a).length c, .int .i64 (if ansOk z a then 0 else 2)] ∧ N = [byt (.slice b (ansB z a).length c) (ansB z a)]) := by
  have fin : ∀ {w' : World} {M : List Res}, ansOk z a = false → Sep w (fun _ => False) M w' → ∃ N, Sep w (fun _ => False) N w' ∧ (∀ q ∈ N, ∀ x, ¬ q.rd x) ∧
      ∃ b c, Value.tuple #[.slice none 0 0, .int .i64 2] = .tuple #[.slice b (ansB z a).length c, .int .i64 (if ansOk z a then 0 else 2)] ∧ N = [byt (.slice b (ansB z a).length c) (ansB z a)] := fun hf h => by
    have e1 : ansB z a = [] := by simp [ansB, hf]
    rw [e1, hf]
    exact ⟨_, h.none.bytNone, (fun q hq x hx => by simp at hq; subst hq; exact hx), none, 0, rfl, rfl⟩
  have hok : ansOk z a = (!(writtenW z a).bad && toldOk z (writtenW z a).l) := rfl
  have hB : ansOk z a = true → ansB z a = (writtenW z a).l := fun e => by simp [ansB, e]
  obtain ⟨hby, hlen⟩ := writtenW_byt z a
  obtain ⟨ap, cp, ep⟩ := R.p.shape
  obtain ⟨aca, cca, eca⟩ := R.ca.shape
  obtain ⟨ala, cla, ela⟩ := R.la.shape
  have k1 := fun w' (R : AnR w' a t) => written128 z a t w' R O (by omega)
  have hWB : writtenB z a = if (writtenW z a).bad then [] else (writtenW z a).l := rfl
  simp only [AnV.cells, ep, eca, ela] at k1
  have h := Sep.nil w
  refine walk Try.func70 rfl (by kernel_rfl) (by rw [Try.nt70]; simp) ?_
  (try simp only [nfD] at h); have F := h.facts; (try simp only [nfF, emp_fact, rds_fact, frm_fact, tab_fact, two_fact, inr_fact, ansX_fact] at F)
  simp -dsimp only [↓vcA, vcB, vcD, ↓pureT_lenS, ↓iteT, ↓iteF, cond_true, cond_false, eq_self, argE, Env.get, Env.push, ev, evs, evo, retV, Value.cells, Value.oneCell', setR, overR, fillL, zl, places, allSizes, heldC, ne_eq, Int.reduceLE, Int.reduceLT, Int.reduceEq, Int.reduceNe, Int.reduceToNat, Int.cast_ofNat_Int, Nat.reduceMul, Nat.reduceLeDiff, reduceIte, Nat.reduceEqDiff, Nat.reduceAdd, ↓reduceIte, Try.vcT, AnV.cells, ep, eca, ela]
  refine h.new ?_
  clear h F
  intro w1 b1 h
  (try simp only [nfD] at h); have F := h.facts; (try simp only [nfF, emp_fact, rds_fact, frm_fact, tab_fact, two_fact, inr_fact, ansX_fact] at F); try simp -dsimp only [↓vcA, vcB, vcD, ↓pureT_lenS, ↓iteT, ↓iteF, cond_true, cond_false, eq_self, argE, Env.get, Env.push, ev, evs, evo, retV, Value.cells, Value.oneCell', setR, overR, fillL, zl, places, allSizes, heldC, ne_eq, Int.reduceLE, Int.reduceLT, Int.reduceEq, Int.reduceNe, Int.reduceToNat, Int.cast_ofNat_Int, Nat.reduceMul, Nat.reduceLeDiff, reduceIte, Nat.reduceEqDiff, Nat.reduceAdd, ↓reduceIte, Try.vcT, F, h.cell0, gets, vsD, if_true, if_false, Bool.false_eq_true,  cellsAt]
  refine Sep.callN h (k1 _ (R.sep h)) ?_
  clear h F k1
  intro e N w2 hQ h
  obtain ⟨a2, c2, rfl, rfl⟩ := hQ
  generalize writtenW z a = W at *
  cases hw : W.bad with
  | true =>
    (try simp only [nfD] at h); have F := h.facts; (try simp only [nfF, emp_fact, rds_fact, frm_fact, tab_fact, two_fact, inr_fact, ansX_fact] at F); try simp -dsimp only [↓vcA, vcB, vcD, ↓pureT_lenS, ↓iteT, ↓iteF, cond_true, cond_false, eq_self, argE, Env.get, Env.push, ev, evs, evo, retV, Value.cells, Value.oneCell', setR, overR, fillL, zl, places, allSizes, heldC, ne_eq, Int.reduceLE, Int.reduceLT, Int.reduceEq, Int.reduceNe, Int.reduceToNat, Int.cast_ofNat_Int, Nat.reduceMul, Nat.reduceLeDiff, reduceIte, Nat.reduceEqDiff, Nat.reduceAdd, ↓reduceIte, Try.vcT, F, h.cell0, gets, vsD, if_true, if_false, Bool.false_eq_true,  hw, if_true, if_false, Bool.not_true, Bool.not_false, Bool.false_eq_true]
    exact fin (by rw [hok, hw]; rfl) h
  | false =>
  have eB : writtenB z a = W.l := by rw [hWB, hw]; rfl
  rw [eB] at h
  rw [eB]
  (try simp only [nfD] at h); have F := h.facts; (try simp only [nfF, emp_fact, rds_fact, frm_fact, tab_fact, two_fact, inr_fact, ansX_fact] at F); try simp -dsimp only [↓vcA, vcB, vcD, ↓pureT_lenS, ↓iteT, ↓iteF, cond_true, cond_false, eq_self, argE, Env.get, Env.push, ev, evs, evo, retV, Value.cells, Value.oneCell', setR, overR, fillL, zl, places, allSizes, heldC, ne_eq, Int.reduceLE, Int.reduceLT, Int.reduceEq, Int.reduceNe, Int.reduceToNat, Int.cast_ofNat_Int, Nat.reduceMul, Nat.reduceLeDiff, reduceIte, Nat.reduceEqDiff, Nat.reduceAdd, ↓reduceIte, Try.vcT, F, h.cell0, gets, vsD, if_true, if_false, Bool.false_eq_true,  hw, if_true, if_false, Bool.not_true, Bool.not_false, Bool.false_eq_true]
  refine Sep.callN h (told72 z _ W.l _ F.2.1 hby (by omega)) ?_
  clear h F
  intro e N w3 hQ h
  obtain ⟨u, rfl, rfl⟩ := hQ
  (try simp only [nfD] at h); have F := h.facts; (try simp only [nfF, emp_fact, rds_fact, frm_fact, tab_fact, two_fact, inr_fact, ansX_fact] at F)
  have RU := F.2.2.1
  obtain ⟨up, uca, ula⟩ := u
  obtain ⟨xp, yp, qp⟩ := RU.p.shape
  obtain ⟨xca, yca, qca⟩ := RU.ca.shape
  obtain ⟨xla, yla, qla⟩ := RU.la.shape
  dsimp only at qp qca qla
  subst qp qca qla
  clear RU
  (try simp only [nfD] at h); have F := h.facts; (try simp only [nfF, emp_fact, rds_fact, frm_fact, tab_fact, two_fact, inr_fact, ansX_fact] at F); try simp -dsimp only [↓vcA, vcB, vcD, ↓pureT_lenS, ↓iteT, ↓iteF, cond_true, cond_false, eq_self, argE, Env.get, Env.push, ev, evs, evo, retV, Value.cells, Value.oneCell', setR, overR, fillL, zl, places, allSizes, heldC, ne_eq, Int.reduceLE, Int.reduceLT, Int.reduceEq, Int.reduceNe, Int.reduceToNat, Int.cast_ofNat_Int, Nat.reduceMul, Nat.reduceLeDiff, reduceIte, Nat.reduceEqDiff, Nat.reduceAdd, ↓reduceIte, Try.vcT, F, h.cell0, gets, vsD, if_true, if_false, Bool.false_eq_true,  AnV.cells]
  refine h.new ?_
  clear h F
  intro w4 b4 h
  (try simp only [nfD] at h); have F := h.facts; (try simp only [nfF, emp_fact, rds_fact, frm_fact, tab_fact, two_fact, inr_fact, ansX_fact] at F); try simp -dsimp only [↓vcA, vcB, vcD, ↓pureT_lenS, ↓iteT, ↓iteF, cond_true, cond_false, eq_self, argE, Env.get, Env.push, ev, evs, evo, retV, Value.cells, Value.oneCell', setR, overR, fillL, zl, places, allSizes, heldC, ne_eq, Int.reduceLE, Int.reduceLT, Int.reduceEq, Int.reduceNe, Int.reduceToNat, Int.cast_ofNat_Int, Nat.reduceMul, Nat.reduceLeDiff, reduceIte, Nat.reduceEqDiff, Nat.reduceAdd, ↓reduceIte, Try.vcT, F, h.cell0, gets, vsD, if_true, if_false, Bool.false_eq_true,  AnV.cells]
  refine Sep.put 3 h rfl ?_
  clear h F
  intro w5 h
  cases ht : toldOk z W.l with
  | false =>
    (try simp only [nfD] at h); have F := h.facts; (try simp only [nfF, emp_fact, rds_fact, frm_fact, tab_fact, two_fact, inr_fact, ansX_fact] at F); try simp -dsimp only [↓vcA, vcB, vcD, ↓pureT_lenS, ↓iteT, ↓iteF, cond_true, cond_false, eq_self, argE, Env.get, Env.push, ev, evs, evo, retV, Value.cells, Value.oneCell', setR, overR, fillL, zl, places, allSizes, heldC, ne_eq, Int.reduceLE, Int.reduceLT, Int.reduceEq, Int.reduceNe, Int.reduceToNat, Int.cast_ofNat_Int, Nat.reduceMul, Nat.reduceLeDiff, reduceIte, Nat.reduceEqDiff, Nat.reduceAdd, ↓reduceIte, Try.vcT, F, h.cell0, gets, vsD, if_true, if_false, Bool.false_eq_true,  ht, if_true, if_false, Bool.not_true, Bool.not_false, Bool.false_eq_true]
    exact fin (by rw [hok, ht]; simp) h
  | true =>
    have ok : ansOk z a = true := by rw [hok, hw, ht]; rfl
    (try simp only [nfD] at h); have F := h.facts; (try simp only [nfF, emp_fact, rds_fact, frm_fact, tab_fact, two_fact, inr_fact, ansX_fact] at F); try simp -dsimp only [↓vcA, vcB, vcD, ↓pureT_lenS, ↓iteT, ↓iteF, cond_true, cond_false, eq_self, argE, Env.get, Env.push, ev, evs, evo, retV, Value.cells, Value.oneCell', setR, overR, fillL, zl, places, allSizes, heldC, ne_eq, Int.reduceLE, Int.reduceLT, Int.reduceEq, Int.reduceNe, Int.reduceToNat, Int.cast_ofNat_Int, Nat.reduceMul, Nat.reduceLeDiff, reduceIte, Nat.reduceEqDiff, Nat.reduceAdd, ↓reduceIte, Try.vcT, F, h.cell0, gets, vsD, if_true, if_false, Bool.false_eq_true,  ht, if_true, if_false, Bool.not_true, Bool.not_false, Bool.false_eq_true]
    rw [hB ok, ok]
    exact ⟨_, ((h.erase 3).erase 2).erase 0, (fun q hq x hx => by simp at hq; subst hq; exact hx), _, _, rfl, rfl⟩
end Go.Proofs.Ytnhgjgoglmadnaa
