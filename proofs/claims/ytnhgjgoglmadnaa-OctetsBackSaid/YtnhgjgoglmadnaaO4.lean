/- What the document fixes of the bytes' package: the witness function of its laws answers true. -/
import Derived.Test.YtnhgjgoglmadnaaO3
namespace Go.Proofs.Ytnhgjgoglmadnaa
open Go.RowKit
set_option maxRecDepth 100000
set_option linter.unusedSimpArgs false
set_option linter.unusedVariables false
set_option pp.maxSteps 1500
set_option pp.deepTerms.threshold 8

/-- A new writer. -/
theorem Wr.fresh {w w1 : World} {b : Nat} {t : TypeId} (h : New w w1 b [.slice none 0 0, .bool false] t) : WrS t w1 b (.slice none 0 0) ⟨[], false⟩ := ⟨h.blk, Own.nil w1⟩
theorem aw1 : ((((⟨[], false⟩ : W8).num 258 2).pt 1 2).raw [9]) = ⟨[1, 2, 0, 0, 1, 0, 0, 2, 9], false⟩ := by kernel_rfl
theorem aw2 : ((⟨[], false⟩ : W8).num 256 1) = ⟨[], true⟩ := by kernel_rfl

/-! ### What is changed lies above N -/
def Up (N : Nat) (v : Value) : Prop := ∀ k, v.ownBlock = some k → N ≤ k
structure Fr (N : Nat) (w w' : World) : Prop where
  le : N ≤ w.heap.size
  chg : Chg (fun k => N ≤ k) w w'
theorem Fr.refl (w : World) : Fr w.heap.size w w := ⟨Nat.le_refl _, Chg.refl _ _⟩
theorem Fr.go {N : Nat} {S : Nat → Prop} {w w1 w2 : World} (f : Fr N w w1) (h : Chg S w1 w2) (hs : ∀ x, S x → N ≤ x) : Fr N w w2 := ⟨f.le, f.chg.trans h fun x hx => .inl (hs x hx)⟩
theorem Fr.at {N : Nat} {w w1 : World} (f : Fr N w w1) : N ≤ w1.heap.size := Nat.le_trans f.le f.chg.size
theorem Fr.new {N : Nat} {w w1 w2 : World} {b : Nat} {cs : List Value} {t : TypeId} (f : Fr N w w1) (h : New w1 w2 b cs t) : Fr N w w2 := f.go h.chg fun _ x => x.elim
theorem Fr.newUp {N : Nat} {w w1 w2 : World} {b : Nat} {cs : List Value} {t : TypeId} (f : Fr N w w1) (h : New w1 w2 b cs t) : N ≤ b := by have := f.at; have := h.eq; omega
theorem Fr.wr {N p : Nat} {w w1 w2 : World} {v v2 : Value} (f : Fr N w w1) (k : WrStep p w1 v w2 v2) (hp : N ≤ p) (hv : Up N v) : Fr N w w2 := f.go k.chg fun x hx => hx.elim (fun e => e ▸ hp) (hv x)
theorem Fr.wrUp {N p : Nat} {w w1 w2 : World} {v v2 : Value} (f : Fr N w w1) (k : WrStep p w1 v w2 v2) (hv : Up N v) : Up N v2 := fun x hx => (k.new x hx).elim (hv x) fun h => Nat.le_trans f.at h
theorem Fr.nil {N : Nat} {w w1 w2 : World} (f : Fr N w w1) (h : Chg (fun _ => False) w1 w2) : Fr N w w2 := f.go h fun _ x => x.elim
theorem Fr.one {N p : Nat} {w w1 w2 : World} (f : Fr N w w1) (h : Chg (fun k => k = p) w1 w2) (hp : N ≤ p) : Fr N w w2 := f.go h fun _ e => e ▸ hp
theorem Fr.done {w w1 : World} (f : Fr w.heap.size w w1) : Chg (fun _ => False) w w1 := ⟨f.chg.os, f.chg.tape, f.chg.output, f.chg.size, fun k hk _ => f.chg.block k hk (by omega)⟩
theorem Rd.fr {N : Nat} {w w1 : World} {v : Value} {xs : List Int} (h : Rd w v xs) (f : Fr N w w1) (hl : ∀ k, v.ownBlock = some k → k < N) : Rd w1 v xs := h.chg f.chg fun k hk e => by have := hl k hk; omega
theorem Up.nil (N : Nat) : Up N (.slice none 0 0) := fun k hk => by simp [Value.ownBlock] at hk

theorem aw3 : (R8.mk [1, 2, 0, 0, 1, 0, 0, 2, 9] false).numV 2 = 258 ∧ (R8.mk [1, 2, 0, 0, 1, 0, 0, 2, 9] false).numS 2 = ⟨[0, 0, 1, 0, 0, 2, 9], false⟩ := ⟨by kernel_rfl, by kernel_rfl⟩
theorem aw4 : (R8.mk [0, 0, 1, 0, 0, 2, 9] false).ptV = (1, 2) ∧ (R8.mk [0, 0, 1, 0, 0, 2, 9] false).ptS = ⟨[9], false⟩ := ⟨by kernel_rfl, by kernel_rfl⟩
theorem aw5 : (R8.mk [9] false).rawV 1 = [9] ∧ (R8.mk [9] false).rawS 1 = ⟨[], false⟩ := ⟨by kernel_rfl, by kernel_rfl⟩
theorem aw6 : (R8.mk [] false).numV 1 = 0 ∧ (R8.mk [] false).numS 1 = ⟨[], true⟩ := ⟨by kernel_rfl, by kernel_rfl⟩
theorem aw7 : sumOf [] = 14695981039346656037 ∧ sumOf [97] = 12638187200555641996 := ⟨by kernel_rfl, by kernel_rfl⟩
theorem Rd.nil (w : World) : Rd w (.slice none 0 0) [] := (Own.nil w).rd

theorem strLit (xs : List Int) (b : ByteArray) : ((strOfNums xs).toList == b.toList) = (Lib.bytesOf xs == b.data.toList) := by rw [Lib.strOfNums_toList, Lib.toList_data]
theorem aw8 : (R8.mk [] false).done = true ∧ (R8.mk [] true).done = false := ⟨rfl, rfl⟩
theorem awake18 (w : World) : Calls Try.prog 19 [].toArray w (RetK fun r w' => r = .bool true ∧ Chg (fun _ => False) w w') := by
  refine walk Try.func19 rfl (by kernel_rfl) (by rw [Try.nt19]; simp) ?_
  simp -dsimp only [↓vcA, vcB, vcD, ↓pureT_lenS, ↓iteT, ↓iteF, cond_true, cond_false, eq_self, argE, Env.get, Env.push, ev, evs, evo, retV, Value.cells, Value.oneCell', setR, overR, fillL, zl, places, allSizes, heldC, ne_eq, Int.reduceLE, Int.reduceLT, Int.reduceEq, Int.reduceNe, Int.reduceToNat, Int.cast_ofNat_Int, Nat.reduceMul, Nat.reduceLeDiff, reduceIte, Nat.reduceEqDiff, Nat.reduceAdd, ↓reduceIte, Try.vcT]
  intro w1 p hp
  have F1 := (Fr.refl w).new hp
  have Hp := (Fr.refl w).newUp hp
  have f1 := Wr.fresh hp
  refine callsK_use (num p _ ⟨[], false⟩ 258 2 w1 f1 (by simp) (by decide) (by decide)) ?_
  rintro _ w2 ⟨rfl, v2, h2, k2⟩
  have U2 := F1.wrUp k2 (Up.nil _)
  have F2 := F1.wr k2 Hp (Up.nil _)
  simp -dsimp only [↓vcA, vcB, vcD, ↓pureT_lenS, ↓iteT, ↓iteF, cond_true, cond_false, eq_self, argE, Env.get, Env.push, ev, evs, evo, retV, Value.cells, Value.oneCell', setR, overR, fillL, zl, places, allSizes, heldC, ne_eq, Int.reduceLE, Int.reduceLT, Int.reduceEq, Int.reduceNe, Int.reduceToNat, Int.cast_ofNat_Int, Nat.reduceMul, Nat.reduceLeDiff, reduceIte, Nat.reduceEqDiff, Nat.reduceAdd, ↓reduceIte, Try.vcT]
  refine callsK_use (point p v2 _ 1 2 w2 h2 (by decide) (by decide) (by decide) (by decide) (by decide)) ?_
  rintro _ w3 ⟨rfl, v3, h3, k3⟩
  have U3 := F2.wrUp k3 U2
  have F3 := F2.wr k3 Hp U2
  simp -dsimp only [↓vcA, vcB, vcD, ↓pureT_lenS, ↓iteT, ↓iteF, cond_true, cond_false, eq_self, argE, Env.get, Env.push, ev, evs, evo, retV, Value.cells, Value.oneCell', setR, overR, fillL, zl, places, allSizes, heldC, ne_eq, Int.reduceLE, Int.reduceLT, Int.reduceEq, Int.reduceNe, Int.reduceToNat, Int.cast_ofNat_Int, Nat.reduceMul, Nat.reduceLeDiff, reduceIte, Nat.reduceEqDiff, Nat.reduceAdd, ↓reduceIte, Try.vcT]
  intro w4 b4 h4
  have F4 := F3.new h4
  have hr4 : Rd w4 (.slice (some ⟨b4, 0, none⟩) 1 1) [9] := Own.rd (h4.owns (by simp) (by simp [maxLen]))
  have h34 := h3.chg h4.chg id (fun _ _ => id)
  refine callsK_use (raw p v3 _ _ [9] w4 h34 hr4 (by decide) (by decide)) ?_
  rintro _ w5 ⟨rfl, v5, h5, k5⟩
  have U5 := F4.wrUp k5 U3
  have F5 := F4.wr k5 Hp U3
  rw [aw1] at h5
  simp -dsimp only [↓vcA, vcB, vcD, ↓pureT_lenS, ↓iteT, ↓iteF, cond_true, cond_false, eq_self, argE, Env.get, Env.push, ev, evs, evo, retV, Value.cells, Value.oneCell', setR, overR, fillL, zl, places, allSizes, heldC, ne_eq, Int.reduceLE, Int.reduceLT, Int.reduceEq, Int.reduceNe, Int.reduceToNat, Int.cast_ofNat_Int, Nat.reduceMul, Nat.reduceLeDiff, reduceIte, Nat.reduceEqDiff, Nat.reduceAdd, ↓reduceIte, Try.vcT]
  refine callsK_use (bytes p v5 _ w5 h5 (by decide)) ?_
  rintro _ w6 ⟨v6, rfl, c6⟩
  have F6 := F5.nil c6.chg
  simp -dsimp only [↓vcA, vcB, vcD, ↓pureT_lenS, ↓iteT, ↓iteF, cond_true, cond_false, eq_self, argE, Env.get, Env.push, ev, evs, evo, retV, Value.cells, Value.oneCell', setR, overR, fillL, zl, places, allSizes, heldC, ne_eq, Int.reduceLE, Int.reduceLT, Int.reduceEq, Int.reduceNe, Int.reduceToNat, Int.cast_ofNat_Int, Nat.reduceMul, Nat.reduceLeDiff, reduceIte, Nat.reduceEqDiff, Nat.reduceAdd, ↓reduceIte, Try.vcT, tupK_mk]
  intro w7 p7 h7
  have F7 := F6.new h7
  have G7 := (Fr.refl w6).new h7
  have Gp := (Fr.refl w6).newUp h7
  have Hp7 := F6.newUp h7
  have f7 := Wr.fresh h7
  refine callsK_use (num p7 _ ⟨[], false⟩ 256 1 w7 f7 (by simp) (by decide) (by decide)) ?_
  rintro _ w8 ⟨rfl, v8, h8, k8⟩
  have F8 := F7.wr k8 Hp7 (Up.nil _)
  have G8 := G7.wr k8 Gp (Up.nil _)
  rw [aw2] at h8
  simp -dsimp only [↓vcA, vcB, vcD, ↓pureT_lenS, ↓iteT, ↓iteF, cond_true, cond_false, eq_self, argE, Env.get, Env.push, ev, evs, evo, retV, Value.cells, Value.oneCell', setR, overR, fillL, zl, places, allSizes, heldC, ne_eq, Int.reduceLE, Int.reduceLT, Int.reduceEq, Int.reduceNe, Int.reduceToNat, Int.cast_ofNat_Int, Nat.reduceMul, Nat.reduceLeDiff, reduceIte, Nat.reduceEqDiff, Nat.reduceAdd, ↓reduceIte, Try.vcT]
  refine callsK_use (bytes p7 v8 _ w8 h8 (by decide)) ?_
  rintro _ w9 ⟨v9, rfl, c9⟩
  have F9 := F8.nil c9.chg
  have G9 := G8.nil c9.chg
  simp -dsimp only [↓vcA, vcB, vcD, ↓pureT_lenS, ↓iteT, ↓iteF, cond_true, cond_false, eq_self, argE, Env.get, Env.push, ev, evs, evo, retV, Value.cells, Value.oneCell', setR, overR, fillL, zl, places, allSizes, heldC, ne_eq, Int.reduceLE, Int.reduceLT, Int.reduceEq, Int.reduceNe, Int.reduceToNat, Int.cast_ofNat_Int, Nat.reduceMul, Nat.reduceLeDiff, reduceIte, Nat.reduceEqDiff, Nat.reduceAdd, ↓reduceIte, Try.vcT, tupK_mk]
  have R6 := c6.own.rd
  have L6 : ∀ k, v6.ownBlock = some k → k < w6.heap.size := fun k hk => c6.own.lt hk
  refine callsK_use (read v6 _ w9 (R6.fr G9 L6) (by decide)) ?_
  rintro _ w10 ⟨p10, v10, rfl, h10, c10, n10, u10⟩
  have F10 := F9.nil c10
  have G10 := G9.nil c10
  have H10 : w.heap.size ≤ p10 := Nat.le_trans F9.at n10
  have I10 : w6.heap.size ≤ p10 := Nat.le_trans G9.at n10
  simp -dsimp only [↓vcA, vcB, vcD, ↓pureT_lenS, ↓iteT, ↓iteF, cond_true, cond_false, eq_self, argE, Env.get, Env.push, ev, evs, evo, retV, Value.cells, Value.oneCell', setR, overR, fillL, zl, places, allSizes, heldC, ne_eq, Int.reduceLE, Int.reduceLT, Int.reduceEq, Int.reduceNe, Int.reduceToNat, Int.cast_ofNat_Int, Nat.reduceMul, Nat.reduceLeDiff, reduceIte, Nat.reduceEqDiff, Nat.reduceAdd, ↓reduceIte, Try.vcT]
  refine callsK_use (rnum p10 v10 _ 2 w10 h10 (by decide)) ?_
  rintro _ w11 ⟨rfl, v11, h11, c11, b11⟩
  have F11 := F10.one c11 H10
  have G11 := G10.one c11 I10
  simp only [Bool.false_eq_true, if_false] at h11
  rw [aw3.2] at h11
  simp -dsimp only [↓vcA, vcB, vcD, ↓pureT_lenS, ↓iteT, ↓iteF, cond_true, cond_false, eq_self, argE, Env.get, Env.push, ev, evs, evo, retV, Value.cells, Value.oneCell', setR, overR, fillL, zl, places, allSizes, heldC, ne_eq, Int.reduceLE, Int.reduceLT, Int.reduceEq, Int.reduceNe, Int.reduceToNat, Int.cast_ofNat_Int, Nat.reduceMul, Nat.reduceLeDiff, reduceIte, Nat.reduceEqDiff, Nat.reduceAdd, ↓reduceIte, Try.vcT]
  refine callsK_use (rpoint p10 v11 _ w11 h11 (by decide)) ?_
  rintro _ w12 ⟨rfl, v12, h12, c12, b12⟩
  have F12 := F11.one c12 H10
  have G12 := G11.one c12 I10
  rw [aw4.2] at h12
  simp -dsimp only [↓vcA, vcB, vcD, ↓pureT_lenS, ↓iteT, ↓iteF, cond_true, cond_false, eq_self, argE, Env.get, Env.push, ev, evs, evo, retV, Value.cells, Value.oneCell', setR, overR, fillL, zl, places, allSizes, heldC, ne_eq, Int.reduceLE, Int.reduceLT, Int.reduceEq, Int.reduceNe, Int.reduceToNat, Int.cast_ofNat_Int, Nat.reduceMul, Nat.reduceLeDiff, reduceIte, Nat.reduceEqDiff, Nat.reduceAdd, ↓reduceIte, Try.vcT]
  refine callsK_use (rraw p10 v12 _ 1 w12 h12 (by decide)) ?_
  rintro r13 w13 ⟨⟨v13, h13, c13, b13⟩, o13, u13⟩
  have F13 := F12.one c13 H10
  have G13 := G12.one c13 I10
  rw [aw5.2] at h13
  rw [aw5.1] at o13
  simp -dsimp only [↓vcA, vcB, vcD, ↓pureT_lenS, ↓iteT, ↓iteF, cond_true, cond_false, eq_self, argE, Env.get, Env.push, ev, evs, evo, retV, Value.cells, Value.oneCell', setR, overR, fillL, zl, places, allSizes, heldC, ne_eq, Int.reduceLE, Int.reduceLT, Int.reduceEq, Int.reduceNe, Int.reduceToNat, Int.cast_ofNat_Int, Nat.reduceMul, Nat.reduceLeDiff, reduceIte, Nat.reduceEqDiff, Nat.reduceAdd, ↓reduceIte, Try.vcT]
  intro w14 b14 h14
  have F14 := F13.new h14
  have G14 := G13.new h14
  have J14 : w.heap.size ≤ b14 := F13.newUp h14
  have K14 : w6.heap.size ≤ b14 := G13.newUp h14
  have P14 : p10 < b14 := by have := lt_of_block h13.blk; have := h14.eq; omega
  simp -dsimp only [↓vcA, vcB, vcD, ↓pureT_lenS, ↓iteT, ↓iteF, cond_true, cond_false, eq_self, argE, Env.get, Env.push, ev, evs, evo, retV, Value.cells, Value.oneCell', setR, overR, fillL, zl, places, allSizes, heldC, ne_eq, Int.reduceLE, Int.reduceLT, Int.reduceEq, Int.reduceNe, Int.reduceToNat, Int.cast_ofNat_Int, Nat.reduceMul, Nat.reduceLeDiff, reduceIte, Nat.reduceEqDiff, Nat.reduceAdd, ↓reduceIte, Try.vcT, h14.blkOf]
  intro w15 h15
  have F15 := F14.one h15.chg J14
  have G15 := G14.one h15.chg K14
  have h13' := (h13.chg h14.chg id (fun _ _ _ => id)).chg h15.chg (by omega) (fun hpos k hk e => by have := h13.lt hpos k hk; have := h14.eq; omega)
  refine callsK_pure (rdone p10 v13 _ w15 h13') ?_
  simp -dsimp only [↓vcA, vcB, vcD, ↓pureT_lenS, ↓iteT, ↓iteF, cond_true, cond_false, eq_self, argE, Env.get, Env.push, ev, evs, evo, retV, Value.cells, Value.oneCell', setR, overR, fillL, zl, places, allSizes, heldC, ne_eq, Int.reduceLE, Int.reduceLT, Int.reduceEq, Int.reduceNe, Int.reduceToNat, Int.cast_ofNat_Int, Nat.reduceMul, Nat.reduceLeDiff, reduceIte, Nat.reduceEqDiff, Nat.reduceAdd, ↓reduceIte, Try.vcT]
  refine callsK_use (rnum p10 v13 _ 1 w15 h13' (by decide)) ?_
  rintro _ w16 ⟨rfl, v16, h16, c16, b16⟩
  have F16 := F15.one c16 H10
  have G16 := G15.one c16 I10
  rw [aw6.2] at h16
  simp -dsimp only [↓vcA, vcB, vcD, ↓pureT_lenS, ↓iteT, ↓iteF, cond_true, cond_false, eq_self, argE, Env.get, Env.push, ev, evs, evo, retV, Value.cells, Value.oneCell', setR, overR, fillL, zl, places, allSizes, heldC, ne_eq, Int.reduceLE, Int.reduceLT, Int.reduceEq, Int.reduceNe, Int.reduceToNat, Int.cast_ofNat_Int, Nat.reduceMul, Nat.reduceLeDiff, reduceIte, Nat.reduceEqDiff, Nat.reduceAdd, ↓reduceIte, Try.vcT]
  refine callsK_pure (rdone p10 v16 _ w16 h16) ?_
  simp -dsimp only [↓vcA, vcB, vcD, ↓pureT_lenS, ↓iteT, ↓iteF, cond_true, cond_false, eq_self, argE, Env.get, Env.push, ev, evs, evo, retV, Value.cells, Value.oneCell', setR, overR, fillL, zl, places, allSizes, heldC, ne_eq, Int.reduceLE, Int.reduceLT, Int.reduceEq, Int.reduceNe, Int.reduceToNat, Int.cast_ofNat_Int, Nat.reduceMul, Nat.reduceLeDiff, reduceIte, Nat.reduceEqDiff, Nat.reduceAdd, ↓reduceIte, Try.vcT]
  refine callsK_pure (num_nil 1 1 w16) ?_
  simp -dsimp only [↓vcA, vcB, vcD, ↓pureT_lenS, ↓iteT, ↓iteF, cond_true, cond_false, eq_self, argE, Env.get, Env.push, ev, evs, evo, retV, Value.cells, Value.oneCell', setR, overR, fillL, zl, places, allSizes, heldC, ne_eq, Int.reduceLE, Int.reduceLT, Int.reduceEq, Int.reduceNe, Int.reduceToNat, Int.cast_ofNat_Int, Nat.reduceMul, Nat.reduceLeDiff, reduceIte, Nat.reduceEqDiff, Nat.reduceAdd, ↓reduceIte, Try.vcT]
  refine callsK_pure (bytes_nil w16) ?_
  simp -dsimp only [↓vcA, vcB, vcD, ↓pureT_lenS, ↓iteT, ↓iteF, cond_true, cond_false, eq_self, argE, Env.get, Env.push, ev, evs, evo, retV, Value.cells, Value.oneCell', setR, overR, fillL, zl, places, allSizes, heldC, ne_eq, Int.reduceLE, Int.reduceLT, Int.reduceEq, Int.reduceNe, Int.reduceToNat, Int.cast_ofNat_Int, Nat.reduceMul, Nat.reduceLeDiff, reduceIte, Nat.reduceEqDiff, Nat.reduceAdd, ↓reduceIte, Try.vcT, tupK_mk]
  refine str_rule (R6.fr G16 L6) ?_
  have e1 : ((strOfNums [1, 2, 0, 0, 1, 0, 0, 2, 9]).toList == (⟨#[1, 2, 0, 0, 1, 0, 0, 2, 9]⟩ : ByteArray).toList) = true := by rw [strLit]; decide
  have e2 : ((strOfNums [9]).toList == (⟨#[9]⟩ : ByteArray).toList) = true := by rw [strLit]; decide
  have z14 : cellsAt w16 b14 0 2 = some [.int .i64 1, .int .i64 2] := by
    have e0 := c16.cell ((h15.cell 0).trans rfl) (show ¬ b14 = p10 by omega)
    have e1 := c16.cell ((h15.cell 1).trans rfl) (show ¬ b14 = p10 by omega)
    simp only [cellsAt, e0, e1, aw4.1, Option.bind_some, Option.map_some]
  simp -dsimp only [↓vcA, vcB, vcD, ↓pureT_lenS, ↓iteT, ↓iteF, cond_true, cond_false, eq_self, argE, Env.get, Env.push, ev, evs, evo, retV, Value.cells, Value.oneCell', setR, overR, fillL, zl, places, allSizes, heldC, ne_eq, Int.reduceLE, Int.reduceLT, Int.reduceEq, Int.reduceNe, Int.reduceToNat, Int.cast_ofNat_Int, Nat.reduceMul, Nat.reduceLeDiff, reduceIte, Nat.reduceEqDiff, Nat.reduceAdd, ↓reduceIte, Try.vcT, e1, z14, aw3.1, eql_pt, if_true]
  have R13 : Rd w16 r13 [9] := by
    have q := o13.rd.chg h14.chg (fun _ _ => id)
    have lt13 : ∀ k, r13.ownBlock = some k → k < w13.heap.size := fun k hk => o13.lt hk
    have q2 := q.chg h15.chg (fun k hk e => by have := lt13 k hk; have := h14.eq; omega)
    exact q2.chg c16 (fun k hk e => by have := u13 k hk; have := lt_of_block h12.blk; omega)
  refine str_rule R13 ?_
  simp -dsimp only [↓vcA, vcB, vcD, ↓pureT_lenS, ↓iteT, ↓iteF, cond_true, cond_false, eq_self, argE, Env.get, Env.push, ev, evs, evo, retV, Value.cells, Value.oneCell', setR, overR, fillL, zl, places, allSizes, heldC, ne_eq, Int.reduceLE, Int.reduceLT, Int.reduceEq, Int.reduceNe, Int.reduceToNat, Int.cast_ofNat_Int, Nat.reduceMul, Nat.reduceLeDiff, reduceIte, Nat.reduceEqDiff, Nat.reduceAdd, ↓reduceIte, Try.vcT, e2, aw6.1, aw8.1, aw8.2, if_true]
  refine callsK_pure (rnum_nil 1 w16) ?_
  simp -dsimp only [↓vcA, vcB, vcD, ↓pureT_lenS, ↓iteT, ↓iteF, cond_true, cond_false, eq_self, argE, Env.get, Env.push, ev, evs, evo, retV, Value.cells, Value.oneCell', setR, overR, fillL, zl, places, allSizes, heldC, ne_eq, Int.reduceLE, Int.reduceLT, Int.reduceEq, Int.reduceNe, Int.reduceToNat, Int.cast_ofNat_Int, Nat.reduceMul, Nat.reduceLeDiff, reduceIte, Nat.reduceEqDiff, Nat.reduceAdd, ↓reduceIte, Try.vcT]
  refine callsK_pure (rdone_nil w16) ?_
  simp -dsimp only [↓vcA, vcB, vcD, ↓pureT_lenS, ↓iteT, ↓iteF, cond_true, cond_false, eq_self, argE, Env.get, Env.push, ev, evs, evo, retV, Value.cells, Value.oneCell', setR, overR, fillL, zl, places, allSizes, heldC, ne_eq, Int.reduceLE, Int.reduceLT, Int.reduceEq, Int.reduceNe, Int.reduceToNat, Int.cast_ofNat_Int, Nat.reduceMul, Nat.reduceLeDiff, reduceIte, Nat.reduceEqDiff, Nat.reduceAdd, ↓reduceIte, Try.vcT]
  refine callsK_pure (sum _ [] w16 (Rd.nil w16) (by simp)) ?_
  simp -dsimp only [↓vcA, vcB, vcD, ↓pureT_lenS, ↓iteT, ↓iteF, cond_true, cond_false, eq_self, argE, Env.get, Env.push, ev, evs, evo, retV, Value.cells, Value.oneCell', setR, overR, fillL, zl, places, allSizes, heldC, ne_eq, Int.reduceLE, Int.reduceLT, Int.reduceEq, Int.reduceNe, Int.reduceToNat, Int.cast_ofNat_Int, Nat.reduceMul, Nat.reduceLeDiff, reduceIte, Nat.reduceEqDiff, Nat.reduceAdd, ↓reduceIte, Try.vcT, aw7.1]
  intro w17 b17 h17
  have F17 := F16.new h17
  refine lit_rule h17 rfl ?_
  intro w18 c18 h18
  have F18 := F17.one c18 (F16.newUp h17)
  have R18 : Rd w18 (.slice (some ⟨b17, 0, none⟩) 1 1) [97] := ⟨_, _, rfl, by simp, by simp [maxLen], fun e => (by cases e), fun _ => ⟨b17, 0, rfl, fun j hj => by
    have : j = 0 := by simp at hj; exact hj
    subst this
    rw [cell_of_row w18 b17 _ _ _ _ h18]; rfl⟩⟩
  simp -dsimp only [↓vcA, vcB, vcD, ↓pureT_lenS, ↓iteT, ↓iteF, cond_true, cond_false, eq_self, argE, Env.get, Env.push, ev, evs, evo, retV, Value.cells, Value.oneCell', setR, overR, fillL, zl, places, allSizes, heldC, ne_eq, Int.reduceLE, Int.reduceLT, Int.reduceEq, Int.reduceNe, Int.reduceToNat, Int.cast_ofNat_Int, Nat.reduceMul, Nat.reduceLeDiff, reduceIte, Nat.reduceEqDiff, Nat.reduceAdd, ↓reduceIte, Try.vcT]
  refine callsK_pure (sum _ [97] w18 R18 (by simp)) ?_
  simp -dsimp only [↓vcA, vcB, vcD, ↓pureT_lenS, ↓iteT, ↓iteF, cond_true, cond_false, eq_self, argE, Env.get, Env.push, ev, evs, evo, retV, Value.cells, Value.oneCell', setR, overR, fillL, zl, places, allSizes, heldC, ne_eq, Int.reduceLE, Int.reduceLT, Int.reduceEq, Int.reduceNe, Int.reduceToNat, Int.cast_ofNat_Int, Nat.reduceMul, Nat.reduceLeDiff, reduceIte, Nat.reduceEqDiff, Nat.reduceAdd, ↓reduceIte, Try.vcT, aw7.2]
  exact F18.done
end Go.Proofs.Ytnhgjgoglmadnaa
