/- The walk of OctetsSums. -/
import Derived.Test.YtnhgjgoglmadnaaO4
import Derived.Test.YtnhgjgoglmadnaaL1
namespace Go.Proofs.Ytnhgjgoglmadnaa
open Go.RowKit
set_option maxRecDepth 100000
set_option linter.unusedSimpArgs false
set_option linter.unusedVariables false
set_option pp.maxSteps 1500
set_option pp.deepTerms.threshold 8

theorem round_eq (k n : Int) (h0 : 0 < n) (h1 : n ≤ 1000000000000) : (IntKind.i64.wrap (k.tmod n + n)).tmod n = k % n := by
  have h2 := Int.tmod_lt_of_pos k h0
  have h3 : -n < k.tmod n := Int.lt_tmod_of_pos k h0
  rw [IntWalk.i64_in _ (by omega)]
  rw [Int.tmod_eq_emod_of_nonneg (by omega), Int.add_emod_right]
  rw [Int.tmod_eq_emod]
  split
  · simp
  · have e : (n.natAbs : Int) = n := by omega
    rw [e, show k % n - n = k % n + n * (-1) by omega, Int.add_mul_emod_self_left, Int.emod_emod]
theorem round (k n : Int) (w : World) (h0 : 0 < n) (h1 : n ≤ 1000000000000) :
    Calls Try.prog 21 [.int .i64 k, .int .i64 n].toArray w (RetK fun r w' => r = .int .i64 (k % n) ∧ w' = w) := by
  refine walk Try.func21 rfl (by kernel_rfl) (by rw [Try.nt21]; simp) ?_
  simp -dsimp only [↓vcA, vcB, vcD, ↓pureT_lenS, ↓iteT, ↓iteF, cond_true, cond_false, eq_self, argE, Env.get, Env.push, ev, evs, evo, retV, Value.cells, Value.oneCell', setR, overR, fillL, zl, places, allSizes, heldC, ne_eq, Int.reduceLE, Int.reduceLT, Int.reduceEq, Int.reduceNe, Int.reduceToNat, Int.cast_ofNat_Int, Nat.reduceMul, Nat.reduceLeDiff, reduceIte, Nat.reduceEqDiff, Nat.reduceAdd, ↓reduceIte, Try.vcT]
  refine ⟨by omega, by omega, ?_⟩
  rw [round_eq k n h0 h1]

/-- One byte of a row of one's own is stored. -/
theorem Own.form {w : World} {v : Value} {xs : List Int} (h : Own w v xs) (hp : 0 < xs.length) : ∃ g cap cur, v = .slice (some ⟨g, 0, none⟩) xs.length cap ∧ blkOf w g = some (cur, 5) ∧ xs.length ≤ cap ∧ cap ≤ maxLen ∧ cur.length = cap ∧ cur.take xs.length = u8s xs := by
  rcases h.2 with ⟨_, h0⟩ | ⟨g, cap, cur, rfl, hb, hg, hn, hm, hs, ht⟩
  · omega
  · exact ⟨g, cap, cur.toList, rfl, blkOf_of hg, hn, hm, by simpa using hs, by simpa using ht⟩
theorem setR_one (l : List Value) (k : Nat) (v : Value) : setR l k [v] = l.set k v := by rw [setR_cons, setR_nil]
theorem Own.of_set {w1 w2 : World} {g cap k : Nat} {cur : List Value} {xs : List Int} {y : Int} (hp : Put w1 w2 g (cur.set k (.int .u8 y)) 5) (hn : xs.length ≤ cap) (hm : cap ≤ maxLen) (hc : cur.length = cap) (ht : cur.take xs.length = u8s xs) :
    Own w2 (.slice (some ⟨g, 0, none⟩) xs.length cap) (xs.set k y) := by
  refine ⟨by simp [u8s], .inr ⟨g, cap, (cur.set k (.int .u8 y)).toArray, by simp, Nat.zero_le _, hp.blk, by simpa using hn, hm, by simpa using hc, ?_⟩⟩
  simp only [List.length_set, Nat.mul_one]
  rw [List.take_set, ht]
  simp [u8s, List.map_set]

theorem Rd.cell {w : World} {b o n c : Nat} {xs : List Int} (h : Rd w (.slice (some ⟨b, o, none⟩) n c) xs) (j : Nat) (hj : j < xs.length) : w.cell? ⟨b, o + j, none⟩ = some (.int .u8 (xs.getD j 0)) := by
  obtain ⟨a, c', e, h1, h2, h3, h4⟩ := h
  injection e with e1 e2 e3
  obtain ⟨b', o', e4, hc⟩ := h4 (by omega)
  rw [← e1] at e4
  injection e4 with e4
  injection e4 with e5 e6 _
  subst e5 e6
  exact hc j hj

theorem walk3 (v : Value) (xs : List Int) (at' x : Int) (w : World) (h : Rd w v xs) (hby : Byt xs) (hx : 0 ≤ x ∧ x ≤ 255) :
    Calls Try.prog 3 [v, .int .i64 at', .int .u8 x].toArray w (RetK fun r w' => r = .bool true ∧ Chg (fun _ => False) w w') := by
  have h0 := h
  obtain ⟨a, c, rfl, h1, h2, h3, h4⟩ := h
  refine walk Try.func3 rfl (by kernel_rfl) (by rw [Try.nt3]; simp) ?_
  by_cases hbig : (300 : Int) < xs.length
  · simp -dsimp only [↓vcA, vcB, vcD, ↓pureT_lenS, ↓iteT, ↓iteF, cond_true, cond_false, eq_self, argE, Env.get, Env.push, ev, evs, evo, retV, Value.cells, Value.oneCell', setR, overR, fillL, zl, places, allSizes, heldC, ne_eq, Int.reduceLE, Int.reduceLT, Int.reduceEq, Int.reduceNe, Int.reduceToNat, Int.cast_ofNat_Int, Nat.reduceMul, Nat.reduceLeDiff, reduceIte, Nat.reduceEqDiff, Nat.reduceAdd, ↓reduceIte, Try.vcT, decide_eq_true hbig]
    refine callsK_use (awake18 w) ?_
    rintro _ w1 ⟨rfl, c1⟩
    simp -dsimp only [↓vcA, vcB, vcD, ↓pureT_lenS, ↓iteT, ↓iteF, cond_true, cond_false, eq_self, argE, Env.get, Env.push, ev, evs, evo, retV, Value.cells, Value.oneCell', setR, overR, fillL, zl, places, allSizes, heldC, ne_eq, Int.reduceLE, Int.reduceLT, Int.reduceEq, Int.reduceNe, Int.reduceToNat, Int.cast_ofNat_Int, Nat.reduceMul, Nat.reduceLeDiff, reduceIte, Nat.reduceEqDiff, Nat.reduceAdd, ↓reduceIte, Try.vcT]
    exact c1
  by_cases hz : (xs.length : Int) = 0
  · simp -dsimp only [↓vcA, vcB, vcD, ↓pureT_lenS, ↓iteT, ↓iteF, cond_true, cond_false, eq_self, argE, Env.get, Env.push, ev, evs, evo, retV, Value.cells, Value.oneCell', setR, overR, fillL, zl, places, allSizes, heldC, ne_eq, Int.reduceLE, Int.reduceLT, Int.reduceEq, Int.reduceNe, Int.reduceToNat, Int.cast_ofNat_Int, Nat.reduceMul, Nat.reduceLeDiff, reduceIte, Nat.reduceEqDiff, Nat.reduceAdd, ↓reduceIte, Try.vcT, decide_eq_false hbig, decide_eq_true hz]
    have : xs = [] := List.eq_nil_of_length_eq_zero (by omega)
    subst this
    refine callsK_pure (sum _ [] w h0 (by simp)) ?_
    simp -dsimp only [↓vcA, vcB, vcD, ↓pureT_lenS, ↓iteT, ↓iteF, cond_true, cond_false, eq_self, argE, Env.get, Env.push, ev, evs, evo, retV, Value.cells, Value.oneCell', setR, overR, fillL, zl, places, allSizes, heldC, ne_eq, Int.reduceLE, Int.reduceLT, Int.reduceEq, Int.reduceNe, Int.reduceToNat, Int.cast_ofNat_Int, Nat.reduceMul, Nat.reduceLeDiff, reduceIte, Nat.reduceEqDiff, Nat.reduceAdd, ↓reduceIte, Try.vcT, aw7.1]
    refine callsK_use (awake18 w) ?_
    rintro _ w1 ⟨rfl, c1⟩
    simp -dsimp only [↓vcA, vcB, vcD, ↓pureT_lenS, ↓iteT, ↓iteF, cond_true, cond_false, eq_self, argE, Env.get, Env.push, ev, evs, evo, retV, Value.cells, Value.oneCell', setR, overR, fillL, zl, places, allSizes, heldC, ne_eq, Int.reduceLE, Int.reduceLT, Int.reduceEq, Int.reduceNe, Int.reduceToNat, Int.cast_ofNat_Int, Nat.reduceMul, Nat.reduceLeDiff, reduceIte, Nat.reduceEqDiff, Nat.reduceAdd, ↓reduceIte, Try.vcT]
    exact c1
  · have hlen : 0 < xs.length := by omega
    obtain ⟨b, o, rfl, hc⟩ := h4 hlen
    have hlt : ∀ k, (Value.slice (some ⟨b, o, none⟩) xs.length c).ownBlock = some k → k < w.heap.size := fun k hk => by
      simp [Value.ownBlock] at hk
      subst hk
      exact World.block_lt_of_cell? w _ (hc 0 hlen)
    simp -dsimp only [↓vcA, vcB, vcD, ↓pureT_lenS, ↓iteT, ↓iteF, cond_true, cond_false, eq_self, argE, Env.get, Env.push, ev, evs, evo, retV, Value.cells, Value.oneCell', setR, overR, fillL, zl, places, allSizes, heldC, ne_eq, Int.reduceLE, Int.reduceLT, Int.reduceEq, Int.reduceNe, Int.reduceToNat, Int.cast_ofNat_Int, Nat.reduceMul, Nat.reduceLeDiff, reduceIte, Nat.reduceEqDiff, Nat.reduceAdd, ↓reduceIte, Try.vcT, decide_eq_false hbig, decide_eq_false hz]
    intro w1 b1 hb1
    have F1 := (Fr.refl w).new hb1
    have u1 := (Fr.refl w).newUp hb1
    have r1 := h0.fr F1 hlt
    have ho : Own w1 (.slice (some ⟨b1, 0, none⟩) 0 0) [] := hb1.owns (by simp) (by simp [maxLen])
    refine app ho r1 (by simp; omega) ?_
    intro a2 c2 w2 o2 g2 at2
    have F2 := F1.go (Chg.ofGrown g2) (fun k hk => by simp [Value.ownBlock] at hk; omega)
    have r2 := h0.fr F2 hlt
    simp only [List.nil_append, List.length_nil, Nat.zero_add] at o2 at2
    simp -dsimp only [↓vcA, vcB, vcD, ↓pureT_lenS, ↓iteT, ↓iteF, cond_true, cond_false, eq_self, argE, Env.get, Env.push, ev, evs, evo, retV, Value.cells, Value.oneCell', setR, overR, fillL, zl, places, allSizes, heldC, ne_eq, Int.reduceLE, Int.reduceLT, Int.reduceEq, Int.reduceNe, Int.reduceToNat, Int.cast_ofNat_Int, Nat.reduceMul, Nat.reduceLeDiff, reduceIte, Nat.reduceEqDiff, Nat.reduceAdd, ↓reduceIte, Try.vcT, List.length_nil]
    refine callsK_pure (round at' _ w2 (by omega) (by omega)) ?_
    have k0 := Int.emod_nonneg at' hz
    have k1 := Int.emod_lt_of_pos at' (show (0 : Int) < xs.length by omega)
    generalize at' % (xs.length : Int) = kk at *
    obtain ⟨k, rfl⟩ := Int.eq_ofNat_of_zero_le k0
    obtain ⟨g, cap, cur, e2, hbk, hcap, hmax, hcur, htake⟩ := o2.form hlen
    injection e2 with e3 e4 e5
    subst e3 e5
    simp -dsimp only [↓vcA, vcB, vcD, ↓pureT_lenS, ↓iteT, ↓iteF, cond_true, cond_false, eq_self, argE, Env.get, Env.push, ev, evs, evo, retV, Value.cells, Value.oneCell', setR, overR, fillL, zl, places, allSizes, heldC, ne_eq, Int.reduceLE, Int.reduceLT, Int.reduceEq, Int.reduceNe, Int.reduceToNat, Int.cast_ofNat_Int, Nat.reduceMul, Nat.reduceLeDiff, reduceIte, Nat.reduceEqDiff, Nat.reduceAdd, ↓reduceIte, Try.vcT]
    refine ⟨⟨by omega, by omega⟩, ?_⟩
    have hcell := o2.rd.cell k (by omega)
    rw [Nat.zero_add] at hcell
    simp -dsimp only [↓vcA, vcB, vcD, ↓pureT_lenS, ↓iteT, ↓iteF, cond_true, cond_false, eq_self, argE, Env.get, Env.push, ev, evs, evo, retV, Value.cells, Value.oneCell', setR, overR, fillL, zl, places, allSizes, heldC, ne_eq, Int.reduceLE, Int.reduceLT, Int.reduceEq, Int.reduceNe, Int.reduceToNat, Int.cast_ofNat_Int, Nat.reduceMul, Nat.reduceLeDiff, reduceIte, Nat.reduceEqDiff, Nat.reduceAdd, ↓reduceIte, Try.vcT, hcell]
    refine ⟨⟨by omega, by omega⟩, ?_⟩
    simp -dsimp only [↓vcA, vcB, vcD, ↓pureT_lenS, ↓iteT, ↓iteF, cond_true, cond_false, eq_self, argE, Env.get, Env.push, ev, evs, evo, retV, Value.cells, Value.oneCell', setR, overR, fillL, zl, places, allSizes, heldC, ne_eq, Int.reduceLE, Int.reduceLT, Int.reduceEq, Int.reduceNe, Int.reduceToNat, Int.cast_ofNat_Int, Nat.reduceMul, Nat.reduceLeDiff, reduceIte, Nat.reduceEqDiff, Nat.reduceAdd, ↓reduceIte, Try.vcT, hbk, setR_one]
    refine ⟨by omega, ?_⟩
    intro w3 p3
    have hg : w.heap.size ≤ g := by
      rcases at2 with e | e <;> simp [Value.ownBlock] at e
      · omega
      · have := F1.at; omega
    have F3 := F2.one p3.chg hg
    have r3 := h0.fr F3 hlt
    have o3 := Own.of_set (xs := xs) (y := flip (xs.getD k 0) x) p3 hcap hmax hcur htake
    obtain ⟨n, hn⟩ : ∃ n, xs.length = n + 1 := ⟨xs.length - 1, by omega⟩
    have ew : IntKind.i64.wrap ((xs.length : Int) - 1) = n := by rw [IntWalk.i64_in _ (by omega)]; omega
    have hL : Holds [(b, o + n, .int .u8 (xs.getD n 0))] w3 := by simp [Holds_nil, Holds_cons, r3.cell n (by omega)]
    refine walkDraw (.q 0 (.q 2 (.q 3 (.q 4 (.q 6 (.q 7 (.q 8 (.h 9 0 (.q 10 (.l 1 (.l 5 (.q 11 (.q 12 (.q 13 (.q 14 (.q 15 (.q 17 (.l 16 (.l 18 (.q 19 (.q 20 (.q 21 (.l 22 (.q 23 (.q 24 .fin))))))))))))))))))))))))) [(b, o + n, .int .u8 (xs.getD n 0))] (by kernel_rfl) hL ?_
    intro w4 e4 c4
    have L4 := c4.holds hL
    have r4 := r3.chg c4 (fun _ _ => id)
    have o4 := o3.chg c4 (fun _ _ => id)
    have F4 := F3.nil c4
    try simp -dsimp only [↓vcA, vcB, vcD, ↓pureT_lenS, ↓iteT, ↓iteF, cond_true, cond_false, eq_self, argE, Env.get, Env.push, ev, evs, evo, retV, Value.cells, Value.oneCell', setR, overR, fillL, zl, places, allSizes, heldC, ne_eq, Int.reduceLE, Int.reduceLT, Int.reduceEq, Int.reduceNe, Int.reduceToNat, Int.cast_ofNat_Int, Nat.reduceMul, Nat.reduceLeDiff, reduceIte, Nat.reduceEqDiff, Nat.reduceAdd, ↓reduceIte, Try.vcT, ew]
    refine ⟨⟨by omega, by omega⟩, ?_⟩
    have hcut := r4.cut (Nat.zero_le n) (show n ≤ xs.length by omega)
    simp only [Nat.sub_zero, List.drop_zero] at hcut
    try simp -dsimp only [↓vcA, vcB, vcD, ↓pureT_lenS, ↓iteT, ↓iteF, cond_true, cond_false, eq_self, argE, Env.get, Env.push, ev, evs, evo, retV, Value.cells, Value.oneCell', setR, overR, fillL, zl, places, allSizes, heldC, ne_eq, Int.reduceLE, Int.reduceLT, Int.reduceEq, Int.reduceNe, Int.reduceToNat, Int.cast_ofNat_Int, Nat.reduceMul, Nat.reduceLeDiff, reduceIte, Nat.reduceEqDiff, Nat.reduceAdd, ↓reduceIte, Try.vcT, ew]
    refine ⟨⟨by omega, by omega⟩, ?_⟩
    try simp -dsimp only [↓vcA, vcB, vcD, ↓pureT_lenS, ↓iteT, ↓iteF, cond_true, cond_false, eq_self, argE, Env.get, Env.push, ev, evs, evo, retV, Value.cells, Value.oneCell', setR, overR, fillL, zl, places, allSizes, heldC, ne_eq, Int.reduceLE, Int.reduceLT, Int.reduceEq, Int.reduceNe, Int.reduceToNat, Int.cast_ofNat_Int, Nat.reduceMul, Nat.reduceLeDiff, reduceIte, Nat.reduceEqDiff, Nat.reduceAdd, ↓reduceIte, Try.vcT, ew]
    refine callsK_pure (sum _ xs w4 r4 (by omega)) ?_
    try simp -dsimp only [↓vcA, vcB, vcD, ↓pureT_lenS, ↓iteT, ↓iteF, cond_true, cond_false, eq_self, argE, Env.get, Env.push, ev, evs, evo, retV, Value.cells, Value.oneCell', setR, overR, fillL, zl, places, allSizes, heldC, ne_eq, Int.reduceLE, Int.reduceLT, Int.reduceEq, Int.reduceNe, Int.reduceToNat, Int.cast_ofNat_Int, Nat.reduceMul, Nat.reduceLeDiff, reduceIte, Nat.reduceEqDiff, Nat.reduceAdd, ↓reduceIte, Try.vcT, L4, ew]
    refine callsK_pure (sum _ _ w4 hcut (by simp; omega)) ?_
    have es := sumOf_last hn
    unfold sumStep at es
    simp -dsimp only [↓vcA, vcB, vcD, ↓pureT_lenS, ↓iteT, ↓iteF, cond_true, cond_false, eq_self, argE, Env.get, Env.push, ev, evs, evo, retV, Value.cells, Value.oneCell', setR, overR, fillL, zl, places, allSizes, heldC, ne_eq, Int.reduceLE, Int.reduceLT, Int.reduceEq, Int.reduceNe, Int.reduceToNat, Int.cast_ofNat_Int, Nat.reduceMul, Nat.reduceLeDiff, reduceIte, Nat.reduceEqDiff, Nat.reduceAdd, ↓reduceIte, Try.vcT, L4, ew, es]
    refine callsK_pure (sum _ _ w4 o4.rd (by simp; omega)) ?_
    simp -dsimp only [↓vcA, vcB, vcD, ↓pureT_lenS, ↓iteT, ↓iteF, cond_true, cond_false, eq_self, argE, Env.get, Env.push, ev, evs, evo, retV, Value.cells, Value.oneCell', setR, overR, fillL, zl, places, allSizes, heldC, ne_eq, Int.reduceLE, Int.reduceLT, Int.reduceEq, Int.reduceNe, Int.reduceToNat, Int.cast_ofNat_Int, Nat.reduceMul, Nat.reduceLeDiff, reduceIte, Nat.reduceEqDiff, Nat.reduceAdd, ↓reduceIte, Try.vcT, L4]
    refine callsK_pure (sum _ xs w4 r4 (by omega)) ?_
    have hxk : xs.getD k 0 = xs[k]'(by omega) := by simp [List.getD, show k < xs.length by omega]
    have hbk2 := hby (xs[k]'(by omega)) (List.getElem_mem _)
    have hne := sumOf_ne (xs := xs) (k := k) (y := flip (xs.getD k 0) x) (by omega) hbk2 (flip_byte _ _) (by rw [hxk]; exact flip_ne _ _ hbk2)
    simp -dsimp only [↓vcA, vcB, vcD, ↓pureT_lenS, ↓iteT, ↓iteF, cond_true, cond_false, eq_self, argE, Env.get, Env.push, ev, evs, evo, retV, Value.cells, Value.oneCell', setR, overR, fillL, zl, places, allSizes, heldC, ne_eq, Int.reduceLE, Int.reduceLT, Int.reduceEq, Int.reduceNe, Int.reduceToNat, Int.cast_ofNat_Int, Nat.reduceMul, Nat.reduceLeDiff, reduceIte, Nat.reduceEqDiff, Nat.reduceAdd, ↓reduceIte, Try.vcT, L4, decide_eq_false hne]
    refine callsK_use (awake18 w4) ?_
    rintro _ w5 ⟨rfl, c5⟩
    have L5 := c5.holds L4
    simp -dsimp only [↓vcA, vcB, vcD, ↓pureT_lenS, ↓iteT, ↓iteF, cond_true, cond_false, eq_self, argE, Env.get, Env.push, ev, evs, evo, retV, Value.cells, Value.oneCell', setR, overR, fillL, zl, places, allSizes, heldC, ne_eq, Int.reduceLE, Int.reduceLT, Int.reduceEq, Int.reduceNe, Int.reduceToNat, Int.cast_ofNat_Int, Nat.reduceMul, Nat.reduceLeDiff, reduceIte, Nat.reduceEqDiff, Nat.reduceAdd, ↓reduceIte, Try.vcT, L5]
    exact (F4.nil c5).done
end Go.Proofs.Ytnhgjgoglmadnaa
