/- Joined texts of this claim (part 12), printed by a program of this work. The last part holds the claimed theorem: the law answers true at every input of its row. -/
import Derived.Test.YtnhgjgoglmadnaaSP16k
namespace Go.Proofs.Ytnhgjgoglmadnaa
open Go.ChangeShapes Go.WideShapes Go.ChangeAt Go.RowKit Go.Deep
set_option linter.unusedVariables false
set_option maxRecDepth 100000
section
variable {H : Type} {enc : TypeId × Value → H} {w : World} {base : Nat} {spare : Nat → Bool} {held : Bool}
theorem ints_of {fuel : Nat} {v : Value} {x : DataW H × List MemPlace} (h : DataW.trod enc Try.prog w base (fun _ => true) held fuel 60 [v] = some x) : ∃ ns, IntsR w v ns ∧ ∀ n ∈ ns, -9223372036854775808 ≤ n ∧ n ≤ 9223372036854775807 := by
  rcases open_slice Try.underlying60 h with ⟨hcs, _⟩ | ⟨a, len, cap, m, n, D, Pl, hcs, hb, hl, hm, hmm, hx, hi⟩
  · injection hcs with hcs
    subst hcs
    exact ⟨[], Row.nil 1 w, fun l hl => by cases hl⟩
  · injection hcs with hcs
    subst hcs
    simp only [if_true] at hmm
    subst hmm
    rw [c3] at hi
    have key : ∀ i, i < len → ∃ n : Int, w.cell? (a.add i) = some (.int .i64 n) ∧ -9223372036854775808 ≤ n ∧ n ≤ 9223372036854775807 := fun i hil => by
      obtain ⟨cs', hc, ht⟩ := hi i (by omega)
      obtain ⟨_, hcl, hat⟩ := World.cells?_some hc
      match cs', hcl, ht, hat with
      | [u], _, ht, hat =>
        obtain ⟨n, rfl, hn⟩ := int_of Try.underlying3 ht
        refine ⟨n, ?_, hn⟩
        have := hat 0 (by omega)
        rw [Go.Deep.add_add, Nat.add_zero, Nat.mul_one] at this
        simpa using this
    obtain ⟨f, hf⟩ := choose_lt key
    refine ⟨(List.range len).map f, ⟨by simp, fun u hu => ?_, some a, m, by simp, by simp; omega, by omega, (fun e => by cases e), fun hp => ?_⟩, fun n hn => ?_⟩
    · obtain ⟨y, _, rfl⟩ := List.mem_map.1 hu; rfl
    · have hp' : 0 < len := by simpa using hp
      obtain ⟨b, off, spot⟩ := a
      have hspot : spot = none := by
        have := (hf 0 hp').1
        simpa [Addr.add] using World.cell?_spot this
      subst hspot
      refine ⟨b, off, rfl, fun j u hj => ?_⟩
      simp only [List.getElem?_map, Option.map_eq_some_iff] at hj
      obtain ⟨_, ⟨k, hk, rfl⟩, rfl⟩ := hj
      obtain ⟨hlt, hk⟩ := List.getElem?_eq_some_iff.1 hk
      simp at hk hlt; subst hk
      have := (hf j hlt).1
      rwa [add_off] at this
    · obtain ⟨i, hi', rfl⟩ := List.mem_map.1 hn
      exact (hf i (by simpa using hi')).2
end
end Go.Proofs.Ytnhgjgoglmadnaa
namespace Go.Proofs.Ytnhgjgoglmadnaa
open Go.RowKit
set_option maxRecDepth 100000
set_option linter.unusedSimpArgs false
set_option linter.unusedVariables false
set_option pp.maxSteps 1500
set_option pp.deepTerms.threshold 8

def askR (s : R8) : Rq × R8 := (formL (s.numV 1)).foldl get1 ({Rq.zero with k := s.numV 1}, s.numS 1)
def askROk (b : List Int) : Bool := (form ((⟨b, false⟩ : R8).numV 1)).isSome && (askR ⟨b, false⟩).2.done
def askRV (b : List Int) : Rq := if askROk b then (askR ⟨b, false⟩).1 else Rq.zero
end Go.Proofs.Ytnhgjgoglmadnaa
namespace Go.Proofs.Ytnhgjgoglmadnaa
open Go.RowKit
set_option maxRecDepth 100000
set_option linter.unusedSimpArgs false
set_option linter.unusedVariables false
set_option pp.maxSteps 1500
set_option pp.deepTerms.threshold 8


theorem seqPt {d : Nat} (a0 a1 c0 c1 : Int) (w : World) : (Op.equalIn (d + 2) 37 (.agg #[.int .i64 a0, .int .i64 a1]) (.agg #[.int .i64 c0, .int .i64 c1])).run Try.prog w = .ok (decide ([a0, a1] = [c0, c1])) w := by
  have e : decide ([a0, a1] = [c0, c1]) = _ := rfl
  have h := equalIn_sig (P := Try.prog) (d := d + 1) (t := 37) (xs := #[.int .i64 a0, .int .i64 a1]) (ys := #[.int .i64 c0, .int .i64 c1]) (w := w) (by kernel_rfl) (by kernel_rfl) (l := [(true, 3, 0), (true, 3, 1)]) (by kernel_rfl) (eqF_int (show Try.prog.underlying 3 = some (.int .i64) by kernel_rfl) rfl rfl (eqF_int (show Try.prog.underlying 3 = some (.int .i64) by kernel_rfl) rfl rfl eqF_nil))
  rw [h]
  simp [Bool.decide_and, Bool.and_assoc]

theorem seqTri {d : Nat} (a0 a1 a2 a3 a4 a5 c0 c1 c2 c3 c4 c5 : Int) (w : World) : (Op.equalIn (d + 3) 39 (.agg #[.int .i64 a0, .int .i64 a1, .int .i64 a2, .int .i64 a3, .int .i64 a4, .int .i64 a5]) (.agg #[.int .i64 c0, .int .i64 c1, .int .i64 c2, .int .i64 c3, .int .i64 c4, .int .i64 c5])).run Try.prog w = .ok (decide ([a0, a1, a2, a3, a4, a5] = [c0, c1, c2, c3, c4, c5])) w := by
  have e : decide ([a0, a1, a2, a3, a4, a5] = [c0, c1, c2, c3, c4, c5]) = _ := rfl
  have h := equalIn_sig (P := Try.prog) (d := d + 2) (t := 39) (xs := #[.int .i64 a0, .int .i64 a1, .int .i64 a2, .int .i64 a3, .int .i64 a4, .int .i64 a5]) (ys := #[.int .i64 c0, .int .i64 c1, .int .i64 c2, .int .i64 c3, .int .i64 c4, .int .i64 c5]) (w := w) (by kernel_rfl) (by kernel_rfl) (l := [(true, 37, 0), (true, 37, 2), (true, 37, 4)]) (by kernel_rfl) (eqF_agg (n := 2) (by kernel_rfl) (by kernel_rfl) (seqPt (d := d) a0 a1 c0 c1 w) (eqF_agg (n := 2) (by kernel_rfl) (by kernel_rfl) (seqPt (d := d) a2 a3 c2 c3 w) (eqF_agg (n := 2) (by kernel_rfl) (by kernel_rfl) (seqPt (d := d) a4 a5 c4 c5 w) eqF_nil)))
  rw [h]
  simp [Bool.decide_and, Bool.and_assoc]

end Go.Proofs.Ytnhgjgoglmadnaa
namespace Go.Proofs.Ytnhgjgoglmadnaa
open Go.RowKit
set_option linter.unusedVariables false

def Bk {α : Type} (s s' : W8) (f : R8 → α) (g : R8 → R8) (a : α) : Prop :=
  s'.bad = false → s.bad = false ∧ ∃ u, s'.l = s.l ++ u ∧ 0 < u.length ∧ ∀ rest, f ⟨u ++ rest, false⟩ = a ∧ g ⟨u ++ rest, false⟩ = ⟨rest, false⟩
theorem Bk.and {α β : Type} {s s' s'' : W8} {f : R8 → α} {f' : R8 → β} {g g' : R8 → R8} {a : α} {b : β} (h : Bk s s' f g a) (h' : Bk s' s'' f' g' b) : Bk s s'' (fun r => (f r, f' (g r))) (fun r => g' (g r)) (a, b) := fun hb => by
  obtain ⟨hb', u', e', p', r'⟩ := h' hb
  obtain ⟨hb0, u, e, p, r⟩ := h hb'
  refine ⟨hb0, u ++ u', by rw [e', e, List.append_assoc], by simp; omega, fun rest => ?_⟩
  obtain ⟨q1, q2⟩ := r (u' ++ rest)
  obtain ⟨q3, q4⟩ := r' rest
  rw [List.append_assoc]
  dsimp only
  rw [q1, q2, q3, q4]
  exact ⟨rfl, rfl⟩
theorem Bk.map {α β : Type} {s s' : W8} {f : R8 → α} {g : R8 → R8} {a : α} (h : Bk s s' f g a) (p : α → β) : Bk s s' (fun r => p (f r)) g (p a) := fun hb => by
  obtain ⟨hb0, u, e, q, r⟩ := h hb
  exact ⟨hb0, u, e, q, fun rest => ⟨congrArg p (r rest).1, (r rest).2⟩⟩
theorem fits_of {n : Int} {k : Nat} (h : fits n k = true) : 0 ≤ n ∧ (k < 8 → n / 2 ^ (8 * k) = 0) := by
  simp only [fits, decide_eq_true_eq] at h
  refine ⟨h.2.2.1, fun hk => ?_⟩
  have e : (8 * (k : Int)).toNat = 8 * k := by omega
  have := h.2.2.2 (by omega)
  rw [e] at this; exact this
theorem fits_le {n : Int} {k : Nat} (h1 : 1 ≤ k) (h7 : k ≤ 7) (h : fits n k = true) : n ≤ 9223372036854775807 := by
  obtain ⟨h0, hk⟩ := fits_of h
  have hk := hk (by omega)
  have hc : k = 1 ∨ k = 2 ∨ k = 3 ∨ k = 4 ∨ k = 5 ∨ k = 6 ∨ k = 7 := by omega
  have e1 : (2 : Int) ^ (8 * 1) = 256 := by decide
  have e2 : (2 : Int) ^ (8 * 2) = 65536 := by decide
  have e3 : (2 : Int) ^ (8 * 3) = 16777216 := by decide
  have e4 : (2 : Int) ^ (8 * 4) = 4294967296 := by decide
  have e5 : (2 : Int) ^ (8 * 5) = 1099511627776 := by decide
  have e6 : (2 : Int) ^ (8 * 6) = 281474976710656 := by decide
  have e7 : (2 : Int) ^ (8 * 7) = 72057594037927936 := by decide
  rcases hc with rfl | rfl | rfl | rfl | rfl | rfl | rfl
  · rw [e1] at hk; omega
  · rw [e2] at hk; omega
  · rw [e3] at hk; omega
  · rw [e4] at hk; omega
  · rw [e5] at hk; omega
  · rw [e6] at hk; omega
  · rw [e7] at hk; omega
theorem Bk.num (s : W8) (n : Int) (k : Nat) (h1 : 1 ≤ k) (h7 : k ≤ 7) : Bk s (s.num n k) (fun r => r.numV k) (fun r => r.numS k) n := fun hb => by
  cases hf : fits n k with
  | false => simp [W8.num, hf] at hb
  | true =>
    have e : s.num n k = ⟨s.l ++ be n k, s.bad⟩ := by simp [W8.num, hf]
    rw [e] at hb ⊢
    obtain ⟨h0, hk⟩ := fits_of hf
    refine ⟨hb, be n k, rfl, by rw [be_length]; omega, fun rest => num_read n k rest h1 h7 h0 (fits_le h1 h7 hf) (hk (by omega))⟩
theorem Bk.n1 (s : W8) {n : Int} : Bk s (s.num n 1) (fun r => r.numV 1) (fun r => r.numS 1) n := Bk.num s n 1 (by omega) (by omega)
theorem Bk.n2 (s : W8) {n : Int} : Bk s (s.num n 2) (fun r => r.numV 2) (fun r => r.numS 2) n := Bk.num s n 2 (by omega) (by omega)
theorem Bk.n3 (s : W8) {n : Int} : Bk s (s.num n 3) (fun r => r.numV 3) (fun r => r.numS 3) n := Bk.num s n 3 (by omega) (by omega)
theorem Bk.n4 (s : W8) {n : Int} : Bk s (s.num n 4) (fun r => r.numV 4) (fun r => r.numS 4) n := Bk.num s n 4 (by omega) (by omega)
theorem Bk.pt (s : W8) {x y : Int} : Bk s (s.pt x y) (fun r => r.ptV) (fun r => r.ptS) (x, y) := fun hb => by
  obtain ⟨h0, u, e, p, r⟩ := ((Bk.n3 s).and (Bk.n3 _)) hb
  refine ⟨h0, u, e, p, fun rest => ?_⟩
  obtain ⟨r1, r2⟩ := r rest
  have r2' : (R8.mk (u ++ rest) false).ptS = ⟨rest, false⟩ := r2
  refine ⟨?_, r2'⟩
  unfold R8.ptV
  dsimp only
  rw [r2']
  exact r1
theorem Bk.tri (s : W8) {t : T3} (hv : t.valid = true) : Bk s (s.tri t.ax t.ay t.bx t.by' t.cx t.cy) (fun r => r.triV) (fun r => r.triS) t := fun hb => by
  have hbad : s.bad = false := by
    cases h : s.bad with
    | false => rfl
    | true =>
      have : ∀ (s : W8) n k, s.bad = true → (s.num n k).bad = true := fun s n k h => by unfold W8.num; split <;> simp [h]
      unfold W8.tri W8.pt at hb
      rw [this _ _ _ (this _ _ _ (this _ _ _ (this _ _ _ (this _ _ _ (this _ _ _ h)))))] at hb
      cases hb
  obtain ⟨l, b⟩ := s
  dsimp only at hbad
  subst hbad
  rw [tri_write l hv]
  exact ⟨rfl, t.bytes, rfl, by simp [T3.bytes, ptB_len], fun rest => tri_read rest hv⟩
theorem Bk.len (s : W8) (b : List Int) : Bk s ((s.num b.length 2).raw b) (fun r => (r.numS 2).rawV (r.numV 2)) (fun r => (r.numS 2).rawS (r.numV 2)) b := fun hb => by
  obtain ⟨h0, u, e, p, r⟩ := Bk.n2 s (n := b.length) hb
  refine ⟨h0, u ++ b, by simp [W8.raw, e], by simp; omega, fun rest => ?_⟩
  obtain ⟨r1, r2⟩ := r (b ++ rest)
  dsimp only at r1 r2 ⊢
  rw [List.append_assoc, r1, r2]
  exact raw_read b rest

theorem Bk.items {α : Type} {wf : W8 → α → W8} {f : R8 → α} {g : R8 → R8} {f' : R8 → α} {g' : R8 → R8} : ∀ (xs : List α) (s : W8), (∀ x ∈ xs, ∀ s, Bk s (wf s x) f g x) → (∀ x ∈ xs, ∀ s, Bk s (wf s x) f' g' x) →
    (xs.foldl wf s).bad = false → s.bad = false ∧ ∃ u, (xs.foldl wf s).l = s.l ++ u ∧ ∀ rest, itemsF f g xs.length ⟨u ++ rest, false⟩ = (xs, ⟨rest, false⟩) ∧ itemsB f' g' xs.length ⟨u ++ rest, false⟩ = (xs, ⟨rest, false⟩)
  | [], s, _, _, hb => ⟨hb, [], by simp, fun rest => ⟨rfl, rfl⟩⟩
  | x :: xs, s, h, h', hb => by
    obtain ⟨b1, u1, e1, r1⟩ := Bk.items xs (wf s x) (fun y hy => h y (.tail _ hy)) (fun y hy => h' y (.tail _ hy)) hb
    obtain ⟨b0, u0, e0, p0, r0⟩ := h x (.head _) s b1
    obtain ⟨_, u0', e0', _, r0'⟩ := h' x (.head _) s b1
    have eu : u0' = u0 := List.append_cancel_left (by rw [← e0', e0])
    subst eu
    refine ⟨b0, u0' ++ u1, by rw [List.foldl_cons, e1, e0, List.append_assoc], fun rest => ?_⟩
    obtain ⟨q1, q2⟩ := r0 (u1 ++ rest)
    obtain ⟨q1', q2'⟩ := r0' (u1 ++ rest)
    obtain ⟨q3, q4⟩ := r1 rest
    rw [List.append_assoc]
    have hl : 0 < (R8.mk (u0' ++ (u1 ++ rest)) false).left := by simp [R8.left]; omega
    refine ⟨?_, ?_⟩
    · rw [List.length_cons, itemsF, if_pos hl, q1, q2, q3]
    · rw [List.length_cons, itemsB, if_neg (by simp), q1', q2', q4]
theorem Bk.list {α : Type} {wf : W8 → α → W8} {f : R8 → α} {g : R8 → R8} (xs : List α) (s : W8) (h : ∀ x ∈ xs, ∀ s, Bk s (wf s x) f g x) :
    Bk s (xs.foldl wf (s.num xs.length 2)) (fun r => itemsV f g r) (fun r => itemsS f g r) xs := fun hb => by
  obtain ⟨b1, u1, e1, r1⟩ := Bk.items xs _ h h hb
  obtain ⟨b0, u0, e0, p0, r0⟩ := Bk.n2 s (n := xs.length) b1
  refine ⟨b0, u0 ++ u1, by rw [e1, e0, List.append_assoc], by simp; omega, fun rest => ?_⟩
  obtain ⟨q1, q2⟩ := r0 (u1 ++ rest)
  obtain ⟨q3, _⟩ := r1 rest
  dsimp only at q1 q2
  simp only [itemsV, itemsS]
  rw [List.append_assoc, q1, q2, Int.toNat_natCast, q3]
  exact ⟨rfl, rfl⟩
theorem Bk.listB {α : Type} {wf : W8 → α → W8} {f : R8 → α} {g : R8 → R8} (xs : List α) (s : W8) (h : ∀ x ∈ xs, ∀ s, Bk s (wf s x) f g x) :
    Bk s (xs.foldl wf (s.num xs.length 2)) (fun r => BV f g r) (fun r => BS f g r) xs := fun hb => by
  obtain ⟨b1, u1, e1, r1⟩ := Bk.items xs _ h h hb
  obtain ⟨b0, u0, e0, p0, r0⟩ := Bk.n2 s (n := xs.length) b1
  refine ⟨b0, u0 ++ u1, by rw [e1, e0, List.append_assoc], by simp; omega, fun rest => ?_⟩
  obtain ⟨q1, q2⟩ := r0 (u1 ++ rest)
  obtain ⟨_, q3⟩ := r1 rest
  dsimp only at q1 q2
  simp only [BV, BS]
  rw [List.append_assoc, q1, q2, Int.toNat_natCast, q3]
  exact ⟨rfl, rfl⟩

def Fw (g : R8 → R8) (W : R8 → W8 → W8) : Prop := ∀ r, Byt r.l → Byt (g r).l ∧ ((g r).bad = false → r.bad = false ∧ ∃ u, r.l = u ++ (g r).l ∧ ∀ s : W8, W r s = ⟨s.l ++ u, s.bad⟩)
theorem Fw.and {g g' : R8 → R8} {W W' : R8 → W8 → W8} (h : Fw g W) (h' : Fw g' W') : Fw (fun r => g' (g r)) (fun r s => W' (g r) (W r s)) := fun r hb => by
  obtain ⟨b1, k1⟩ := h r hb
  obtain ⟨b2, k2⟩ := h' (g r) b1
  refine ⟨b2, fun hg => ?_⟩
  obtain ⟨c2, u2, e2, w2⟩ := k2 hg
  obtain ⟨c1, u1, e1, w1⟩ := k1 c2
  refine ⟨c1, u1 ++ u2, ?_, fun s => ?_⟩
  · rw [e1, List.append_assoc, ← e2]
  · dsimp only; rw [w1, w2, List.append_assoc]
theorem be_succ (n : Int) (s : Nat) : be n (s + 1) = be (n / 256) s ++ [n % 256] := by
  unfold be
  rw [List.range_succ, List.map_append]
  congr 1
  · refine List.map_congr_left fun i hi => ?_
    have hi := List.mem_range.1 hi
    have e1 : 8 * (s + 1 - 1 - i) = 8 + 8 * (s - 1 - i) := by omega
    rw [e1, Int.pow_add, ← Int.ediv_ediv_of_nonneg (by decide)]
    rfl
  · simp
theorem be_rval : ∀ (k : Nat) (xs : List Int), xs.length = k → k ≤ 7 → Byt xs → be (rval xs) k = xs
  | 0, xs, h, _, _ => by
    have : xs = [] := List.eq_nil_of_length_eq_zero h
    subst this; rfl
  | k + 1, xs, h, h7, hb => by
    have hne : xs ≠ [] := by intro e; subst e; simp at h
    obtain ⟨ys, y, rfl⟩ : ∃ ys y, xs = ys ++ [y] := ⟨xs.dropLast, xs.getLast hne, (List.dropLast_concat_getLast hne).symm⟩
    simp at h
    have hby : Byt ys := fun x hx => hb x (by simp [hx])
    obtain ⟨k1, k2⟩ := rval_rng k ys h (by omega) hby
    have ih := be_rval k ys h (by omega) hby
    have hy := hb y (by simp)
    have hle : (256 : Int) ^ k ≤ 281474976710656 := by
      have hn : k = 0 ∨ k = 1 ∨ k = 2 ∨ k = 3 ∨ k = 4 ∨ k = 5 ∨ k = 6 := by omega
      rcases hn with rfl | rfl | rfl | rfl | rfl | rfl | rfl <;> decide
    have e : rval (ys ++ [y]) = rval ys * 256 + y := by
      unfold rval
      rw [List.foldl_append]
      simp only [List.foldl_cons, List.foldl_nil]
      exact rstep_eq k1 hy (by omega)
    rw [e, be_succ]
    unfold rval at *
    have e1 : (ys.foldl rstep 0 * 256 + y) / 256 = ys.foldl rstep 0 := by omega
    have e2 : (ys.foldl rstep 0 * 256 + y) % 256 = y := by omega
    rw [e1, e2, ih]
theorem Fw.num (k : Nat) (h1 : 1 ≤ k) (h7 : k ≤ 7) : Fw (fun r => r.numS k) (fun r s => s.num (r.numV k) k) := fun r hb => by
  refine ⟨numS_byt r k hb, fun hg => ?_⟩
  obtain ⟨c, e⟩ := num_ok k h1 h7 hg
  obtain ⟨e1, e2⟩ := r.num_yes k c h1 h7 (by omega)
  have hbt : Byt (r.l.take k) := fun x hx => hb x (List.mem_of_mem_take hx)
  have hlt : (r.l.take k).length = k := by simp; omega
  refine ⟨c, r.l.take k, by dsimp only; rw [e2]; simp, fun s => ?_⟩
  dsimp only
  rw [e1]
  obtain ⟨g1, g2⟩ := rval_rng k _ hlt h7 hbt
  have hf : fits (rval (r.l.take k)) k = true := by
    simp only [fits, decide_eq_true_eq]
    refine ⟨by omega, by omega, g1, fun _ => ?_⟩
    have e : (8 * (k : Int)).toNat = 8 * k := by omega
    have e256 : (256 : Int) ^ k = 2 ^ (8 * k) := by rw [Int.pow_mul]; rfl
    rw [e, ← e256]
    exact Int.ediv_eq_zero_of_lt g1 g2
  have ek : (k : Int).toNat = k := by omega
  simp only [W8.num, hf, if_true, ek]
  rw [be_rval k _ hlt h7 hbt]
theorem Fw.n1 : Fw (fun r => r.numS 1) (fun r s => s.num (r.numV 1) 1) := Fw.num 1 (by omega) (by omega)
theorem Fw.n2 : Fw (fun r => r.numS 2) (fun r s => s.num (r.numV 2) 2) := Fw.num 2 (by omega) (by omega)
theorem Fw.n3 : Fw (fun r => r.numS 3) (fun r s => s.num (r.numV 3) 3) := Fw.num 3 (by omega) (by omega)
theorem Fw.n4 : Fw (fun r => r.numS 4) (fun r s => s.num (r.numV 4) 4) := Fw.num 4 (by omega) (by omega)
theorem Fw.conv {g : R8 → R8} {W W' : R8 → W8 → W8} (h : Fw g W) (he : ∀ r s, (g r).bad = false → W' r s = W r s) : Fw g W' := fun r hb => by
  obtain ⟨b1, k1⟩ := h r hb
  refine ⟨b1, fun hg => ?_⟩
  obtain ⟨c1, u1, e1, w1⟩ := k1 hg
  exact ⟨c1, u1, e1, fun s => by rw [he r s hg, w1]⟩
theorem Fw.pt : Fw (fun r => r.ptS) (fun r s => s.pt r.ptV.1 r.ptV.2) :=
  Fw.conv (Fw.n3.and Fw.n3) fun r s hg => by
    have hg' : r.ptS.bad = false := hg
    unfold R8.ptV W8.pt
    rw [hg']
    simp
theorem Fw.tri : Fw (fun r => r.triS) (fun r s => s.tri r.triV.ax r.triV.ay r.triV.bx r.triV.by' r.triV.cx r.triV.cy) := fun r hb => by
  refine ⟨triS_byt r hb, fun hg => ?_⟩
  obtain ⟨⟨c, _⟩, e1, e2⟩ := tri_ok hg
  have h3 := ((Fw.pt.and Fw.pt).and Fw.pt) r hb
  have hg' : r.tS3.bad = false := by rw [← e1]; exact hg
  obtain ⟨_, u, e, w⟩ := h3.2 hg'
  have ev : r.triV = r.tT := by unfold R8.triV; rw [hg', e2]; rfl
  refine ⟨c, u, by dsimp only; rw [e1]; exact e, fun s => ?_⟩
  dsimp only
  rw [ev]
  exact w s
theorem Fw.len : Fw (fun r => (r.numS 2).rawS (r.numV 2)) (fun r s => (s.num ((r.numS 2).rawV (r.numV 2)).length 2).raw ((r.numS 2).rawV (r.numV 2))) := fun r hb => by
  have h2 := Fw.n2 r hb
  refine ⟨(rawS_byt _ _ h2.1).1, fun hg => ?_⟩
  obtain ⟨c1, _, e, h0, hl⟩ := raw_ok hg
  obtain ⟨c, u, e', w⟩ := h2.2 c1
  refine ⟨c, u ++ (r.numS 2).rawV (r.numV 2), by dsimp only at e e' ⊢; rw [List.append_assoc, e, e'], fun s => ?_⟩
  have en : (((r.numS 2).rawV (r.numV 2)).length : Int) = r.numV 2 := by omega
  dsimp only at w ⊢
  rw [en, w s]
  simp [W8.raw]
theorem Fw.items {α : Type} {f : R8 → α} {g : R8 → R8} {wf : W8 → α → W8} {P : α → Prop} (h : Fw g (fun r s => wf s (f r))) (hP : ∀ r, (g r).bad = false → P (f r)) : ∀ (n : Nat) (r : R8), Byt r.l → Byt (itemsB f g n r).2.l ∧
    ((itemsB f g n r).2.bad = false → r.bad = false ∧ (itemsB f g n r).1.length = n ∧ (∀ x ∈ (itemsB f g n r).1, P x) ∧ ∃ u, r.l = u ++ (itemsB f g n r).2.l ∧ ∀ s : W8, (itemsB f g n r).1.foldl wf s = ⟨s.l ++ u, s.bad⟩)
  | 0, r, hb => ⟨hb, fun hg => ⟨hg, rfl, fun x hx => (by cases hx), [], rfl, fun s => by simp [itemsB]⟩⟩
  | n + 1, r, hb => by
    cases hr : r.bad with
    | true =>
      have e : itemsB f g (n + 1) r = ([], r) := by rw [itemsB, if_pos hr]
      rw [e]
      exact ⟨hb, fun hg => by dsimp only at hg; rw [hr] at hg; cases hg⟩
    | false =>
      have e : itemsB f g (n + 1) r = (f r :: (itemsB f g n (g r)).1, (itemsB f g n (g r)).2) := by rw [itemsB, if_neg (by rw [hr]; simp)]
      obtain ⟨b1, k1⟩ := h r hb
      obtain ⟨b2, k2⟩ := Fw.items h hP n (g r) b1
      rw [e]
      refine ⟨b2, fun hg => ?_⟩
      obtain ⟨c2, l2, p2, u2, e2, w2⟩ := k2 hg
      obtain ⟨c1, u1, e1, w1⟩ := k1 c2
      refine ⟨rfl, by simp [l2], fun x hx => ?_, u1 ++ u2, ?_, fun s => ?_⟩
      · rcases List.mem_cons.1 hx with rfl | hx
        · exact hP r c2
        · exact p2 x hx
      · dsimp only; rw [e1, List.append_assoc, ← e2]
      · dsimp only at w1
        rw [List.foldl_cons, w1, w2, List.append_assoc]
theorem Fw.list {α : Type} {f : R8 → α} {g : R8 → R8} {wf : W8 → α → W8} (h : Fw g (fun r s => wf s (f r))) : Fw (fun r => BS f g r) (fun r s => (BV f g r).foldl wf (s.num (BV f g r).length 2)) := fun r hb => by
  have h2 := Fw.n2 r hb
  obtain ⟨b2, k2⟩ := Fw.items (P := fun _ => True) h (fun _ _ => trivial) (r.numV 2).toNat (r.numS 2) h2.1
  refine ⟨b2, fun hg => ?_⟩
  obtain ⟨c1, l1, _, u1, e1, w1⟩ := k2 hg
  obtain ⟨c, u, e, w⟩ := h2.2 c1
  refine ⟨c, u ++ u1, by dsimp only [BS] at *; rw [List.append_assoc, ← e1, ← e], fun s => ?_⟩
  have hn := (num2_rng r hb).1
  have el : ((BV f g r).length : Int) = r.numV 2 := by unfold BV; rw [l1]; omega
  dsimp only at w ⊢
  rw [el, w s]
  unfold BV
  rw [w1, List.append_assoc]
theorem Fw.all {α : Type} {f : R8 → α} {g : R8 → R8} {wf : W8 → α → W8} {P : α → Prop} (h : Fw g (fun r s => wf s (f r))) (hP : ∀ r, (g r).bad = false → P (f r)) (r : R8) (hb : Byt r.l) (hg : (BS f g r).bad = false) : ∀ x ∈ BV f g r, P x :=
  ((Fw.items h hP (r.numV 2).toNat (r.numS 2) (numS_byt r 2 hb)).2 hg).2.2.1
end Go.Proofs.Ytnhgjgoglmadnaa
namespace Go.Proofs.Ytnhgjgoglmadnaa
open Go.RowKit
set_option maxRecDepth 100000
set_option linter.unusedSimpArgs false
set_option linter.unusedVariables false
set_option pp.maxSteps 1500
set_option pp.deepTerms.threshold 8

theorem Sep.untwo (i : Nat) {w0 w : World} {S : Nat → Prop} {M : List Res} {r q : Res} (h : Sep w0 S M w) (hi : M[i]? = some (Go.Proofs.Ytnhgjgoglmadnaa.two r q)) : Sep w0 S (M.set i r ++ [q]) w := by
  obtain ⟨A, ⟨B, C, h1, h2, h3, rfl⟩, k⟩ := h.split i hi
  exact k r q B C h1 h2 (fun x hx => .inl hx) (fun x hx => ⟨.inr hx, fun hb => h3 x hb hx⟩) (fun x hx => .inl hx) (fun x hx => .inr hx)
theorem get1_k (q : Rq) (s : R8) (z : Int) (c : Nat) : get1 ({q with k := z}, s) c = ({(get1 (q, s) c).1 with k := z}, (get1 (q, s) c).2) := by
  unfold get1
  by_cases e0 : c = 112
  · subst e0; simp only [Nat.reduceEqDiff, reduceIte, ↓reduceIte]
  by_cases e1 : c = 113
  · subst e1; simp only [Nat.reduceEqDiff, reduceIte, ↓reduceIte]
  by_cases e2 : c = 116
  · subst e2; simp only [Nat.reduceEqDiff, reduceIte, ↓reduceIte]
  by_cases e3 : c = 101
  · subst e3; simp only [Nat.reduceEqDiff, reduceIte, ↓reduceIte]
  by_cases e4 : c = 99
  · subst e4; simp only [Nat.reduceEqDiff, reduceIte, ↓reduceIte]
  by_cases e5 : c = 108
  · subst e5; simp only [Nat.reduceEqDiff, reduceIte, ↓reduceIte]
  by_cases e6 : c = 111
  · subst e6; simp only [Nat.reduceEqDiff, reduceIte, ↓reduceIte]
  by_cases e7 : c = 114
  · subst e7; simp only [Nat.reduceEqDiff, reduceIte, ↓reduceIte]
  by_cases e8 : c = 102
  · subst e8; simp only [Nat.reduceEqDiff, reduceIte, ↓reduceIte]
  by_cases e9 : c = 109
  · subst e9; simp only [Nat.reduceEqDiff, reduceIte, ↓reduceIte]
  by_cases e10 : c = 105
  · subst e10; simp only [Nat.reduceEqDiff, reduceIte, ↓reduceIte]
  by_cases e11 : c = 110
  · subst e11; simp only [Nat.reduceEqDiff, reduceIte, ↓reduceIte]
  by_cases e12 : c = 104
  · subst e12; simp only [Nat.reduceEqDiff, reduceIte, ↓reduceIte]
  by_cases e13 : c = 98
  · subst e13; simp only [Nat.reduceEqDiff, reduceIte, ↓reduceIte]
  by_cases e14 : c = 117
  · subst e14; simp only [Nat.reduceEqDiff, reduceIte, ↓reduceIte]
  simp only [if_neg e0, if_neg e1, if_neg e2, if_neg e3, if_neg e4, if_neg e5, if_neg e6, if_neg e7, if_neg e8, if_neg e9, if_neg e10, if_neg e11, if_neg e12, if_neg e13, if_neg e14]
theorem fold_k (z : Int) : ∀ (l : List Nat) (q : Rq) (s : R8), l.foldl get1 ({q with k := z}, s) = ({(l.foldl get1 (q, s)).1 with k := z}, (l.foldl get1 (q, s)).2)
  | [], _, _ => rfl
  | c :: l, q, s => by
    simp only [List.foldl_cons, get1_k]
    exact fold_k z l _ _
theorem get1_ok {q : Rq} {s : R8} (hb : Byt s.l) (ho : Ok64 q.vals) (c : Nat) : Byt (get1 (q, s) c).2.l ∧ Ok64 (get1 (q, s) c).1.vals := by
  have n1 := num1_rng s hb
  have n2 := num2_rng s hb
  have n4 := num4_rng s hb
  have a1 := num3_rng s hb
  have b1 := numS_byt s 3 hb
  have a2 := num3_rng _ b1
  have b2 := numS_byt _ 3 b1
  have a3 := num3_rng _ b2
  have b3 := numS_byt _ 3 b2
  have a4 := num3_rng _ b3
  have b4 := numS_byt _ 3 b3
  have pr := ptV_rng s hb
  have tr := triV_rng s hb
  unfold T3.rng at tr
  simp only [Rq.vals, Ok64, List.forall_mem_cons, List.not_mem_nil, false_implies, implies_true, and_true] at ho ⊢
  unfold get1
  by_cases e0 : c = 112
  · subst e0; simp only [Nat.reduceEqDiff, reduceIte, ↓reduceIte]; exact ⟨ptS_byt s hb, by omega⟩
  by_cases e1 : c = 113
  · subst e1; simp only [Nat.reduceEqDiff, reduceIte, ↓reduceIte]; exact ⟨ptS_byt s hb, by omega⟩
  by_cases e2 : c = 116
  · subst e2; simp only [Nat.reduceEqDiff, reduceIte, ↓reduceIte]; exact ⟨triS_byt s hb, by omega⟩
  by_cases e3 : c = 101
  · subst e3; simp only [Nat.reduceEqDiff, reduceIte, ↓reduceIte]; exact ⟨numS_byt s 1 hb, by omega⟩
  by_cases e4 : c = 99
  · subst e4; simp only [Nat.reduceEqDiff, reduceIte, ↓reduceIte]; exact ⟨numS_byt s 1 hb, by omega⟩
  by_cases e5 : c = 108
  · subst e5; simp only [Nat.reduceEqDiff, reduceIte, ↓reduceIte]; exact ⟨numS_byt s 2 hb, by omega⟩
  by_cases e6 : c = 111
  · subst e6; simp only [Nat.reduceEqDiff, reduceIte, ↓reduceIte]; exact ⟨numS_byt s 2 hb, by omega⟩
  by_cases e7 : c = 114
  · subst e7; simp only [Nat.reduceEqDiff, reduceIte, ↓reduceIte]; exact ⟨b4, by omega⟩
  by_cases e8 : c = 102
  · subst e8; simp only [Nat.reduceEqDiff, reduceIte, ↓reduceIte]; exact ⟨numS_byt s 2 hb, by omega⟩
  by_cases e9 : c = 109
  · subst e9; simp only [Nat.reduceEqDiff, reduceIte, ↓reduceIte]; exact ⟨numS_byt s 1 hb, by omega⟩
  by_cases e10 : c = 105
  · subst e10; simp only [Nat.reduceEqDiff, reduceIte, ↓reduceIte]; exact ⟨numS_byt s 1 hb, by omega⟩
  by_cases e11 : c = 110
  · subst e11; simp only [Nat.reduceEqDiff, reduceIte, ↓reduceIte]; exact ⟨numS_byt s 1 hb, by omega⟩
  by_cases e12 : c = 104
  · subst e12; simp only [Nat.reduceEqDiff, reduceIte, ↓reduceIte]; exact ⟨numS_byt s 1 hb, by omega⟩
  by_cases e13 : c = 98
  · subst e13; simp only [Nat.reduceEqDiff, reduceIte, ↓reduceIte]; exact ⟨numS_byt s 1 hb, by omega⟩
  by_cases e14 : c = 117
  · subst e14; simp only [Nat.reduceEqDiff, reduceIte, ↓reduceIte]; exact ⟨numS_byt s 4 hb, by omega⟩
  simp only [if_neg e0, if_neg e1, if_neg e2, if_neg e3, if_neg e4, if_neg e5, if_neg e6, if_neg e7, if_neg e8, if_neg e9, if_neg e10, if_neg e11, if_neg e12, if_neg e13, if_neg e14]
  exact ⟨hb, ho⟩
theorem fold_ok : ∀ (l : List Nat) {q : Rq} {s : R8}, Byt s.l → Ok64 q.vals → Byt (l.foldl get1 (q, s)).2.l ∧ Ok64 (l.foldl get1 (q, s)).1.vals
  | [], _, _, hb, ho => ⟨hb, ho⟩
  | c :: l, q, s, hb, ho => by
    obtain ⟨h1, h2⟩ := get1_ok hb ho c
    exact fold_ok l h1 h2
theorem zero_ok : Ok64 Rq.zero.vals := by
  simp only [Rq.zero, Rq.vals, Ok64, List.forall_mem_cons, List.not_mem_nil, false_implies, implies_true, and_true]; omega
theorem askR_eq (s : R8) : askR s = ({askedV (s.numS 1) (s.numV 1) with k := s.numV 1}, askedS (s.numS 1) (s.numV 1)) := fold_k (s.numV 1) (formL (s.numV 1)) Rq.zero (s.numS 1)
set_option maxHeartbeats 4000000 in
theorem ask68 (v : Value) (b : List Int) (w : World) (hr : Rd w v b) (hb : Byt b) (hl : b.length ≤ 99000) :
    Calls Try.prog 68 [v].toArray w (RetK fun r w' => r = .tuple #[.agg (askRV b).cells.toArray, .int .i64 (if askROk b then 0 else 2)] ∧ Chg (fun _ => False) w w') := by
  have hr' := hr
  obtain ⟨a, cc, rfl, _⟩ := hr'
  have h := Sep.nil w
  refine walk Try.func68 rfl (by kernel_rfl) (by rw [Try.nt68]; simp) ?_
  (try simp only [nfD] at h); have F := h.facts; (try simp only [nfF, emp_fact, rds_fact, frm_fact, tab_fact, two_fact] at F)
  simp -dsimp only [↓vcA, vcB, vcD, ↓pureT_lenS, ↓iteT, ↓iteF, cond_true, cond_false, eq_self, argE, Env.get, Env.push, ev, evs, evo, retV, Value.cells, Value.oneCell', setR, overR, fillL, zl, places, allSizes, heldC, ne_eq, Int.reduceLE, Int.reduceLT, Int.reduceEq, Int.reduceNe, Int.reduceToNat, Int.cast_ofNat_Int, Nat.reduceMul, Nat.reduceLeDiff, reduceIte, Nat.reduceEqDiff, Nat.reduceAdd, ↓reduceIte, Try.vcT]
  refine h.new ?_
  clear h F
  intro w1 b1 h
  (try simp only [nfD] at h); have F := h.facts; (try simp only [nfF, emp_fact, rds_fact, frm_fact, tab_fact, two_fact] at F); try simp -dsimp only [↓vcA, vcB, vcD, ↓pureT_lenS, ↓iteT, ↓iteF, cond_true, cond_false, eq_self, argE, Env.get, Env.push, ev, evs, evo, retV, Value.cells, Value.oneCell', setR, overR, fillL, zl, places, allSizes, heldC, ne_eq, Int.reduceLE, Int.reduceLT, Int.reduceEq, Int.reduceNe, Int.reduceToNat, Int.cast_ofNat_Int, Nat.reduceMul, Nat.reduceLeDiff, reduceIte, Nat.reduceEqDiff, Nat.reduceAdd, ↓reduceIte, Try.vcT, F, h.cell0, gets, vsD, if_true, if_false, Bool.false_eq_true]
  refine Sep.read b h (hr.sep h fun _ _ => id) (by omega) ?_
  clear h F
  intro r w2 h
  (try simp only [nfD] at h); have F := h.facts; (try simp only [nfF, emp_fact, rds_fact, frm_fact, tab_fact, two_fact] at F); try simp -dsimp only [↓vcA, vcB, vcD, ↓pureT_lenS, ↓iteT, ↓iteF, cond_true, cond_false, eq_self, argE, Env.get, Env.push, ev, evs, evo, retV, Value.cells, Value.oneCell', setR, overR, fillL, zl, places, allSizes, heldC, ne_eq, Int.reduceLE, Int.reduceLT, Int.reduceEq, Int.reduceNe, Int.reduceToNat, Int.cast_ofNat_Int, Nat.reduceMul, Nat.reduceLeDiff, reduceIte, Nat.reduceEqDiff, Nat.reduceAdd, ↓reduceIte, Try.vcT, F, h.cell0, gets, vsD, if_true, if_false, Bool.false_eq_true]
  have hok0 : askROk b = ((form ((⟨b, false⟩ : R8).numV 1)).isSome && (askR ⟨b, false⟩).2.done) := rfl
  have hv0 : askRV b = if askROk b then (askR ⟨b, false⟩).1 else Rq.zero := rfl
  rw [askR_eq] at hok0 hv0
  generalize hS : (R8.mk b false) = S at *
  have hSb : Byt S.l := by rw [← hS]; exact hb
  have hz := num1_rng S hSb
  have ho := fold_ok (formL (S.numV 1)) (q := Rq.zero) (numS_byt S 1 hSb) zero_ok
  refine Sep.rdNum 1 h rfl ?_
  clear h F
  intro w3 h
  (try simp only [nfD] at h); have F := h.facts; (try simp only [nfF, emp_fact, rds_fact, frm_fact, tab_fact, two_fact] at F); try simp -dsimp only [↓vcA, vcB, vcD, ↓pureT_lenS, ↓iteT, ↓iteF, cond_true, cond_false, eq_self, argE, Env.get, Env.push, ev, evs, evo, retV, Value.cells, Value.oneCell', setR, overR, fillL, zl, places, allSizes, heldC, ne_eq, Int.reduceLE, Int.reduceLT, Int.reduceEq, Int.reduceNe, Int.reduceToNat, Int.cast_ofNat_Int, Nat.reduceMul, Nat.reduceLeDiff, reduceIte, Nat.reduceEqDiff, Nat.reduceAdd, ↓reduceIte, Try.vcT, F, h.cell0, gets, vsD, if_true, if_false, Bool.false_eq_true]
  refine asked127 h ?_
  clear h F
  intro w4 h
  have ho' : Byt (askedS (S.numS 1) (S.numV 1)).l ∧ Ok64 (askedV (S.numS 1) (S.numV 1)).vals := ho
  clear ho
  generalize askedS (S.numS 1) (S.numV 1) = t at *
  generalize askedV (S.numS 1) (S.numV 1) = q at *
  generalize S.numV 1 = z at *
  obtain ⟨hbt, ho⟩ := ho'
  have fin : ∀ {w' : World} {M : List Res}, askROk b = false → Sep w (fun _ => False) M w' → (Value.tuple #[.agg #[.int .i64 0, .int .i64 0, .int .i64 0, .int .i64 0, .int .i64 0, .int .i64 0, .int .i64 0, .int .i64 0, .int .i64 0, .int .i64 0, .int .i64 0, .int .i64 0, .int .i64 0, .int .i64 0, .int .i64 0, .int .i64 0, .int .i64 0, .int .i64 0, .int .i64 0, .int .i64 0, .int .i64 0, .int .i64 0, .int .i64 0, .int .i64 0, .int .i64 0, .int .i64 0], .int .i64 2] = .tuple #[.agg (askRV b).cells.toArray, .int .i64 (if askROk b then 0 else 2)]) ∧ Chg (fun _ => False) w w' := fun hf h => by
    refine ⟨?_, h.done⟩
    have e : askRV b = Rq.zero := by rw [hv0, hf]; rfl
    rw [e, hf]; rfl
  have yes : askROk b = true → askRV b = {q with k := z} := fun e => by rw [hv0, e]; rfl
  have ho2 : Ok64 ({q with k := z} : Rq).vals := by
    simp only [Rq.vals, Ok64, List.forall_mem_cons, List.not_mem_nil, false_implies, implies_true, and_true] at ho ⊢
    omega
  obtain ⟨z0, z1, z2, z3, z4, z5, z6, z7, z8, z9, z10, z11, z12, z13, z14, z15, z16, z17, z18, z19, z20, z21, z22, z23, z24, z25⟩ := q
  (try simp only [nfD] at h); have F := h.facts; (try simp only [nfF, emp_fact, rds_fact, frm_fact, tab_fact, two_fact] at F); try simp -dsimp only [↓vcA, vcB, vcD, ↓pureT_lenS, ↓iteT, ↓iteF, cond_true, cond_false, eq_self, argE, Env.get, Env.push, ev, evs, evo, retV, Value.cells, Value.oneCell', setR, overR, fillL, zl, places, allSizes, heldC, ne_eq, Int.reduceLE, Int.reduceLT, Int.reduceEq, Int.reduceNe, Int.reduceToNat, Int.cast_ofNat_Int, Nat.reduceMul, Nat.reduceLeDiff, reduceIte, Nat.reduceEqDiff, Nat.reduceAdd, ↓reduceIte, Try.vcT, F, h.cell0, gets, vsD, if_true, if_false, Bool.false_eq_true,  Rq.cells]
  refine h.new ?_
  clear h F
  intro w5 b6 h
  (try simp only [nfD] at h); have F := h.facts; (try simp only [nfF, emp_fact, rds_fact, frm_fact, tab_fact, two_fact] at F); try simp -dsimp only [↓vcA, vcB, vcD, ↓pureT_lenS, ↓iteT, ↓iteF, cond_true, cond_false, eq_self, argE, Env.get, Env.push, ev, evs, evo, retV, Value.cells, Value.oneCell', setR, overR, fillL, zl, places, allSizes, heldC, ne_eq, Int.reduceLE, Int.reduceLT, Int.reduceEq, Int.reduceNe, Int.reduceToNat, Int.cast_ofNat_Int, Nat.reduceMul, Nat.reduceLeDiff, reduceIte, Nat.reduceEqDiff, Nat.reduceAdd, ↓reduceIte, Try.vcT, F, h.cell0, gets, vsD, if_true, if_false, Bool.false_eq_true,  Rq.cells]
  refine Sep.put 2 h rfl ?_
  clear h F
  intro w6 h
  (try simp only [nfD] at h); have F := h.facts; (try simp only [nfF, emp_fact, rds_fact, frm_fact, tab_fact, two_fact] at F); try simp -dsimp only [↓vcA, vcB, vcD, ↓pureT_lenS, ↓iteT, ↓iteF, cond_true, cond_false, eq_self, argE, Env.get, Env.push, ev, evs, evo, retV, Value.cells, Value.oneCell', setR, overR, fillL, zl, places, allSizes, heldC, ne_eq, Int.reduceLE, Int.reduceLT, Int.reduceEq, Int.reduceNe, Int.reduceToNat, Int.cast_ofNat_Int, Nat.reduceMul, Nat.reduceLeDiff, reduceIte, Nat.reduceEqDiff, Nat.reduceAdd, ↓reduceIte, Try.vcT, F, h.cell0, gets, vsD, if_true, if_false, Bool.false_eq_true,  Rq.cells]
  refine Sep.put 2 h rfl ?_
  clear h F
  intro w7 h
  (try simp only [nfD] at h); have F := h.facts; (try simp only [nfF, emp_fact, rds_fact, frm_fact, tab_fact, two_fact] at F); try simp -dsimp only [↓vcA, vcB, vcD, ↓pureT_lenS, ↓iteT, ↓iteF, cond_true, cond_false, eq_self, argE, Env.get, Env.push, ev, evs, evo, retV, Value.cells, Value.oneCell', setR, overR, fillL, zl, places, allSizes, heldC, ne_eq, Int.reduceLE, Int.reduceLT, Int.reduceEq, Int.reduceNe, Int.reduceToNat, Int.cast_ofNat_Int, Nat.reduceMul, Nat.reduceLeDiff, reduceIte, Nat.reduceEqDiff, Nat.reduceAdd, ↓reduceIte, Try.vcT, F, h.cell0, gets, vsD, if_true, if_false, Bool.false_eq_true,  Rq.cells]
  refine Sep.rdDone 1 h rfl ?_
  cases hd : t.done with
  | false =>
    (try simp only [nfD] at h); have F := h.facts; (try simp only [nfF, emp_fact, rds_fact, frm_fact, tab_fact, two_fact] at F); try simp -dsimp only [↓vcA, vcB, vcD, ↓pureT_lenS, ↓iteT, ↓iteF, cond_true, cond_false, eq_self, argE, Env.get, Env.push, ev, evs, evo, retV, Value.cells, Value.oneCell', setR, overR, fillL, zl, places, allSizes, heldC, ne_eq, Int.reduceLE, Int.reduceLT, Int.reduceEq, Int.reduceNe, Int.reduceToNat, Int.cast_ofNat_Int, Nat.reduceMul, Nat.reduceLeDiff, reduceIte, Nat.reduceEqDiff, Nat.reduceAdd, ↓reduceIte, Try.vcT, F, h.cell0, gets, vsD, if_true, if_false, Bool.false_eq_true,  hd, Bool.not_true, Bool.not_false, if_false, Bool.false_eq_true]
    refine Sep.put 0 h rfl ?_
    clear h F
    intro w8 h
    (try simp only [nfD] at h); have F := h.facts; (try simp only [nfF, emp_fact, rds_fact, frm_fact, tab_fact, two_fact] at F); try simp -dsimp only [↓vcA, vcB, vcD, ↓pureT_lenS, ↓iteT, ↓iteF, cond_true, cond_false, eq_self, argE, Env.get, Env.push, ev, evs, evo, retV, Value.cells, Value.oneCell', setR, overR, fillL, zl, places, allSizes, heldC, ne_eq, Int.reduceLE, Int.reduceLT, Int.reduceEq, Int.reduceNe, Int.reduceToNat, Int.cast_ofNat_Int, Nat.reduceMul, Nat.reduceLeDiff, reduceIte, Nat.reduceEqDiff, Nat.reduceAdd, ↓reduceIte, Try.vcT, F, h.cell0, gets, vsD, if_true, if_false, Bool.false_eq_true,  cellsAt]
    exact fin (by rw [hok0, hd]; simp) h
  | true =>
  (try simp only [nfD] at h); have F := h.facts; (try simp only [nfF, emp_fact, rds_fact, frm_fact, tab_fact, two_fact] at F); try simp -dsimp only [↓vcA, vcB, vcD, ↓pureT_lenS, ↓iteT, ↓iteF, cond_true, cond_false, eq_self, argE, Env.get, Env.push, ev, evs, evo, retV, Value.cells, Value.oneCell', setR, overR, fillL, zl, places, allSizes, heldC, ne_eq, Int.reduceLE, Int.reduceLT, Int.reduceEq, Int.reduceNe, Int.reduceToNat, Int.cast_ofNat_Int, Nat.reduceMul, Nat.reduceLeDiff, reduceIte, Nat.reduceEqDiff, Nat.reduceAdd, ↓reduceIte, Try.vcT, F, h.cell0, gets, vsD, if_true, if_false, Bool.false_eq_true,  hd, Bool.not_true, Bool.not_false, if_true]
  refine h.new ?_
  clear h F
  intro w8 p h
  have h := h.wrNew 3 rfl (by decide)
  (try simp only [nfD] at h); have F := h.facts; (try simp only [nfF, emp_fact, rds_fact, frm_fact, tab_fact, two_fact] at F); try simp -dsimp only [↓vcA, vcB, vcD, ↓pureT_lenS, ↓iteT, ↓iteF, cond_true, cond_false, eq_self, argE, Env.get, Env.push, ev, evs, evo, retV, Value.cells, Value.oneCell', setR, overR, fillL, zl, places, allSizes, heldC, ne_eq, Int.reduceLE, Int.reduceLT, Int.reduceEq, Int.reduceNe, Int.reduceToNat, Int.cast_ofNat_Int, Nat.reduceMul, Nat.reduceLeDiff, reduceIte, Nat.reduceEqDiff, Nat.reduceAdd, ↓reduceIte, Try.vcT, F, h.cell0, gets, vsD, if_true, if_false, Bool.false_eq_true,  cellsAt]
  have h := ((h.two 0 1 rfl rfl).erase 1)
  (try simp only [nfD] at h); have F := h.facts; (try simp only [nfF, emp_fact, rds_fact, frm_fact, tab_fact, two_fact] at F)
  have h := ((h.two 0 1 rfl rfl).erase 1)
  (try simp only [nfD] at h); have F := h.facts; (try simp only [nfF, emp_fact, rds_fact, frm_fact, tab_fact, two_fact] at F)
  clear F
  refine asks125 (r := {k := z, px := z1, py := z2, qx := z3, qy := z4, ax := z5, ay := z6, bx := z7, by' := z8, cx := z9, cy := z10, e := z11, c := z12, l := z13, o := z14, x0 := z15, y0 := z16, x1 := z17, y1 := z18, f := z19, m := z20, i := z21, n := z22, h := z23, b := z24, u := z25}) h ho2 (by omega) ?_
  clear h
  try clear F
  intro w9 h
  have h := ((h.untwo 0 rfl).untwo 0 rfl)
  simp only [List.set_cons_zero, List.cons_append, List.nil_append] at h
  dsimp only
  cases hf : (form z).isSome with
  | false =>
    (try simp only [nfD] at h); have F := h.facts; (try simp only [nfF, emp_fact, rds_fact, frm_fact, tab_fact, two_fact] at F); try simp -dsimp only [↓vcA, vcB, vcD, ↓pureT_lenS, ↓iteT, ↓iteF, cond_true, cond_false, eq_self, argE, Env.get, Env.push, ev, evs, evo, retV, Value.cells, Value.oneCell', setR, overR, fillL, zl, places, allSizes, heldC, ne_eq, Int.reduceLE, Int.reduceLT, Int.reduceEq, Int.reduceNe, Int.reduceToNat, Int.cast_ofNat_Int, Nat.reduceMul, Nat.reduceLeDiff, reduceIte, Nat.reduceEqDiff, Nat.reduceAdd, ↓reduceIte, Try.vcT, F, h.cell0, gets, vsD, if_true, if_false, Bool.false_eq_true,  Bool.not_true, Bool.not_false]
    refine Sep.put 0 h rfl ?_
    clear h F
    intro w8 h
    (try simp only [nfD] at h); have F := h.facts; (try simp only [nfF, emp_fact, rds_fact, frm_fact, tab_fact, two_fact] at F); try simp -dsimp only [↓vcA, vcB, vcD, ↓pureT_lenS, ↓iteT, ↓iteF, cond_true, cond_false, eq_self, argE, Env.get, Env.push, ev, evs, evo, retV, Value.cells, Value.oneCell', setR, overR, fillL, zl, places, allSizes, heldC, ne_eq, Int.reduceLE, Int.reduceLT, Int.reduceEq, Int.reduceNe, Int.reduceToNat, Int.cast_ofNat_Int, Nat.reduceMul, Nat.reduceLeDiff, reduceIte, Nat.reduceEqDiff, Nat.reduceAdd, ↓reduceIte, Try.vcT, F, h.cell0, gets, vsD, if_true, if_false, Bool.false_eq_true,  cellsAt]
    exact fin (by rw [hok0, hf]; rfl) h
  | true =>
  have ok : askROk b = true := by rw [hok0, hf, hd]; rfl
  (try simp only [nfD] at h); have F := h.facts; (try simp only [nfF, emp_fact, rds_fact, frm_fact, tab_fact, two_fact] at F); try simp -dsimp only [↓vcA, vcB, vcD, ↓pureT_lenS, ↓iteT, ↓iteF, cond_true, cond_false, eq_self, argE, Env.get, Env.push, ev, evs, evo, retV, Value.cells, Value.oneCell', setR, overR, fillL, zl, places, allSizes, heldC, ne_eq, Int.reduceLE, Int.reduceLT, Int.reduceEq, Int.reduceNe, Int.reduceToNat, Int.cast_ofNat_Int, Nat.reduceMul, Nat.reduceLeDiff, reduceIte, Nat.reduceEqDiff, Nat.reduceAdd, ↓reduceIte, Try.vcT, F, h.cell0, gets, vsD, if_true, if_false, Bool.false_eq_true,  Bool.not_true, Bool.not_false, cellsAt]
  refine Sep.put 0 h rfl ?_
  clear h F
  intro w10 h
  (try simp only [nfD] at h); have F := h.facts; (try simp only [nfF, emp_fact, rds_fact, frm_fact, tab_fact, two_fact] at F); try simp -dsimp only [↓vcA, vcB, vcD, ↓pureT_lenS, ↓iteT, ↓iteF, cond_true, cond_false, eq_self, argE, Env.get, Env.push, ev, evs, evo, retV, Value.cells, Value.oneCell', setR, overR, fillL, zl, places, allSizes, heldC, ne_eq, Int.reduceLE, Int.reduceLT, Int.reduceEq, Int.reduceNe, Int.reduceToNat, Int.cast_ofNat_Int, Nat.reduceMul, Nat.reduceLeDiff, reduceIte, Nat.reduceEqDiff, Nat.reduceAdd, ↓reduceIte, Try.vcT, F, h.cell0, gets, vsD, if_true, if_false, Bool.false_eq_true,  cellsAt]
  refine ⟨?_, h.done⟩
  rw [yes ok, ok]; rfl

def rqP (r : Rq) : W8 := asksW ((⟨[], false⟩ : W8).num r.k 1) r
def rqPOk (r : Rq) : Bool := (form r.k).isSome && (!(rqP r).bad && askROk (rqP r).l)
def rqPB (r : Rq) : List Int := if rqPOk r then (rqP r).l else []
set_option maxHeartbeats 4000000 in
theorem request66 (r : Rq) (w : World) (hO : Ok64 r.vals) (hby : Byt (rqP r).l) :
    Calls Try.prog 66 [.agg r.cells.toArray].toArray w (RetK fun v w' => ∃ N, Sep w (fun _ => False) N w' ∧ (∀ q ∈ N, ∀ x, ¬ q.rd x) ∧
      ∃ a c, v = .tuple #[.slice a (rqPB r).length c, .int .i64 (if rqPOk r then 0 else 2)] ∧ N = [byt (.slice a (rqPB r).length c) (rqPB r)]) := by
  have fin : ∀ {w' : World} {M : List Res}, rqPOk r = false → Sep w (fun _ => False) M w' → ∃ N, Sep w (fun _ => False) N w' ∧ (∀ q ∈ N, ∀ x, ¬ q.rd x) ∧
      ∃ a c, Value.tuple #[.slice none 0 0, .int .i64 2] = .tuple #[.slice a (rqPB r).length c, .int .i64 (if rqPOk r then 0 else 2)] ∧ N = [byt (.slice a (rqPB r).length c) (rqPB r)] := fun hf h => by
    have e1 : rqPB r = [] := by simp [rqPB, hf]
    rw [e1, hf]
    exact ⟨_, h.none.bytNone, (fun q hq x hx => by simp at hq; subst hq; exact hx), none, 0, rfl, rfl⟩
  have hok : rqPOk r = ((form r.k).isSome && (!(rqP r).bad && askROk (rqP r).l)) := rfl
  have hB : rqPOk r = true → rqPB r = (rqP r).l := fun e => by simp [rqPB, e]
  have hk : -9223372036854775808 ≤ r.k ∧ r.k ≤ 9223372036854775807 := hO _ (by simp [Rq.vals])
  have h := Sep.nil w
  refine walk Try.func66 rfl (by kernel_rfl) (by rw [Try.nt66]; simp) ?_
  (try simp only [nfD] at h); have F := h.facts; (try simp only [nfF, emp_fact, rds_fact, frm_fact, tab_fact, two_fact] at F)
  simp -dsimp only [↓vcA, vcB, vcD, ↓pureT_lenS, ↓iteT, ↓iteF, cond_true, cond_false, eq_self, argE, Env.get, Env.push, ev, evs, evo, retV, Value.cells, Value.oneCell', setR, overR, fillL, zl, places, allSizes, heldC, ne_eq, Int.reduceLE, Int.reduceLT, Int.reduceEq, Int.reduceNe, Int.reduceToNat, Int.cast_ofNat_Int, Nat.reduceMul, Nat.reduceLeDiff, reduceIte, Nat.reduceEqDiff, Nat.reduceAdd, ↓reduceIte, Try.vcT, Rq.cells]
  refine h.new ?_
  clear h F
  intro w1 b1 h
  (try simp only [nfD] at h); have F := h.facts; (try simp only [nfF, emp_fact, rds_fact, frm_fact, tab_fact, two_fact] at F); try simp -dsimp only [↓vcA, vcB, vcD, ↓pureT_lenS, ↓iteT, ↓iteF, cond_true, cond_false, eq_self, argE, Env.get, Env.push, ev, evs, evo, retV, Value.cells, Value.oneCell', setR, overR, fillL, zl, places, allSizes, heldC, ne_eq, Int.reduceLE, Int.reduceLT, Int.reduceEq, Int.reduceNe, Int.reduceToNat, Int.cast_ofNat_Int, Nat.reduceMul, Nat.reduceLeDiff, reduceIte, Nat.reduceEqDiff, Nat.reduceAdd, ↓reduceIte, Try.vcT, F, h.cell0, gets, vsD, if_true, if_false, Bool.false_eq_true]
  refine h.new ?_
  clear h F
  intro w2 p h
  have h := h.wrNew 1 rfl (by decide)
  (try simp only [nfD] at h); have F := h.facts; (try simp only [nfF, emp_fact, rds_fact, frm_fact, tab_fact, two_fact] at F); try simp -dsimp only [↓vcA, vcB, vcD, ↓pureT_lenS, ↓iteT, ↓iteF, cond_true, cond_false, eq_self, argE, Env.get, Env.push, ev, evs, evo, retV, Value.cells, Value.oneCell', setR, overR, fillL, zl, places, allSizes, heldC, ne_eq, Int.reduceLE, Int.reduceLT, Int.reduceEq, Int.reduceNe, Int.reduceToNat, Int.cast_ofNat_Int, Nat.reduceMul, Nat.reduceLeDiff, reduceIte, Nat.reduceEqDiff, Nat.reduceAdd, ↓reduceIte, Try.vcT, F, h.cell0, gets, vsD, if_true, if_false, Bool.false_eq_true,  cellsAt]
  refine Sep.num 1 h rfl (by omega) hk.1 hk.2 ?_
  clear h F
  intro w3 h
  (try simp only [nfD] at h); have F := h.facts; (try simp only [nfF, emp_fact, rds_fact, frm_fact, tab_fact, two_fact] at F); try simp -dsimp only [↓vcA, vcB, vcD, ↓pureT_lenS, ↓iteT, ↓iteF, cond_true, cond_false, eq_self, argE, Env.get, Env.push, ev, evs, evo, retV, Value.cells, Value.oneCell', setR, overR, fillL, zl, places, allSizes, heldC, ne_eq, Int.reduceLE, Int.reduceLT, Int.reduceEq, Int.reduceNe, Int.reduceToNat, Int.cast_ofNat_Int, Nat.reduceMul, Nat.reduceLeDiff, reduceIte, Nat.reduceEqDiff, Nat.reduceAdd, ↓reduceIte, Try.vcT, F, h.cell0, gets, vsD, if_true, if_false, Bool.false_eq_true,  cellsAt]
  refine asks125 (r := r) h hO (by omega) ?_
  clear h F
  intro w4 h
  change Sep w _ [_, wr _ p (rqP r) _] _ at h
  cases hf : (form r.k).isSome with
  | false =>
    (try simp only [nfD] at h); have F := h.facts; (try simp only [nfF, emp_fact, rds_fact, frm_fact, tab_fact, two_fact] at F); try simp -dsimp only [↓vcA, vcB, vcD, ↓pureT_lenS, ↓iteT, ↓iteF, cond_true, cond_false, eq_self, argE, Env.get, Env.push, ev, evs, evo, retV, Value.cells, Value.oneCell', setR, overR, fillL, zl, places, allSizes, heldC, ne_eq, Int.reduceLE, Int.reduceLT, Int.reduceEq, Int.reduceNe, Int.reduceToNat, Int.cast_ofNat_Int, Nat.reduceMul, Nat.reduceLeDiff, reduceIte, Nat.reduceEqDiff, Nat.reduceAdd, ↓reduceIte, Try.vcT, F, h.cell0, gets, vsD, if_true, if_false, Bool.false_eq_true,  Bool.not_true, Bool.not_false]
    exact fin (by rw [hok, hf]; rfl) h
  | true =>
  (try simp only [nfD] at h); have F := h.facts; (try simp only [nfF, emp_fact, rds_fact, frm_fact, tab_fact, two_fact] at F); try simp -dsimp only [↓vcA, vcB, vcD, ↓pureT_lenS, ↓iteT, ↓iteF, cond_true, cond_false, eq_self, argE, Env.get, Env.push, ev, evs, evo, retV, Value.cells, Value.oneCell', setR, overR, fillL, zl, places, allSizes, heldC, ne_eq, Int.reduceLE, Int.reduceLT, Int.reduceEq, Int.reduceNe, Int.reduceToNat, Int.cast_ofNat_Int, Nat.reduceMul, Nat.reduceLeDiff, reduceIte, Nat.reduceEqDiff, Nat.reduceAdd, ↓reduceIte, Try.vcT, F, h.cell0, gets, vsD, if_true, if_false, Bool.false_eq_true,  Bool.not_true, Bool.not_false]
  have hlen : (rqP r).l.length ≤ 108 := by have := F.2.1; omega
  refine Sep.bytes 1 h rfl (by omega) ?_
  clear h F
  intro a c w5 h
  generalize hE : rqP r = E at *
  obtain ⟨El, Eb⟩ := E
  cases Eb with
  | true =>
    (try simp only [nfD] at h); have F := h.facts; (try simp only [nfF, emp_fact, rds_fact, frm_fact, tab_fact, two_fact] at F); try simp -dsimp only [↓vcA, vcB, vcD, ↓pureT_lenS, ↓iteT, ↓iteF, cond_true, cond_false, eq_self, argE, Env.get, Env.push, ev, evs, evo, retV, Value.cells, Value.oneCell', setR, overR, fillL, zl, places, allSizes, heldC, ne_eq, Int.reduceLE, Int.reduceLT, Int.reduceEq, Int.reduceNe, Int.reduceToNat, Int.cast_ofNat_Int, Nat.reduceMul, Nat.reduceLeDiff, reduceIte, Nat.reduceEqDiff, Nat.reduceAdd, ↓reduceIte, Try.vcT, F, h.cell0, gets, vsD, if_true, if_false, Bool.false_eq_true,  Bool.not_true, Bool.not_false, if_true]
    exact fin (by rw [hok, hf]; rfl) h
  | false =>
  dsimp only at h hby hlen hok
  simp only [Bool.false_eq_true, if_false] at h
  (try simp only [nfD] at h); have F := h.facts; (try simp only [nfF, emp_fact, rds_fact, frm_fact, tab_fact, two_fact] at F); try simp -dsimp only [↓vcA, vcB, vcD, ↓pureT_lenS, ↓iteT, ↓iteF, cond_true, cond_false, eq_self, argE, Env.get, Env.push, ev, evs, evo, retV, Value.cells, Value.oneCell', setR, overR, fillL, zl, places, allSizes, heldC, ne_eq, Int.reduceLE, Int.reduceLT, Int.reduceEq, Int.reduceNe, Int.reduceToNat, Int.cast_ofNat_Int, Nat.reduceMul, Nat.reduceLeDiff, reduceIte, Nat.reduceEqDiff, Nat.reduceAdd, ↓reduceIte, Try.vcT, F, h.cell0, gets, vsD, if_true, if_false, Bool.false_eq_true,  Bool.not_true, Bool.not_false, if_false, Bool.false_eq_true]
  refine Sep.callp h (ask68 _ El _ F.2.2.1 hby (by omega)) ?_
  clear h F
  intro w6 h
  (try simp only [nfD] at h); have F := h.facts; (try simp only [nfF, emp_fact, rds_fact, frm_fact, tab_fact, two_fact] at F); try simp -dsimp only [↓vcA, vcB, vcD, ↓pureT_lenS, ↓iteT, ↓iteF, cond_true, cond_false, eq_self, argE, Env.get, Env.push, ev, evs, evo, retV, Value.cells, Value.oneCell', setR, overR, fillL, zl, places, allSizes, heldC, ne_eq, Int.reduceLE, Int.reduceLT, Int.reduceEq, Int.reduceNe, Int.reduceToNat, Int.cast_ofNat_Int, Nat.reduceMul, Nat.reduceLeDiff, reduceIte, Nat.reduceEqDiff, Nat.reduceAdd, ↓reduceIte, Try.vcT, F, h.cell0, gets, vsD, if_true, if_false, Bool.false_eq_true,  Rq.cells]
  refine h.new ?_
  clear h F
  intro w7 b7 h
  (try simp only [nfD] at h); have F := h.facts; (try simp only [nfF, emp_fact, rds_fact, frm_fact, tab_fact, two_fact] at F); try simp -dsimp only [↓vcA, vcB, vcD, ↓pureT_lenS, ↓iteT, ↓iteF, cond_true, cond_false, eq_self, argE, Env.get, Env.push, ev, evs, evo, retV, Value.cells, Value.oneCell', setR, overR, fillL, zl, places, allSizes, heldC, ne_eq, Int.reduceLE, Int.reduceLT, Int.reduceEq, Int.reduceNe, Int.reduceToNat, Int.cast_ofNat_Int, Nat.reduceMul, Nat.reduceLeDiff, reduceIte, Nat.reduceEqDiff, Nat.reduceAdd, ↓reduceIte, Try.vcT, F, h.cell0, gets, vsD, if_true, if_false, Bool.false_eq_true,  Rq.cells]
  refine Sep.put 3 h rfl ?_
  clear h F
  intro w8 h
  cases ha : askROk El with
  | false =>
    (try simp only [nfD] at h); have F := h.facts; (try simp only [nfF, emp_fact, rds_fact, frm_fact, tab_fact, two_fact] at F); try simp -dsimp only [↓vcA, vcB, vcD, ↓pureT_lenS, ↓iteT, ↓iteF, cond_true, cond_false, eq_self, argE, Env.get, Env.push, ev, evs, evo, retV, Value.cells, Value.oneCell', setR, overR, fillL, zl, places, allSizes, heldC, ne_eq, Int.reduceLE, Int.reduceLT, Int.reduceEq, Int.reduceNe, Int.reduceToNat, Int.cast_ofNat_Int, Nat.reduceMul, Nat.reduceLeDiff, reduceIte, Nat.reduceEqDiff, Nat.reduceAdd, ↓reduceIte, Try.vcT, F, h.cell0, gets, vsD, if_true, if_false, Bool.false_eq_true,  ha, Bool.not_true, Bool.not_false, if_false, Bool.false_eq_true]
    exact fin (by rw [hok, ha]; simp) h
  | true =>
    have ok : rqPOk r = true := by rw [hok, hf, ha]; rfl
    (try simp only [nfD] at h); have F := h.facts; (try simp only [nfF, emp_fact, rds_fact, frm_fact, tab_fact, two_fact] at F); try simp -dsimp only [↓vcA, vcB, vcD, ↓pureT_lenS, ↓iteT, ↓iteF, cond_true, cond_false, eq_self, argE, Env.get, Env.push, ev, evs, evo, retV, Value.cells, Value.oneCell', setR, overR, fillL, zl, places, allSizes, heldC, ne_eq, Int.reduceLE, Int.reduceLT, Int.reduceEq, Int.reduceNe, Int.reduceToNat, Int.cast_ofNat_Int, Nat.reduceMul, Nat.reduceLeDiff, reduceIte, Nat.reduceEqDiff, Nat.reduceAdd, ↓reduceIte, Try.vcT, F, h.cell0, gets, vsD, if_true, if_false, Bool.false_eq_true,  ha, Bool.not_true, Bool.not_false, if_true]
    have e2 : rqPB r = El := by rw [hB ok]
    rw [e2, ok]
    exact ⟨_, ((h.erase 3).erase 0).erase 0, (fun q hq x hx => by simp at hq; subst hq; exact hx), _, _, rfl, rfl⟩
end Go.Proofs.Ytnhgjgoglmadnaa
namespace Go.Proofs.Ytnhgjgoglmadnaa
open Go.RowKit
set_option linter.unusedVariables false

theorem i64wrap (n : Int) : IntKind.i64.wrap n = (n + 9223372036854775808) % 18446744073709551616 - 9223372036854775808 := by
  simp only [IntKind.wrap, IntKind.signed, IntKind.bits]
  have e1 : (2 : Int) ^ 64 = 18446744073709551616 := by decide
  have e2 : (2 : Int) ^ (64 - 1) = 9223372036854775808 := by decide
  simp only [e1, e2]; first | omega | (simp; omega)
theorem wrap_back {a : Int} (h : -9223372036854775808 ≤ a ∧ a ≤ 9223372036854775807) : IntKind.i64.wrap (IntKind.i64.wrap (a + 1) - 1) = a := by
  rw [i64wrap, i64wrap]; omega

theorem Bk.and' {α β : Type} {s s' s'' : W8} {f : R8 → α} {f' : R8 → β} {g g' g'' : R8 → R8} {a : α} {b : β} (h : Bk s s' f g a) (h' : Bk s' s'' f' g' b) (hg : ∀ r, g'' r = g' (g r)) : Bk s s'' (fun r => (f r, f' (g r))) g'' (a, b) := by
  have e : g'' = fun r => g' (g r) := funext hg
  rw [e]; exact h.and h'
theorem Bk.map' {α β : Type} {s s' : W8} {f : R8 → α} {f' : R8 → β} {g : R8 → R8} {a : α} {b : β} (h : Bk s s' f g a) (p : α → β) (hf : ∀ r, f' r = p (f r)) (hb : b = p a) : Bk s s' f' g b := by
  have e : f' = fun r => p (f r) := funext hf
  rw [e, hb]; exact h.map p
theorem Fw.and' {g g' g'' : R8 → R8} {W W' W'' : R8 → W8 → W8} (h : Fw g W) (h' : Fw g' W') (hg : ∀ r, g'' r = g' (g r)) (hW : ∀ r s, W'' r s = W' (g r) (W r s)) : Fw g'' W'' := by
  have e : g'' = fun r => g' (g r) := funext hg
  have e' : W'' = fun r s => W' (g r) (W r s) := funext fun r => funext (hW r)
  rw [e, e']; exact h.and h'
theorem Bk.P (s : W8) {x : List Int} (hl : x.length = 2) : Bk s (wP s x) rP sP x := by
  match x, hl with
  | [a0, a1], _ =>
    exact (Bk.pt s).map fun p => [p.1, p.2]
theorem Bk.W (s : W8) {x : List Int} (hl : x.length = 5) : Bk s (wW s x) rW sW x := by
  match x, hl with
  | [a0, a1, a2, a3, a4], _ =>
    exact (((Bk.pt s).and (Bk.pt _)).and (Bk.n1 _)).map fun p => [p.1.1.1, p.1.1.2, p.1.2.1, p.1.2.2, p.2]
theorem Bk.Pa (s : W8) {x : List Int} (hl : x.length = 2) : Bk s (wPa s x) rPa sPa x := by
  match x, hl with
  | [a0, a1], _ =>
    exact ((Bk.n1 s).and (Bk.n1 _)).map fun p => [p.1, p.2]
theorem Bk.Re (s : W8) {x : List Int} (hl : x.length = 10) (hv : badRe x = false) : Bk s (wRe s x) rRe sRe x := by
  match x, hl with
  | [a0, a1, a2, a3, a4, a5, a6, a7, a8, a9], _ =>
    have hv' : T3.valid ⟨a4, a5, a6, a7, a8, a9⟩ = true := by simpa [badRe] using hv
    exact (((((Bk.n1 s).and (Bk.n2 _)).and (Bk.n1 _)).and (Bk.n1 _)).and (Bk.tri _ hv')).map fun p => [p.1.1.1.1, p.1.1.1.2, p.1.1.2, p.1.2, p.2.ax, p.2.ay, p.2.bx, p.2.by', p.2.cx, p.2.cy]
theorem Bk.Ca (s : W8) {x : List Int} (hl : x.length = 9) (ho : Ok64 x) : Bk s (wCa s x) rCa sCa x := by
  match x, hl with
  | [a0, a1, a2, a3, a4, a5, a6, a7, a8], _ =>
    simp only [Ok64, List.forall_mem_cons, List.not_mem_nil, false_implies, implies_true, and_true] at ho
    obtain ⟨h0, h1, h2, h3, h4, h5, h6, h7, h8⟩ := ho
    have k := (((((((((Bk.n1 s (n := a0)).and (Bk.n1 _ (n := a1))).and (Bk.n1 _ (n := a2))).and (Bk.n1 _ (n := a3))).and (Bk.n2 _ (n := a4))).and (Bk.n1 _ (n := a5))).and (Bk.n4 _ (n := a6))).and (Bk.n2 _ (n := IntKind.i64.wrap (a7 + 1)))).and (Bk.n1 _ (n := a8))).map fun p => [p.1.1.1.1.1.1.1.1, p.1.1.1.1.1.1.1.2, p.1.1.1.1.1.1.2, p.1.1.1.1.1.2, p.1.1.1.1.2, p.1.1.1.2, p.1.1.2, IntKind.i64.wrap (p.1.2 - 1), p.2]
    dsimp only at k
    rw [wrap_back h7] at k
    exact k
theorem Bk.Is (s : W8) {x : List Int} (hl : x.length = 3) : Bk s (wIs s x) rIs sIs x := by
  match x, hl with
  | [a0, a1, a2], _ =>
    exact (((Bk.n1 s).and (Bk.n1 _)).and (Bk.n1 _)).map fun p => [p.1.1, p.1.2, p.2]
theorem Bk.Co (s : W8) {x : List Int} (hl : x.length = 3) : Bk s (wCo s x) rCo sCo x := by
  match x, hl with
  | [a0, a1, a2], _ =>
    exact (((Bk.n1 s).and (Bk.n2 _)).and (Bk.n2 _)).map fun p => [p.1.1, p.1.2, p.2]
theorem bit_one (d : Bool) : decide (bit d = 1) = d := by cases d <;> rfl
theorem bit_le (d : Bool) : bit d ≤ 1 := by cases d <;> decide
theorem Bk.chn (s : W8) {c : Ch} : Bk s (wCh s c) rCh sCh c := by
  have k := (((Bk.n1 s (n := c.t)).and (Bk.n1 _ (n := bit c.d))).and (Bk.len _ c.b)).map fun p => Ch.mk p.1.1 (decide (p.1.2 = 1)) p.2
  dsimp only at k
  rw [bit_one] at k
  exact k
theorem Bk.chnB (s : W8) {c : Ch} : Bk s (wCh s c) rChB sChB c := fun hb => by
  obtain ⟨b1, u1, e1, p1, r1⟩ := Bk.len (((s.num c.t 1).num (bit c.d) 1)) c.b hb
  obtain ⟨b0, u0, e0, p0, r0⟩ := ((Bk.n1 s (n := c.t)).and (Bk.n1 _ (n := bit c.d))) b1
  refine ⟨b0, u0 ++ u1, ?_, by simp; omega, fun rest => ?_⟩
  · rw [show (wCh s c).l = _ from e1, e0, List.append_assoc]
  obtain ⟨q1, q2⟩ := r0 (u1 ++ rest)
  obtain ⟨q3, q4⟩ := r1 rest
  simp only [Prod.mk.injEq] at q1
  have em : chMark ⟨u0 ++ (u1 ++ rest), false⟩ = ⟨u1 ++ rest, false⟩ := by
    unfold chMark
    rw [if_neg (by rw [q1.2]; have := bit_le c.d; omega)]
    exact q2
  rw [List.append_assoc]
  unfold rChB sChB
  rw [em, q1.1, q1.2, bit_one]
  dsimp only at q3 q4
  exact ⟨by rw [q3], q4⟩

structure MapV.Wid (m : MapV) : Prop where
  p : ∀ x ∈ m.p, x.length = 2
  wa : ∀ x ∈ m.wa, x.length = 5
  pa : ∀ x ∈ m.pa, x.length = 2
  re : ∀ x ∈ m.re, x.length = 10
  ca : ∀ x ∈ m.ca, x.length = 9
  is : ∀ x ∈ m.is, x.length = 3
  co : ∀ x ∈ m.co, x.length = 3
theorem MapR.wid {w : World} {m : MapV} {s : MapS} (R : MapR w m s) : m.Wid := ⟨R.p.wid, R.wa.wid, R.pa.wid, R.re.wid, R.ca.wid, R.is.wid, R.co.wid⟩
section
variable {m : MapV} (O : ∀ x ∈ m.ca, Ok64 x) (D : m.Wid) (hv : m.re.any badRe = false)
include O D hv
theorem enc_bk : Bk ⟨[], false⟩ m.enc dV dE m := by
  have n0 := (((((((Bk.n3 ⟨[], false⟩ (n := m.w)).and (Bk.n3 _ (n := m.h))).and (Bk.n1 _ (n := m.te))).and (Bk.n2 _ (n := m.wi))).and (Bk.n2 _ (n := m.mr))).and (Bk.n2 _ (n := m.mb))).and' (Bk.n4 _ (n := m.ti)) (g'' := dN) (fun r => by rw [dN]))
  have k1 := Bk.list (f := rP) (g := sP) m.p m.nums (fun x hx s => Bk.P s (D.p x hx) )
  have k2 := Bk.list (f := rW) (g := sW) m.wa (encL wP m.nums m.p) (fun x hx s => Bk.W s (D.wa x hx) )
  have k3 := Bk.list (f := rPa) (g := sPa) m.pa (encL wW (encL wP m.nums m.p) m.wa) (fun x hx s => Bk.Pa s (D.pa x hx) )
  have k4 := Bk.list (f := rRe) (g := sRe) m.re (encL wPa (encL wW (encL wP m.nums m.p) m.wa) m.pa) (fun x hx s => Bk.Re s (D.re x hx)  (by simpa using fun h => List.any_eq_false.1 hv x hx h))
  have k5 := Bk.list (f := rCa) (g := sCa) m.ca (encL wRe (encL wPa (encL wW (encL wP m.nums m.p) m.wa) m.pa) m.re) (fun x hx s => Bk.Ca s (D.ca x hx) (O x hx))
  have k6 := Bk.list (f := rIs) (g := sIs) m.is (encL wCa (encL wRe (encL wPa (encL wW (encL wP m.nums m.p) m.wa) m.pa) m.re) m.ca) (fun x hx s => Bk.Is s (D.is x hx) )
  have k7 := Bk.list (f := rCo) (g := sCo) m.co (encL wIs (encL wCa (encL wRe (encL wPa (encL wW (encL wP m.nums m.p) m.wa) m.pa) m.re) m.ca) m.is) (fun x hx s => Bk.Co s (D.co x hx) )
  have k8 := Bk.list (f := rCh) (g := sCh) m.ch (encL wCo (encL wIs (encL wCa (encL wRe (encL wPa (encL wW (encL wP m.nums m.p) m.wa) m.pa) m.re) m.ca) m.is) m.co) (fun x hx s => Bk.chn s)
  have c1 := n0.and' k1 (g'' := d1) (fun r => by rw [d1])
  have c2 := c1.and' k2 (g'' := d2) (fun r => by rw [d2])
  have c3 := c2.and' k3 (g'' := d3) (fun r => by rw [d3])
  have c4 := c3.and' k4 (g'' := d4) (fun r => by rw [d4])
  have c5 := c4.and' k5 (g'' := d5) (fun r => by rw [d5])
  have c6 := c5.and' k6 (g'' := d6) (fun r => by rw [d6])
  have c7 := c6.and' k7 (g'' := d7) (fun r => by rw [d7])
  have c8 := c7.and' k8 (g'' := dE) (fun r => by rw [dE])
  exact c8.map' (fun p => MapV.mk p.1.1.1.1.1.1.1.1.1.1.1.1.1.1 p.1.1.1.1.1.1.1.1.1.1.1.1.1.2 p.1.1.1.1.1.1.1.1.1.1.1.1.2 p.1.1.1.1.1.1.1.1.1.1.1.2 p.1.1.1.1.1.1.1.1.1.1.2 p.1.1.1.1.1.1.1.1.1.2 p.1.1.1.1.1.1.1.1.2 p.1.1.1.1.1.1.1.2 p.1.1.1.1.1.1.2 p.1.1.1.1.1.2 p.1.1.1.1.2 p.1.1.1.2 p.1.1.2 p.1.2 p.2) (fun r => by rw [dV]) rfl
theorem enc_bkB : Bk ⟨[], false⟩ m.enc eV eE m := by
  have n0 := (((((((Bk.n3 ⟨[], false⟩ (n := m.w)).and (Bk.n3 _ (n := m.h))).and (Bk.n1 _ (n := m.te))).and (Bk.n2 _ (n := m.wi))).and (Bk.n2 _ (n := m.mr))).and (Bk.n2 _ (n := m.mb))).and' (Bk.n4 _ (n := m.ti)) (g'' := dN) (fun r => by rw [dN]))
  have k1 := Bk.listB (f := rP) (g := sP) m.p m.nums (fun x hx s => Bk.P s (D.p x hx) )
  have k2 := Bk.listB (f := rW) (g := sW) m.wa (encL wP m.nums m.p) (fun x hx s => Bk.W s (D.wa x hx) )
  have k3 := Bk.listB (f := rPa) (g := sPa) m.pa (encL wW (encL wP m.nums m.p) m.wa) (fun x hx s => Bk.Pa s (D.pa x hx) )
  have k4 := Bk.listB (f := rRe) (g := sRe) m.re (encL wPa (encL wW (encL wP m.nums m.p) m.wa) m.pa) (fun x hx s => Bk.Re s (D.re x hx)  (by simpa using fun h => List.any_eq_false.1 hv x hx h))
  have k5 := Bk.listB (f := rCa) (g := sCa) m.ca (encL wRe (encL wPa (encL wW (encL wP m.nums m.p) m.wa) m.pa) m.re) (fun x hx s => Bk.Ca s (D.ca x hx) (O x hx))
  have k6 := Bk.listB (f := rIs) (g := sIs) m.is (encL wCa (encL wRe (encL wPa (encL wW (encL wP m.nums m.p) m.wa) m.pa) m.re) m.ca) (fun x hx s => Bk.Is s (D.is x hx) )
  have k7 := Bk.listB (f := rCo) (g := sCo) m.co (encL wIs (encL wCa (encL wRe (encL wPa (encL wW (encL wP m.nums m.p) m.wa) m.pa) m.re) m.ca) m.is) (fun x hx s => Bk.Co s (D.co x hx) )
  have k8 := Bk.listB (f := rChB) (g := sChB) m.ch (encL wCo (encL wIs (encL wCa (encL wRe (encL wPa (encL wW (encL wP m.nums m.p) m.wa) m.pa) m.re) m.ca) m.is) m.co) (fun x hx s => Bk.chnB s)
  have c1 := n0.and' k1 (g'' := e1) (fun r => by rw [e1])
  have c2 := c1.and' k2 (g'' := e2) (fun r => by rw [e2])
  have c3 := c2.and' k3 (g'' := e3) (fun r => by rw [e3])
  have c4 := c3.and' k4 (g'' := e4) (fun r => by rw [e4])
  have c5 := c4.and' k5 (g'' := e5) (fun r => by rw [e5])
  have c6 := c5.and' k6 (g'' := e6) (fun r => by rw [e6])
  have c7 := c6.and' k7 (g'' := e7) (fun r => by rw [e7])
  have c8 := c7.and' k8 (g'' := eE) (fun r => by rw [eE])
  exact c8.map' (fun p => MapV.mk p.1.1.1.1.1.1.1.1.1.1.1.1.1.1 p.1.1.1.1.1.1.1.1.1.1.1.1.1.2 p.1.1.1.1.1.1.1.1.1.1.1.1.2 p.1.1.1.1.1.1.1.1.1.1.1.2 p.1.1.1.1.1.1.1.1.1.1.2 p.1.1.1.1.1.1.1.1.1.2 p.1.1.1.1.1.1.1.1.2 p.1.1.1.1.1.1.1.2 p.1.1.1.1.1.1.2 p.1.1.1.1.1.2 p.1.1.1.1.2 p.1.1.1.2 p.1.1.2 p.1.2 p.2) (fun r => by rw [eV]) rfl
end

theorem Fw.P : Fw sP (fun r s => wP s (rP r)) := Fw.pt
theorem Fw.W : Fw sW (fun r s => wW s (rW r)) := (Fw.pt.and Fw.pt).and Fw.n1
theorem Fw.Pa : Fw sPa (fun r s => wPa s (rPa r)) := Fw.n1.and Fw.n1
theorem Fw.Re : Fw sRe (fun r s => wRe s (rRe r)) := (((Fw.n1.and Fw.n2).and Fw.n1).and Fw.n1).and Fw.tri
theorem Fw.Is : Fw sIs (fun r s => wIs s (rIs r)) := (Fw.n1.and Fw.n1).and Fw.n1
theorem Fw.Co : Fw sCo (fun r s => wCo s (rCo r)) := (Fw.n1.and Fw.n2).and Fw.n2
theorem Fw.Ca : Fw sCa (fun r s => wCa s (rCa r)) := fun r hb => by
  have k := ((((((((Fw.n1.and Fw.n1).and Fw.n1).and Fw.n1).and Fw.n2).and Fw.n1).and Fw.n4).and Fw.n2).and Fw.n1) r hb
  refine ⟨k.1, fun hg => ?_⟩
  obtain ⟨c, u, e, w⟩ := k.2 hg
  refine ⟨c, u, e, fun s => ?_⟩
  have b6 := numS_byt _ 4 (numS_byt _ 1 (numS_byt _ 2 (numS_byt _ 1 (numS_byt _ 1 (numS_byt _ 1 (numS_byt _ 1 hb))))))
  have h7 := num2_rng _ b6
  have := w s
  dsimp only at this ⊢
  unfold wCa rCa
  dsimp only
  rw [← this]
  have e7 : ∀ n : Int, 0 ≤ n ∧ n ≤ 65535 → IntKind.i64.wrap (IntKind.i64.wrap (n - 1) + 1) = n := fun n hn => by rw [i64wrap, i64wrap]; omega
  rw [e7 _ h7]
theorem Fw.chn : Fw sChB (fun r s => wCh s (rChB r)) := fun r hb => by
  have b1 := numS_byt r 1 hb
  have b2 := numS_byt _ 1 b1
  have bm := chMark_byt hb
  obtain ⟨c1, k1⟩ := Fw.len (chMark r) bm
  refine ⟨c1, fun hg => ?_⟩
  obtain ⟨d1, u1, e1, w1⟩ := k1 hg
  have hm : ¬ 1 < (r.numS 1).numV 1 := fun h => by
    unfold chMark at d1; rw [if_pos h] at d1; cases d1
  have em : chMark r = (r.numS 1).numS 1 := by unfold chMark; rw [if_neg hm]
  rw [em] at d1 e1
  obtain ⟨_, k0⟩ := (Fw.n1.and Fw.n1) r hb
  obtain ⟨d0, u0, e0, w0⟩ := k0 d1
  refine ⟨d0, u0 ++ u1, ?_, fun s => ?_⟩
  · unfold sChB; rw [em]; dsimp only at e0 e1; rw [e0, e1, List.append_assoc]
  have hn := num1_rng _ b1
  have ebit : bit (decide ((r.numS 1).numV 1 = 1)) = (r.numS 1).numV 1 := by
    by_cases h1 : (r.numS 1).numV 1 = 1
    · rw [h1]; rfl
    · have : (r.numS 1).numV 1 = 0 := by omega
      rw [this]; rfl
  have k2 := w1 ((s.num (r.numV 1) 1).num ((r.numS 1).numV 1) 1)
  have k3 := w0 s
  dsimp only at k2 k3 ⊢
  unfold wCh rChB
  dsimp only
  rw [ebit, k2, k3, List.append_assoc]
theorem Fw.nums : Fw dN (fun r s => ((((((s.num (r.numV 3) 3).num ((r.numS 3).numV 3) 3).num (((r.numS 3).numS 3).numV 1) 1).num ((((r.numS 3).numS 3).numS 1).numV 2) 2).num (((((r.numS 3).numS 3).numS 1).numS 2).numV 2) 2).num ((((((r.numS 3).numS 3).numS 1).numS 2).numS 2).numV 2) 2).num (((((((r.numS 3).numS 3).numS 1).numS 2).numS 2).numS 2).numV 4) 4) :=
  (((((Fw.n3.and Fw.n3).and Fw.n1).and Fw.n2).and Fw.n2).and Fw.n2).and Fw.n4
def E0 (r : R8) (s : W8) : W8 := (((((((s.num (r.numV 3) 3).num ((r.numS 3).numV 3) 3).num (((r.numS 3).numS 3).numV 1) 1).num ((((r.numS 3).numS 3).numS 1).numV 2) 2).num (((((r.numS 3).numS 3).numS 1).numS 2).numV 2) 2).num ((((((r.numS 3).numS 3).numS 1).numS 2).numS 2).numV 2) 2).num (((((((r.numS 3).numS 3).numS 1).numS 2).numS 2).numS 2).numV 4) 4)
structure MapV.Fine (m : MapV) : Prop where
  wid : m.Wid
  ca : ∀ x ∈ m.ca, Ok64 x
  ok : m.fails = false
theorem MapV.fails_no {m : MapV} (h : m.fails = false) : m.re.any badRe = false ∧ m.enc.bad = false ∧ m.enc.l.length ≤ 1048576 := by
  simp only [MapV.fails, Bool.or_eq_false_iff, decide_eq_false_iff_not] at h
  exact ⟨h.1, h.2.1, by omega⟩
theorem MapV.bytes_of {m : MapV} (h : m.fails = false) : m.bytes = m.enc.l := by simp [MapV.bytes, h]
theorem MapV.Fine.read {m : MapV} (h : m.Fine) (rest : List Int) : (dV ⟨m.bytes ++ rest, false⟩ = m ∧ dE ⟨m.bytes ++ rest, false⟩ = ⟨rest, false⟩) ∧ eV ⟨m.bytes ++ rest, false⟩ = m ∧ eE ⟨m.bytes ++ rest, false⟩ = ⟨rest, false⟩ := by
  obtain ⟨h1, h2, _⟩ := m.fails_no h.ok
  obtain ⟨_, u, e, _, r⟩ := enc_bk h.ca h.wid h1 h2
  obtain ⟨_, u', e', _, r'⟩ := enc_bkB h.ca h.wid h1 h2
  rw [MapV.bytes_of h.ok]
  rw [List.nil_append] at e e'
  refine ⟨?_, ?_⟩
  · rw [e]; exact r rest
  · rw [e']; exact r' rest
theorem itemsF_wid {f : R8 → List Int} {g : R8 → R8} {n : Nat} (hf : ∀ s, (f s).length = n) : ∀ k s, ∀ x ∈ (itemsF f g k s).1, x.length = n
  | 0, s, x, hx => by cases hx
  | k + 1, s, x, hx => by
    unfold itemsF at hx
    split at hx
    · rcases List.mem_cons.1 hx with rfl | hx
      · exact hf s
      · exact itemsF_wid hf k _ x hx
    · cases hx
theorem rP_len (s : R8) : (rP s).length = 2 := by simp [rP]
theorem rW_len (s : R8) : (rW s).length = 5 := by simp [rW]
theorem rPa_len (s : R8) : (rPa s).length = 2 := by simp [rPa]
theorem rRe_len (s : R8) : (rRe s).length = 10 := by simp [rRe]
theorem rCa_len (s : R8) : (rCa s).length = 9 := by simp [rCa]
theorem rIs_len (s : R8) : (rIs s).length = 3 := by simp [rIs]
theorem rCo_len (s : R8) : (rCo s).length = 3 := by simp [rCo]
theorem itemsV_wid {f : R8 → List Int} {g : R8 → R8} {n : Nat} (hf : ∀ s, (f s).length = n) (s : R8) : ∀ x ∈ itemsV f g s, x.length = n := by
  unfold itemsV; exact itemsF_wid hf _ _
theorem dV_wid (s : R8) : (dV s).Wid := by
  rw [dV]
  constructor <;> dsimp only
  · exact itemsV_wid (f := rP) (g := sP) rP_len (dN s)
  · exact itemsV_wid (f := rW) (g := sW) rW_len (d1 s)
  · exact itemsV_wid (f := rPa) (g := sPa) rPa_len (d2 s)
  · exact itemsV_wid (f := rRe) (g := sRe) rRe_len (d3 s)
  · exact itemsV_wid (f := rCa) (g := sCa) rCa_len (d4 s)
  · exact itemsV_wid (f := rIs) (g := sIs) rIs_len (d5 s)
  · exact itemsV_wid (f := rCo) (g := sCo) rCo_len (d6 s)
theorem decOk_fine {b : List Int} (hb : Byt b) (h : decOk b = true) : (dV ⟨b, false⟩).Fine ∧ (dV ⟨b, false⟩).bytes = b := by
  simp only [decOk, Bool.and_eq_true, Bool.not_eq_true', decide_eq_true_eq] at h
  exact ⟨⟨dV_wid _, (dV_ok (s := ⟨b, false⟩) hb).ca, h.2.1⟩, h.2.2⟩
theorem MapV.Fine.cut {m : MapV} (h : m.Fine) (hb : Byt m.bytes) {k : Nat} (hk : k < m.bytes.length) : decOk (m.bytes.take k) = false := by
  cases hd : decOk (m.bytes.take k) with
  | false => rfl
  | true =>
    obtain ⟨f, e⟩ := decOk_fine (fun x hx => hb x (List.mem_of_mem_take hx)) hd
    obtain ⟨⟨_, a⟩, _⟩ := f.read (m.bytes.drop k)
    rw [e, List.take_append_drop] at a
    obtain ⟨⟨_, c⟩, _⟩ := h.read []
    rw [List.append_nil, a] at c
    have c := congrArg R8.l c
    dsimp only at c
    have := congrArg List.length c
    simp at this; omega
theorem MapV.Fine.more {m : MapV} (h : m.Fine) (hb : Byt m.bytes) {x : Int} (hx : 0 ≤ x ∧ x ≤ 255) : decOk (m.bytes ++ [x]) = false := by
  cases hd : decOk (m.bytes ++ [x]) with
  | false => rfl
  | true =>
    obtain ⟨f, e⟩ := decOk_fine (hb.append fun y hy => by simp at hy; subst hy; exact hx) hd
    obtain ⟨⟨_, a⟩, _⟩ := f.read []
    rw [e, List.append_nil] at a
    obtain ⟨⟨_, c⟩, _⟩ := h.read [x]
    rw [a] at c
    have c := congrArg R8.l c
    dsimp only at c
    cases c
end Go.Proofs.Ytnhgjgoglmadnaa
namespace Go.Proofs.Ytnhgjgoglmadnaa
open Go.RowKit
set_option maxRecDepth 100000
set_option linter.unusedSimpArgs false
set_option linter.unusedVariables false
set_option pp.maxSteps 1500
set_option pp.deepTerms.threshold 8

def wPc (s : W8) : List Int → W8
  | [ax, ay, bx, by', cx, cy, pa, la, wa] => (((s.tri ax ay bx by' cx cy).num pa 1).num la 2).num wa 1
  | _ => s
theorem piece144 {A : Nat → Prop} (p k : Nat) (s : W8) (ax ay bx by' cx cy pa la wa : Int) (w : World) (h : Sep w A [wr 32 p s k] w) (hO : Ok64 [ax, ay, bx, by', cx, cy, pa, la, wa]) (hl : k ≤ 700000) :
    Calls Try.prog 144 [.pointer (some ⟨p, 0, none⟩), .agg #[.int .i64 ax, .int .i64 ay, .int .i64 bx, .int .i64 by', .int .i64 cx, .int .i64 cy, .int .i64 pa, .int .i64 la, .int .i64 wa]].toArray w
      (RetK fun v w' => ∃ r' N, Sep w A (r' :: N) w' ∧ (∀ x, r'.rd x → (wr 32 p s k).rd x) ∧ (∀ q ∈ N, ∀ x, ¬ q.rd x) ∧ (v = .tuple #[] ∧ r' = wr 32 p (wPc s [ax, ay, bx, by', cx, cy, pa, la, wa]) (k + 72) ∧ N = [])) := by
  simp only [Ok64, List.forall_mem_cons, List.not_mem_nil, false_implies, implies_true, and_true] at hO
  refine walk Try.func144 rfl (by kernel_rfl) (by rw [Try.nt144]; simp) ?_
  (try simp only [nfD] at h); have F := h.facts; (try simp only [nfF, emp_fact, rds_fact, frm_fact, tab_fact] at F)
  simp -dsimp only [↓vcA, vcB, vcD, ↓pureT_lenS, ↓iteT, ↓iteF, cond_true, cond_false, eq_self, argE, Env.get, Env.push, ev, evs, evo, retV, Value.cells, Value.oneCell', setR, overR, fillL, zl, places, allSizes, heldC, ne_eq, Int.reduceLE, Int.reduceLT, Int.reduceEq, Int.reduceNe, Int.reduceToNat, Int.cast_ofNat_Int, Nat.reduceMul, Nat.reduceLeDiff, reduceIte, Nat.reduceEqDiff, Nat.reduceAdd, ↓reduceIte, Try.vcT]
  refine h.new ?_
  clear h F
  intro w1 b1 h
  (try simp only [nfD] at h); have F := h.facts; (try simp only [nfF, emp_fact, rds_fact, frm_fact, tab_fact] at F); try simp -dsimp only [↓vcA, vcB, vcD, ↓pureT_lenS, ↓iteT, ↓iteF, cond_true, cond_false, eq_self, argE, Env.get, Env.push, ev, evs, evo, retV, Value.cells, Value.oneCell', setR, overR, fillL, zl, places, allSizes, heldC, ne_eq, Int.reduceLE, Int.reduceLT, Int.reduceEq, Int.reduceNe, Int.reduceToNat, Int.cast_ofNat_Int, Nat.reduceMul, Nat.reduceLeDiff, reduceIte, Nat.reduceEqDiff, Nat.reduceAdd, ↓reduceIte, Try.vcT, F, h.cell0, gets, vsD, if_true, if_false, Bool.false_eq_true]
  refine walkDraw (.q 0 (.q 1 (.q 4 (.q 7 (.q 10 (.h 2 0 (.h 5 6 (.h 8 7 (.h 11 8 (.l 3 (.l 6 (.l 9 (.l 12 .fin))))))))))))) [(b1, 0, .int .i64 ax), (b1, 1, .int .i64 ay), (b1, 2, .int .i64 bx), (b1, 3, .int .i64 by'), (b1, 4, .int .i64 cx), (b1, 5, .int .i64 cy), (b1, 6, .int .i64 pa), (b1, 7, .int .i64 la), (b1, 8, .int .i64 wa)] (by kernel_rfl) (by simp [Holds_nil, Holds_cons, F]) ?_
  refine h.draw ?_
  clear h F
  intro w2 h
  (try simp only [nfD] at h); have F := h.facts; (try simp only [nfF, emp_fact, rds_fact, frm_fact, tab_fact] at F); try simp -dsimp only [↓vcA, vcB, vcD, ↓pureT_lenS, ↓iteT, ↓iteF, cond_true, cond_false, eq_self, argE, Env.get, Env.push, ev, evs, evo, retV, Value.cells, Value.oneCell', setR, overR, fillL, zl, places, allSizes, heldC, ne_eq, Int.reduceLE, Int.reduceLT, Int.reduceEq, Int.reduceNe, Int.reduceToNat, Int.cast_ofNat_Int, Nat.reduceMul, Nat.reduceLeDiff, reduceIte, Nat.reduceEqDiff, Nat.reduceAdd, ↓reduceIte, Try.vcT, F, h.cell0, gets, vsD, if_true, if_false, Bool.false_eq_true]
  repeat ((first | refine Sep.new h ?_ | refine Sep.put 0 h rfl ?_ | refine Sep.put 1 h rfl ?_ | refine Sep.put 2 h rfl ?_ | refine Sep.put 3 h rfl ?_ | refine Sep.put 4 h rfl ?_ | refine Sep.put 5 h rfl ?_ | refine Sep.num 0 h rfl (by omega) (by omega) (by omega) ?_ | refine Sep.tri 0 h rfl (by omega) (by simp only [Ok64, List.forall_mem_cons, List.not_mem_nil, false_implies, implies_true, and_true]; omega) ?_); (clear F; (try clear h); intros; rename_i h; (try simp only [nfD] at h); have F := h.facts; (try simp only [nfF, emp_fact, rds_fact, frm_fact, tab_fact] at F); try simp -dsimp only [↓vcA, vcB, vcD, ↓pureT_lenS, ↓iteT, ↓iteF, cond_true, cond_false, eq_self, argE, Env.get, Env.push, ev, evs, evo, retV, Value.cells, Value.oneCell', setR, overR, fillL, zl, places, allSizes, heldC, ne_eq, Int.reduceLE, Int.reduceLT, Int.reduceEq, Int.reduceNe, Int.reduceToNat, Int.cast_ofNat_Int, Nat.reduceMul, Nat.reduceLeDiff, reduceIte, Nat.reduceEqDiff, Nat.reduceAdd, ↓reduceIte, Try.vcT, F, h.cell0, gets, vsD, if_true, if_false, Bool.false_eq_true]))
  exact ⟨_, [], h.erase 1, (fun _ f => f), (fun q hq => by cases hq), rfl, rfl⟩
theorem Sep.piece (i : Nat) {w0 w : World} {S : Nat → Prop} {M : List Res} {K : Value → World → Prop} {p k : Nat} {s : W8} {ax ay bx by' cx cy pa la wa : Int} (h : Sep w0 S M w) (hi : M[i]? = some (wr 32 p s k)) (hO : Ok64 [ax, ay, bx, by', cx, cy, pa, la, wa]) (hl : k ≤ 700000)
    (hk : ∀ w1, Sep w0 S (M.set i (wr 32 p (wPc s [ax, ay, bx, by', cx, cy, pa, la, wa]) (k + 72))) w1 → K (.tuple #[]) w1) :
    callsK Try.prog 144 [.pointer (some ⟨p, 0, Option.none⟩), .agg #[.int .i64 ax, .int .i64 ay, .int .i64 bx, .int .i64 by', .int .i64 cx, .int .i64 cy, .int .i64 pa, .int .i64 la, .int .i64 wa]].toArray w K := by
  refine Sep.call1 i h hi (fun A _ hA => piece144 p k s ax ay bx by' cx cy pa la wa w hA hO hl) ?_
  rintro v r' N w1 ⟨rfl, rfl, rfl⟩ h
  rw [List.append_nil] at h
  exact hk w1 h
theorem flag145 (d : Bool) (w : World) : Calls Try.prog 145 [.bool d].toArray w (RetK fun r w' => r = .int .i64 (bit d) ∧ Chg (fun _ => False) w w') := by
  refine walk Try.func145 rfl (by kernel_rfl) (by rw [Try.nt145]; simp) ?_
  cases d with
  | true => simp -dsimp only [↓vcA, vcB, vcD, ↓pureT_lenS, ↓iteT, ↓iteF, cond_true, cond_false, eq_self, argE, Env.get, Env.push, ev, evs, evo, retV, Value.cells, Value.oneCell', setR, overR, fillL, zl, places, allSizes, heldC, ne_eq, Int.reduceLE, Int.reduceLT, Int.reduceEq, Int.reduceNe, Int.reduceToNat, Int.cast_ofNat_Int, Nat.reduceMul, Nat.reduceLeDiff, reduceIte, Nat.reduceEqDiff, Nat.reduceAdd, ↓reduceIte, Try.vcT]; exact ⟨rfl, Chg.refl _ _⟩
  | false => simp -dsimp only [↓vcA, vcB, vcD, ↓pureT_lenS, ↓iteT, ↓iteF, cond_true, cond_false, eq_self, argE, Env.get, Env.push, ev, evs, evo, retV, Value.cells, Value.oneCell', setR, overR, fillL, zl, places, allSizes, heldC, ne_eq, Int.reduceLE, Int.reduceLT, Int.reduceEq, Int.reduceNe, Int.reduceToNat, Int.cast_ofNat_Int, Nat.reduceMul, Nat.reduceLeDiff, reduceIte, Nat.reduceEqDiff, Nat.reduceAdd, ↓reduceIte, Try.vcT]; exact ⟨rfl, Chg.refl _ _⟩
theorem eight146 (n : Int) (w : World) (hn : 0 ≤ n ∧ n < 18446744073709551616) : Calls Try.prog 146 [.int .u64 n].toArray w (RetK fun r w' => ∃ N, Sep w (fun _ => False) N w' ∧ (∀ q ∈ N, ∀ x, ¬ q.rd x) ∧ ∃ a c, r = .slice a 8 c ∧ N = [byt (.slice a 8 c) (be n 8)]) := by
  have h := (Sep.nil w).fresh (e := 5) (s := 1)
  refine walk Try.func146 rfl (by kernel_rfl) (by rw [Try.nt146]; simp) ?_
  (try simp only [nfD] at h); have F := h.facts; (try simp only [nfF, emp_fact, rds_fact, frm_fact, tab_fact] at F)
  simp -dsimp only [↓vcA, vcB, vcD, ↓pureT_lenS, ↓iteT, ↓iteF, cond_true, cond_false, eq_self, argE, Env.get, Env.push, ev, evs, evo, retV, Value.cells, Value.oneCell', setR, overR, fillL, zl, places, allSizes, heldC, ne_eq, Int.reduceLE, Int.reduceLT, Int.reduceEq, Int.reduceNe, Int.reduceToNat, Int.cast_ofNat_Int, Nat.reduceMul, Nat.reduceLeDiff, reduceIte, Nat.reduceEqDiff, Nat.reduceAdd, ↓reduceIte, Try.vcT]
  refine walkLoop [0] [2, 3] (fun m vs w' => ∃ j a c, j ≤ 8 ∧ m = j ∧ vs = [.slice a (8 - j) c, .int .i64 ((j : Int) - 1)] ∧ Sep w (fun _ => False) [row 5 1 (.slice a (8 - j) c) (8 - j) (u8s ((be n 8).take (8 - j)))] w') (by kernel_rfl) ?_ ?_
  · simp -dsimp only [↓vcA, vcB, vcD, ↓pureT_lenS, ↓iteT, ↓iteF, cond_true, cond_false, eq_self, argE, Env.get, Env.push, ev, evs, evo, retV, Value.cells, Value.oneCell', setR, overR, fillL, zl, places, allSizes, heldC, ne_eq, Int.reduceLE, Int.reduceLT, Int.reduceEq, Int.reduceNe, Int.reduceToNat, Int.cast_ofNat_Int, Nat.reduceMul, Nat.reduceLeDiff, reduceIte, Nat.reduceEqDiff, Nat.reduceAdd, ↓reduceIte, Try.vcT, gets]
    exact ⟨_, 8, none, 0, by omega, rfl, rfl, by simpa [u8s] using h⟩
  intro ks hk m vs w2 hi
  clear h F
  obtain ⟨j, a, c, hj, rfl, rfl, h⟩ := hi
  simp -dsimp only [gets, argE, List.zip_cons_cons, List.zip_nil_left, List.cons_append, List.nil_append, Env.get, Env.push, Option.bind_some, Option.map_some, Option.some.injEq, reduceIte, Nat.reduceEqDiff, Nat.reduceAdd, ↓reduceIte] at hk; subst hk
  match m, hj with
  | 0, _ =>
    have e0 : decide ((0 : Int) ≤ 0 - 1) = false := rfl
    (try simp only [nfD] at h); have F := h.facts; (try simp only [nfF, emp_fact, rds_fact, frm_fact, tab_fact] at F); try simp -dsimp only [↓vcA, vcB, vcD, ↓pureT_lenS, ↓iteT, ↓iteF, cond_true, cond_false, eq_self, argE, Env.get, Env.push, ev, evs, evo, retV, Value.cells, Value.oneCell', setR, overR, fillL, zl, places, allSizes, heldC, ne_eq, Int.reduceLE, Int.reduceLT, Int.reduceEq, Int.reduceNe, Int.reduceToNat, Int.cast_ofNat_Int, Nat.reduceMul, Nat.reduceLeDiff, reduceIte, Nat.reduceEqDiff, Nat.reduceAdd, ↓reduceIte, Try.vcT, F, h.cell0, gets, vsD, if_true, if_false, Bool.false_eq_true,  e0]
    have h := h.conv (r' := byt (.slice a 8 c) (be n 8)) 0 rfl (fun A hA => row_byt _ (be n 8) _ A (by
      have e1 : (be n 8).take (8 - 0) = be n 8 := List.take_of_length_le (by rw [be_length]; omega)
      rw [e1] at hA
      rw [be_length]
      exact hA)) (fun _ f => f)
    exact ⟨_, h, (fun q hq x hx => by simp at hq; subst hq; exact hx), a, c, rfl, rfl⟩
  | j + 1, hj =>
    have e1 : ((j + 1 : Nat) : Int) - 1 = (j : Int) := by omega
    have h0 : (0 : Int) ≤ j := by omega
    (try simp only [nfD] at h); have F := h.facts; (try simp only [nfF, emp_fact, rds_fact, frm_fact, tab_fact] at F); try simp -dsimp only [↓vcA, vcB, vcD, ↓pureT_lenS, ↓iteT, ↓iteF, cond_true, cond_false, eq_self, argE, Env.get, Env.push, ev, evs, evo, retV, Value.cells, Value.oneCell', setR, overR, fillL, zl, places, allSizes, heldC, ne_eq, Int.reduceLE, Int.reduceLT, Int.reduceEq, Int.reduceNe, Int.reduceToNat, Int.cast_ofNat_Int, Nat.reduceMul, Nat.reduceLeDiff, reduceIte, Nat.reduceEqDiff, Nat.reduceAdd, ↓reduceIte, Try.vcT, F, h.cell0, gets, vsD, if_true, if_false, Bool.false_eq_true,  e1, decide_eq_true h0]
    have e8 : IntKind.i64.wrap (8 * (j : Int)) = ((8 * j : Nat) : Int) := by rw [i64w _ (by omega) (by omega)]; omega
    have ej : IntKind.i64.wrap ((j : Int) - 1) = (j : Int) - 1 := by rw [i64w _ (by omega) (by omega)]
    have hm : (be n 8).take (8 - j) = (be n 8).take (8 - (j + 1)) ++ [n / 2 ^ (8 * j) % 256] := by
      have := be_take n 8 (8 - (j + 1)) (by omega)
      rw [show 8 - (j + 1) + 1 = 8 - j by omega, show 8 - 1 - (8 - (j + 1)) = j by omega] at this
      exact this
    rw [e8]
    refine ⟨by omega, ?_⟩
    refine h.new ?_
    clear h F
    intro w3 b3 h
    have h := h.toRow 1 1 1 rfl rfl (by simp [maxLen])
    have h := h.conv 1 rfl (fun A => row_byt _ [_] _ A) (fun _ f => f)
    (try simp only [nfD] at h); have F := h.facts; (try simp only [nfF, emp_fact, rds_fact, frm_fact, tab_fact] at F); try simp -dsimp only [↓vcA, vcB, vcD, ↓pureT_lenS, ↓iteT, ↓iteF, cond_true, cond_false, eq_self, argE, Env.get, Env.push, ev, evs, evo, retV, Value.cells, Value.oneCell', setR, overR, fillL, zl, places, allSizes, heldC, ne_eq, Int.reduceLE, Int.reduceLT, Int.reduceEq, Int.reduceNe, Int.reduceToNat, Int.cast_ofNat_Int, Nat.reduceMul, Nat.reduceLeDiff, reduceIte, Nat.reduceEqDiff, Nat.reduceAdd, ↓reduceIte, Try.vcT, F, h.cell0, gets, vsD, if_true, if_false, Bool.false_eq_true]
    refine Sep.app (n := 8 - (j + 1)) (m := 1) 0 Try.info5 Try.underlying22 rfl (by decide) h rfl F.2.1.row (by simp; omega) (by simp [maxLen]; omega) ?_
    clear h F
    intro a4 c4 w4 h
    (try simp only [nfD] at h); have F := h.facts; (try simp only [nfF, emp_fact, rds_fact, frm_fact, tab_fact] at F); try simp -dsimp only [↓vcA, vcB, vcD, ↓pureT_lenS, ↓iteT, ↓iteF, cond_true, cond_false, eq_self, argE, Env.get, Env.push, ev, evs, evo, retV, Value.cells, Value.oneCell', setR, overR, fillL, zl, places, allSizes, heldC, ne_eq, Int.reduceLE, Int.reduceLT, Int.reduceEq, Int.reduceNe, Int.reduceToNat, Int.cast_ofNat_Int, Nat.reduceMul, Nat.reduceLeDiff, reduceIte, Nat.reduceEqDiff, Nat.reduceAdd, ↓reduceIte, Try.vcT, F, h.cell0, gets, vsD, if_true, if_false, Bool.false_eq_true,  ej]
    refine ⟨_, ?_, j, a4, c4, by omega, rfl, ?_, ?_⟩
    · omega
    · rw [show 8 - (j + 1) + 1 = 8 - j by omega, e1, ej]
    · have h := h.erase 1
      have em : min (8 * j) IntKind.u64.bits = 8 * j := by have : IntKind.u64.bits = 64 := rfl; omega
      rw [hm]
      simp only [u8s, List.map_append, List.map_cons, List.map_nil, u8wrap, Int.toNat_natCast, em, List.set_cons_zero, List.eraseIdx_cons_succ, List.eraseIdx_cons_zero] at h ⊢
      rw [show 8 - (j + 1) + 1 = 8 - j by omega] at h
      exact h
end Go.Proofs.Ytnhgjgoglmadnaa
namespace Go.Proofs.Ytnhgjgoglmadnaa
open Go.RowKit
set_option linter.unusedVariables false
set_option linter.unusedSimpArgs false
set_option maxRecDepth 10000

def cp (r : Rq) (q : Rq) (c : Nat) : Rq :=
  if c = 112 then {q with px := r.px, py := r.py} else
  if c = 113 then {q with qx := r.qx, qy := r.qy} else
  if c = 116 then {q with ax := r.ax, ay := r.ay, bx := r.bx, by' := r.by', cx := r.cx, cy := r.cy} else
  if c = 101 then {q with e := r.e} else
  if c = 99 then {q with c := r.c} else
  if c = 108 then {q with l := r.l} else
  if c = 111 then {q with o := r.o} else
  if c = 114 then {q with x0 := r.x0, y0 := r.y0, x1 := r.x1, y1 := r.y1} else
  if c = 102 then {q with f := r.f} else
  if c = 109 then {q with m := r.m} else
  if c = 105 then {q with i := r.i} else
  if c = 110 then {q with n := r.n} else
  if c = 104 then {q with h := r.h} else
  if c = 98 then {q with b := r.b} else
  if c = 117 then {q with u := r.u} else
  q
def wid (c : Nat) : Nat :=
  if c = 112 then 6 else
  if c = 113 then 6 else
  if c = 116 then 18 else
  if c = 101 then 1 else
  if c = 99 then 1 else
  if c = 108 then 2 else
  if c = 111 then 2 else
  if c = 114 then 12 else
  if c = 102 then 2 else
  if c = 109 then 1 else
  if c = 105 then 1 else
  if c = 110 then 1 else
  if c = 104 then 1 else
  if c = 98 then 1 else
  if c = 117 then 4 else
  0
def Rq.pick (r : Rq) : Rq := (formL r.k).foldl (cp r) {Rq.zero with k := r.k}
theorem num_badW {s : W8} (h : s.bad = true) (n k : Int) : (s.num n k).bad = true := by unfold W8.num; split <;> simp [h]
theorem one_read {x : Int} (hx : 0 ≤ x ∧ x ≤ 255) (l : List Int) : (⟨x :: l, false⟩ : R8).numV 1 = x ∧ (⟨x :: l, false⟩ : R8).numS 1 = ⟨l, false⟩ := by
  obtain ⟨h1, h2⟩ := (⟨x :: l, false⟩ : R8).num_yes 1 rfl (by omega) (by omega) (by simp)
  have e1 : ((1 : Nat) : Int) = 1 := rfl
  rw [e1] at h1 h2
  rw [h1, h2]
  refine ⟨?_, rfl⟩
  show rval [x] = x
  unfold rval
  simp only [List.foldl_cons, List.foldl_nil]
  rw [rstep_eq (by omega) hx (by omega)]; omega
theorem askROk_nil : askROk [] = false := by decide +kernel
end Go.Proofs.Ytnhgjgoglmadnaa
