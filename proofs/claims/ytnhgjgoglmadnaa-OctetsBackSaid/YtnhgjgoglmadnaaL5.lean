/- The plain law of parts: what was written is read. -/
import Derived.Test.YtnhgjgoglmadnaaL3
import Derived.Test.YtnhgjgoglmadnaaO6
namespace Go.Proofs.Ytnhgjgoglmadnaa
open Go.RowKit
set_option linter.unusedVariables false

theorem num_write (l : List Int) (n : Int) (k : Nat) (h1 : 1 ≤ k) (h7 : k ≤ 7) (h0 : 0 ≤ n) (hf : n / 2 ^ (8 * k) = 0) : (W8.mk l false).num n k = ⟨l ++ be n k, false⟩ := by
  have e : (8 * (k : Int)).toNat = 8 * k := by omega
  have : fits n k = true := by
    simp only [fits, decide_eq_true_eq]
    refine ⟨by omega, by omega, h0, fun _ => ?_⟩
    rw [e]; exact hf
  simp [W8.num, this]
theorem num_read (n : Int) (k : Nat) (r : List Int) (h1 : 1 ≤ k) (h7 : k ≤ 7) (h0 : 0 ≤ n) (hn : n ≤ 9223372036854775807) (hf : n / 2 ^ (8 * k) = 0) : (R8.mk (be n k ++ r) false).numV k = n ∧ (R8.mk (be n k ++ r) false).numS k = ⟨r, false⟩ := by
  obtain ⟨e1, e2⟩ := (R8.mk (be n k ++ r) false).num_yes k rfl h1 h7 (by simp [be_length])
  rw [e1, e2]
  refine ⟨?_, ?_⟩
  · rw [List.take_append_of_le_length (by simp [be_length]), List.take_of_length_le (by simp [be_length])]
    exact rval_be n k h0 hn hf
  · simp [List.drop_append_of_le_length, be_length]
theorem grid_fit {x : Int} (h : 0 ≤ x ∧ x < 16777216) : x / 2 ^ (8 * 3) = 0 := by
  have : (2 : Int) ^ (8 * 3) = 16777216 := by decide
  rw [this]; omega
theorem vpt_gr {x y : Int} (h : vpt x y = true) : (0 ≤ x ∧ x < 16777216) ∧ 0 ≤ y ∧ y < 16777216 := by
  simp [vpt] at h; omega
def ptB (x y : Int) : List Int := be x 3 ++ be y 3
theorem ptB_len (x y : Int) : (ptB x y).length = 6 := by simp [ptB, be_length]
theorem pt_write (l : List Int) {x y : Int} (h : vpt x y = true) : (W8.mk l false).pt x y = ⟨l ++ ptB x y, false⟩ := by
  obtain ⟨hx, hy⟩ := vpt_gr h
  unfold W8.pt
  have e3 : ((3 : Nat) : Int) = 3 := rfl
  rw [← e3, num_write l x 3 (by omega) (by omega) hx.1 (grid_fit hx), num_write _ y 3 (by omega) (by omega) hy.1 (grid_fit hy)]
  simp [ptB]
theorem pt_read {x y : Int} (r : List Int) (h : vpt x y = true) : (R8.mk (ptB x y ++ r) false).ptV = (x, y) ∧ (R8.mk (ptB x y ++ r) false).ptS = ⟨r, false⟩ := by
  obtain ⟨hx, hy⟩ := vpt_gr h
  have e3 : ((3 : Nat) : Int) = 3 := rfl
  obtain ⟨a1, a2⟩ := num_read x 3 (be y 3 ++ r) (by omega) (by omega) hx.1 (by omega) (grid_fit hx)
  obtain ⟨b1, b2⟩ := num_read y 3 r (by omega) (by omega) hy.1 (by omega) (grid_fit hy)
  rw [e3] at a1 a2 b1 b2
  have es : (R8.mk (ptB x y ++ r) false).ptS = ⟨r, false⟩ := by
    unfold R8.ptS ptB; rw [List.append_assoc, a2, b2]
  refine ⟨?_, es⟩
  unfold R8.ptV
  rw [es]
  unfold ptB
  rw [List.append_assoc, a1, a2, b1]; rfl
theorem T3.valid_pts {t : T3} (h : t.valid = true) : vpt t.ax t.ay = true ∧ vpt t.bx t.by' = true ∧ vpt t.cx t.cy = true := by
  have ho : t.or ≠ 0 := by
    intro e
    simp [T3.valid, T3.ok, e] at h
  unfold T3.or orientI at ho
  split at ho
  · rename_i hh; simpa [Bool.and_eq_true, and_assoc] using hh
  · exact absurd rfl ho
def T3.bytes (t : T3) : List Int := (ptB t.ax t.ay ++ ptB t.bx t.by') ++ ptB t.cx t.cy
theorem tri_write (l : List Int) {t : T3} (h : t.valid = true) : (W8.mk l false).tri t.ax t.ay t.bx t.by' t.cx t.cy = ⟨l ++ t.bytes, false⟩ := by
  obtain ⟨h1, h2, h3⟩ := T3.valid_pts h
  unfold W8.tri
  rw [pt_write l h1, pt_write _ h2, pt_write _ h3]
  simp [T3.bytes]
theorem tri_read {t : T3} (r : List Int) (h : t.valid = true) : (R8.mk (t.bytes ++ r) false).triV = t ∧ (R8.mk (t.bytes ++ r) false).triS = ⟨r, false⟩ := by
  obtain ⟨h1, h2, h3⟩ := T3.valid_pts h
  have e : t.bytes ++ r = ptB t.ax t.ay ++ (ptB t.bx t.by' ++ (ptB t.cx t.cy ++ r)) := by simp [T3.bytes]
  rw [e]
  obtain ⟨a1, a2⟩ := pt_read (ptB t.bx t.by' ++ (ptB t.cx t.cy ++ r)) h1
  obtain ⟨b1, b2⟩ := pt_read (ptB t.cx t.cy ++ r) h2
  obtain ⟨c1, c2⟩ := pt_read r h3
  have es : (R8.mk (ptB t.ax t.ay ++ (ptB t.bx t.by' ++ (ptB t.cx t.cy ++ r))) false).tS3 = ⟨r, false⟩ := by unfold R8.tS3; rw [a2, b2, c2]
  have et : (R8.mk (ptB t.ax t.ay ++ (ptB t.bx t.by' ++ (ptB t.cx t.cy ++ r))) false).tT = t := by unfold R8.tT; rw [a1, a2, b1, b2, c1]
  unfold R8.triV R8.triS
  rw [es, et, h]
  exact ⟨rfl, rfl⟩
theorem raw_read (l r : List Int) : (R8.mk (l ++ r) false).rawV l.length = l ∧ (R8.mk (l ++ r) false).rawS l.length = ⟨r, false⟩ := by
  have hno : ¬ (R8.mk (l ++ r) false).no l.length := by
    simp only [R8.no, List.length_append]; simp; omega
  unfold R8.rawV R8.rawS
  rw [if_neg hno, if_neg hno]
  simp

/-! ### Parts -/
def Prt.t (p : Prt) : T3 := ⟨p.ax, p.ay, p.bx, p.by', p.cx, p.cy⟩
def Prt.put (p : Prt) (s : W8) : W8 := if p.kind = 0 then s.num p.n p.size else if p.kind = 1 then s.pt p.px p.py else if p.kind = 2 then s.tri p.ax p.ay p.bx p.by' p.cx p.cy else s.raw p.b
def Prt.out (p : Prt) : List Int := if p.kind = 0 then be p.n p.size.toNat else if p.kind = 1 then ptB p.px p.py else if p.kind = 2 then p.t.bytes else p.b
structure Prt.Good (p : Prt) : Prop where
  kind : p.kind = 0 ∨ p.kind = 1 ∨ p.kind = 2 ∨ p.kind = 3
  num : p.kind = 0 → (1 ≤ p.size ∧ p.size ≤ 7) ∧ (0 ≤ p.n ∧ p.n ≤ 9223372036854775807) ∧ p.n / 2 ^ (8 * p.size.toNat) = 0
  pt : p.kind = 1 → vpt p.px p.py = true
  tri : p.kind = 2 → p.t.valid = true
theorem Prt.Good.put {p : Prt} (h : p.Good) (l : List Int) : p.put ⟨l, false⟩ = ⟨l ++ p.out, false⟩ := by
  unfold Prt.put Prt.out
  rcases h.kind with e | e | e | e
  · obtain ⟨h1, h2, h3⟩ := h.num e
    have := num_write l p.n p.size.toNat (by omega) (by omega) h2.1 h3
    have e2 : ((p.size.toNat : Nat) : Int) = p.size := by omega
    rw [e2] at this
    simp [e, this]
  · simp [e, pt_write l (h.pt e)]
  · simp [e]
    exact tri_write l (h.tri e)
  · simp [e, W8.raw]
theorem Prt.out_len (p : Prt) (hg : p.Good) (hb : p.b.length ≤ 60) : p.out.length ≤ 60 := by
  unfold Prt.out
  rcases hg.kind with e | e | e | e
  · have := (hg.num e).1
    simp [e, be_length]; omega
  · simp [e, ptB_len]
  · simp [e, T3.bytes, ptB_len]
  · simpa [e] using hb
end Go.Proofs.Ytnhgjgoglmadnaa
