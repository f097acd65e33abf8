/- The plain law of numbers as bytes: what was written is read. -/
import Derived.Test.YtnhgjgoglmadnaaO2
namespace Go.Proofs.Ytnhgjgoglmadnaa
open Go.RowKit
set_option linter.unusedVariables false

theorem i64w (n : Int) (h0 : -9223372036854775808 ≤ n) (h1 : n ≤ 9223372036854775807) : IntKind.i64.wrap n = n := IntWalk.i64_in _ (by omega)
theorem rstep_eq {a x : Int} (ha : 0 ≤ a) (hx : 0 ≤ x ∧ x ≤ 255) (h : a * 256 + x ≤ 9223372036854775807) : rstep a x = a * 256 + x := by
  obtain ⟨m, rfl⟩ := Int.eq_ofNat_of_zero_le ha
  obtain ⟨y, rfl⟩ := Int.eq_ofNat_of_zero_le hx.1
  unfold rstep
  have e : IntKind.i64.bits = 64 := rfl
  have h64 : (2 : Nat) ^ 64 = 18446744073709551616 := by decide
  have e1 : min 8 IntKind.i64.bits = 8 := rfl
  rw [e1, e]
  have p8 : (2 : Int) ^ 8 = 256 := by decide
  rw [p8, i64w ((m : Int) * 256) (by omega) (by omega), i64w (y : Int) (by omega) (by omega)]
  have e2 : ((m : Int) * 256) = ((m * 256 : Nat) : Int) := by omega
  rw [e2, BitVec.ofInt_natCast, BitVec.ofInt_natCast, BitVec.toNat_or, BitVec.toNat_ofNat, BitVec.toNat_ofNat, h64, Nat.mod_eq_of_lt (show m * 256 < 18446744073709551616 by omega), Nat.mod_eq_of_lt (show y < 18446744073709551616 by omega)]
  have e3 : m * 256 ||| y = m * 256 + y := by
    have := Nat.two_pow_add_eq_or_of_lt (i := 8) (b := y) (by omega) m
    rw [Nat.mul_comm] at this
    exact this.symm
  rw [e3, i64w _ (by omega) (by omega)]
  omega

theorem be_get (n : Int) (s i : Nat) (h : i < s) : (be n s).getD i 0 = n / 2 ^ (8 * (s - 1 - i)) % 256 := by simp [be, List.getD, h]
theorem be_byt (n : Int) (s : Nat) : Byt (be n s) := fun x hx => by
  simp only [be, List.mem_map] at hx
  obtain ⟨i, _, rfl⟩ := hx
  omega
theorem be_part (n : Int) (s : Nat) (h0 : 0 ≤ n) (h1 : n ≤ 9223372036854775807) (hfit : n / 2 ^ (8 * s) = 0) : ∀ i, i ≤ s → ((be n s).take i).foldl rstep 0 = n / 2 ^ (8 * (s - i))
  | 0, _ => by simp [hfit]
  | i + 1, hi => by
    rw [be_take n s i (by omega), List.foldl_append, be_part n s h0 h1 hfit i (by omega)]
    simp only [List.foldl_cons, List.foldl_nil]
    have e1 : 8 * (s - i) = 8 * (s - 1 - i) + 8 := by omega
    have e2 : 8 * (s - (i + 1)) = 8 * (s - 1 - i) := by omega
    rw [e1, e2, Int.pow_add, ← Int.ediv_ediv_of_nonneg (Int.le_of_lt (Int.pow_pos (by decide)))]
    have p8 : (2 : Int) ^ 8 = 256 := by decide
    rw [p8]
    generalize hq : n / 2 ^ (8 * (s - 1 - i)) = q
    have hq0 : 0 ≤ q := by rw [← hq]; exact Int.ediv_nonneg h0 (Int.le_of_lt (Int.pow_pos (by decide)))
    have hq1 : q ≤ n := by rw [← hq]; exact Int.ediv_le_self _ h0
    rw [rstep_eq (by omega) (by omega) (by omega)]
    omega
/-- What was written is read. -/
theorem rval_be (n : Int) (s : Nat) (h0 : 0 ≤ n) (h1 : n ≤ 9223372036854775807) (hfit : n / 2 ^ (8 * s) = 0) : rval (be n s) = n := by
  have := be_part n s h0 h1 hfit s (Nat.le_refl _)
  rw [List.take_of_length_le (by rw [be_length]; exact Nat.le_refl _)] at this
  unfold rval
  rw [this]
  simp
end Go.Proofs.Ytnhgjgoglmadnaa
