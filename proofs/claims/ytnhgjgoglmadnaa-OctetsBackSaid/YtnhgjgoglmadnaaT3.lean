import Derived.Test.YtnhgjgoglmadnaaT2
namespace Go.Proofs.Ytnhgjgoglmadnaa
open Go.RowKit

/-- may the number be written in so many bytes? -/
def fits (n size : Int) : Bool := decide (1 ≤ size ∧ size ≤ 8 ∧ 0 ≤ n ∧ (size < 8 → n / 2 ^ (8 * size).toNat = 0))

/-- A writer as a value: its bytes, is it spoilt? -/
structure W8 where
  l : List Int
  bad : Bool
def W8.num (s : W8) (n size : Int) : W8 := if fits n size then ⟨s.l ++ be n size.toNat, s.bad⟩ else ⟨s.l, true⟩

/-- A writer at p that holds s, by the slice v. -/
abbrev WrS (t : Nat) (w : World) (p : Nat) (v : Value) (s : W8) : Prop := Wr t w p v s.l s.bad

/-- What a writer's call does: the writer itself is handed back. -/
def WrPost (t p : Nat) (w : World) (v : Value) (s' : W8) (e : Ending) (w' : World) : Prop :=
  e = .returned (.pointer (some ⟨p, 0, none⟩)) ∧ ∃ v', WrS t w' p v' s' ∧ WrStep p w v w' v'

theorem num_spoil (p : Nat) (v : Value) (xs : List Int) (bad : Bool) (n size : Int) (w : World) (hw : Wr 32 w p v xs bad) (hn : -9223372036854775808 ≤ n) (hn1 : n ≤ 9223372036854775807)
    (h : size < 1 ∨ 8 < size ∨ n < 0 ∨ (size < 8 ∧ ¬ n / 2 ^ (8 * size).toNat = 0)) : Calls Try.prog 23 #[.pointer (some ⟨p, 0, none⟩), .int .i64 n, .int .i64 size] w (WrPost 32 p w v ⟨xs, true⟩) := by
  have h1 := hw.c1
  have h2 := hw.fz 1
  have HM := Lib.hid (hw.mark (by decide) true)
  have HW := Lib.hid hw
  clear hw
  by_cases a1 : size < 1
  · go_enter Try.func23, Try.ntmps23
    go_wp2
    go_ret
    exact ⟨rfl, v, HM.out.1, HM.out.2⟩
  by_cases a2 : 8 < size
  · go_enter Try.func23, Try.ntmps23
    go_wp2
    go_ret
    exact ⟨rfl, v, HM.out.1, HM.out.2⟩
  by_cases a3 : n < 0
  · go_enter Try.func23, Try.ntmps23
    go_wp2
    go_ret
    exact ⟨rfl, v, HM.out.1, HM.out.2⟩
  have a4 : size < 8 := by omega
  have a5 : 0 < n / 2 ^ (8 * size).toNat := by
    have : 0 ≤ n / 2 ^ (8 * size).toNat := Int.ediv_nonneg (by omega) (Int.le_of_lt (Int.pow_pos (by decide)))
    rcases h with h | h | h | h <;> omega
  have a6 := Int.not_lt.1 a1
  have a7 := Int.not_lt.1 a2
  have a8 := Int.not_lt.1 a3
  clear h a1 a2 a3
  go_enter Try.func23, Try.ntmps23
  go_wp2
  go_ret
  exact ⟨rfl, v, HM.out.1, HM.out.2⟩

theorem num_any (p : Nat) (v : Value) (s : W8) (n size : Int) (w : World) (hw : WrS 32 w p v s) (hlen : s.l.length ≤ 1000000) (hn : -9223372036854775808 ≤ n) (hn1 : n ≤ 9223372036854775807) :
    Calls Try.prog 23 #[.pointer (some ⟨p, 0, none⟩), .int .i64 n, .int .i64 size] w (WrPost 32 p w v (s.num n size)) := by
  by_cases h : fits n size = true
  · have h' : 1 ≤ size ∧ size ≤ 8 ∧ 0 ≤ n ∧ (size < 8 → n / 2 ^ (8 * size).toNat = 0) := of_decide_eq_true h
    obtain ⟨k, rfl⟩ := Int.eq_ofNat_of_zero_le (show 0 ≤ size by omega)
    have := num_good p v s.l s.bad n k w hw hlen (by omega) (by omega) h'.2.2.1 hn1 h'.2.2.2
    have e : s.num n k = ⟨s.l ++ be n k, s.bad⟩ := by simp [W8.num, h]
    rw [e]
    exact this
  · have h' : size < 1 ∨ 8 < size ∨ n < 0 ∨ (size < 8 ∧ ¬ n / 2 ^ (8 * size).toNat = 0) := by
      simp only [fits, decide_eq_true_eq] at h
      omega
    have := num_spoil p v s.l s.bad n size w hw hn hn1 h'
    have e : s.num n size = ⟨s.l, true⟩ := by simp [W8.num, h]
    rw [e]
    exact this

theorem W8.num_len (s : W8) (n size : Int) : (s.num n size).l.length ≤ s.l.length + 8 := by
  unfold W8.num
  split
  · rename_i h
    have h' : 1 ≤ size ∧ size ≤ 8 ∧ 0 ≤ n ∧ (size < 8 → n / 2 ^ (8 * size).toNat = 0) := of_decide_eq_true h
    simp [be_length]; omega
  · simp
end Go.Proofs.Ytnhgjgoglmadnaa
