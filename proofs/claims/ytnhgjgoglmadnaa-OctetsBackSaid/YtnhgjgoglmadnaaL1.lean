/- The plain law of the sum: it goes on byte by byte, and rows that differ in one byte have different sums. No program in sight. -/
import Derived.Test.YtnhgjgoglmadnaaO
namespace Go.Proofs.Ytnhgjgoglmadnaa
open Go.RowKit
set_option linter.unusedVariables false

def stepB (a x : BitVec 64) : BitVec 64 := (a ^^^ x) * 1099511628211#64
theorem u64wrap (n : Int) : IntKind.u64.wrap n = n % 18446744073709551616 := by simp [IntKind.wrap, IntKind.signed, IntKind.bits]
theorem ofInt_wrap (n : Int) : BitVec.ofInt 64 (IntKind.u64.wrap n) = BitVec.ofInt 64 n := by
  rw [u64wrap]
  apply BitVec.eq_of_toInt_eq
  simp [BitVec.toInt_ofInt, Int.bmod]
theorem toNat_ofInt64 (a : BitVec 64) : BitVec.ofInt 64 (a.toNat : Int) = a := by simp
theorem sumStep_eq (a : BitVec 64) (x : Int) : sumStep a.toNat x = ((stepB a (BitVec.ofInt 64 x)).toNat : Int) := by
  have e : IntKind.u64.bits = 64 := rfl
  unfold sumStep stepB
  rw [e, ofInt_wrap, toNat_ofInt64, u64wrap, u64wrap, BitVec.toNat_mul]
  have h1 : ((a ^^^ BitVec.ofInt 64 x).toNat : Int) < 18446744073709551616 := by have := (a ^^^ BitVec.ofInt 64 x).isLt; omega
  rw [Int.emod_eq_of_lt (by omega) h1]
  have e2 : (1099511628211#64).toNat = 1099511628211 := rfl
  rw [e2]
  exact (Int.natCast_emod _ _).symm ▸ rfl
theorem fold_eq : ∀ (xs : List Int) (a : BitVec 64), xs.foldl sumStep (a.toNat : Int) = (((xs.map (BitVec.ofInt 64)).foldl stepB a).toNat : Int)
  | [], a => rfl
  | x :: xs, a => by
    rw [List.foldl_cons, sumStep_eq, fold_eq xs, List.map_cons, List.foldl_cons]
theorem stepB_inj {a b x y : BitVec 64} (h : stepB a x = stepB b y) : a ^^^ x = b ^^^ y := by
  have e : ∀ z : BitVec 64, z * 1099511628211#64 * 14886173955864302971#64 = z := fun z => by
    rw [BitVec.mul_assoc]
    have : (1099511628211#64 * 14886173955864302971#64 : BitVec 64) = 1#64 := by decide
    rw [this, BitVec.mul_one]
  unfold stepB at h
  rw [← e (a ^^^ x), ← e (b ^^^ y), h]
theorem xor_left {a x y : BitVec 64} (h : a ^^^ x = a ^^^ y) : x = y := by
  have : a ^^^ (a ^^^ x) = a ^^^ (a ^^^ y) := by rw [h]
  simpa [← BitVec.xor_assoc] using this
theorem xor_right {a b x : BitVec 64} (h : a ^^^ x = b ^^^ x) : a = b := by
  rw [BitVec.xor_comm a, BitVec.xor_comm b] at h
  exact xor_left h
theorem foldB_inj : ∀ (l : List (BitVec 64)) {a b : BitVec 64}, l.foldl stepB a = l.foldl stepB b → a = b
  | [], a, b, h => h
  | x :: l, a, b, h => xor_right (stepB_inj (foldB_inj l h))
theorem sumOf_eq (xs : List Int) : sumOf xs = (((xs.map (BitVec.ofInt 64)).foldl stepB 14695981039346656037#64).toNat : Int) := by
  rw [← fold_eq]; rfl
/-- rows that differ in one byte have different sums -/
theorem sumOf_ne {xs : List Int} {k : Nat} {y : Int} (hk : k < xs.length) (hx : 0 ≤ xs[k] ∧ xs[k] ≤ 255) (hy : 0 ≤ y ∧ y ≤ 255) (hne : y ≠ xs[k]) : sumOf (xs.set k y) ≠ sumOf xs := by
  intro h
  rw [sumOf_eq, sumOf_eq] at h
  have h' := BitVec.eq_of_toNat_eq (Int.ofNat_inj.1 h)
  have e1 : xs = xs.take k ++ xs[k] :: xs.drop (k + 1) := by simp
  have e2 : xs.set k y = xs.take k ++ y :: xs.drop (k + 1) := by rw [List.set_eq_take_append_cons_drop, if_pos hk]
  rw [e2] at h'
  conv at h' => rhs; rw [e1]
  simp only [List.map_append, List.foldl_append, List.map_cons, List.foldl_cons] at h'
  have := xor_left (stepB_inj (foldB_inj _ h'))
  have h3 := congrArg BitVec.toNat this
  simp only [BitVec.toNat_ofInt] at h3
  have q1 := Int.emod_eq_of_lt (a := y) (b := 2 ^ 64) hy.1 (by omega)
  have q2 := Int.emod_eq_of_lt (a := xs[k]) (b := 2 ^ 64) hx.1 (by omega)
  have z1 : (((2 : Nat) ^ 64 : Nat) : Int) = 2 ^ 64 := by decide
  rw [z1, q1, q2] at h3
  omega
/-- it goes on byte by byte -/
theorem sumOf_last {xs : List Int} {n : Nat} (h : xs.length = n + 1) : sumStep (sumOf (xs.take n)) (xs.getD n 0) = sumOf xs := by
  have e : xs = xs.take n ++ [xs[n]'(by omega)] := by
    conv => lhs; rw [← List.take_length (l := xs), h, List.take_succ_eq_append_getElem (by omega)]
  have : xs.getD n 0 = xs[n]'(by omega) := by simp [List.getD, show n < xs.length by omega]
  rw [this]
  have e3 : sumOf xs = sumOf (xs.take n ++ [xs[n]'(by omega)]) := by rw [← e]
  rw [e3]
  unfold sumOf
  rw [List.foldl_append]
  rfl
/-- what is flipped -/
def flip (a x : Int) : Int := IntKind.u8.wrap (BitVec.ofInt IntKind.u8.bits a ^^^ BitVec.ofInt IntKind.u8.bits (IntKind.u8.wrap (BitVec.ofInt IntKind.u8.bits x ||| BitVec.ofInt IntKind.u8.bits 1).toNat)).toNat
theorem u8wrap (n : Int) : IntKind.u8.wrap n = n % 256 := by simp [IntKind.wrap, IntKind.signed, IntKind.bits]
theorem flip_byte (a x : Int) : 0 ≤ flip a x ∧ flip a x ≤ 255 := by
  unfold flip
  rw [u8wrap]; omega
theorem flip_ne (a x : Int) (ha : 0 ≤ a ∧ a ≤ 255) : flip a x ≠ a := by
  intro h
  unfold flip at h
  have e : IntKind.u8.bits = 8 := rfl
  rw [e] at h
  generalize hm : BitVec.ofInt 8 x ||| BitVec.ofInt 8 1 = m at h
  have hw : BitVec.ofInt 8 (IntKind.u8.wrap m.toNat) = m := by
    rw [u8wrap, Int.emod_eq_of_lt (by omega) (by have := m.isLt; omega)]; simp
  rw [hw, u8wrap, Int.emod_eq_of_lt (by omega) (by have := (BitVec.ofInt 8 a ^^^ m).isLt; omega)] at h
  have h2 := congrArg (BitVec.ofInt 8) h
  simp only [BitVec.ofInt_natCast, BitVec.ofNat_toNat, BitVec.setWidth_eq] at h2
  have h3 : BitVec.ofInt 8 a ^^^ (BitVec.ofInt 8 a ^^^ m) = BitVec.ofInt 8 a ^^^ BitVec.ofInt 8 a := by rw [h2]
  simp [← BitVec.xor_assoc] at h3
  have h4 := congrArg (fun b => BitVec.getLsbD b 0) hm
  rw [h3] at h4
  simp at h4
end Go.Proofs.Ytnhgjgoglmadnaa
