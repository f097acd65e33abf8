import Derived.Test.YtnhgjgoglmadnaaT1
import Derived.Deep.RegionLaw
namespace Go.Proofs.Ytnhgjgoglmadnaa
open Go.RowKit

/-- the bytes of a number, the high one first -/
def be (n : Int) (s : Nat) : List Int := (List.range s).map fun i => n / 2 ^ (8 * (s - 1 - i)) % 256
theorem be_length (n : Int) (s : Nat) : (be n s).length = s := by simp [be]
theorem be_take (n : Int) (s m : Nat) (h : m < s) : (be n s).take (m + 1) = (be n s).take m ++ [n / 2 ^ (8 * (s - 1 - m)) % 256] := by
  rw [List.take_succ_eq_append_getElem (by simpa [be] using h)]
  simp [be]

theorem be_exp (n : Int) (s m : Nat) (h : m < s) : [IntKind.u8.wrap (n / 2 ^ (8 * ((s : Int) - 1 - m)).toNat)] = [n / 2 ^ (8 * (s - 1 - m)) % 256] := by
  have e : (8 * ((s : Int) - 1 - m)).toNat = 8 * (s - 1 - m) := by omega
  rw [e]
  simp [IntKind.wrap, IntKind.bits, IntKind.signed]

set_option maxRecDepth 100000 in
set_option maxHeartbeats 400000 in
theorem num_good (p : Nat) (v : Value) (xs : List Int) (bad : Bool) (n : Int) (s : Nat) (w : World) (hw : Wr 32 w p v xs bad) (hlen : xs.length ≤ 1000000)
   (h1 : 1 ≤ s) (h8 : s ≤ 8) (hn : 0 ≤ n) (hn1 : n ≤ 9223372036854775807) (hfit : (s : Int) < 8 → n / 2 ^ (8 * (s : Int)).toNat = 0) : Calls Try.prog 23 #[.pointer (some ⟨p, 0, none⟩), .int .i64 n, .int .i64 s] w fun e w' => e = .returned (.pointer (some ⟨p, 0, none⟩)) ∧ ∃ v', Wr 32 w' p v' (xs ++ be n s) bad ∧ WrStep p w v w' v' := by
  obtain ⟨i0, hi, hz0, hz1, hz2⟩ := info_parts Try.info5
  have HW := Lib.hid hw
  have HL := Lib.hid hlen
  clear hw hlen
  go_enter Try.func23, Try.ntmps23
  go_wp2_with fail
  all_goals
    go_loopw [7] (fun i wr => ∃ m : Nat, m ≤ s ∧ i = .int .i64 ((s : Int) - 1 - m) ∧ ∃ v' ys, ys = xs ++ (be n s).take m ∧ Wr 32 wr p v' ys bad ∧ WrStep p w v wr v') (fun i _ => (intOf i + 1).toNat)
    case atStart => exact ⟨0, Nat.zero_le _, by simp, v, xs, by simp, HW.out, WrStep.refl _ _ _⟩
    case round =>
      obtain ⟨m, hm, rfl, v', ys, hys, hwr, hst⟩ := hrel
      by_cases hlt : m < s
      · have h0 := hwr.c0
        have hp := hwr.lt
        have hl : ys.length ≤ 2000000 := by have := HL.out; rw [hys]; simp [be_length]; omega
        have HY := Lib.hid hys
        clear hys
        have hA : IntKind.i64.wrap (8 * ((s : Int) - 1 - m)) = 8 * ((s : Int) - 1 - m) := IntWalk.i64_in _ (by omega)
        have hB : (0 : Int) ≤ 8 * ((s : Int) - 1 - m) := by omega
        go_wp2_with fail
        go_region_law (refine step_byte (wr := wr) (t := 32) (p := p) (v := v') (ys := ys) (bad := bad) (IntKind.u8.wrap (n / 2 ^ (8 * ((s : Int) - 1 - m)).toNat)) hwr (by decide) (by omega) rfl (.tmp 45) (.tmp 51) rfl wr.heap.size (by first | exact (Chg.refl _ _).alloc _ | exact ((Chg.refl _ _).alloc _).drew | exact ((Chg.refl _ _).drew).alloc _) (by simp [Act.eval]) (by simp [Act.eval]) (by simp) ?_; intro g nn cap w1 G0 G1 G2 G3)
        all_goals
          go_wp2
          go_roundw
          case rel => exact ⟨m + 1, by omega, by go_num, _, _, by rw [be_take n s m hlt, ← List.append_assoc, ← HY.out, be_exp n s m hlt], G2, hst.trans G3⟩
          case measure => simp [intOf]; omega
      · go_wp2
        go_ret
        have hms : m = s := by omega
        refine ⟨rfl, v', ?_, hst⟩
        rw [hys, hms, List.take_of_length_le (by simp [be_length])] at hwr
        exact hwr
end Go.Proofs.Ytnhgjgoglmadnaa
