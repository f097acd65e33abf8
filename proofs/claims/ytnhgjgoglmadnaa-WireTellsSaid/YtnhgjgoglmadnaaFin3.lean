/- Arguments that are rows of rows of bytes, and rows of numbers. -/
import Derived.Test.YtnhgjgoglmadnaaFin2
import Derived.Test.YtnhgjgoglmadnaaK7
namespace Go.Proofs.Ytnhgjgoglmadnaa
open Go.ChangeShapes Go.WideShapes Go.ChangeAt Go.RowKit Go.Deep
set_option linter.unusedVariables false
set_option maxRecDepth 100000
section
variable {H : Type} {enc : TypeId × Value → H} {w : World} {base : Nat} {spare : Nat → Bool} {held : Bool}
theorem frs_of {fuel : Nat} {v : Value} {x : DataW H × List MemPlace} (h : DataW.trod enc Try.prog w base (fun _ => true) held fuel 59 [v] = some x) : ∃ ls, Frs w v ls ∧ BytL ls := by
  rcases open_slice Try.underlying59 h with ⟨hcs, _⟩ | ⟨a, len, cap, m, n, D, Pl, hcs, hb, hl, hm, hmm, hx, hi⟩
  · injection hcs with hcs
    subst hcs
    exact ⟨[], Frs.nil w, fun l hl => by cases hl⟩
  · injection hcs with hcs
    subst hcs
    simp only [if_true] at hmm
    subst hmm
    rw [c22] at hi
    have key : ∀ i, i < len → ∃ q : Value × List Int, w.cell? (a.add i) = some q.1 ∧ Rd w q.1 q.2 ∧ Byt q.2 := fun i hil => by
      obtain ⟨cs', hc, ht⟩ := hi i (by omega)
      obtain ⟨_, hcl, hat⟩ := World.cells?_some hc
      match cs', hcl, ht, hat with
      | [u], _, ht, hat =>
        obtain ⟨xs, hr, hby⟩ := bytes_of ht
        refine ⟨(u, xs), ?_, hr, hby⟩
        have := hat 0 (by omega)
        rw [Go.Deep.add_add, Nat.add_zero, Nat.mul_one] at this
        simpa using this
    obtain ⟨f, hf⟩ := choose_lt key
    have hus : ∀ j u, ((List.range len).map fun i => (f i).1)[j]? = some u → j < len ∧ u = (f j).1 := fun j u hj => by
      simp only [List.getElem?_map, Option.map_eq_some_iff] at hj
      obtain ⟨k, hk, rfl⟩ := hj
      obtain ⟨hlt, hk⟩ := List.getElem?_eq_some_iff.1 hk
      simp at hk hlt; subst hk; exact ⟨hlt, rfl⟩
    have hls : ∀ j l, ((List.range len).map fun i => (f i).2)[j]? = some l → l = (f j).2 := fun j l hj => by
      simp only [List.getElem?_map, Option.map_eq_some_iff] at hj
      obtain ⟨k, hk, rfl⟩ := hj
      obtain ⟨hlt, hk⟩ := List.getElem?_eq_some_iff.1 hk
      simp at hk; subst hk; rfl
    refine ⟨(List.range len).map fun i => (f i).2, ⟨(List.range len).map fun i => (f i).1, ⟨by simp, fun u hu => ?_, some a, m, by simp, by simp; omega, by omega, (fun e => by cases e), fun hp => ?_⟩, by simp, fun i u l hu hl => ?_⟩, fun l hl => ?_⟩
    · obtain ⟨j, hj⟩ := List.mem_iff_getElem?.1 hu
      obtain ⟨hlt, rfl⟩ := hus j u hj
      obtain ⟨_, _, e, _⟩ := (hf j hlt).2.1
      rw [e]; rfl
    · have hp' : 0 < len := by simpa using hp
      obtain ⟨b, off, spot⟩ := a
      have hspot : spot = none := by
        have := (hf 0 hp').1
        simpa [Addr.add] using World.cell?_spot this
      subst hspot
      refine ⟨b, off, rfl, fun j u hj => ?_⟩
      obtain ⟨hlt, rfl⟩ := hus j u hj
      have := (hf j hlt).1
      rwa [add_off] at this
    · obtain ⟨hlt, rfl⟩ := hus i u hu
      have := hls i l hl
      subst this
      exact (hf i hlt).2.1
    · obtain ⟨j, hj⟩ := List.mem_iff_getElem?.1 hl
      have hjl : j < len := by have := (List.getElem?_eq_some_iff.1 hj).1; simpa using this
      have := hls j l hj
      subst this
      exact (hf j hjl).2.2
theorem ints_of {fuel : Nat} {v : Value} {x : DataW H × List MemPlace} (h : DataW.trod enc Try.prog w base (fun _ => true) held fuel 60 [v] = some x) : ∃ ns, IntsR w v ns ∧ ∀ n ∈ ns, -9223372036854775808 ≤ n ∧ n ≤ 9223372036854775807 := by
  rcases open_slice Try.underlying60 h with ⟨hcs, _⟩ | ⟨a, len, cap, m, n, D, Pl, hcs, hb, hl, hm, hmm, hx, hi⟩
  · injection hcs with hcs
    subst hcs
    exact ⟨[], Row.nil 1 w, fun l hl => by cases hl⟩
  · injection hcs with hcs
    subst hcs
    simp only [if_true] at hmm
    subst hmm
    rw [c3] at hi
    have key : ∀ i, i < len → ∃ n : Int, w.cell? (a.add i) = some (.int .i64 n) ∧ -9223372036854775808 ≤ n ∧ n ≤ 9223372036854775807 := fun i hil => by
      obtain ⟨cs', hc, ht⟩ := hi i (by omega)
      obtain ⟨_, hcl, hat⟩ := World.cells?_some hc
      match cs', hcl, ht, hat with
      | [u], _, ht, hat =>
        obtain ⟨n, rfl, hn⟩ := int_of Try.underlying3 ht
        refine ⟨n, ?_, hn⟩
        have := hat 0 (by omega)
        rw [Go.Deep.add_add, Nat.add_zero, Nat.mul_one] at this
        simpa using this
    obtain ⟨f, hf⟩ := choose_lt key
    refine ⟨(List.range len).map f, ⟨by simp, fun u hu => ?_, some a, m, by simp, by simp; omega, by omega, (fun e => by cases e), fun hp => ?_⟩, fun n hn => ?_⟩
    · obtain ⟨y, _, rfl⟩ := List.mem_map.1 hu; rfl
    · have hp' : 0 < len := by simpa using hp
      obtain ⟨b, off, spot⟩ := a
      have hspot : spot = none := by
        have := (hf 0 hp').1
        simpa [Addr.add] using World.cell?_spot this
      subst hspot
      refine ⟨b, off, rfl, fun j u hj => ?_⟩
      simp only [List.getElem?_map, Option.map_eq_some_iff] at hj
      obtain ⟨_, ⟨k, hk, rfl⟩, rfl⟩ := hj
      obtain ⟨hlt, hk⟩ := List.getElem?_eq_some_iff.1 hk
      simp at hk hlt; subst hk
      have := (hf j hlt).1
      rwa [add_off] at this
    · obtain ⟨i, hi', rfl⟩ := List.mem_map.1 hn
      exact (hf i (by simpa using hi')).2
end
end Go.Proofs.Ytnhgjgoglmadnaa
