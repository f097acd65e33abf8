/- An argument that is a list of parts. -/
import Derived.Test.YtnhgjgoglmadnaaFin
import Derived.Test.YtnhgjgoglmadnaaO6
import Derived.Deep.Slices
namespace Go.Proofs.Ytnhgjgoglmadnaa
open Go.ChangeShapes Go.WideShapes Go.ChangeAt Go.RowKit Go.Deep
set_option linter.unusedVariables false
set_option maxRecDepth 100000
instance : Inhabited Prt := ⟨⟨0, 0, 0, 0, 0, 0, 0, 0, 0, 0, 0, []⟩⟩
section
variable {H : Type} {enc : TypeId × Value → H} {w : World} {base : Nat} {spare : Nat → Bool} {held : Bool}

theorem fields_of {P : Program} {t : TypeId} {fs : Array Field} {fuel : Nat} {cs : List Value} {x : DataW H × List MemPlace} (ht : P.underlying t = some (.struct fs)) (h : DataW.trod enc P w base spare held fuel t cs = some x) :
    cs.length = P.cellsOf t ∧ ∃ n, ∀ (i off ty len : Nat), (fs[i]?).map (fun f => (f.type, f.offset)) = some (ty, off) → P.cellsOf ty = len → ∃ y, DataW.trod enc P w base spare held n ty ((cs.drop off).take len) = some y := by
  obtain ⟨xs, n, _, _, h1, h2, h3⟩ := DataW.trod_struct ht h
  refine ⟨h1, n, fun i off ty len hf hlen => ?_⟩
  obtain ⟨f, hf, he⟩ := Option.map_eq_some_iff.1 hf
  have hi : i < fs.size := (Array.getElem?_eq_some_iff.1 hf).1
  injection he with e1 e2
  refine ⟨xs[i]'(by omega), ?_⟩
  rw [← hlen, ← e1, ← e2, h3 i f hf]; exact List.getElem?_eq_getElem (by omega)
theorem int_of {P : Program} {t : TypeId} {fuel : Nat} {c : Value} {x : DataW H × List MemPlace} (ht : P.underlying t = some (.int .i64)) (h : DataW.trod enc P w base spare held fuel t [c] = some x) :
    ∃ n, c = .int .i64 n ∧ -9223372036854775808 ≤ n ∧ n ≤ 9223372036854775807 := by
  obtain ⟨n, h1, _, h2⟩ := DataW.trod_int ht h
  simp [Lit.wf, IntKind.min, IntKind.max, IntKind.signed, IntKind.bits] at h2
  injection h1 with h1
  exact ⟨n, h1, h2⟩
theorem c3 : Try.prog.cellsOf 3 = 1 := by kernel_rfl
theorem c37 : Try.prog.cellsOf 37 = 2 := by kernel_rfl
theorem c39 : Try.prog.cellsOf 39 = 6 := by kernel_rfl
theorem c22 : Try.prog.cellsOf 22 = 1 := by kernel_rfl
theorem c41 : Try.prog.cellsOf 41 = 12 := by kernel_rfl
theorem pt_of {fuel : Nat} {c d : Value} {x : DataW H × List MemPlace} (h : DataW.trod enc Try.prog w base spare held fuel 37 [c, d] = some x) :
    ∃ a b, c = .int .i64 a ∧ d = .int .i64 b ∧ (-9223372036854775808 ≤ a ∧ a ≤ 9223372036854775807) ∧ -9223372036854775808 ≤ b ∧ b ≤ 9223372036854775807 := by
  obtain ⟨_, n, hf⟩ := fields_of Try.underlying37 h
  obtain ⟨y0, h0⟩ := hf 0 0 3 1 rfl c3
  obtain ⟨y1, h1⟩ := hf 1 1 3 1 rfl c3
  obtain ⟨a, rfl, ha⟩ := int_of Try.underlying3 h0
  obtain ⟨b, rfl, hb⟩ := int_of Try.underlying3 h1
  exact ⟨a, b, rfl, rfl, ha, hb⟩
theorem bytes_of {fuel : Nat} {c : Value} {x : DataW H × List MemPlace} (h : DataW.trod enc Try.prog w base (fun _ => true) held fuel 22 [c] = some x) : ∃ xs, Rd w c xs ∧ Byt xs := by
  rcases open_ints Try.underlying22 Try.underlying5 (by kernel_rfl) h with ⟨hcs, _⟩ | ⟨x, l, cp, zs, hcs, _, hl, hm, hz, _, hcell, hwz⟩
  · injection hcs with hcs
    subst hcs
    exact rd_of_open (.inl ⟨rfl, rfl, rfl, rfl⟩ : (_ ∧ _ ∧ _ ∧ ([] : List Int) = []) ∨ _)
  · injection hcs with hcs
    subst hcs
    exact rd_of_open (.inr ⟨_, rfl, hl, hm, by simpa using hz, hcell, hwz⟩)
theorem part_of {fuel : Nat} {cs : List Value} {x : DataW H × List MemPlace} (h : DataW.trod enc Try.prog w base (fun _ => true) held fuel 41 cs = some x) :
    ∃ (p : Prt) (vb : Value), cs = p.cells vb ∧ Ok64 p.ints ∧ Rd w vb p.b ∧ Byt p.b := by
  obtain ⟨hl, n, hf⟩ := fields_of Try.underlying41 h
  rw [c41] at hl
  match cs, hl with
  | [x0, x1, x2, x3, x4, x5, x6, x7, x8, x9, x10, x11], _ =>
    obtain ⟨y0, h0⟩ := hf 0 0 3 1 rfl c3
    obtain ⟨y1, h1⟩ := hf 1 1 3 1 rfl c3
    obtain ⟨y2, h2⟩ := hf 2 2 3 1 rfl c3
    obtain ⟨y3, h3⟩ := hf 3 3 37 2 rfl c37
    obtain ⟨y4, h4⟩ := hf 4 5 39 6 rfl c39
    obtain ⟨y5, h5⟩ := hf 5 11 22 1 rfl c22
    obtain ⟨k, rfl, hk⟩ := int_of Try.underlying3 h0
    obtain ⟨m, rfl, hm⟩ := int_of Try.underlying3 h1
    obtain ⟨z, rfl, hz⟩ := int_of Try.underlying3 h2
    obtain ⟨px, py, rfl, rfl, hpx, hpy⟩ := pt_of h3
    obtain ⟨_, n4, hf4⟩ := fields_of Try.underlying39 h4
    obtain ⟨z0, g0⟩ := hf4 0 0 37 2 rfl c37
    obtain ⟨z1, g1⟩ := hf4 1 2 37 2 rfl c37
    obtain ⟨z2, g2⟩ := hf4 2 4 37 2 rfl c37
    obtain ⟨ax, ay, rfl, rfl, hax, hay⟩ := pt_of g0
    obtain ⟨bx, by', rfl, rfl, hbx, hby⟩ := pt_of g1
    obtain ⟨cx, cy, rfl, rfl, hcx, hcy⟩ := pt_of g2
    obtain ⟨xs, hr, hb⟩ := bytes_of h5
    refine ⟨⟨k, m, z, px, py, ax, ay, bx, by', cx, cy, xs⟩, x11, rfl, ?_, hr, hb⟩
    simp only [Prt.ints, Ok64, List.forall_mem_cons, List.not_mem_nil, false_implies, implies_true, and_true]
    exact ⟨hk, hm, hz, hpx, hpy, hax, hay, hbx, hby, hcx, hcy⟩
theorem parts_of {fuel : Nat} {v : Value} {x : DataW H × List MemPlace} (h : DataW.trod enc Try.prog w base (fun _ => true) held fuel 28 [v] = some x) : ∃ ps, Parts w v ps := by
  rcases open_slice Try.underlying28 h with ⟨hcs, _⟩ | ⟨a, len, cap, m, n, D, Pl, hcs, hb, hl, hm, hmm, hx, hi⟩
  · injection hcs with hcs
    subst hcs
    exact ⟨[], ⟨none, 0, rfl, by simp [maxLen], fun h => by simp at h⟩, fun x hx => by cases hx⟩
  · injection hcs with hcs
    subst hcs
    simp only [if_true] at hmm
    subst hmm
    rw [c41] at hi
    have key : ∀ i, i < len → ∃ q : Prt × Value, (∀ j u, (q.1.cells q.2)[j]? = some u → w.cell? (a.add (i * 12 + j)) = some u) ∧ Ok64 q.1.ints ∧ Rd w q.2 q.1.b ∧ Byt q.1.b := fun i hil => by
      obtain ⟨cs', hc, ht⟩ := hi i (by omega)
      obtain ⟨p, vb, rfl, hp, hr, hby⟩ := part_of ht
      obtain ⟨_, hcl, hat⟩ := World.cells?_some hc
      refine ⟨(p, vb), fun j u hj => ?_, hp, hr, hby⟩
      have hjl : j < 12 := by have := (List.getElem?_eq_some_iff.1 hj).1; simpa [Prt.cells] using this
      rw [← Go.Deep.add_add, hat j hjl]; exact hj
    obtain ⟨f, hf⟩ := choose_lt key
    refine ⟨(List.range len).map f, ⟨some a, m, by simp, by simp; omega, fun hp => ?_⟩, fun x hx => ?_⟩
    · have hp' : 0 < len := by simpa using hp
      obtain ⟨b, off, spot⟩ := a
      have hspot : spot = none := by
        have := (hf 0 hp').1 0 _ rfl
        simpa [Addr.add] using World.cell?_spot this
      subst hspot
      refine ⟨b, off, rfl, fun i h j u hj => ?_⟩
      have hil : i < len := by simpa using h
      have := (hf i hil).1 j u (by simpa using hj)
      rw [add_off] at this
      rw [Nat.add_assoc]
      exact this
    · obtain ⟨i, hi', rfl⟩ := List.mem_map.1 hx
      have := hf i (by simpa using hi')
      exact ⟨this.2.2.1, this.2.2.2, this.2.1⟩
end
end Go.Proofs.Ytnhgjgoglmadnaa
