/- Joined texts of this claim (part 11), printed by a program of this work. The last part holds the claimed theorem: the law answers true at every input of its row. -/
import Derived.JoinedCond
import Derived.Test.YtnhgjgoglmadnaaSP13j
namespace Go.Proofs.Ytnhgjgoglmadnaa
open Go.ChangeShapes Go.WideShapes Go.ChangeAt Go.RowKit Go.Deep
set_option linter.unusedVariables false
set_option maxRecDepth 100000

theorem bulk_one {H : Type} (d : DataW H) : 1 ≤ Rows.uptoBulk d := by
  cases d with
  | lit l => cases l <;> simp [Rows.uptoBulk]
  | _ => simp [Rows.uptoBulk]
theorem bulk_mem {H : Type} {d : DataW H} {l : List (DataW H)} (h : d ∈ l) : Rows.uptoBulk d ≤ Rows.uptoBulkAll l := by
  induction l with
  | nil => cases h
  | cons x r ih =>
    simp only [Rows.uptoBulkAll]
    rcases List.mem_cons.1 h with rfl | h
    · omega
    · have := ih h; omega
theorem bulk_len {H : Type} (l : List (DataW H)) : l.length ≤ Rows.uptoBulkAll l := by
  induction l with
  | nil => simp [Rows.uptoBulkAll]
  | cons x r ih => have := bulk_one x; simp only [Rows.uptoBulkAll, List.length_cons]; omega
section
variable {H : Type} {enc : TypeId × Value → H} {w : World} {base : Nat} {spare : Nat → Bool} {held : Bool}

theorem fields_of' {P : Program} {t : TypeId} {fs : Array Field} {fuel : Nat} {cs : List Value} {x : DataW H × List MemPlace} (ht : P.underlying t = some (.struct fs)) (h : DataW.trod enc P w base spare held fuel t cs = some x) :
    cs.length = P.cellsOf t ∧ ∃ n, ∀ (i off ty len : Nat), (fs[i]?).map (fun f => (f.type, f.offset)) = some (ty, off) → P.cellsOf ty = len → ∃ y : DataW H × List MemPlace, DataW.trod enc P w base spare held n ty ((cs.drop off).take len) = some y ∧ Rows.uptoBulk y.1 ≤ Rows.uptoBulk x.1 := by
  obtain ⟨xs, n, _, hx, h1, h2, h3⟩ := DataW.trod_struct ht h
  refine ⟨h1, n, fun i off ty len hf hlen => ?_⟩
  obtain ⟨f, hf, he⟩ := Option.map_eq_some_iff.1 hf
  have hi : i < fs.size := (Array.getElem?_eq_some_iff.1 hf).1
  injection he with e1 e2
  refine ⟨xs[i]'(by omega), ?_, ?_⟩
  · rw [← hlen, ← e1, ← e2, h3 i f hf]; exact List.getElem?_eq_getElem (by omega)
  · rw [hx]
    have := bulk_mem (d := (xs[i]'(by omega)).1) (l := xs.map (·.1)) (List.mem_map.2 ⟨_, List.getElem_mem (by omega), rfl⟩)
    simp only [Rows.uptoBulk]; omega

theorem flatT_get {s : Nat} {xs : List (List Int)} (hs : ∀ x ∈ xs, x.length = s) {j : Nat} {u : Value} (h : (flatT xs)[j]? = some u) : ∃ i r, ∃ hi : i < xs.length, j = i * s + r ∧ r < s ∧ (cellsI xs[i])[r]? = some u := by
  have hj := (List.getElem?_eq_some_iff.1 h).1
  rw [flatT_len hs] at hj
  have hs0 : 0 < s := Nat.pos_of_ne_zero fun e => by subst e; simp at hj
  have hi : j / s < xs.length := (Nat.div_lt_iff_lt_mul hs0).2 hj
  have hr : j % s < s := Nat.mod_lt _ hs0
  have he : j = j / s * s + j % s := by rw [Nat.mul_comm]; exact (Nat.div_add_mod j s).symm
  refine ⟨j / s, j % s, hi, he, hr, ?_⟩
  rw [← flatT_at hi hs, List.getElem?_take_of_lt hr, List.getElem?_drop, ← he]; exact h
theorem tab_of {e t s : Nat} (ht : Try.prog.underlying t = some (.slice e)) (hc : Try.prog.cellsOf e = s) (hs : 0 < s)
    (he : ∀ (n : Nat) (cs : List Value) (y : DataW H × List MemPlace), DataW.trod enc Try.prog w base (fun _ => true) held n e cs = some y → ∃ x : List Int, cs = cellsI x ∧ x.length = s ∧ Ok64 x)
    {fuel : Nat} {v : Value} {x : DataW H × List MemPlace} (h : DataW.trod enc Try.prog w base (fun _ => true) held fuel t [v] = some x) : ∃ xs, Tab s w v xs ∧ (∀ x ∈ xs, Ok64 x) ∧ xs.length ≤ Rows.uptoBulk x.1 := by
  rcases open_slice ht h with ⟨hcs, _⟩ | ⟨a, len, cap, m, n, D, Pl, hcs, hb, hl, hm, hmm, hx, hi⟩
  · injection hcs with hcs
    subst hcs
    exact ⟨[], Tab.nil s w, fun x hx => (by cases hx), Nat.zero_le _⟩
  · injection hcs with hcs
    subst hcs
    simp only [if_true] at hmm
    subst hmm
    rw [hc] at hi
    have key : ∀ i, i < len → ∃ q : List Int, (∀ j u, (cellsI q)[j]? = some u → w.cell? (a.add (i * s + j)) = some u) ∧ q.length = s ∧ Ok64 q := fun i hil => by
      obtain ⟨cs', hc', ht'⟩ := hi i (by omega)
      obtain ⟨q, rfl, hq, ho⟩ := he n cs' _ ht'
      obtain ⟨_, hcl, hat⟩ := World.cells?_some hc'
      refine ⟨q, fun j u hj => ?_, hq, ho⟩
      have hjl : j < s := by have := (List.getElem?_eq_some_iff.1 hj).1; rw [cellsI_len] at this; omega
      rw [← Go.Deep.add_add, hat j hjl]; exact hj
    obtain ⟨f, hf⟩ := choose_lt key
    have hwid : ∀ x ∈ (List.range len).map f, x.length = s := fun x hx => by
      obtain ⟨i, hi', rfl⟩ := List.mem_map.1 hx
      exact (hf i (by simpa using hi')).2.1
    refine ⟨(List.range len).map f, ⟨hwid, ⟨flatT_len hwid, fun u hu => flatT_one hu, some a, m, by simp, by simp; omega, by omega, (fun e => by cases e), fun hp => ?_⟩⟩, fun x hx => ?_, ?_⟩
    · have hp' : 0 < len := by simpa using hp
      obtain ⟨b, off, spot⟩ := a
      have hspot : spot = none := by
        have k := hf 0 hp'
        have hz : 0 < (cellsI (f 0)).length := by rw [cellsI_len, k.2.1]; exact hs
        have := k.1 0 _ (List.getElem?_eq_getElem hz)
        simpa [Addr.add] using World.cell?_spot this
      subst hspot
      refine ⟨b, off, rfl, fun j u hj => ?_⟩
      obtain ⟨i, r, hi', rfl, hr, hu⟩ := flatT_get hwid hj
      have hil : i < len := by simpa using hi'
      have := (hf i hil).1 r u (by simpa using hu)
      rwa [add_off] at this
    · obtain ⟨i, hi', rfl⟩ := List.mem_map.1 hx
      exact (hf i (by simpa using hi')).2.2
    · rw [hx]
      simp only [Rows.uptoBulk, List.length_map, List.length_range]
      have := bulk_len ((List.range len).map D)
      simp only [List.length_map, List.length_range] at this
      omega

theorem c144 : Try.prog.cellsOf 144 = 10 := by kernel_rfl
theorem c149 : Try.prog.cellsOf 149 = 5 := by kernel_rfl
theorem c153 : Try.prog.cellsOf 153 = 2 := by kernel_rfl
theorem c159 : Try.prog.cellsOf 159 = 9 := by kernel_rfl
theorem c163 : Try.prog.cellsOf 163 = 3 := by kernel_rfl
theorem c167 : Try.prog.cellsOf 167 = 3 := by kernel_rfl
theorem c141 : Try.prog.cellsOf 141 = 3 := by kernel_rfl
theorem c4 : Try.prog.cellsOf 4 = 1 := by kernel_rfl
theorem pt_of' {fuel : Nat} {cs : List Value} {x : DataW H × List MemPlace} (h : DataW.trod enc Try.prog w base spare held fuel 37 cs = some x) : ∃ q : List Int, cs = cellsI q ∧ q.length = 2 ∧ Ok64 q := by
  have hl := (fields_of Try.underlying37 h).1
  rw [c37] at hl
  match cs, hl with
  | [x0, x1], _ =>
    obtain ⟨a, b, rfl, rfl, ha, hb⟩ := pt_of h
    exact ⟨[a, b], rfl, rfl, by simp only [Ok64, List.forall_mem_cons, List.not_mem_nil, false_implies, implies_true, and_true]; exact ⟨ha, hb⟩⟩
theorem wall_of {fuel : Nat} {cs : List Value} {x : DataW H × List MemPlace} (h : DataW.trod enc Try.prog w base spare held fuel 149 cs = some x) : ∃ q : List Int, cs = cellsI q ∧ q.length = 5 ∧ Ok64 q := by
  obtain ⟨hl, n, hf⟩ := fields_of Try.underlying149 h
  rw [c149] at hl
  match cs, hl with
  | [x0, x1, x2, x3, x4], _ =>
    obtain ⟨y0, h0⟩ := hf 0 0 37 2 rfl c37
    obtain ⟨y1, h1⟩ := hf 1 2 37 2 rfl c37
    obtain ⟨y2, h2⟩ := hf 2 4 3 1 rfl c3
    obtain ⟨a, b, rfl, rfl, ha, hb⟩ := pt_of h0
    obtain ⟨c, d, rfl, rfl, hc, hd⟩ := pt_of h1
    obtain ⟨k, rfl, hk⟩ := int_of Try.underlying3 h2
    exact ⟨[a, b, c, d, k], rfl, rfl, by simp only [Ok64, List.forall_mem_cons, List.not_mem_nil, false_implies, implies_true, and_true]; exact ⟨ha, hb, hc, hd, hk⟩⟩
theorem region_of {fuel : Nat} {cs : List Value} {x : DataW H × List MemPlace} (h : DataW.trod enc Try.prog w base spare held fuel 144 cs = some x) : ∃ q : List Int, cs = cellsI q ∧ q.length = 10 ∧ Ok64 q := by
  obtain ⟨hl, n, hf⟩ := fields_of Try.underlying144 h
  rw [c144] at hl
  match cs, hl with
  | [x0, x1, x2, x3, x4, x5, x6, x7, x8, x9], _ =>
    obtain ⟨y0, h0⟩ := hf 0 0 3 1 rfl c3
    obtain ⟨y1, h1⟩ := hf 1 1 3 1 rfl c3
    obtain ⟨y2, h2⟩ := hf 2 2 3 1 rfl c3
    obtain ⟨y3, h3⟩ := hf 3 3 3 1 rfl c3
    obtain ⟨y4, h4⟩ := hf 4 4 39 6 rfl c39
    obtain ⟨a, rfl, ha⟩ := int_of Try.underlying3 h0
    obtain ⟨b, rfl, hb⟩ := int_of Try.underlying3 h1
    obtain ⟨c, rfl, hc⟩ := int_of Try.underlying3 h2
    obtain ⟨d, rfl, hd⟩ := int_of Try.underlying3 h3
    obtain ⟨_, n4, hf4⟩ := fields_of Try.underlying39 h4
    obtain ⟨z0, g0⟩ := hf4 0 0 37 2 rfl c37
    obtain ⟨z1, g1⟩ := hf4 1 2 37 2 rfl c37
    obtain ⟨z2, g2⟩ := hf4 2 4 37 2 rfl c37
    obtain ⟨ax, ay, rfl, rfl, hax, hay⟩ := pt_of g0
    obtain ⟨bx, by', rfl, rfl, hbx, hby⟩ := pt_of g1
    obtain ⟨cx, cy, rfl, rfl, hcx, hcy⟩ := pt_of g2
    exact ⟨[a, b, c, d, ax, ay, bx, by', cx, cy], rfl, rfl, by simp only [Ok64, List.forall_mem_cons, List.not_mem_nil, false_implies, implies_true, and_true]; exact ⟨ha, hb, hc, hd, hax, hay, hbx, hby, hcx, hcy⟩⟩
theorem ints2_of {t fuel : Nat} {fs : Array Field} {cs : List Value} {x : DataW H × List MemPlace} (ht : Try.prog.underlying t = some (.struct fs)) (hc : Try.prog.cellsOf t = 2) (hf2 : ∀ i, i < 2 → (fs[i]?).map (fun f => (f.type, f.offset)) = some (3, i))
    (h : DataW.trod enc Try.prog w base spare held fuel t cs = some x) : ∃ q : List Int, cs = cellsI q ∧ q.length = 2 ∧ Ok64 q := by
  obtain ⟨hl, n, hf⟩ := fields_of ht h
  rw [hc] at hl
  match cs, hl with
  | [x0, x1], _ =>
    obtain ⟨y0, h0⟩ := hf 0 0 3 1 (hf2 0 (by omega)) c3
    obtain ⟨y1, h1⟩ := hf 1 1 3 1 (hf2 1 (by omega)) c3
    obtain ⟨a, rfl, ha⟩ := int_of Try.underlying3 h0
    obtain ⟨b, rfl, hb⟩ := int_of Try.underlying3 h1
    exact ⟨[a, b], rfl, rfl, by simp only [Ok64, List.forall_mem_cons, List.not_mem_nil, false_implies, implies_true, and_true]; exact ⟨ha, hb⟩⟩
theorem ints3_of {t fuel : Nat} {fs : Array Field} {cs : List Value} {x : DataW H × List MemPlace} (ht : Try.prog.underlying t = some (.struct fs)) (hc : Try.prog.cellsOf t = 3) (hf2 : ∀ i, i < 3 → (fs[i]?).map (fun f => (f.type, f.offset)) = some (3, i))
    (h : DataW.trod enc Try.prog w base spare held fuel t cs = some x) : ∃ q : List Int, cs = cellsI q ∧ q.length = 3 ∧ Ok64 q := by
  obtain ⟨hl, n, hf⟩ := fields_of ht h
  rw [hc] at hl
  match cs, hl with
  | [x0, x1, x2], _ =>
    obtain ⟨y0, h0⟩ := hf 0 0 3 1 (hf2 0 (by omega)) c3
    obtain ⟨y1, h1⟩ := hf 1 1 3 1 (hf2 1 (by omega)) c3
    obtain ⟨y2, h2⟩ := hf 2 2 3 1 (hf2 2 (by omega)) c3
    obtain ⟨a, rfl, ha⟩ := int_of Try.underlying3 h0
    obtain ⟨b, rfl, hb⟩ := int_of Try.underlying3 h1
    obtain ⟨c, rfl, hc⟩ := int_of Try.underlying3 h2
    exact ⟨[a, b, c], rfl, rfl, by simp only [Ok64, List.forall_mem_cons, List.not_mem_nil, false_implies, implies_true, and_true]; exact ⟨ha, hb, hc⟩⟩
theorem cap_of {fuel : Nat} {cs : List Value} {x : DataW H × List MemPlace} (h : DataW.trod enc Try.prog w base spare held fuel 159 cs = some x) : ∃ q : List Int, cs = cellsI q ∧ q.length = 9 ∧ Ok64 q := by
  obtain ⟨hl, n, hf⟩ := fields_of Try.underlying159 h
  rw [c159] at hl
  match cs, hl with
  | [x0, x1, x2, x3, x4, x5, x6, x7, x8], _ =>
    obtain ⟨y0, h0⟩ := hf 0 0 3 1 rfl c3
    obtain ⟨y1, h1⟩ := hf 1 1 3 1 rfl c3
    obtain ⟨y2, h2⟩ := hf 2 2 3 1 rfl c3
    obtain ⟨y3, h3⟩ := hf 3 3 3 1 rfl c3
    obtain ⟨y4, h4⟩ := hf 4 4 3 1 rfl c3
    obtain ⟨y5, h5⟩ := hf 5 5 3 1 rfl c3
    obtain ⟨y6, h6⟩ := hf 6 6 3 1 rfl c3
    obtain ⟨y7, h7⟩ := hf 7 7 3 1 rfl c3
    obtain ⟨y8, h8⟩ := hf 8 8 3 1 rfl c3
    obtain ⟨a0, rfl, k0⟩ := int_of Try.underlying3 h0
    obtain ⟨a1, rfl, k1⟩ := int_of Try.underlying3 h1
    obtain ⟨a2, rfl, k2⟩ := int_of Try.underlying3 h2
    obtain ⟨a3, rfl, k3⟩ := int_of Try.underlying3 h3
    obtain ⟨a4, rfl, k4⟩ := int_of Try.underlying3 h4
    obtain ⟨a5, rfl, k5⟩ := int_of Try.underlying3 h5
    obtain ⟨a6, rfl, k6⟩ := int_of Try.underlying3 h6
    obtain ⟨a7, rfl, k7⟩ := int_of Try.underlying3 h7
    obtain ⟨a8, rfl, k8⟩ := int_of Try.underlying3 h8
    exact ⟨[a0, a1, a2, a3, a4, a5, a6, a7, a8], rfl, rfl, by simp only [Ok64, List.forall_mem_cons, List.not_mem_nil, false_implies, implies_true, and_true]; exact ⟨k0, k1, k2, k3, k4, k5, k6, k7, k8⟩⟩

instance : Inhabited Ch := ⟨⟨0, false, []⟩⟩
theorem chan_of {fuel : Nat} {cs : List Value} {x : DataW H × List MemPlace} (h : DataW.trod enc Try.prog w base (fun _ => true) held fuel 141 cs = some x) :
    ∃ (c : Ch) (u : Value), cs = cellsC (c, u) ∧ (-9223372036854775808 ≤ c.t ∧ c.t ≤ 9223372036854775807) ∧ Rd w u c.b ∧ Byt c.b := by
  obtain ⟨hl, n, hf⟩ := fields_of Try.underlying141 h
  rw [c141] at hl
  match cs, hl with
  | [x0, x1, x2], _ =>
    obtain ⟨y0, h0⟩ := hf 0 0 3 1 rfl c3
    obtain ⟨y1, h1⟩ := hf 1 1 4 1 rfl c4
    obtain ⟨y2, h2⟩ := hf 2 2 22 1 rfl c22
    obtain ⟨a, rfl, ha⟩ := int_of Try.underlying3 h0
    obtain ⟨d, hd, _⟩ := DataW.trod_bool Try.underlying4 h1
    obtain ⟨b, hr, hb⟩ := bytes_of h2
    have hd : x1 = .bool d := by simpa using hd
    subst hd
    exact ⟨⟨a, d, b⟩, x2, rfl, ha, hr, hb⟩
theorem chn_of {fuel : Nat} {v : Value} {x : DataW H × List MemPlace} (h : DataW.trod enc Try.prog w base (fun _ => true) held fuel 94 [v] = some x) :
    ∃ xs, Chn w v xs ∧ (∀ c ∈ xs, -9223372036854775808 ≤ c.t ∧ c.t ≤ 9223372036854775807) ∧ (∀ c ∈ xs, Byt c.b) ∧ xs.length ≤ Rows.uptoBulk x.1 := by
  rcases open_slice Try.underlying94 h with ⟨hcs, _⟩ | ⟨a, len, cap, m, n, D, Pl, hcs, hb, hl, hm, hmm, hx, hi⟩
  · injection hcs with hcs
    subst hcs
    exact ⟨[], Chn.nil w, fun x hx => (by cases hx), fun x hx => (by cases hx), Nat.zero_le _⟩
  · injection hcs with hcs
    subst hcs
    simp only [if_true] at hmm
    subst hmm
    rw [c141] at hi
    have key : ∀ i, i < len → ∃ q : Ch × Value, (∀ j u, (cellsC q)[j]? = some u → w.cell? (a.add (i * 3 + j)) = some u) ∧ (-9223372036854775808 ≤ q.1.t ∧ q.1.t ≤ 9223372036854775807) ∧ Rd w q.2 q.1.b ∧ Byt q.1.b := fun i hil => by
      obtain ⟨cs', hc, ht⟩ := hi i (by omega)
      obtain ⟨c, u, rfl, hct, hr, hby⟩ := chan_of ht
      obtain ⟨_, hcl, hat⟩ := World.cells?_some hc
      refine ⟨(c, u), fun j u hj => ?_, hct, hr, hby⟩
      have hjl : j < 3 := by have := (List.getElem?_eq_some_iff.1 hj).1; simpa [cellsC] using this
      rw [← Go.Deep.add_add, hat j hjl]; exact hj
    obtain ⟨f, hf⟩ := choose_lt key
    have hzip : (((List.range len).map fun i => (f i).1).zip ((List.range len).map fun i => (f i).2)) = (List.range len).map f := by
      rw [List.zip_map', List.map_congr_left]; intro i _; rfl
    have hfl : ∀ (l : List Nat), ((l.map f).flatMap cellsC).length = l.length * 3 := fun l => by
      induction l with
      | nil => rfl
      | cons y l ih => simp only [List.map_cons, List.flatMap_cons, List.length_append, ih, List.length_cons]; simp [cellsC]; omega
    refine ⟨(List.range len).map fun i => (f i).1, ⟨(List.range len).map fun i => (f i).2, by simp, ⟨?_, fun u hu => ?_, some a, m, by simp, by simp; omega, by omega, (fun e => by cases e), fun hp => ?_⟩, fun i u c hu hc => ?_⟩, fun c hc => ?_, fun c hc => ?_, ?_⟩
    · rw [hzip]; have := hfl (List.range len); simp only [List.length_map, List.length_range] at this ⊢; exact this
    · rw [hzip] at hu
      obtain ⟨q, hq, hu⟩ := List.mem_flatMap.1 hu
      obtain ⟨i, hi', rfl⟩ := List.mem_map.1 hq
      have hil : i < len := by simpa using hi'
      simp only [List.mem_cons, List.not_mem_nil, or_false] at hu
      rcases hu with rfl | rfl | rfl
      · rfl
      · rfl
      · obtain ⟨_, _, e, _⟩ := (hf i hil).2.2.1
        rw [e]; rfl
    · have hp' : 0 < len := by simpa using hp
      obtain ⟨b, off, spot⟩ := a
      have hspot : spot = none := by
        have := (hf 0 hp').1 0 _ rfl
        simpa [Addr.add] using World.cell?_spot this
      subst hspot
      refine ⟨b, off, rfl, fun j u hj => ?_⟩
      rw [hzip] at hj
      have hj' : (((List.range len).map f).flatMap cellsC)[j]? = some u := hj
      have hjl := (List.getElem?_eq_some_iff.1 hj').1
      rw [hfl, List.length_range] at hjl
      have hil : j / 3 < len := by omega
      have hz : j / 3 < ((List.range len).map f).length := by simpa using hil
      have hat := cellsC_at hz
      have he : j = j / 3 * 3 + j % 3 := by omega
      have hr : j % 3 < 3 := by omega
      have hg : (cellsC (f (j / 3)))[j % 3]? = some u := by
        have : ((List.range len).map f)[j / 3] = f (j / 3) := by simp
        rw [← this, ← hat, List.getElem?_take_of_lt hr, List.getElem?_drop, ← he]; exact hj'
      have := (hf (j / 3) hil).1 _ _ hg
      rw [← he, add_off] at this
      exact this
    · simp only [List.getElem?_map, Option.map_eq_some_iff] at hu hc
      obtain ⟨k, hk, rfl⟩ := hu
      obtain ⟨k', hk', rfl⟩ := hc
      rw [hk] at hk'; injection hk' with hk'; subst hk'
      obtain ⟨hlt, hk⟩ := List.getElem?_eq_some_iff.1 hk
      simp at hk hlt; subst hk
      exact (hf i hlt).2.2.1
    · obtain ⟨i, hi', rfl⟩ := List.mem_map.1 hc
      exact (hf i (by simpa using hi')).2.1
    · obtain ⟨i, hi', rfl⟩ := List.mem_map.1 hc
      exact (hf i (by simpa using hi')).2.2.2
    · rw [hx]
      simp only [Rows.uptoBulk, List.length_map, List.length_range]
      have := bulk_len ((List.range len).map D)
      simp only [List.length_map, List.length_range] at this
      omega
theorem c96 : Try.prog.cellsOf 96 = 15 := by kernel_rfl
theorem cs87 : Try.prog.cellsOf 87 = 1 := by kernel_rfl
theorem cs88 : Try.prog.cellsOf 88 = 1 := by kernel_rfl
theorem cs89 : Try.prog.cellsOf 89 = 1 := by kernel_rfl
theorem cs90 : Try.prog.cellsOf 90 = 1 := by kernel_rfl
theorem cs91 : Try.prog.cellsOf 91 = 1 := by kernel_rfl
theorem cs92 : Try.prog.cellsOf 92 = 1 := by kernel_rfl
theorem cs93 : Try.prog.cellsOf 93 = 1 := by kernel_rfl
theorem cs94 : Try.prog.cellsOf 94 = 1 := by kernel_rfl
theorem map_of {fuel : Nat} {cs : List Value} {x : DataW H × List MemPlace} (h : DataW.trod enc Try.prog w base (fun _ => true) held fuel 96 cs = some x) :
    ∃ (m : MapV) (s : MapS), cs = m.cells s ∧ MapR w m s ∧ m.Ok ∧ (∀ c ∈ m.ch, Byt c.b) ∧ (m.p.length ≤ Rows.uptoBulk x.1 ∧ m.wa.length ≤ Rows.uptoBulk x.1 ∧ m.pa.length ≤ Rows.uptoBulk x.1 ∧ m.re.length ≤ Rows.uptoBulk x.1 ∧ m.ca.length ≤ Rows.uptoBulk x.1 ∧ m.is.length ≤ Rows.uptoBulk x.1 ∧ m.co.length ≤ Rows.uptoBulk x.1 ∧ m.ch.length ≤ Rows.uptoBulk x.1) := by
  obtain ⟨hl, n, hf⟩ := fields_of' Try.underlying96 h
  rw [c96] at hl
  match cs, hl with
  | [x0, x1, x2, x3, x4, x5, x6, x7, x8, x9, x10, x11, x12, x13, x14], _ =>
    obtain ⟨y0, h0, _⟩ := hf 0 0 3 1 rfl c3
    obtain ⟨y1, h1, _⟩ := hf 1 1 3 1 rfl c3
    obtain ⟨y2, h2, _⟩ := hf 2 2 3 1 rfl c3
    obtain ⟨y3, h3, _⟩ := hf 3 3 3 1 rfl c3
    obtain ⟨y4, h4, _⟩ := hf 4 4 3 1 rfl c3
    obtain ⟨y5, h5, _⟩ := hf 5 5 3 1 rfl c3
    obtain ⟨y6, h6, _⟩ := hf 6 6 3 1 rfl c3
    obtain ⟨y7, h7, l7⟩ := hf 7 7 87 1 rfl cs87
    obtain ⟨y8, h8, l8⟩ := hf 8 8 88 1 rfl cs88
    obtain ⟨y9, h9, l9⟩ := hf 9 9 89 1 rfl cs89
    obtain ⟨y10, h10, l10⟩ := hf 10 10 90 1 rfl cs90
    obtain ⟨y11, h11, l11⟩ := hf 11 11 91 1 rfl cs91
    obtain ⟨y12, h12, l12⟩ := hf 12 12 92 1 rfl cs92
    obtain ⟨y13, h13, l13⟩ := hf 13 13 93 1 rfl cs93
    obtain ⟨y14, h14, l14⟩ := hf 14 14 94 1 rfl cs94
    obtain ⟨a0, rfl, k0⟩ := int_of Try.underlying3 h0
    obtain ⟨a1, rfl, k1⟩ := int_of Try.underlying3 h1
    obtain ⟨a2, rfl, k2⟩ := int_of Try.underlying3 h2
    obtain ⟨a3, rfl, k3⟩ := int_of Try.underlying3 h3
    obtain ⟨a4, rfl, k4⟩ := int_of Try.underlying3 h4
    obtain ⟨a5, rfl, k5⟩ := int_of Try.underlying3 h5
    obtain ⟨a6, rfl, k6⟩ := int_of Try.underlying3 h6
    obtain ⟨p, r7, o7, b7⟩ := tab_of Try.underlying87 c37 (by decide) (fun _ _ _ => pt_of') h7
    obtain ⟨wa, r8, o8, b8⟩ := tab_of Try.underlying88 c149 (by decide) (fun _ _ _ => wall_of) h8
    obtain ⟨pa, r9, o9, b9⟩ := tab_of Try.underlying89 c153 (by decide) (fun _ _ _ => ints2_of Try.underlying153 c153 (fun i hi => by match i, hi with | 0, _ => rfl | 1, _ => rfl)) h9
    obtain ⟨re, r10, o10, b10⟩ := tab_of Try.underlying90 c144 (by decide) (fun _ _ _ => region_of) h10
    obtain ⟨ca, r11, o11, b11⟩ := tab_of Try.underlying91 c159 (by decide) (fun _ _ _ => cap_of) h11
    obtain ⟨is, r12, o12, b12⟩ := tab_of Try.underlying92 c163 (by decide) (fun _ _ _ => ints3_of Try.underlying163 c163 (fun i hi => by match i, hi with | 0, _ => rfl | 1, _ => rfl | 2, _ => rfl)) h12
    obtain ⟨co, r13, o13, b13⟩ := tab_of Try.underlying93 c167 (by decide) (fun _ _ _ => ints3_of Try.underlying167 c167 (fun i hi => by match i, hi with | 0, _ => rfl | 1, _ => rfl | 2, _ => rfl)) h13
    obtain ⟨ch, r14, o14, q14, b14⟩ := chn_of h14
    refine ⟨⟨a0, a1, a2, a3, a4, a5, a6, p, wa, pa, re, ca, is, co, ch⟩, ⟨x7, x8, x9, x10, x11, x12, x13, x14⟩, rfl, ⟨r7, r8, r9, r10, r11, r12, r13, r14⟩, ⟨?_, o7, o8, o9, o10, o11, o12, o13, o14⟩, q14, ?_⟩
    · simp only [Ok64, List.forall_mem_cons, List.not_mem_nil, false_implies, implies_true, and_true]; exact ⟨k0, k1, k2, k3, k4, k5, k6⟩
    · dsimp only; omega
end
end Go.Proofs.Ytnhgjgoglmadnaa
namespace Go.Proofs.Ytnhgjgoglmadnaa
open Go.RowKit
set_option linter.unusedVariables false

def Stp (k : Nat) (s s' : W8) : Prop := (Byt s.l → Byt s'.l) ∧ s'.l.length ≤ s.l.length + k ∧ (s.bad = true → s'.bad = true)
theorem Stp.refl (s : W8) : Stp 0 s s := ⟨id, Nat.le_refl _, id⟩
theorem Stp.trans {j k : Nat} {s t u : W8} (h : Stp j s t) (g : Stp k t u) : Stp (j + k) s u := ⟨fun b => g.1 (h.1 b), by have := h.2.1; have := g.2.1; omega, fun b => g.2.2 (h.2.2 b)⟩
theorem Stp.mono {j k : Nat} {s t : W8} (h : Stp j s t) (hk : j ≤ k) : Stp k s t := ⟨h.1, by have := h.2.1; omega, h.2.2⟩
theorem Stp.num (s : W8) (n k : Int) : Stp 8 s (s.num n k) := by
  unfold W8.num
  split
  · rename_i h
    simp only [fits, decide_eq_true_eq] at h
    exact ⟨fun b => b.append (be_byt _ _), by simp [be_length]; omega, id⟩
  · exact ⟨id, by simp, fun _ => rfl⟩
theorem Stp.pt (s : W8) (x y : Int) : Stp 16 s (s.pt x y) := (Stp.num s x 3).trans (Stp.num _ y 3)
theorem Stp.tri (s : W8) (ax ay bx by' cx cy : Int) : Stp 48 s (s.tri ax ay bx by' cx cy) := ((Stp.pt s ax ay).trans (Stp.pt _ bx by')).trans (Stp.pt _ cx cy)
theorem Stp.raw (s : W8) {xs : List Int} (h : Byt xs) : Stp xs.length s (s.raw xs) := ⟨fun b => b.append h, by simp [W8.raw], id⟩

theorem Stp.wP (s : W8) : ∀ x, Stp 16 s (wP s x)
  | [a0, a1] => (Stp.pt s a0 a1)
  | [] => (Stp.refl s).mono (by omega)
  | [_] => (Stp.refl s).mono (by omega)
  | _ :: _ :: _ :: _ => (Stp.refl s).mono (by omega)
theorem Stp.wW (s : W8) : ∀ x, Stp 40 s (wW s x)
  | [a0, a1, a2, a3, a4] => (((Stp.pt s a0 a1).trans (Stp.pt _ a2 a3)).trans (Stp.num _ _ _))
  | [] => (Stp.refl s).mono (by omega)
  | [_] => (Stp.refl s).mono (by omega)
  | [_, _] => (Stp.refl s).mono (by omega)
  | [_, _, _] => (Stp.refl s).mono (by omega)
  | [_, _, _, _] => (Stp.refl s).mono (by omega)
  | _ :: _ :: _ :: _ :: _ :: _ :: _ => (Stp.refl s).mono (by omega)
theorem Stp.wPa (s : W8) : ∀ x, Stp 16 s (wPa s x)
  | [a0, a1] => ((Stp.num s _ _).trans (Stp.num _ _ _))
  | [] => (Stp.refl s).mono (by omega)
  | [_] => (Stp.refl s).mono (by omega)
  | _ :: _ :: _ :: _ => (Stp.refl s).mono (by omega)
theorem Stp.wRe (s : W8) : ∀ x, Stp 80 s (wRe s x)
  | [a0, a1, a2, a3, a4, a5, a6, a7, a8, a9] => (((((Stp.num s _ _).trans (Stp.num _ _ _)).trans (Stp.num _ _ _)).trans (Stp.num _ _ _)).trans (Stp.tri _ a4 a5 a6 a7 a8 a9))
  | [] => (Stp.refl s).mono (by omega)
  | [_] => (Stp.refl s).mono (by omega)
  | [_, _] => (Stp.refl s).mono (by omega)
  | [_, _, _] => (Stp.refl s).mono (by omega)
  | [_, _, _, _] => (Stp.refl s).mono (by omega)
  | [_, _, _, _, _] => (Stp.refl s).mono (by omega)
  | [_, _, _, _, _, _] => (Stp.refl s).mono (by omega)
  | [_, _, _, _, _, _, _] => (Stp.refl s).mono (by omega)
  | [_, _, _, _, _, _, _, _] => (Stp.refl s).mono (by omega)
  | [_, _, _, _, _, _, _, _, _] => (Stp.refl s).mono (by omega)
  | _ :: _ :: _ :: _ :: _ :: _ :: _ :: _ :: _ :: _ :: _ :: _ => (Stp.refl s).mono (by omega)
theorem Stp.wCa (s : W8) : ∀ x, Stp 72 s (wCa s x)
  | [a0, a1, a2, a3, a4, a5, a6, a7, a8] => (((((((((Stp.num s _ _).trans (Stp.num _ _ _)).trans (Stp.num _ _ _)).trans (Stp.num _ _ _)).trans (Stp.num _ _ _)).trans (Stp.num _ _ _)).trans (Stp.num _ _ _)).trans (Stp.num _ _ _)).trans (Stp.num _ _ _))
  | [] => (Stp.refl s).mono (by omega)
  | [_] => (Stp.refl s).mono (by omega)
  | [_, _] => (Stp.refl s).mono (by omega)
  | [_, _, _] => (Stp.refl s).mono (by omega)
  | [_, _, _, _] => (Stp.refl s).mono (by omega)
  | [_, _, _, _, _] => (Stp.refl s).mono (by omega)
  | [_, _, _, _, _, _] => (Stp.refl s).mono (by omega)
  | [_, _, _, _, _, _, _] => (Stp.refl s).mono (by omega)
  | [_, _, _, _, _, _, _, _] => (Stp.refl s).mono (by omega)
  | _ :: _ :: _ :: _ :: _ :: _ :: _ :: _ :: _ :: _ :: _ => (Stp.refl s).mono (by omega)
theorem Stp.wIs (s : W8) : ∀ x, Stp 24 s (wIs s x)
  | [a0, a1, a2] => (((Stp.num s _ _).trans (Stp.num _ _ _)).trans (Stp.num _ _ _))
  | [] => (Stp.refl s).mono (by omega)
  | [_] => (Stp.refl s).mono (by omega)
  | [_, _] => (Stp.refl s).mono (by omega)
  | _ :: _ :: _ :: _ :: _ => (Stp.refl s).mono (by omega)
theorem Stp.wCo (s : W8) : ∀ x, Stp 24 s (wCo s x)
  | [a0, a1, a2] => (((Stp.num s _ _).trans (Stp.num _ _ _)).trans (Stp.num _ _ _))
  | [] => (Stp.refl s).mono (by omega)
  | [_] => (Stp.refl s).mono (by omega)
  | [_, _] => (Stp.refl s).mono (by omega)
  | _ :: _ :: _ :: _ :: _ => (Stp.refl s).mono (by omega)
theorem Stp.list {f : W8 → List Int → W8} {k : Nat} (hf : ∀ s x, Stp k s (f s x)) : ∀ (xs : List (List Int)) (s : W8), Stp (xs.length * k) s (xs.foldl f s)
  | [], s => (Stp.refl s).mono (by omega)
  | x :: xs, s => ((hf s x).trans (Stp.list hf xs (f s x))).mono (by simp only [List.length_cons, Nat.succ_mul]; omega)
theorem Stp.encL {f : W8 → List Int → W8} {k : Nat} (hf : ∀ s x, Stp k s (f s x)) (xs : List (List Int)) (s : W8) : Stp (8 + xs.length * k) s (Go.Proofs.Ytnhgjgoglmadnaa.encL f s xs) := (Stp.num s _ _).trans (Stp.list hf xs _)
theorem Stp.wCh (s : W8) {c : Ch} (h : Byt c.b) : Stp (24 + c.b.length) s (Go.Proofs.Ytnhgjgoglmadnaa.wCh s c) := (((Stp.num s _ _).trans (Stp.num _ _ _)).trans (Stp.num _ _ _)).trans (Stp.raw _ h)
theorem Stp.chs : ∀ (cs : List Ch) (s : W8), (∀ c ∈ cs, Byt c.b) → Stp (roomC cs) s (cs.foldl Go.Proofs.Ytnhgjgoglmadnaa.wCh s)
  | [], s, _ => Stp.refl s
  | c :: cs, s, h => (Stp.wCh s (h c (by simp))).trans (Stp.chs cs _ fun x hx => h x (by simp [hx]))
theorem MapV.enc_stp (m : MapV) (h : ∀ c ∈ m.ch, Byt c.b) : Byt m.enc.l ∧ m.enc.l.length ≤ m.room := by
  have h0 : Stp 56 ⟨[], false⟩ m.nums := ((((((Stp.num _ _ _).trans (Stp.num _ _ _)).trans (Stp.num _ _ _)).trans (Stp.num _ _ _)).trans (Stp.num _ _ _)).trans (Stp.num _ _ _)).trans (Stp.num _ _ _)
  have h1 := h0.trans (Stp.encL Stp.wP m.p m.nums)
  have h2 := h1.trans (Stp.encL Stp.wW m.wa _)
  have h3 := h2.trans (Stp.encL Stp.wPa m.pa _)
  have h4 := h3.trans (Stp.encL Stp.wRe m.re _)
  have h5 := h4.trans (Stp.encL Stp.wCa m.ca _)
  have h6 := h5.trans (Stp.encL Stp.wIs m.is _)
  have h7 := h6.trans (Stp.encL Stp.wCo m.co _)
  have h8 := (h7.trans (Stp.num _ m.ch.length 2)).trans (Stp.chs m.ch _ h)
  refine ⟨h8.1 Byt.nil, Nat.le_trans h8.2.1 ?_⟩
  unfold MapV.room
  simp only [List.length_nil]
  omega
theorem MapV.bytes_byt (m : MapV) (h : ∀ c ∈ m.ch, Byt c.b) : Byt m.bytes := by
  unfold MapV.bytes; split
  · exact Byt.nil
  · exact (m.enc_stp h).1
end Go.Proofs.Ytnhgjgoglmadnaa
namespace Go.Proofs.Ytnhgjgoglmadnaa
open Go.RowKit
set_option maxRecDepth 100000
set_option linter.unusedSimpArgs false
set_option linter.unusedVariables false
set_option pp.maxSteps 1500
set_option pp.deepTerms.threshold 8

def two (r q : Res) : Res where
  on w A := ∃ B C, r.on w B ∧ q.on w C ∧ (∀ x, B x → ¬ C x) ∧ A = fun x => B x ∨ C x
  rd x := r.rd x ∨ q.rd x
  fact w := r.fact w ∧ q.fact w
  lt := fun ⟨B, C, h1, h2, _, e⟩ x hx => by subst e; exact hx.elim (r.lt h1 x) (q.lt h2 x)
  chg := fun {w w' A} ⟨B, C, h1, h2, h3, e⟩ hs hc => ⟨B, C, r.chg h1 hs fun x hx h => hc x hx (h.elim (fun h => .inl (by rw [e]; exact .inl h)) fun h => .inr (.inl h)), q.chg h2 hs fun x hx h => hc x hx (h.elim (fun h => .inl (by rw [e]; exact .inr h)) fun h => .inr (.inr h)), h3, e⟩
  ok := fun ⟨B, C, h1, h2, _, _⟩ => ⟨r.ok h1, q.ok h2⟩
theorem two_fact (r q : Res) (w : World) : (two r q).fact w = (r.fact w ∧ q.fact w) := (rfl)
theorem Sep.two (i j : Nat) {w0 w : World} {S : Nat → Prop} {M : List Res} {r q : Res} (h : Sep w0 S M w) (hi : (M.set j emp)[i]? = some r) (hj : M[j]? = some q) : Sep w0 S ((M.set j emp).set i (Go.Proofs.Ytnhgjgoglmadnaa.two r q)) w :=
  h.join i j hi hj (fun A B h1 h2 hd => ⟨A, B, h1, h2, hd, rfl⟩) fun x hx => hx
theorem Sep.emp {w0 w : World} {S : Nat → Prop} {M : List Res} (h : Sep w0 S M w) : Sep w0 S (M ++ [Go.Proofs.Ytnhgjgoglmadnaa.emp]) w := h.push (Chg.refl _ _) (A := fun _ => False) rfl (fun _ f => f.elim) (fun _ f => f.elim)
def mapX (m : MapV) (s : MapS) : Res := two (two (two (two (two (two (two (two emp (tab 37 2 s.p m.p)) (tab 149 5 s.wa m.wa)) (tab 153 2 s.pa m.pa)) (tab 144 10 s.re m.re)) (tab 159 9 s.ca m.ca)) (tab 163 3 s.is m.is)) (tab 167 3 s.co m.co)) (chn s.ch m.ch)
theorem mapX_fact (m : MapV) (s : MapS) (w : World) : (mapX m s).fact w = MapR w m s := by
  simp only [mapX, two_fact, emp_fact, tab_fact, chn_fact, true_and, and_assoc]
  exact propext ⟨fun ⟨a, b, c, d, e, f, g, h⟩ => ⟨a, b, c, d, e, f, g, h⟩, fun ⟨a, b, c, d, e, f, g, h⟩ => ⟨a, b, c, d, e, f, g, h⟩⟩
theorem mapX_rd (m : MapV) (s : MapS) (x : Nat) : ¬ (mapX m s).rd x := by
  simp [mapX, two, Go.Proofs.Ytnhgjgoglmadnaa.emp, tab, chn]
def MapV.zero : MapV := ⟨0, 0, 0, 0, 0, 0, 0, [], [], [], [], [], [], [], []⟩
def MapS.zero : MapS := ⟨.slice none 0 0, .slice none 0 0, .slice none 0 0, .slice none 0 0, .slice none 0 0, .slice none 0 0, .slice none 0 0, .slice none 0 0⟩
theorem Sep.mapZero {w0 w : World} {S : Nat → Prop} {M : List Res} (h : Sep w0 S M w) : Sep w0 S [mapX MapV.zero MapS.zero] w :=
  ((((((((((((((((h.none.emp.tabNil 37 2).two 0 1 rfl rfl).erase 1).tabNil 149 5).two 0 1 rfl rfl).erase 1).tabNil 153 2).two 0 1 rfl rfl).erase 1).tabNil 144 10).two 0 1 rfl rfl).erase 1).tabNil 159 9).two 0 1 rfl rfl).erase 1).tabNil 163 3).two 0 1 rfl rfl |>.erase 1 |>.tabNil 167 3 |>.two 0 1 rfl rfl |>.erase 1 |>.chnNil |>.two 0 1 rfl rfl |>.erase 1

theorem bytesEq (u v : Value) (xs ys : List Int) (w : World) (h1 : Rd w u xs) (h2 : Rd w v ys) (b1 : Byt xs) (b2 : Byt ys) : Calls Try.prog 114 [u, v].toArray w (RetK fun r w' => r = .bool (decide (xs = ys)) ∧ Chg (fun _ => False) w w') := by
  refine walk Try.func114 rfl (by kernel_rfl) (by rw [Try.nt114]; simp) ?_
  have es := strOfNums_eq b1 b2
  simp -dsimp only [↓vcA, vcB, vcD, ↓pureT_lenS, ↓iteT, ↓iteF, cond_true, cond_false, eq_self, argE, Env.get, Env.push, ev, evs, evo, retV, Value.cells, Value.oneCell', setR, overR, fillL, zl, places, allSizes, heldC, ne_eq, Int.reduceLE, Int.reduceLT, Int.reduceEq, Int.reduceNe, Int.reduceToNat, Int.cast_ofNat_Int, Nat.reduceMul, Nat.reduceLeDiff, reduceIte, Nat.reduceEqDiff, Nat.reduceAdd, ↓reduceIte, Try.vcT]
  refine str_rule h1 ?_
  simp -dsimp only [↓vcA, vcB, vcD, ↓pureT_lenS, ↓iteT, ↓iteF, cond_true, cond_false, eq_self, argE, Env.get, Env.push, ev, evs, evo, retV, Value.cells, Value.oneCell', setR, overR, fillL, zl, places, allSizes, heldC, ne_eq, Int.reduceLE, Int.reduceLT, Int.reduceEq, Int.reduceNe, Int.reduceToNat, Int.cast_ofNat_Int, Nat.reduceMul, Nat.reduceLeDiff, reduceIte, Nat.reduceEqDiff, Nat.reduceAdd, ↓reduceIte, Try.vcT]
  refine str_rule h2 ?_
  simp -dsimp only [↓vcA, vcB, vcD, ↓pureT_lenS, ↓iteT, ↓iteF, cond_true, cond_false, eq_self, argE, Env.get, Env.push, ev, evs, evo, retV, Value.cells, Value.oneCell', setR, overR, fillL, zl, places, allSizes, heldC, ne_eq, Int.reduceLE, Int.reduceLT, Int.reduceEq, Int.reduceNe, Int.reduceToNat, Int.cast_ofNat_Int, Nat.reduceMul, Nat.reduceLeDiff, reduceIte, Nat.reduceEqDiff, Nat.reduceAdd, ↓reduceIte, Try.vcT, es]
  exact Chg.refl _ _

def decOk (b : List Int) : Bool := (dE ⟨b, false⟩).done && (!(dV ⟨b, false⟩).fails && decide ((dV ⟨b, false⟩).bytes = b))
def dec (b : List Int) : MapV := if decOk b then dV ⟨b, false⟩ else MapV.zero
set_option maxHeartbeats 1000000 in
theorem decode60 (v : Value) (b : List Int) (w : World) (hr : Rd w v b) (hb : Byt b) (hl : b.length ≤ 99000) :
    Calls Try.prog 60 [v].toArray w (RetK fun r w' => ∃ N, Sep w (fun _ => False) N w' ∧ (∀ q ∈ N, ∀ x, ¬ q.rd x) ∧
      ∃ s, r = .tuple #[.agg ((dec b).cells s).toArray, .int .i64 (if decOk b then 0 else 2)] ∧ N = [mapX (dec b) s]) := by
  have hr' := hr
  obtain ⟨a, cc, rfl, _⟩ := hr'
  have hlen : ¬ (1048576 : Int) < b.length := by omega
  have h := Sep.nil w
  refine walk Try.func60 rfl (by kernel_rfl) (by rw [Try.nt60]; simp) ?_
  (try simp only [nfD] at h); have F := h.facts; (try simp only [nfF, emp_fact, rds_fact, frm_fact, tab_fact, chn_fact, mapX_fact, two_fact] at F)
  simp -dsimp only [↓vcA, vcB, vcD, ↓pureT_lenS, ↓iteT, ↓iteF, cond_true, cond_false, eq_self, argE, Env.get, Env.push, ev, evs, evo, retV, Value.cells, Value.oneCell', setR, overR, fillL, zl, places, allSizes, heldC, ne_eq, Int.reduceLE, Int.reduceLT, Int.reduceEq, Int.reduceNe, Int.reduceToNat, Int.cast_ofNat_Int, Nat.reduceMul, Nat.reduceLeDiff, reduceIte, Nat.reduceEqDiff, Nat.reduceAdd, ↓reduceIte, Try.vcT]
  refine h.new ?_
  clear h F
  intro w1 b1 h
  (try simp only [nfD] at h); have F := h.facts; (try simp only [nfF, emp_fact, rds_fact, frm_fact, tab_fact, chn_fact, mapX_fact, two_fact] at F); try simp -dsimp only [↓vcA, vcB, vcD, ↓pureT_lenS, ↓iteT, ↓iteF, cond_true, cond_false, eq_self, argE, Env.get, Env.push, ev, evs, evo, retV, Value.cells, Value.oneCell', setR, overR, fillL, zl, places, allSizes, heldC, ne_eq, Int.reduceLE, Int.reduceLT, Int.reduceEq, Int.reduceNe, Int.reduceToNat, Int.cast_ofNat_Int, Nat.reduceMul, Nat.reduceLeDiff, reduceIte, Nat.reduceEqDiff, Nat.reduceAdd, ↓reduceIte, Try.vcT, F, h.cell0, gets, vsD, if_true, if_false, Bool.false_eq_true,  decide_eq_false hlen]
  refine Sep.read b h (hr.sep h fun _ _ => id) (by omega) ?_
  clear h F
  intro r w2 h
  (try simp only [nfD] at h); have F := h.facts; (try simp only [nfF, emp_fact, rds_fact, frm_fact, tab_fact, chn_fact, mapX_fact, two_fact] at F); try simp -dsimp only [↓vcA, vcB, vcD, ↓pureT_lenS, ↓iteT, ↓iteF, cond_true, cond_false, eq_self, argE, Env.get, Env.push, ev, evs, evo, retV, Value.cells, Value.oneCell', setR, overR, fillL, zl, places, allSizes, heldC, ne_eq, Int.reduceLE, Int.reduceLT, Int.reduceEq, Int.reduceNe, Int.reduceToNat, Int.cast_ofNat_Int, Nat.reduceMul, Nat.reduceLeDiff, reduceIte, Nat.reduceEqDiff, Nat.reduceAdd, ↓reduceIte, Try.vcT, F, h.cell0, gets, vsD, if_true, if_false, Bool.false_eq_true]
  refine h.new ?_
  clear h F
  intro w3 c h
  (try simp only [nfD] at h); have F := h.facts; (try simp only [nfF, emp_fact, rds_fact, frm_fact, tab_fact, chn_fact, mapX_fact, two_fact] at F); try simp -dsimp only [↓vcA, vcB, vcD, ↓pureT_lenS, ↓iteT, ↓iteF, cond_true, cond_false, eq_self, argE, Env.get, Env.push, ev, evs, evo, retV, Value.cells, Value.oneCell', setR, overR, fillL, zl, places, allSizes, heldC, ne_eq, Int.reduceLE, Int.reduceLT, Int.reduceEq, Int.reduceNe, Int.reduceToNat, Int.cast_ofNat_Int, Nat.reduceMul, Nat.reduceLeDiff, reduceIte, Nat.reduceEqDiff, Nat.reduceAdd, ↓reduceIte, Try.vcT, F, h.cell0, gets, vsD, if_true, if_false, Bool.false_eq_true]
  refine Sep.put 2 h rfl ?_
  clear h F
  intro w3' h
  (try simp only [nfD] at h); have F := h.facts; (try simp only [nfF, emp_fact, rds_fact, frm_fact, tab_fact, chn_fact, mapX_fact, two_fact] at F); try simp -dsimp only [↓vcA, vcB, vcD, ↓pureT_lenS, ↓iteT, ↓iteF, cond_true, cond_false, eq_self, argE, Env.get, Env.push, ev, evs, evo, retV, Value.cells, Value.oneCell', setR, overR, fillL, zl, places, allSizes, heldC, ne_eq, Int.reduceLE, Int.reduceLT, Int.reduceEq, Int.reduceNe, Int.reduceToNat, Int.cast_ofNat_Int, Nat.reduceMul, Nat.reduceLeDiff, reduceIte, Nat.reduceEqDiff, Nat.reduceAdd, ↓reduceIte, Try.vcT, F, h.cell0, gets, vsD, if_true, if_false, Bool.false_eq_true]
  refine walkDraw (.h 0 0 (.h 2 1 (.h 4 2 (.h 6 3 (.h 8 4 (.h 10 5 (.h 12 6 (.l 1 (.l 3 (.l 5 (.l 7 (.l 9 (.l 11 (.l 13 (.q 14 (.l 15 .fin)))))))))))))))) [(c, 0, .pointer (some ⟨r, 0, none⟩)), (c, 0, .pointer (some ⟨r, 0, none⟩)), (c, 0, .pointer (some ⟨r, 0, none⟩)), (c, 0, .pointer (some ⟨r, 0, none⟩)), (c, 0, .pointer (some ⟨r, 0, none⟩)), (c, 0, .pointer (some ⟨r, 0, none⟩)), (c, 0, .pointer (some ⟨r, 0, none⟩))] (by kernel_rfl) (by simp [Holds_nil, Holds_cons, F]) ?_
  refine h.draw ?_
  clear h F
  intro w4 h
  (try simp only [nfD] at h); have F := h.facts; (try simp only [nfF, emp_fact, rds_fact, frm_fact, tab_fact, chn_fact, mapX_fact, two_fact] at F); try simp -dsimp only [↓vcA, vcB, vcD, ↓pureT_lenS, ↓iteT, ↓iteF, cond_true, cond_false, eq_self, argE, Env.get, Env.push, ev, evs, evo, retV, Value.cells, Value.oneCell', setR, overR, fillL, zl, places, allSizes, heldC, ne_eq, Int.reduceLE, Int.reduceLT, Int.reduceEq, Int.reduceNe, Int.reduceToNat, Int.cast_ofNat_Int, Nat.reduceMul, Nat.reduceLeDiff, reduceIte, Nat.reduceEqDiff, Nat.reduceAdd, ↓reduceIte, Try.vcT, F, h.cell0, gets, vsD, if_true, if_false, Bool.false_eq_true]
  repeat ((first | refine Sep.new h ?_ | refine Sep.put 0 h rfl ?_ | refine Sep.put 1 h rfl ?_ | refine Sep.put 2 h rfl ?_ | refine Sep.put 3 h rfl ?_ | refine Sep.put 4 h rfl ?_ | refine Sep.put 5 h rfl ?_ | refine Sep.rdNum 1 h rfl ?_); (clear F; (try clear h); intros; rename_i h; (try simp only [nfD] at h); have F := h.facts; (try simp only [nfF, emp_fact, rds_fact, frm_fact, tab_fact, chn_fact, mapX_fact, two_fact] at F); try simp -dsimp only [↓vcA, vcB, vcD, ↓pureT_lenS, ↓iteT, ↓iteF, cond_true, cond_false, eq_self, argE, Env.get, Env.push, ev, evs, evo, retV, Value.cells, Value.oneCell', setR, overR, fillL, zl, places, allSizes, heldC, ne_eq, Int.reduceLE, Int.reduceLT, Int.reduceEq, Int.reduceNe, Int.reduceToNat, Int.cast_ofNat_Int, Nat.reduceMul, Nat.reduceLeDiff, reduceIte, Nat.reduceEqDiff, Nat.reduceAdd, ↓reduceIte, Try.vcT, F, h.cell0, gets, vsD, if_true, if_false, Bool.false_eq_true]))
  have h := h.emp
  generalize hS : (R8.mk b false) = S at *
  have hSb : Byt S.l := by rw [← hS]; exact hb
  change Sep w _ [_, rdr _ r (dN S) _, _, _] _ at h
  refine itemsP h (dN_byt hSb) ?_
  clear h F
  intro aP cP w5 h
  have h := (h.two 3 4 rfl rfl).erase 4
  (try simp only [nfD] at h); have F := h.facts; (try simp only [nfF, emp_fact, rds_fact, frm_fact, tab_fact, chn_fact, mapX_fact, two_fact] at F); try simp -dsimp only [↓vcA, vcB, vcD, ↓pureT_lenS, ↓iteT, ↓iteF, cond_true, cond_false, eq_self, argE, Env.get, Env.push, ev, evs, evo, retV, Value.cells, Value.oneCell', setR, overR, fillL, zl, places, allSizes, heldC, ne_eq, Int.reduceLE, Int.reduceLT, Int.reduceEq, Int.reduceNe, Int.reduceToNat, Int.cast_ofNat_Int, Nat.reduceMul, Nat.reduceLeDiff, reduceIte, Nat.reduceEqDiff, Nat.reduceAdd, ↓reduceIte, Try.vcT, F, h.cell0, gets, vsD, if_true, if_false, Bool.false_eq_true]
  refine Sep.put 0 h rfl ?_
  clear h F
  intro w6 h
  (try simp only [nfD] at h); have F := h.facts; (try simp only [nfF, emp_fact, rds_fact, frm_fact, tab_fact, chn_fact, mapX_fact, two_fact] at F); try simp -dsimp only [↓vcA, vcB, vcD, ↓pureT_lenS, ↓iteT, ↓iteF, cond_true, cond_false, eq_self, argE, Env.get, Env.push, ev, evs, evo, retV, Value.cells, Value.oneCell', setR, overR, fillL, zl, places, allSizes, heldC, ne_eq, Int.reduceLE, Int.reduceLT, Int.reduceEq, Int.reduceNe, Int.reduceToNat, Int.cast_ofNat_Int, Nat.reduceMul, Nat.reduceLeDiff, reduceIte, Nat.reduceEqDiff, Nat.reduceAdd, ↓reduceIte, Try.vcT, F, h.cell0, gets, vsD, if_true, if_false, Bool.false_eq_true]
  change Sep w _ [_, rdr _ r (d1 S) _, _, _] _ at h
  refine itemsW h (d1_byt hSb) ?_
  clear h F
  intro aW cW w5 h
  have h := (h.two 3 4 rfl rfl).erase 4
  (try simp only [nfD] at h); have F := h.facts; (try simp only [nfF, emp_fact, rds_fact, frm_fact, tab_fact, chn_fact, mapX_fact, two_fact] at F); try simp -dsimp only [↓vcA, vcB, vcD, ↓pureT_lenS, ↓iteT, ↓iteF, cond_true, cond_false, eq_self, argE, Env.get, Env.push, ev, evs, evo, retV, Value.cells, Value.oneCell', setR, overR, fillL, zl, places, allSizes, heldC, ne_eq, Int.reduceLE, Int.reduceLT, Int.reduceEq, Int.reduceNe, Int.reduceToNat, Int.cast_ofNat_Int, Nat.reduceMul, Nat.reduceLeDiff, reduceIte, Nat.reduceEqDiff, Nat.reduceAdd, ↓reduceIte, Try.vcT, F, h.cell0, gets, vsD, if_true, if_false, Bool.false_eq_true]
  refine Sep.put 0 h rfl ?_
  clear h F
  intro w6 h
  (try simp only [nfD] at h); have F := h.facts; (try simp only [nfF, emp_fact, rds_fact, frm_fact, tab_fact, chn_fact, mapX_fact, two_fact] at F); try simp -dsimp only [↓vcA, vcB, vcD, ↓pureT_lenS, ↓iteT, ↓iteF, cond_true, cond_false, eq_self, argE, Env.get, Env.push, ev, evs, evo, retV, Value.cells, Value.oneCell', setR, overR, fillL, zl, places, allSizes, heldC, ne_eq, Int.reduceLE, Int.reduceLT, Int.reduceEq, Int.reduceNe, Int.reduceToNat, Int.cast_ofNat_Int, Nat.reduceMul, Nat.reduceLeDiff, reduceIte, Nat.reduceEqDiff, Nat.reduceAdd, ↓reduceIte, Try.vcT, F, h.cell0, gets, vsD, if_true, if_false, Bool.false_eq_true]
  change Sep w _ [_, rdr _ r (d2 S) _, _, _] _ at h
  refine itemsPa h (d2_byt hSb) ?_
  clear h F
  intro aPa cPa w5 h
  have h := (h.two 3 4 rfl rfl).erase 4
  (try simp only [nfD] at h); have F := h.facts; (try simp only [nfF, emp_fact, rds_fact, frm_fact, tab_fact, chn_fact, mapX_fact, two_fact] at F); try simp -dsimp only [↓vcA, vcB, vcD, ↓pureT_lenS, ↓iteT, ↓iteF, cond_true, cond_false, eq_self, argE, Env.get, Env.push, ev, evs, evo, retV, Value.cells, Value.oneCell', setR, overR, fillL, zl, places, allSizes, heldC, ne_eq, Int.reduceLE, Int.reduceLT, Int.reduceEq, Int.reduceNe, Int.reduceToNat, Int.cast_ofNat_Int, Nat.reduceMul, Nat.reduceLeDiff, reduceIte, Nat.reduceEqDiff, Nat.reduceAdd, ↓reduceIte, Try.vcT, F, h.cell0, gets, vsD, if_true, if_false, Bool.false_eq_true]
  refine Sep.put 0 h rfl ?_
  clear h F
  intro w6 h
  (try simp only [nfD] at h); have F := h.facts; (try simp only [nfF, emp_fact, rds_fact, frm_fact, tab_fact, chn_fact, mapX_fact, two_fact] at F); try simp -dsimp only [↓vcA, vcB, vcD, ↓pureT_lenS, ↓iteT, ↓iteF, cond_true, cond_false, eq_self, argE, Env.get, Env.push, ev, evs, evo, retV, Value.cells, Value.oneCell', setR, overR, fillL, zl, places, allSizes, heldC, ne_eq, Int.reduceLE, Int.reduceLT, Int.reduceEq, Int.reduceNe, Int.reduceToNat, Int.cast_ofNat_Int, Nat.reduceMul, Nat.reduceLeDiff, reduceIte, Nat.reduceEqDiff, Nat.reduceAdd, ↓reduceIte, Try.vcT, F, h.cell0, gets, vsD, if_true, if_false, Bool.false_eq_true]
  change Sep w _ [_, rdr _ r (d3 S) _, _, _] _ at h
  refine itemsRe h (d3_byt hSb) ?_
  clear h F
  intro aRe cRe w5 h
  have h := (h.two 3 4 rfl rfl).erase 4
  (try simp only [nfD] at h); have F := h.facts; (try simp only [nfF, emp_fact, rds_fact, frm_fact, tab_fact, chn_fact, mapX_fact, two_fact] at F); try simp -dsimp only [↓vcA, vcB, vcD, ↓pureT_lenS, ↓iteT, ↓iteF, cond_true, cond_false, eq_self, argE, Env.get, Env.push, ev, evs, evo, retV, Value.cells, Value.oneCell', setR, overR, fillL, zl, places, allSizes, heldC, ne_eq, Int.reduceLE, Int.reduceLT, Int.reduceEq, Int.reduceNe, Int.reduceToNat, Int.cast_ofNat_Int, Nat.reduceMul, Nat.reduceLeDiff, reduceIte, Nat.reduceEqDiff, Nat.reduceAdd, ↓reduceIte, Try.vcT, F, h.cell0, gets, vsD, if_true, if_false, Bool.false_eq_true]
  refine Sep.put 0 h rfl ?_
  clear h F
  intro w6 h
  (try simp only [nfD] at h); have F := h.facts; (try simp only [nfF, emp_fact, rds_fact, frm_fact, tab_fact, chn_fact, mapX_fact, two_fact] at F); try simp -dsimp only [↓vcA, vcB, vcD, ↓pureT_lenS, ↓iteT, ↓iteF, cond_true, cond_false, eq_self, argE, Env.get, Env.push, ev, evs, evo, retV, Value.cells, Value.oneCell', setR, overR, fillL, zl, places, allSizes, heldC, ne_eq, Int.reduceLE, Int.reduceLT, Int.reduceEq, Int.reduceNe, Int.reduceToNat, Int.cast_ofNat_Int, Nat.reduceMul, Nat.reduceLeDiff, reduceIte, Nat.reduceEqDiff, Nat.reduceAdd, ↓reduceIte, Try.vcT, F, h.cell0, gets, vsD, if_true, if_false, Bool.false_eq_true]
  change Sep w _ [_, rdr _ r (d4 S) _, _, _] _ at h
  refine itemsCa h (d4_byt hSb) ?_
  clear h F
  intro aCa cCa w5 h
  have h := (h.two 3 4 rfl rfl).erase 4
  (try simp only [nfD] at h); have F := h.facts; (try simp only [nfF, emp_fact, rds_fact, frm_fact, tab_fact, chn_fact, mapX_fact, two_fact] at F); try simp -dsimp only [↓vcA, vcB, vcD, ↓pureT_lenS, ↓iteT, ↓iteF, cond_true, cond_false, eq_self, argE, Env.get, Env.push, ev, evs, evo, retV, Value.cells, Value.oneCell', setR, overR, fillL, zl, places, allSizes, heldC, ne_eq, Int.reduceLE, Int.reduceLT, Int.reduceEq, Int.reduceNe, Int.reduceToNat, Int.cast_ofNat_Int, Nat.reduceMul, Nat.reduceLeDiff, reduceIte, Nat.reduceEqDiff, Nat.reduceAdd, ↓reduceIte, Try.vcT, F, h.cell0, gets, vsD, if_true, if_false, Bool.false_eq_true]
  refine Sep.put 0 h rfl ?_
  clear h F
  intro w6 h
  (try simp only [nfD] at h); have F := h.facts; (try simp only [nfF, emp_fact, rds_fact, frm_fact, tab_fact, chn_fact, mapX_fact, two_fact] at F); try simp -dsimp only [↓vcA, vcB, vcD, ↓pureT_lenS, ↓iteT, ↓iteF, cond_true, cond_false, eq_self, argE, Env.get, Env.push, ev, evs, evo, retV, Value.cells, Value.oneCell', setR, overR, fillL, zl, places, allSizes, heldC, ne_eq, Int.reduceLE, Int.reduceLT, Int.reduceEq, Int.reduceNe, Int.reduceToNat, Int.cast_ofNat_Int, Nat.reduceMul, Nat.reduceLeDiff, reduceIte, Nat.reduceEqDiff, Nat.reduceAdd, ↓reduceIte, Try.vcT, F, h.cell0, gets, vsD, if_true, if_false, Bool.false_eq_true]
  change Sep w _ [_, rdr _ r (d5 S) _, _, _] _ at h
  refine itemsIs h (d5_byt hSb) ?_
  clear h F
  intro aIs cIs w5 h
  have h := (h.two 3 4 rfl rfl).erase 4
  (try simp only [nfD] at h); have F := h.facts; (try simp only [nfF, emp_fact, rds_fact, frm_fact, tab_fact, chn_fact, mapX_fact, two_fact] at F); try simp -dsimp only [↓vcA, vcB, vcD, ↓pureT_lenS, ↓iteT, ↓iteF, cond_true, cond_false, eq_self, argE, Env.get, Env.push, ev, evs, evo, retV, Value.cells, Value.oneCell', setR, overR, fillL, zl, places, allSizes, heldC, ne_eq, Int.reduceLE, Int.reduceLT, Int.reduceEq, Int.reduceNe, Int.reduceToNat, Int.cast_ofNat_Int, Nat.reduceMul, Nat.reduceLeDiff, reduceIte, Nat.reduceEqDiff, Nat.reduceAdd, ↓reduceIte, Try.vcT, F, h.cell0, gets, vsD, if_true, if_false, Bool.false_eq_true]
  refine Sep.put 0 h rfl ?_
  clear h F
  intro w6 h
  (try simp only [nfD] at h); have F := h.facts; (try simp only [nfF, emp_fact, rds_fact, frm_fact, tab_fact, chn_fact, mapX_fact, two_fact] at F); try simp -dsimp only [↓vcA, vcB, vcD, ↓pureT_lenS, ↓iteT, ↓iteF, cond_true, cond_false, eq_self, argE, Env.get, Env.push, ev, evs, evo, retV, Value.cells, Value.oneCell', setR, overR, fillL, zl, places, allSizes, heldC, ne_eq, Int.reduceLE, Int.reduceLT, Int.reduceEq, Int.reduceNe, Int.reduceToNat, Int.cast_ofNat_Int, Nat.reduceMul, Nat.reduceLeDiff, reduceIte, Nat.reduceEqDiff, Nat.reduceAdd, ↓reduceIte, Try.vcT, F, h.cell0, gets, vsD, if_true, if_false, Bool.false_eq_true]
  change Sep w _ [_, rdr _ r (d6 S) _, _, _] _ at h
  refine itemsCo h (d6_byt hSb) ?_
  clear h F
  intro aCo cCo w5 h
  have h := (h.two 3 4 rfl rfl).erase 4
  (try simp only [nfD] at h); have F := h.facts; (try simp only [nfF, emp_fact, rds_fact, frm_fact, tab_fact, chn_fact, mapX_fact, two_fact] at F); try simp -dsimp only [↓vcA, vcB, vcD, ↓pureT_lenS, ↓iteT, ↓iteF, cond_true, cond_false, eq_self, argE, Env.get, Env.push, ev, evs, evo, retV, Value.cells, Value.oneCell', setR, overR, fillL, zl, places, allSizes, heldC, ne_eq, Int.reduceLE, Int.reduceLT, Int.reduceEq, Int.reduceNe, Int.reduceToNat, Int.cast_ofNat_Int, Nat.reduceMul, Nat.reduceLeDiff, reduceIte, Nat.reduceEqDiff, Nat.reduceAdd, ↓reduceIte, Try.vcT, F, h.cell0, gets, vsD, if_true, if_false, Bool.false_eq_true]
  refine Sep.put 0 h rfl ?_
  clear h F
  intro w6 h
  (try simp only [nfD] at h); have F := h.facts; (try simp only [nfF, emp_fact, rds_fact, frm_fact, tab_fact, chn_fact, mapX_fact, two_fact] at F); try simp -dsimp only [↓vcA, vcB, vcD, ↓pureT_lenS, ↓iteT, ↓iteF, cond_true, cond_false, eq_self, argE, Env.get, Env.push, ev, evs, evo, retV, Value.cells, Value.oneCell', setR, overR, fillL, zl, places, allSizes, heldC, ne_eq, Int.reduceLE, Int.reduceLT, Int.reduceEq, Int.reduceNe, Int.reduceToNat, Int.cast_ofNat_Int, Nat.reduceMul, Nat.reduceLeDiff, reduceIte, Nat.reduceEqDiff, Nat.reduceAdd, ↓reduceIte, Try.vcT, F, h.cell0, gets, vsD, if_true, if_false, Bool.false_eq_true]
  change Sep w _ [_, rdr _ r (d7 S) _, _, _] _ at h
  refine itemsCh h (d7_byt hSb) ?_
  clear h F
  intro aCh cCh w5 h
  have h := (h.two 3 4 rfl rfl).erase 4
  (try simp only [nfD] at h); have F := h.facts; (try simp only [nfF, emp_fact, rds_fact, frm_fact, tab_fact, chn_fact, mapX_fact, two_fact] at F); try simp -dsimp only [↓vcA, vcB, vcD, ↓pureT_lenS, ↓iteT, ↓iteF, cond_true, cond_false, eq_self, argE, Env.get, Env.push, ev, evs, evo, retV, Value.cells, Value.oneCell', setR, overR, fillL, zl, places, allSizes, heldC, ne_eq, Int.reduceLE, Int.reduceLT, Int.reduceEq, Int.reduceNe, Int.reduceToNat, Int.cast_ofNat_Int, Nat.reduceMul, Nat.reduceLeDiff, reduceIte, Nat.reduceEqDiff, Nat.reduceAdd, ↓reduceIte, Try.vcT, F, h.cell0, gets, vsD, if_true, if_false, Bool.false_eq_true]
  refine Sep.put 0 h rfl ?_
  clear h F
  intro w6 h
  generalize hs : (MapS.mk (.slice aP (itemsV rP sP (dN S)).length cP) (.slice aW (itemsV rW sW (d1 S)).length cW) (.slice aPa (itemsV rPa sPa (d2 S)).length cPa) (.slice aRe (itemsV rRe sRe (d3 S)).length cRe) (.slice aCa (itemsV rCa sCa (d4 S)).length cCa) (.slice aIs (itemsV rIs sIs (d5 S)).length cIs) (.slice aCo (itemsV rCo sCo (d6 S)).length cCo) (.slice aCh (itemsV rCh sCh (d7 S)).length cCh)) = sp
  have h : Sep w (fun _ => False) [blk b1 96 ((dV S).cells sp), rdr 134 r (dE S) (fun _ => False), blk c 53 [.pointer (some ⟨r, 0, none⟩)], mapX (dV S) sp] w6 := by
    rw [← hs]
    simp only [mapX, MapV.cells, dV, dE]
    exact h
  (try simp only [nfD] at h); have F := h.facts; (try simp only [nfF, emp_fact, rds_fact, frm_fact, tab_fact, chn_fact, mapX_fact, two_fact] at F)
  have hc15 : cellsAt w6 b1 0 15 = some ((dV S).cells sp) := cellsAt_of (w := w6) (b := b1) (o := 0) ((dV S).cells sp) (fun j u hj => by rw [Nat.zero_add, F.1.1 j]; exact hj)
  clear F
  (try simp only [nfD] at h); have F := h.facts; (try simp only [nfF, emp_fact, rds_fact, frm_fact, tab_fact, chn_fact, mapX_fact, two_fact] at F); try simp -dsimp only [↓vcA, vcB, vcD, ↓pureT_lenS, ↓iteT, ↓iteF, cond_true, cond_false, eq_self, argE, Env.get, Env.push, ev, evs, evo, retV, Value.cells, Value.oneCell', setR, overR, fillL, zl, places, allSizes, heldC, ne_eq, Int.reduceLE, Int.reduceLT, Int.reduceEq, Int.reduceNe, Int.reduceToNat, Int.cast_ofNat_Int, Nat.reduceMul, Nat.reduceLeDiff, reduceIte, Nat.reduceEqDiff, Nat.reduceAdd, ↓reduceIte, Try.vcT, F, h.cell0, gets, vsD, if_true, if_false, Bool.false_eq_true,  hc15]
  refine Sep.callN h (encode58 (dV S) sp w6 F.2.2.2.1 (dV_ok hSb) (Nat.le_trans (dV_room S) (by rw [← hS]; dsimp only; omega))) ?_
  clear h F
  intro e N w7 hQ h
  obtain ⟨a7, c7, rfl, rfl⟩ := hQ
  (try simp only [nfD] at h); have F := h.facts; (try simp only [nfF, emp_fact, rds_fact, frm_fact, tab_fact, chn_fact, mapX_fact, two_fact] at F); try simp -dsimp only [↓vcA, vcB, vcD, ↓pureT_lenS, ↓iteT, ↓iteF, cond_true, cond_false, eq_self, argE, Env.get, Env.push, ev, evs, evo, retV, Value.cells, Value.oneCell', setR, overR, fillL, zl, places, allSizes, heldC, ne_eq, Int.reduceLE, Int.reduceLT, Int.reduceEq, Int.reduceNe, Int.reduceToNat, Int.cast_ofNat_Int, Nat.reduceMul, Nat.reduceLeDiff, reduceIte, Nat.reduceEqDiff, Nat.reduceAdd, ↓reduceIte, Try.vcT, F, h.cell0, gets, vsD, if_true, if_false, Bool.false_eq_true]
  have hS' : decOk b = ((dE S).done && (!(dV S).fails && decide ((dV S).bytes = b))) := by rw [← hS]; rfl
  have hbb : Byt (dV S).bytes := (dV S).bytes_byt fun c hc => (dV_ch hSb c hc).2
  have fin : ∀ {w' : World} {M : List Res}, decOk b = false → Sep w (fun _ => False) M w' → ∃ N, Sep w (fun _ => False) N w' ∧ (∀ q ∈ N, ∀ x, ¬ q.rd x) ∧
      ∃ s, Value.tuple #[.agg #[.int .i64 0, .int .i64 0, .int .i64 0, .int .i64 0, .int .i64 0, .int .i64 0, .int .i64 0, .slice none 0 0, .slice none 0 0, .slice none 0 0, .slice none 0 0, .slice none 0 0, .slice none 0 0, .slice none 0 0, .slice none 0 0], .int .i64 2] = .tuple #[.agg ((dec b).cells s).toArray, .int .i64 (if decOk b then 0 else 2)] ∧ N = [mapX (dec b) s] := fun hf h => by
    have e : dec b = MapV.zero := by simp [dec, hf]
    rw [e, hf]
    exact ⟨_, h.mapZero, (fun q hq x => by simp at hq; subst hq; exact mapX_rd _ _ x), MapS.zero, rfl, rfl⟩
  refine Sep.rdDone 1 h rfl ?_
  cases hd : (dE S).done with
  | false =>
    (try simp only [nfD] at h); have F := h.facts; (try simp only [nfF, emp_fact, rds_fact, frm_fact, tab_fact, chn_fact, mapX_fact, two_fact] at F); try simp -dsimp only [↓vcA, vcB, vcD, ↓pureT_lenS, ↓iteT, ↓iteF, cond_true, cond_false, eq_self, argE, Env.get, Env.push, ev, evs, evo, retV, Value.cells, Value.oneCell', setR, overR, fillL, zl, places, allSizes, heldC, ne_eq, Int.reduceLE, Int.reduceLT, Int.reduceEq, Int.reduceNe, Int.reduceToNat, Int.cast_ofNat_Int, Nat.reduceMul, Nat.reduceLeDiff, reduceIte, Nat.reduceEqDiff, Nat.reduceAdd, ↓reduceIte, Try.vcT, F, h.cell0, gets, vsD, if_true, if_false, Bool.false_eq_true,  hd, MapV.cells]
    refine Sep.put 0 h rfl ?_
    clear h F
    intro w8 h
    (try simp only [nfD] at h); have F := h.facts; (try simp only [nfF, emp_fact, rds_fact, frm_fact, tab_fact, chn_fact, mapX_fact, two_fact] at F); try simp -dsimp only [↓vcA, vcB, vcD, ↓pureT_lenS, ↓iteT, ↓iteF, cond_true, cond_false, eq_self, argE, Env.get, Env.push, ev, evs, evo, retV, Value.cells, Value.oneCell', setR, overR, fillL, zl, places, allSizes, heldC, ne_eq, Int.reduceLE, Int.reduceLT, Int.reduceEq, Int.reduceNe, Int.reduceToNat, Int.cast_ofNat_Int, Nat.reduceMul, Nat.reduceLeDiff, reduceIte, Nat.reduceEqDiff, Nat.reduceAdd, ↓reduceIte, Try.vcT, F, h.cell0, gets, vsD, if_true, if_false, Bool.false_eq_true,  cellsAt]
    exact fin (by rw [hS', hd]; rfl) h
  | true =>
  cases hf : (dV S).fails with
  | true =>
    (try simp only [nfD] at h); have F := h.facts; (try simp only [nfF, emp_fact, rds_fact, frm_fact, tab_fact, chn_fact, mapX_fact, two_fact] at F); try simp -dsimp only [↓vcA, vcB, vcD, ↓pureT_lenS, ↓iteT, ↓iteF, cond_true, cond_false, eq_self, argE, Env.get, Env.push, ev, evs, evo, retV, Value.cells, Value.oneCell', setR, overR, fillL, zl, places, allSizes, heldC, ne_eq, Int.reduceLE, Int.reduceLT, Int.reduceEq, Int.reduceNe, Int.reduceToNat, Int.cast_ofNat_Int, Nat.reduceMul, Nat.reduceLeDiff, reduceIte, Nat.reduceEqDiff, Nat.reduceAdd, ↓reduceIte, Try.vcT, F, h.cell0, gets, vsD, if_true, if_false, Bool.false_eq_true,  hd, hf, MapV.cells]
    refine Sep.put 0 h rfl ?_
    clear h F
    intro w8 h
    (try simp only [nfD] at h); have F := h.facts; (try simp only [nfF, emp_fact, rds_fact, frm_fact, tab_fact, chn_fact, mapX_fact, two_fact] at F); try simp -dsimp only [↓vcA, vcB, vcD, ↓pureT_lenS, ↓iteT, ↓iteF, cond_true, cond_false, eq_self, argE, Env.get, Env.push, ev, evs, evo, retV, Value.cells, Value.oneCell', setR, overR, fillL, zl, places, allSizes, heldC, ne_eq, Int.reduceLE, Int.reduceLT, Int.reduceEq, Int.reduceNe, Int.reduceToNat, Int.cast_ofNat_Int, Nat.reduceMul, Nat.reduceLeDiff, reduceIte, Nat.reduceEqDiff, Nat.reduceAdd, ↓reduceIte, Try.vcT, F, h.cell0, gets, vsD, if_true, if_false, Bool.false_eq_true,  cellsAt]
    exact fin (by rw [hS', hd, hf]; rfl) h
  | false =>
  (try simp only [nfD] at h); have F := h.facts; (try simp only [nfF, emp_fact, rds_fact, frm_fact, tab_fact, chn_fact, mapX_fact, two_fact] at F); try simp -dsimp only [↓vcA, vcB, vcD, ↓pureT_lenS, ↓iteT, ↓iteF, cond_true, cond_false, eq_self, argE, Env.get, Env.push, ev, evs, evo, retV, Value.cells, Value.oneCell', setR, overR, fillL, zl, places, allSizes, heldC, ne_eq, Int.reduceLE, Int.reduceLT, Int.reduceEq, Int.reduceNe, Int.reduceToNat, Int.cast_ofNat_Int, Nat.reduceMul, Nat.reduceLeDiff, reduceIte, Nat.reduceEqDiff, Nat.reduceAdd, ↓reduceIte, Try.vcT, F, h.cell0, gets, vsD, if_true, if_false, Bool.false_eq_true,  hd, hf]
  refine Sep.callp h (bytesEq _ _ _ _ _ F.2.2.2.2.1 (hr.sep h fun _ _ => id) hbb hb) ?_
  clear h F
  intro w8 h
  by_cases he : (dV S).bytes = b
  case neg =>
    (try simp only [nfD] at h); have F := h.facts; (try simp only [nfF, emp_fact, rds_fact, frm_fact, tab_fact, chn_fact, mapX_fact, two_fact] at F); try simp -dsimp only [↓vcA, vcB, vcD, ↓pureT_lenS, ↓iteT, ↓iteF, cond_true, cond_false, eq_self, argE, Env.get, Env.push, ev, evs, evo, retV, Value.cells, Value.oneCell', setR, overR, fillL, zl, places, allSizes, heldC, ne_eq, Int.reduceLE, Int.reduceLT, Int.reduceEq, Int.reduceNe, Int.reduceToNat, Int.cast_ofNat_Int, Nat.reduceMul, Nat.reduceLeDiff, reduceIte, Nat.reduceEqDiff, Nat.reduceAdd, ↓reduceIte, Try.vcT, F, h.cell0, gets, vsD, if_true, if_false, Bool.false_eq_true,  decide_eq_false he, MapV.cells]
    refine Sep.put 0 h rfl ?_
    clear h F
    intro w9 h
    (try simp only [nfD] at h); have F := h.facts; (try simp only [nfF, emp_fact, rds_fact, frm_fact, tab_fact, chn_fact, mapX_fact, two_fact] at F); try simp -dsimp only [↓vcA, vcB, vcD, ↓pureT_lenS, ↓iteT, ↓iteF, cond_true, cond_false, eq_self, argE, Env.get, Env.push, ev, evs, evo, retV, Value.cells, Value.oneCell', setR, overR, fillL, zl, places, allSizes, heldC, ne_eq, Int.reduceLE, Int.reduceLT, Int.reduceEq, Int.reduceNe, Int.reduceToNat, Int.cast_ofNat_Int, Nat.reduceMul, Nat.reduceLeDiff, reduceIte, Nat.reduceEqDiff, Nat.reduceAdd, ↓reduceIte, Try.vcT, F, h.cell0, gets, vsD, if_true, if_false, Bool.false_eq_true,  cellsAt]
    exact fin (by rw [hS', hd, hf, decide_eq_false he]; rfl) h
  have ok : decOk b = true := by rw [hS', hd, hf, decide_eq_true he]; rfl
  have e : dec b = dV S := by rw [dec, ok, hS]; rfl
  (try simp only [nfD] at h); have F := h.facts; (try simp only [nfF, emp_fact, rds_fact, frm_fact, tab_fact, chn_fact, mapX_fact, two_fact] at F)
  have hc16 : cellsAt w8 b1 0 15 = some ((dV S).cells sp) := cellsAt_of (w := w8) (b := b1) (o := 0) ((dV S).cells sp) (fun j u hj => by rw [Nat.zero_add, F.1.1 j]; exact hj)
  clear F
  subst hs
  (try simp only [nfD] at h); have F := h.facts; (try simp only [nfF, emp_fact, rds_fact, frm_fact, tab_fact, chn_fact, mapX_fact, two_fact] at F); try simp -dsimp only [↓vcA, vcB, vcD, ↓pureT_lenS, ↓iteT, ↓iteF, cond_true, cond_false, eq_self, argE, Env.get, Env.push, ev, evs, evo, retV, Value.cells, Value.oneCell', setR, overR, fillL, zl, places, allSizes, heldC, ne_eq, Int.reduceLE, Int.reduceLT, Int.reduceEq, Int.reduceNe, Int.reduceToNat, Int.cast_ofNat_Int, Nat.reduceMul, Nat.reduceLeDiff, reduceIte, Nat.reduceEqDiff, Nat.reduceAdd, ↓reduceIte, Try.vcT, F, h.cell0, gets, vsD, if_true, if_false, Bool.false_eq_true,  decide_eq_true he, hc16, MapV.cells]
  refine Sep.put 0 h rfl ?_
  clear h F
  intro w9 h
  (try simp only [nfD] at h); have F := h.facts; (try simp only [nfF, emp_fact, rds_fact, frm_fact, tab_fact, chn_fact, mapX_fact, two_fact] at F); try simp -dsimp only [↓vcA, vcB, vcD, ↓pureT_lenS, ↓iteT, ↓iteF, cond_true, cond_false, eq_self, argE, Env.get, Env.push, ev, evs, evo, retV, Value.cells, Value.oneCell', setR, overR, fillL, zl, places, allSizes, heldC, ne_eq, Int.reduceLE, Int.reduceLT, Int.reduceEq, Int.reduceNe, Int.reduceToNat, Int.cast_ofNat_Int, Nat.reduceMul, Nat.reduceLeDiff, reduceIte, Nat.reduceEqDiff, Nat.reduceAdd, ↓reduceIte, Try.vcT, F, h.cell0, gets, vsD, if_true, if_false, Bool.false_eq_true,  cellsAt]
  rw [e, ok]
  exact ⟨_, (((h.erase 4).erase 0).erase 0).erase 0, (fun q hq x => by simp at hq; subst hq; exact mapX_rd _ _ x), _, rfl, rfl⟩
end Go.Proofs.Ytnhgjgoglmadnaa
