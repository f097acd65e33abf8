/- Joined texts of this claim (part 11), printed by a program of this work. The last part holds the claimed theorem: the law answers true at every input of its row. -/
import Derived.JoinedCond
import Derived.Test.YtnhgjgoglmadnaaSP14j
namespace Go.Proofs.Ytnhgjgoglmadnaa
open Go.RowKit
set_option linter.unusedVariables false

theorem num_ok {s : R8} (k : Nat) (h1 : 1 ≤ k) (h7 : k ≤ 7) (h : (s.numS k).bad = false) : s.bad = false ∧ (s.numS k).l.length + k = s.l.length := by
  have hb : s.bad = false := by
    cases hb : s.bad with
    | false => rfl
    | true => rw [(num_bad hb k).2] at h; cases h
  have hl : k ≤ s.l.length := by
    rcases Nat.lt_or_ge s.l.length k with hl | hl
    · obtain ⟨_, h2⟩ := s.num_no k (.inr (.inr (.inr (by omega))))
      rw [h2] at h; cases h
    · exact hl
  obtain ⟨_, h2⟩ := s.num_yes k hb h1 h7 hl
  rw [h2]
  exact ⟨hb, by simp; omega⟩
theorem num1_ok {s : R8} (h : (s.numS 1).bad = false) : s.bad = false ∧ (s.numS 1).l.length + 1 = s.l.length := num_ok 1 (by omega) (by omega) h
theorem num2_ok {s : R8} (h : (s.numS 2).bad = false) : s.bad = false ∧ (s.numS 2).l.length + 2 = s.l.length := num_ok 2 (by omega) (by omega) h
theorem num4_ok {s : R8} (h : (s.numS 4).bad = false) : s.bad = false ∧ (s.numS 4).l.length + 4 = s.l.length := num_ok 4 (by omega) (by omega) h
theorem tri_ok {s : R8} (h : s.triS.bad = false) : (s.bad = false ∧ s.triS.l.length + 18 = s.l.length) ∧ s.triS = s.tS3 ∧ s.tT.valid = true := by
  unfold R8.triS at h ⊢
  cases h3 : s.tS3.bad with
  | true => rw [h3] at h; simp [h3] at h
  | false =>
    rw [h3] at h
    cases hv : s.tT.valid with
    | false => rw [hv] at h; simp at h
    | true =>
      obtain ⟨a1, a2⟩ := pt_ok (s := s.ptS.ptS) h3
      obtain ⟨b1, b2⟩ := pt_ok a1
      obtain ⟨c1, c2⟩ := pt_ok b1
      simp only [Bool.false_eq_true, if_false, if_true]
      exact ⟨⟨c1, by unfold R8.tS3; omega⟩, trivial, trivial⟩
theorem raw_ok {s : R8} {n : Int} (h : (s.rawS n).bad = false) : s.bad = false ∧ (s.rawS n).l.length + (s.rawV n).length = s.l.length ∧ s.rawV n ++ (s.rawS n).l = s.l ∧ 0 ≤ n ∧ (s.rawV n).length = n.toNat := by
  unfold R8.rawS R8.rawV at *
  split at h
  · cases h
  · rename_i hno
    simp only [if_neg hno]
    simp only [R8.no, not_or] at hno
    refine ⟨h, by simp; omega, by simp, by omega, by simp; omega⟩
def dN (s : R8) : R8 := (((((((s.numS 3).numS 3).numS 1).numS 2).numS 2).numS 2).numS 4)
def d1 (s : R8) : R8 := itemsS rP sP (dN s)
def d2 (s : R8) : R8 := itemsS rW sW (d1 s)
def d3 (s : R8) : R8 := itemsS rPa sPa (d2 s)
def d4 (s : R8) : R8 := itemsS rRe sRe (d3 s)
def d5 (s : R8) : R8 := itemsS rCa sCa (d4 s)
def d6 (s : R8) : R8 := itemsS rIs sIs (d5 s)
def d7 (s : R8) : R8 := itemsS rCo sCo (d6 s)
def dE (s : R8) : R8 := itemsS rCh sCh (d7 s)
def dV (s : R8) : MapV := ⟨s.numV 3, (s.numS 3).numV 3, ((s.numS 3).numS 3).numV 1, (((s.numS 3).numS 3).numS 1).numV 2, ((((s.numS 3).numS 3).numS 1).numS 2).numV 2, (((((s.numS 3).numS 3).numS 1).numS 2).numS 2).numV 2, ((((((s.numS 3).numS 3).numS 1).numS 2).numS 2).numS 2).numV 4,
  itemsV rP sP (dN s), itemsV rW sW (d1 s), itemsV rPa sPa (d2 s), itemsV rRe sRe (d3 s), itemsV rCa sCa (d4 s), itemsV rIs sIs (d5 s), itemsV rCo sCo (d6 s), itemsV rCh sCh (d7 s)⟩
theorem rP_ok {s : R8} (hb : Byt s.l) : Ok64 (rP s) := by
  have h0 := ptV_rng _ hb
  have b0 := ptS_byt _ hb
  unfold rP Ok64
  simp only [List.forall_mem_cons, List.not_mem_nil, false_implies, implies_true, and_true]
  omega
theorem rW_ok {s : R8} (hb : Byt s.l) : Ok64 (rW s) := by
  have h0 := ptV_rng _ hb
  have b0 := ptS_byt _ hb
  have h1 := ptV_rng _ b0
  have b1 := ptS_byt _ b0
  have h2 := num1_rng _ b1
  have b2 := numS_byt _ 1 b1
  unfold rW Ok64
  simp only [List.forall_mem_cons, List.not_mem_nil, false_implies, implies_true, and_true]
  omega
theorem rPa_ok {s : R8} (hb : Byt s.l) : Ok64 (rPa s) := by
  have h0 := num1_rng _ hb
  have b0 := numS_byt _ 1 hb
  have h1 := num1_rng _ b0
  have b1 := numS_byt _ 1 b0
  unfold rPa Ok64
  simp only [List.forall_mem_cons, List.not_mem_nil, false_implies, implies_true, and_true]
  omega
theorem rRe_ok {s : R8} (hb : Byt s.l) : Ok64 (rRe s) := by
  have h0 := num1_rng _ hb
  have b0 := numS_byt _ 1 hb
  have h1 := num2_rng _ b0
  have b1 := numS_byt _ 2 b0
  have h2 := num1_rng _ b1
  have b2 := numS_byt _ 1 b1
  have h3 := num1_rng _ b2
  have b3 := numS_byt _ 1 b2
  have h4 := triV_rng _ b3
  unfold T3.rng at h4
  have b4 := triS_byt _ b3
  unfold rRe Ok64
  simp only [List.forall_mem_cons, List.not_mem_nil, false_implies, implies_true, and_true]
  omega
theorem rCa_ok {s : R8} (hb : Byt s.l) : Ok64 (rCa s) := by
  have h0 := num1_rng _ hb
  have b0 := numS_byt _ 1 hb
  have h1 := num1_rng _ b0
  have b1 := numS_byt _ 1 b0
  have h2 := num1_rng _ b1
  have b2 := numS_byt _ 1 b1
  have h3 := num1_rng _ b2
  have b3 := numS_byt _ 1 b2
  have h4 := num2_rng _ b3
  have b4 := numS_byt _ 2 b3
  have h5 := num1_rng _ b4
  have b5 := numS_byt _ 1 b4
  have h6 := num4_rng _ b5
  have b6 := numS_byt _ 4 b5
  have h7 := num2_rng _ b6
  have b7 := numS_byt _ 2 b6
  have h8 := num1_rng _ b7
  have b8 := numS_byt _ 1 b7
  unfold rCa Ok64
  simp only [List.forall_mem_cons, List.not_mem_nil, false_implies, implies_true, and_true]
  rw [i64w _ (by omega) (by omega)]
  omega
theorem rIs_ok {s : R8} (hb : Byt s.l) : Ok64 (rIs s) := by
  have h0 := num1_rng _ hb
  have b0 := numS_byt _ 1 hb
  have h1 := num1_rng _ b0
  have b1 := numS_byt _ 1 b0
  have h2 := num1_rng _ b1
  have b2 := numS_byt _ 1 b1
  unfold rIs Ok64
  simp only [List.forall_mem_cons, List.not_mem_nil, false_implies, implies_true, and_true]
  omega
theorem rCo_ok {s : R8} (hb : Byt s.l) : Ok64 (rCo s) := by
  have h0 := num1_rng _ hb
  have b0 := numS_byt _ 1 hb
  have h1 := num2_rng _ b0
  have b1 := numS_byt _ 2 b0
  have h2 := num2_rng _ b1
  have b2 := numS_byt _ 2 b1
  unfold rCo Ok64
  simp only [List.forall_mem_cons, List.not_mem_nil, false_implies, implies_true, and_true]
  omega
theorem itemsF_all {α : Type} {P : α → Prop} {f : R8 → α} {g : R8 → R8} (hf : ∀ s : R8, Byt s.l → P (f s)) (hg : ∀ s : R8, Byt s.l → Byt (g s).l) : ∀ n s, Byt s.l → (∀ x ∈ (itemsF f g n s).1, P x) ∧ Byt (itemsF f g n s).2.l
  | 0, s, hb => ⟨fun x hx => (by cases hx), hb⟩
  | n + 1, s, hb => by
    unfold itemsF
    split
    · obtain ⟨h1, h2⟩ := itemsF_all hf hg n (g s) (hg s hb)
      exact ⟨fun x hx => (List.mem_cons.1 hx).elim (fun e => by rw [e]; exact hf s hb) (h1 x), h2⟩
    · exact ⟨fun x hx => (by cases hx), hb⟩
theorem itemsV_all {α : Type} {P : α → Prop} {f : R8 → α} {g : R8 → R8} (hf : ∀ s : R8, Byt s.l → P (f s)) (hg : ∀ s : R8, Byt s.l → Byt (g s).l) {s : R8} (hb : Byt s.l) : (∀ x ∈ itemsV f g s, P x) ∧ Byt (itemsS f g s).l :=
  itemsF_all hf hg _ _ (numS_byt s 2 hb)
theorem rCh_ok {s : R8} (hb : Byt s.l) : (-9223372036854775808 ≤ (rCh s).t ∧ (rCh s).t ≤ 9223372036854775807) ∧ Byt (rCh s).b := by
  have h0 := num1_rng _ hb
  refine ⟨?_, (rawS_byt _ _ (numS_byt _ 2 (numS_byt _ 1 (numS_byt _ 1 hb)))).2⟩
  unfold rCh; dsimp only; omega
theorem dN_byt {s : R8} (hb : Byt s.l) : Byt (dN s).l := numS_byt _ 4 (numS_byt _ 2 (numS_byt _ 2 (numS_byt _ 2 (numS_byt _ 1 (numS_byt _ 3 (numS_byt _ 3 hb))))))
theorem d1_byt {s : R8} (hb : Byt s.l) : Byt (d1 s).l := (itemsV_all (P := Ok64) (f := rP) (g := sP) (fun s => rP_ok (s := s)) (fun s => sP_byt (s := s)) (dN_byt hb)).2
theorem d2_byt {s : R8} (hb : Byt s.l) : Byt (d2 s).l := (itemsV_all (P := Ok64) (f := rW) (g := sW) (fun s => rW_ok (s := s)) (fun s => sW_byt (s := s)) (d1_byt hb)).2
theorem d3_byt {s : R8} (hb : Byt s.l) : Byt (d3 s).l := (itemsV_all (P := Ok64) (f := rPa) (g := sPa) (fun s => rPa_ok (s := s)) (fun s => sPa_byt (s := s)) (d2_byt hb)).2
theorem d4_byt {s : R8} (hb : Byt s.l) : Byt (d4 s).l := (itemsV_all (P := Ok64) (f := rRe) (g := sRe) (fun s => rRe_ok (s := s)) (fun s => sRe_byt (s := s)) (d3_byt hb)).2
theorem d5_byt {s : R8} (hb : Byt s.l) : Byt (d5 s).l := (itemsV_all (P := Ok64) (f := rCa) (g := sCa) (fun s => rCa_ok (s := s)) (fun s => sCa_byt (s := s)) (d4_byt hb)).2
theorem d6_byt {s : R8} (hb : Byt s.l) : Byt (d6 s).l := (itemsV_all (P := Ok64) (f := rIs) (g := sIs) (fun s => rIs_ok (s := s)) (fun s => sIs_byt (s := s)) (d5_byt hb)).2
theorem d7_byt {s : R8} (hb : Byt s.l) : Byt (d7 s).l := (itemsV_all (P := Ok64) (f := rCo) (g := sCo) (fun s => rCo_ok (s := s)) (fun s => sCo_byt (s := s)) (d6_byt hb)).2
theorem dV_ch {s : R8} (hb : Byt s.l) : ∀ x ∈ (dV s).ch, (-9223372036854775808 ≤ x.t ∧ x.t ≤ 9223372036854775807) ∧ Byt x.b := by
  have := (itemsV_all (P := fun x => (-9223372036854775808 ≤ x.t ∧ x.t ≤ 9223372036854775807) ∧ Byt x.b) (f := rCh) (g := sCh) (fun s => rCh_ok (s := s)) (fun s => sCh_byt (s := s)) (d7_byt hb)).1
  unfold dV
  dsimp only
  exact this
theorem dV_ok {s : R8} (hb : Byt s.l) : (dV s).Ok where
  ns := by
    have h0 := num3_rng _ hb
    have b0 := numS_byt _ 3 hb
    have h1 := num3_rng _ b0
    have b1 := numS_byt _ 3 b0
    have h2 := num1_rng _ b1
    have b2 := numS_byt _ 1 b1
    have h3 := num2_rng _ b2
    have b3 := numS_byt _ 2 b2
    have h4 := num2_rng _ b3
    have b4 := numS_byt _ 2 b3
    have h5 := num2_rng _ b4
    have b5 := numS_byt _ 2 b4
    have h6 := num4_rng _ b5
    unfold dV Ok64
    simp only [List.forall_mem_cons, List.not_mem_nil, false_implies, implies_true, and_true]
    omega
  p := by have := (itemsV_all (P := Ok64) (f := rP) (g := sP) (fun s => rP_ok (s := s)) (fun s => sP_byt (s := s)) (dN_byt hb)).1; unfold dV; dsimp only; exact this
  wa := by have := (itemsV_all (P := Ok64) (f := rW) (g := sW) (fun s => rW_ok (s := s)) (fun s => sW_byt (s := s)) (d1_byt hb)).1; unfold dV; dsimp only; exact this
  pa := by have := (itemsV_all (P := Ok64) (f := rPa) (g := sPa) (fun s => rPa_ok (s := s)) (fun s => sPa_byt (s := s)) (d2_byt hb)).1; unfold dV; dsimp only; exact this
  re := by have := (itemsV_all (P := Ok64) (f := rRe) (g := sRe) (fun s => rRe_ok (s := s)) (fun s => sRe_byt (s := s)) (d3_byt hb)).1; unfold dV; dsimp only; exact this
  ca := by have := (itemsV_all (P := Ok64) (f := rCa) (g := sCa) (fun s => rCa_ok (s := s)) (fun s => sCa_byt (s := s)) (d4_byt hb)).1; unfold dV; dsimp only; exact this
  is := by have := (itemsV_all (P := Ok64) (f := rIs) (g := sIs) (fun s => rIs_ok (s := s)) (fun s => sIs_byt (s := s)) (d5_byt hb)).1; unfold dV; dsimp only; exact this
  co := by have := (itemsV_all (P := Ok64) (f := rCo) (g := sCo) (fun s => rCo_ok (s := s)) (fun s => sCo_byt (s := s)) (d6_byt hb)).1; unfold dV; dsimp only; exact this
  ch := fun x hx => (dV_ch hb x hx).1
end Go.Proofs.Ytnhgjgoglmadnaa
namespace Go.Proofs.Ytnhgjgoglmadnaa
open Go.ChangeShapes Go.WideShapes Go.ChangeAt Go.RowKit Go.Deep
set_option linter.unusedVariables false
set_option maxRecDepth 100000

theorem bulk_one {H : Type} (d : DataW H) : 1 ≤ Rows.uptoBulk d := by
  cases d with
  | lit l => cases l <;> simp [Rows.uptoBulk]
  | _ => simp [Rows.uptoBulk]
theorem bulk_len {H : Type} (l : List (DataW H)) : l.length ≤ Rows.uptoBulkAll l := by
  induction l with
  | nil => simp [Rows.uptoBulkAll]
  | cons x r ih => have := bulk_one x; simp only [Rows.uptoBulkAll, List.length_cons]; omega
section
variable {H : Type} {enc : TypeId × Value → H} {w : World} {base : Nat} {spare : Nat → Bool} {held : Bool}

theorem flatT_get {s : Nat} {xs : List (List Int)} (hs : ∀ x ∈ xs, x.length = s) {j : Nat} {u : Value} (h : (flatT xs)[j]? = some u) : ∃ i r, ∃ hi : i < xs.length, j = i * s + r ∧ r < s ∧ (cellsI xs[i])[r]? = some u := by
  have hj := (List.getElem?_eq_some_iff.1 h).1
  rw [flatT_len hs] at hj
  have hs0 : 0 < s := Nat.pos_of_ne_zero fun e => by subst e; simp at hj
  have hi : j / s < xs.length := (Nat.div_lt_iff_lt_mul hs0).2 hj
  have hr : j % s < s := Nat.mod_lt _ hs0
  have he : j = j / s * s + j % s := by rw [Nat.mul_comm]; exact (Nat.div_add_mod j s).symm
  refine ⟨j / s, j % s, hi, he, hr, ?_⟩
  rw [← flatT_at hi hs, List.getElem?_take_of_lt hr, List.getElem?_drop, ← he]; exact h
theorem tab_of {e t s : Nat} (ht : Try.prog.underlying t = some (.slice e)) (hc : Try.prog.cellsOf e = s) (hs : 0 < s)
    (he : ∀ (n : Nat) (cs : List Value) (y : DataW H × List MemPlace), DataW.trod enc Try.prog w base (fun _ => true) held n e cs = some y → ∃ x : List Int, cs = cellsI x ∧ x.length = s ∧ Ok64 x)
    {fuel : Nat} {v : Value} {x : DataW H × List MemPlace} (h : DataW.trod enc Try.prog w base (fun _ => true) held fuel t [v] = some x) : ∃ xs, Tab s w v xs ∧ (∀ x ∈ xs, Ok64 x) ∧ xs.length ≤ Rows.uptoBulk x.1 := by
  rcases open_slice ht h with ⟨hcs, _⟩ | ⟨a, len, cap, m, n, D, Pl, hcs, hb, hl, hm, hmm, hx, hi⟩
  · injection hcs with hcs
    subst hcs
    exact ⟨[], Tab.nil s w, fun x hx => (by cases hx), Nat.zero_le _⟩
  · injection hcs with hcs
    subst hcs
    simp only [if_true] at hmm
    subst hmm
    rw [hc] at hi
    have key : ∀ i, i < len → ∃ q : List Int, (∀ j u, (cellsI q)[j]? = some u → w.cell? (a.add (i * s + j)) = some u) ∧ q.length = s ∧ Ok64 q := fun i hil => by
      obtain ⟨cs', hc', ht'⟩ := hi i (by omega)
      obtain ⟨q, rfl, hq, ho⟩ := he n cs' _ ht'
      obtain ⟨_, hcl, hat⟩ := World.cells?_some hc'
      refine ⟨q, fun j u hj => ?_, hq, ho⟩
      have hjl : j < s := by have := (List.getElem?_eq_some_iff.1 hj).1; rw [cellsI_len] at this; omega
      rw [← Go.Deep.add_add, hat j hjl]; exact hj
    obtain ⟨f, hf⟩ := choose_lt key
    have hwid : ∀ x ∈ (List.range len).map f, x.length = s := fun x hx => by
      obtain ⟨i, hi', rfl⟩ := List.mem_map.1 hx
      exact (hf i (by simpa using hi')).2.1
    refine ⟨(List.range len).map f, ⟨hwid, ⟨flatT_len hwid, fun u hu => flatT_one hu, some a, m, by simp, by simp; omega, by omega, (fun e => by cases e), fun hp => ?_⟩⟩, fun x hx => ?_, ?_⟩
    · have hp' : 0 < len := by simpa using hp
      obtain ⟨b, off, spot⟩ := a
      have hspot : spot = none := by
        have k := hf 0 hp'
        have hz : 0 < (cellsI (f 0)).length := by rw [cellsI_len, k.2.1]; exact hs
        have := k.1 0 _ (List.getElem?_eq_getElem hz)
        simpa [Addr.add] using World.cell?_spot this
      subst hspot
      refine ⟨b, off, rfl, fun j u hj => ?_⟩
      obtain ⟨i, r, hi', rfl, hr, hu⟩ := flatT_get hwid hj
      have hil : i < len := by simpa using hi'
      have := (hf i hil).1 r u (by simpa using hu)
      rwa [add_off] at this
    · obtain ⟨i, hi', rfl⟩ := List.mem_map.1 hx
      exact (hf i (by simpa using hi')).2.2
    · rw [hx]
      simp only [Rows.uptoBulk, List.length_map, List.length_range]
      have := bulk_len ((List.range len).map D)
      simp only [List.length_map, List.length_range] at this
      omega

theorem c159 : Try.prog.cellsOf 159 = 9 := by kernel_rfl
theorem c4 : Try.prog.cellsOf 4 = 1 := by kernel_rfl
theorem cap_of {fuel : Nat} {cs : List Value} {x : DataW H × List MemPlace} (h : DataW.trod enc Try.prog w base spare held fuel 159 cs = some x) : ∃ q : List Int, cs = cellsI q ∧ q.length = 9 ∧ Ok64 q := by
  obtain ⟨hl, n, hf⟩ := fields_of Try.underlying159 h
  rw [c159] at hl
  match cs, hl with
  | [x0, x1, x2, x3, x4, x5, x6, x7, x8], _ =>
    obtain ⟨y0, h0⟩ := hf 0 0 3 1 rfl c3
    obtain ⟨y1, h1⟩ := hf 1 1 3 1 rfl c3
    obtain ⟨y2, h2⟩ := hf 2 2 3 1 rfl c3
    obtain ⟨y3, h3⟩ := hf 3 3 3 1 rfl c3
    obtain ⟨y4, h4⟩ := hf 4 4 3 1 rfl c3
    obtain ⟨y5, h5⟩ := hf 5 5 3 1 rfl c3
    obtain ⟨y6, h6⟩ := hf 6 6 3 1 rfl c3
    obtain ⟨y7, h7⟩ := hf 7 7 3 1 rfl c3
    obtain ⟨y8, h8⟩ := hf 8 8 3 1 rfl c3
    obtain ⟨a0, rfl, k0⟩ := int_of Try.underlying3 h0
    obtain ⟨a1, rfl, k1⟩ := int_of Try.underlying3 h1
    obtain ⟨a2, rfl, k2⟩ := int_of Try.underlying3 h2
    obtain ⟨a3, rfl, k3⟩ := int_of Try.underlying3 h3
    obtain ⟨a4, rfl, k4⟩ := int_of Try.underlying3 h4
    obtain ⟨a5, rfl, k5⟩ := int_of Try.underlying3 h5
    obtain ⟨a6, rfl, k6⟩ := int_of Try.underlying3 h6
    obtain ⟨a7, rfl, k7⟩ := int_of Try.underlying3 h7
    obtain ⟨a8, rfl, k8⟩ := int_of Try.underlying3 h8
    exact ⟨[a0, a1, a2, a3, a4, a5, a6, a7, a8], rfl, rfl, by simp only [Ok64, List.forall_mem_cons, List.not_mem_nil, false_implies, implies_true, and_true]; exact ⟨k0, k1, k2, k3, k4, k5, k6, k7, k8⟩⟩

instance : Inhabited Ch := ⟨⟨0, false, []⟩⟩
theorem cs91 : Try.prog.cellsOf 91 = 1 := by kernel_rfl
end
end Go.Proofs.Ytnhgjgoglmadnaa
namespace Go.Proofs.Ytnhgjgoglmadnaa
open Go.RowKit
set_option maxRecDepth 100000
set_option linter.unusedSimpArgs false
set_option linter.unusedVariables false
set_option pp.maxSteps 1500
set_option pp.deepTerms.threshold 8

def Rq.t (r : Rq) : T3 := ⟨r.ax, r.ay, r.bx, r.by', r.cx, r.cy⟩
def putR (r : Rq) (s : W8) (c : Nat) : W8 := if c = 116 then (s.tri r.ax r.ay r.bx r.by' r.cx r.cy).spoil (!r.t.valid) else put1 r s c
def rqR (r : Rq) : W8 := (formL r.k).foldl (putR r) ((⟨[], false⟩ : W8).num r.k 1)
def rqROk (r : Rq) : Bool := (form r.k).isSome && !(rqR r).bad
def rqRB (r : Rq) : List Int := if rqROk r then (rqR r).l else []
def letters : List Nat := [112, 113, 116, 101, 99, 108, 111, 114, 102, 109, 105, 110, 104, 98, 117]
theorem formL_ok (k : Int) : (∀ c ∈ formL k, c ∈ letters) ∧ (formL k).length ≤ 7 := by
  by_cases h : 1 ≤ k ∧ k ≤ 16
  · have hz : k = 1 ∨ k = 2 ∨ k = 3 ∨ k = 4 ∨ k = 5 ∨ k = 6 ∨ k = 7 ∨ k = 8 ∨ k = 9 ∨ k = 10 ∨ k = 11 ∨ k = 12 ∨ k = 13 ∨ k = 14 ∨ k = 15 ∨ k = 16 := by omega
    clear h
    rcases hz with rfl | rfl | rfl | rfl | rfl | rfl | rfl | rfl | rfl | rfl | rfl | rfl | rfl | rfl | rfl | rfl
    all_goals exact ⟨by decide, by decide⟩
  · have : formL k = [] := by
      unfold formL form
      rw [if_neg (show ¬ k = 1 by omega), if_neg (show ¬ k = 2 by omega), if_neg (show ¬ k = 3 by omega), if_neg (show ¬ k = 4 by omega), if_neg (show ¬ k = 5 by omega), if_neg (show ¬ k = 6 by omega), if_neg (show ¬ k = 7 by omega), if_neg (show ¬ k = 8 by omega), if_neg (show ¬ k = 9 by omega), if_neg (show ¬ k = 10 by omega), if_neg (show ¬ k = 11 by omega), if_neg (show ¬ k = 12 by omega), if_neg (show ¬ k = 13 by omega), if_neg (show ¬ k = 14 by omega), if_neg (show ¬ k = 15 by omega), if_neg (show ¬ k = 16 by omega)]; rfl
    rw [this]
    exact ⟨fun c hc => (by cases hc), by decide⟩
theorem formL_let (k : Int) : ∀ c ∈ formL k, c ∈ letters := (formL_ok k).1
theorem formL_len (k : Int) : (formL k).length ≤ 7 := (formL_ok k).2
theorem formL_256 (k : Int) : ∀ c ∈ formL k, c < 256 := fun c hc => by
  have := formL_let k c hc
  simp only [letters, List.mem_cons, List.not_mem_nil, or_false] at this
  omega
set_option maxHeartbeats 4000000 in
theorem request67 (r : Rq) (w : World) (hO : Ok64 r.vals) :
    Calls Try.prog 67 [.agg r.cells.toArray].toArray w (RetK fun v w' => ∃ N, Sep w (fun _ => False) N w' ∧ (∀ q ∈ N, ∀ x, ¬ q.rd x) ∧
      ∃ a c, v = .tuple #[.slice a (rqRB r).length c, .bool (rqROk r)] ∧ N = [byt (.slice a (rqRB r).length c) (rqRB r)]) := by
  have hlet := formL_let r.k
  have hlen := formL_len r.k
  have h256 := formL_256 r.k
  have fin : ∀ {w' : World} {M : List Res}, rqROk r = false → Sep w (fun _ => False) M w' → ∃ N, Sep w (fun _ => False) N w' ∧ (∀ q ∈ N, ∀ x, ¬ q.rd x) ∧
      ∃ a c, Value.tuple #[.slice none 0 0, .bool false] = .tuple #[.slice a (rqRB r).length c, .bool (rqROk r)] ∧ N = [byt (.slice a (rqRB r).length c) (rqRB r)] := fun hf h => by
    have e1 : rqRB r = [] := by simp [rqRB, hf]
    rw [e1, hf]
    exact ⟨_, h.none.bytNone, (fun q hq x hx => by simp at hq; subst hq; exact hx), none, 0, rfl, rfl⟩
  have hok : rqROk r = ((form r.k).isSome && !(rqR r).bad) := rfl
  have hB : rqROk r = true → rqRB r = (rqR r).l := fun e => by simp [rqRB, e]
  unfold rqR at hok hB
  generalize hL : formL r.k = L at *
  have hput : ∀ (s : W8) (c : Nat), putR r s c = putR r s c := fun _ _ => rfl
  have hsome : (form r.k).isSome = (form r.k).isSome := rfl
  generalize hF0 : (form r.k).isSome = f0 at *
  have hr : r.cells = r.cells := rfl
  obtain ⟨z0, z1, z2, z3, z4, z5, z6, z7, z8, z9, z10, z11, z12, z13, z14, z15, z16, z17, z18, z19, z20, z21, z22, z23, z24, z25⟩ := r
  simp only [Rq.vals, Ok64, List.forall_mem_cons, List.not_mem_nil, false_implies, implies_true, and_true] at hO
  have h := Sep.nil w
  refine walk Try.func67 rfl (by kernel_rfl) (by rw [Try.nt67]; simp) ?_
  (try simp only [nfD] at h); have F := h.facts; (try simp only [nfF, emp_fact, rds_fact, frm_fact, tab_fact] at F)
  simp -dsimp only [↓vcA, vcB, vcD, ↓pureT_lenS, ↓iteT, ↓iteF, cond_true, cond_false, eq_self, argE, Env.get, Env.push, ev, evs, evo, retV, Value.cells, Value.oneCell', setR, overR, fillL, zl, places, allSizes, heldC, ne_eq, Int.reduceLE, Int.reduceLT, Int.reduceEq, Int.reduceNe, Int.reduceToNat, Int.cast_ofNat_Int, Nat.reduceMul, Nat.reduceLeDiff, reduceIte, Nat.reduceEqDiff, Nat.reduceAdd, ↓reduceIte, Try.vcT, Rq.cells]
  refine h.new ?_
  clear h F
  intro w1 b1 h
  dsimp only at hL hF0
  (try simp only [nfD] at h); have F := h.facts; (try simp only [nfF, emp_fact, rds_fact, frm_fact, tab_fact] at F); try simp -dsimp only [↓vcA, vcB, vcD, ↓pureT_lenS, ↓iteT, ↓iteF, cond_true, cond_false, eq_self, argE, Env.get, Env.push, ev, evs, evo, retV, Value.cells, Value.oneCell', setR, overR, fillL, zl, places, allSizes, heldC, ne_eq, Int.reduceLE, Int.reduceLT, Int.reduceEq, Int.reduceNe, Int.reduceToNat, Int.cast_ofNat_Int, Nat.reduceMul, Nat.reduceLeDiff, reduceIte, Nat.reduceEqDiff, Nat.reduceAdd, ↓reduceIte, Try.vcT, F, h.cell0, gets, vsD, if_true, if_false, Bool.false_eq_true]
  refine Sep.callp h (form126 z0 w1) ?_
  clear h F
  intro w2 h
  rw [hL, hF0]
  cases f0 with
  | false =>
    (try simp only [nfD] at h); have F := h.facts; (try simp only [nfF, emp_fact, rds_fact, frm_fact, tab_fact] at F); try simp -dsimp only [↓vcA, vcB, vcD, ↓pureT_lenS, ↓iteT, ↓iteF, cond_true, cond_false, eq_self, argE, Env.get, Env.push, ev, evs, evo, retV, Value.cells, Value.oneCell', setR, overR, fillL, zl, places, allSizes, heldC, ne_eq, Int.reduceLE, Int.reduceLT, Int.reduceEq, Int.reduceNe, Int.reduceToNat, Int.cast_ofNat_Int, Nat.reduceMul, Nat.reduceLeDiff, reduceIte, Nat.reduceEqDiff, Nat.reduceAdd, ↓reduceIte, Try.vcT, F, h.cell0, gets, vsD, if_true, if_false, Bool.false_eq_true,  Bool.not_false]
    exact fin (by rw [hok]; rfl) h
  | true =>
  (try simp only [nfD] at h); have F := h.facts; (try simp only [nfF, emp_fact, rds_fact, frm_fact, tab_fact] at F); try simp -dsimp only [↓vcA, vcB, vcD, ↓pureT_lenS, ↓iteT, ↓iteF, cond_true, cond_false, eq_self, argE, Env.get, Env.push, ev, evs, evo, retV, Value.cells, Value.oneCell', setR, overR, fillL, zl, places, allSizes, heldC, ne_eq, Int.reduceLE, Int.reduceLT, Int.reduceEq, Int.reduceNe, Int.reduceToNat, Int.cast_ofNat_Int, Nat.reduceMul, Nat.reduceLeDiff, reduceIte, Nat.reduceEqDiff, Nat.reduceAdd, ↓reduceIte, Try.vcT, F, h.cell0, gets, vsD, if_true, if_false, Bool.false_eq_true,  Bool.not_true]
  refine h.new ?_
  clear h F
  intro w3 p h
  have h := h.wrNew 1 rfl (by decide)
  (try simp only [nfD] at h); have F := h.facts; (try simp only [nfF, emp_fact, rds_fact, frm_fact, tab_fact] at F); try simp -dsimp only [↓vcA, vcB, vcD, ↓pureT_lenS, ↓iteT, ↓iteF, cond_true, cond_false, eq_self, argE, Env.get, Env.push, ev, evs, evo, retV, Value.cells, Value.oneCell', setR, overR, fillL, zl, places, allSizes, heldC, ne_eq, Int.reduceLE, Int.reduceLT, Int.reduceEq, Int.reduceNe, Int.reduceToNat, Int.cast_ofNat_Int, Nat.reduceMul, Nat.reduceLeDiff, reduceIte, Nat.reduceEqDiff, Nat.reduceAdd, ↓reduceIte, Try.vcT, F, h.cell0, gets, vsD, if_true, if_false, Bool.false_eq_true]
  repeat ((first | refine Sep.new h ?_ | refine Sep.put 0 h rfl ?_ | refine Sep.put 1 h rfl ?_ | refine Sep.put 2 h rfl ?_ | refine Sep.put 3 h rfl ?_ | refine Sep.put 4 h rfl ?_ | refine Sep.put 5 h rfl ?_ | refine Sep.rnum 1 h rfl (by omega) (by omega) (by omega) ?_); (clear F; (try clear h); intros; rename_i h; (try simp only [nfD] at h); have F := h.facts; (try simp only [nfF, emp_fact, rds_fact, frm_fact, tab_fact] at F); try simp -dsimp only [↓vcA, vcB, vcD, ↓pureT_lenS, ↓iteT, ↓iteF, cond_true, cond_false, eq_self, argE, Env.get, Env.push, ev, evs, evo, retV, Value.cells, Value.oneCell', setR, overR, fillL, zl, places, allSizes, heldC, ne_eq, Int.reduceLE, Int.reduceLT, Int.reduceEq, Int.reduceNe, Int.reduceToNat, Int.cast_ofNat_Int, Nat.reduceMul, Nat.reduceLeDiff, reduceIte, Nat.reduceEqDiff, Nat.reduceAdd, ↓reduceIte, Try.vcT, F, h.cell0, gets, vsD, if_true, if_false, Bool.false_eq_true]))
  have h := h.wrMono' 1 (8 + 100 * 0) rfl (by omega)
  generalize hE0 : (⟨[], false⟩ : W8).num z0 1 = E0 at *
  refine walkLoop [1, 4, 6] [7] (fun k vs w' => ∃ i, i ≤ L.length ∧ k = L.length - i ∧ vs = [.int .i64 i] ∧ Sep w (fun _ => False) [blk b1 111 [.int .i64 z0, .int .i64 z1, .int .i64 z2, .int .i64 z3, .int .i64 z4, .int .i64 z5, .int .i64 z6, .int .i64 z7, .int .i64 z8, .int .i64 z9, .int .i64 z10, .int .i64 z11, .int .i64 z12, .int .i64 z13, .int .i64 z14, .int .i64 z15, .int .i64 z16, .int .i64 z17, .int .i64 z18, .int .i64 z19, .int .i64 z20, .int .i64 z21, .int .i64 z22, .int .i64 z23, .int .i64 z24, .int .i64 z25], wr 35 p ((L.take i).foldl (putR ⟨z0, z1, z2, z3, z4, z5, z6, z7, z8, z9, z10, z11, z12, z13, z14, z15, z16, z17, z18, z19, z20, z21, z22, z23, z24, z25⟩) E0) (8 + 100 * i)] w') (by kernel_rfl) ?_ ?_
  · simp -dsimp only [↓vcA, vcB, vcD, ↓pureT_lenS, ↓iteT, ↓iteF, cond_true, cond_false, eq_self, argE, Env.get, Env.push, ev, evs, evo, retV, Value.cells, Value.oneCell', setR, overR, fillL, zl, places, allSizes, heldC, ne_eq, Int.reduceLE, Int.reduceLT, Int.reduceEq, Int.reduceNe, Int.reduceToNat, Int.cast_ofNat_Int, Nat.reduceMul, Nat.reduceLeDiff, reduceIte, Nat.reduceEqDiff, Nat.reduceAdd, ↓reduceIte, Try.vcT, gets]
    exact ⟨_, 0, Nat.zero_le _, rfl, rfl, by simpa using h⟩
  intro ks hk k vs w4 hi
  clear h
  try clear F
  obtain ⟨i, hi, rfl, rfl, h⟩ := hi
  simp -dsimp only [gets, argE, List.zip_cons_cons, List.zip_nil_left, List.cons_append, List.nil_append, Env.get, Env.push, Option.bind_some, Option.map_some, Option.some.injEq, reduceIte, Nat.reduceEqDiff, Nat.reduceAdd, ↓reduceIte] at hk; subst hk
  have hsz : ((formS L).size : Int) = L.length := by rw [formS_size]
  by_cases hlt : (i : Int) < L.length
  case neg =>
    have hil : i = L.length := by omega
    subst hil
    rw [List.take_length] at h
    obtain ⟨a9, c9, h, hlen9⟩ := h.wrOpen 1 rfl
    generalize hE : L.foldl (putR ⟨z0, z1, z2, z3, z4, z5, z6, z7, z8, z9, z10, z11, z12, z13, z14, z15, z16, z17, z18, z19, z20, z21, z22, z23, z24, z25⟩) E0 = E at *
    have hok : rqROk ⟨z0, z1, z2, z3, z4, z5, z6, z7, z8, z9, z10, z11, z12, z13, z14, z15, z16, z17, z18, z19, z20, z21, z22, z23, z24, z25⟩ = !E.bad := by rw [hok]; rfl
    obtain ⟨El, Eb⟩ := E
    cases Eb with
    | true =>
      (try simp only [nfD] at h); have F := h.facts; (try simp only [nfF, emp_fact, rds_fact, frm_fact, tab_fact] at F); try simp -dsimp only [↓vcA, vcB, vcD, ↓pureT_lenS, ↓iteT, ↓iteF, cond_true, cond_false, eq_self, argE, Env.get, Env.push, ev, evs, evo, retV, Value.cells, Value.oneCell', setR, overR, fillL, zl, places, allSizes, heldC, ne_eq, Int.reduceLE, Int.reduceLT, Int.reduceEq, Int.reduceNe, Int.reduceToNat, Int.cast_ofNat_Int, Nat.reduceMul, Nat.reduceLeDiff, reduceIte, Nat.reduceEqDiff, Nat.reduceAdd, ↓reduceIte, Try.vcT, F, h.cell0, gets, vsD, if_true, if_false, Bool.false_eq_true,  ↓pureT_lenT, strK_mk, hsz, decide_eq_false hlt]
      exact fin (by rw [hok]; rfl) h
    | false =>
      (try simp only [nfD] at h); have F := h.facts; (try simp only [nfF, emp_fact, rds_fact, frm_fact, tab_fact] at F); try simp -dsimp only [↓vcA, vcB, vcD, ↓pureT_lenS, ↓iteT, ↓iteF, cond_true, cond_false, eq_self, argE, Env.get, Env.push, ev, evs, evo, retV, Value.cells, Value.oneCell', setR, overR, fillL, zl, places, allSizes, heldC, ne_eq, Int.reduceLE, Int.reduceLT, Int.reduceEq, Int.reduceNe, Int.reduceToNat, Int.cast_ofNat_Int, Nat.reduceMul, Nat.reduceLeDiff, reduceIte, Nat.reduceEqDiff, Nat.reduceAdd, ↓reduceIte, Try.vcT, F, h.cell0, gets, vsD, if_true, if_false, Bool.false_eq_true,  ↓pureT_lenT, strK_mk, hsz, decide_eq_false hlt]
      have e1 : rqROk ⟨z0, z1, z2, z3, z4, z5, z6, z7, z8, z9, z10, z11, z12, z13, z14, z15, z16, z17, z18, z19, z20, z21, z22, z23, z24, z25⟩ = true := by rw [hok]; rfl
      have e2 : rqRB ⟨z0, z1, z2, z3, z4, z5, z6, z7, z8, z9, z10, z11, z12, z13, z14, z15, z16, z17, z18, z19, z20, z21, z22, z23, z24, z25⟩ = El := by rw [hB e1]
      rw [e1, e2]
      exact ⟨_, (h.erase 0).erase 0, (fun q hq x hx => by simp at hq; subst hq; exact hx), _, _, rfl, rfl⟩
  have hil : i < L.length := by omega
  have ei : IntKind.i64.wrap ((i : Int) + 1) = ((i + 1 : Nat) : Int) := by rw [i64w _ (by omega) (by omega)]; omega
  have h0i : (0 : Int) ≤ i := by omega
  have hfold : (L.take (i + 1)).foldl (putR ⟨z0, z1, z2, z3, z4, z5, z6, z7, z8, z9, z10, z11, z12, z13, z14, z15, z16, z17, z18, z19, z20, z21, z22, z23, z24, z25⟩) E0 = putR ⟨z0, z1, z2, z3, z4, z5, z6, z7, z8, z9, z10, z11, z12, z13, z14, z15, z16, z17, z18, z19, z20, z21, z22, z23, z24, z25⟩ ((L.take i).foldl (putR ⟨z0, z1, z2, z3, z4, z5, z6, z7, z8, z9, z10, z11, z12, z13, z14, z15, z16, z17, z18, z19, z20, z21, z22, z23, z24, z25⟩) E0) L[i] := by
    rw [List.take_succ_eq_append_getElem hil, List.foldl_append]; rfl
  generalize (L.take i).foldl (putR ⟨z0, z1, z2, z3, z4, z5, z6, z7, z8, z9, z10, z11, z12, z13, z14, z15, z16, z17, z18, z19, z20, z21, z22, z23, z24, z25⟩) E0 = E at *
  have hci := hlet _ (List.getElem_mem hil)
  (try simp only [nfD] at h); have F := h.facts; (try simp only [nfF, emp_fact, rds_fact, frm_fact, tab_fact] at F); try simp -dsimp only [↓vcA, vcB, vcD, ↓pureT_lenS, ↓iteT, ↓iteF, cond_true, cond_false, eq_self, argE, Env.get, Env.push, ev, evs, evo, retV, Value.cells, Value.oneCell', setR, overR, fillL, zl, places, allSizes, heldC, ne_eq, Int.reduceLE, Int.reduceLT, Int.reduceEq, Int.reduceNe, Int.reduceToNat, Int.cast_ofNat_Int, Nat.reduceMul, Nat.reduceLeDiff, reduceIte, Nat.reduceEqDiff, Nat.reduceAdd, ↓reduceIte, Try.vcT, F, h.cell0, gets, vsD, if_true, if_false, Bool.false_eq_true,  ↓pureT_lenT, strK_mk, hsz, decide_eq_true hlt]
  refine Sep.letter h hil h256 ?_
  generalize L[i] = c at *
  simp only [letters, List.mem_cons, List.not_mem_nil, or_false] at hci
  have fin2 : ∀ {w' : World} {E' : W8} {k' : Nat}, k' ≤ 8 + 100 * i + 100 → (L.take (i + 1)).foldl (putR ⟨z0, z1, z2, z3, z4, z5, z6, z7, z8, z9, z10, z11, z12, z13, z14, z15, z16, z17, z18, z19, z20, z21, z22, z23, z24, z25⟩) E0 = E' → Sep w (fun _ => False) [blk b1 111 [.int .i64 z0, .int .i64 z1, .int .i64 z2, .int .i64 z3, .int .i64 z4, .int .i64 z5, .int .i64 z6, .int .i64 z7, .int .i64 z8, .int .i64 z9, .int .i64 z10, .int .i64 z11, .int .i64 z12, .int .i64 z13, .int .i64 z14, .int .i64 z15, .int .i64 z16, .int .i64 z17, .int .i64 z18, .int .i64 z19, .int .i64 z20, .int .i64 z21, .int .i64 z22, .int .i64 z23, .int .i64 z24, .int .i64 z25], wr 35 p E' k'] w' →
      Sep w (fun _ => False) [blk b1 111 [.int .i64 z0, .int .i64 z1, .int .i64 z2, .int .i64 z3, .int .i64 z4, .int .i64 z5, .int .i64 z6, .int .i64 z7, .int .i64 z8, .int .i64 z9, .int .i64 z10, .int .i64 z11, .int .i64 z12, .int .i64 z13, .int .i64 z14, .int .i64 z15, .int .i64 z16, .int .i64 z17, .int .i64 z18, .int .i64 z19, .int .i64 z20, .int .i64 z21, .int .i64 z22, .int .i64 z23, .int .i64 z24, .int .i64 z25], wr 35 p ((L.take (i + 1)).foldl (putR ⟨z0, z1, z2, z3, z4, z5, z6, z7, z8, z9, z10, z11, z12, z13, z14, z15, z16, z17, z18, z19, z20, z21, z22, z23, z24, z25⟩) E0) (8 + 100 * (i + 1))] w' := fun hk he h => by
    rw [he]; exact h.wrMono' 1 _ rfl (by omega)
  rcases hci with rfl | rfl | rfl | rfl | rfl | rfl | rfl | rfl | rfl | rfl | rfl | rfl | rfl | rfl | rfl
  · (try simp only [nfD] at h); have F := h.facts; (try simp only [nfF, emp_fact, rds_fact, frm_fact, tab_fact] at F); try simp -dsimp only [↓vcA, vcB, vcD, ↓pureT_lenS, ↓iteT, ↓iteF, cond_true, cond_false, eq_self, argE, Env.get, Env.push, ev, evs, evo, retV, Value.cells, Value.oneCell', setR, overR, fillL, zl, places, allSizes, heldC, ne_eq, Int.reduceLE, Int.reduceLT, Int.reduceEq, Int.reduceNe, Int.reduceToNat, Int.cast_ofNat_Int, Nat.reduceMul, Nat.reduceLeDiff, reduceIte, Nat.reduceEqDiff, Nat.reduceAdd, ↓reduceIte, Try.vcT, F, h.cell0, gets, vsD, if_true, if_false, Bool.false_eq_true,  cellsAt, decide_true, decide_false, Bool.not_true, Bool.not_false, beq_self_eq_true]
    repeat ((first | refine Sep.new h ?_ | refine Sep.put 0 h rfl ?_ | refine Sep.put 1 h rfl ?_ | refine Sep.put 2 h rfl ?_ | refine Sep.put 3 h rfl ?_ | refine Sep.put 4 h rfl ?_ | refine Sep.put 5 h rfl ?_ | refine Sep.rnum 1 h rfl (by omega) (by omega) (by omega) ?_ | refine Sep.rpoint 1 h rfl (by omega) (by omega) (by omega) (by omega) (by omega) ?_); (clear F; (try clear h); intros; rename_i h; (try simp only [nfD] at h); have F := h.facts; (try simp only [nfF, emp_fact, rds_fact, frm_fact, tab_fact] at F); try simp -dsimp only [↓vcA, vcB, vcD, ↓pureT_lenS, ↓iteT, ↓iteF, cond_true, cond_false, eq_self, argE, Env.get, Env.push, ev, evs, evo, retV, Value.cells, Value.oneCell', setR, overR, fillL, zl, places, allSizes, heldC, ne_eq, Int.reduceLE, Int.reduceLT, Int.reduceEq, Int.reduceNe, Int.reduceToNat, Int.cast_ofNat_Int, Nat.reduceMul, Nat.reduceLeDiff, reduceIte, Nat.reduceEqDiff, Nat.reduceAdd, ↓reduceIte, Try.vcT, F, h.cell0, gets, vsD, if_true, if_false, Bool.false_eq_true, cellsAt, decide_true, decide_false, Bool.not_true, Bool.not_false, beq_self_eq_true, ei]))
    refine ⟨_, ?_, i + 1, by omega, rfl, rfl, fin2 ?_ hfold h⟩
    · omega
    · omega
  · (try simp only [nfD] at h); have F := h.facts; (try simp only [nfF, emp_fact, rds_fact, frm_fact, tab_fact] at F); try simp -dsimp only [↓vcA, vcB, vcD, ↓pureT_lenS, ↓iteT, ↓iteF, cond_true, cond_false, eq_self, argE, Env.get, Env.push, ev, evs, evo, retV, Value.cells, Value.oneCell', setR, overR, fillL, zl, places, allSizes, heldC, ne_eq, Int.reduceLE, Int.reduceLT, Int.reduceEq, Int.reduceNe, Int.reduceToNat, Int.cast_ofNat_Int, Nat.reduceMul, Nat.reduceLeDiff, reduceIte, Nat.reduceEqDiff, Nat.reduceAdd, ↓reduceIte, Try.vcT, F, h.cell0, gets, vsD, if_true, if_false, Bool.false_eq_true,  cellsAt, decide_true, decide_false, Bool.not_true, Bool.not_false, beq_self_eq_true]
    repeat ((first | refine Sep.new h ?_ | refine Sep.put 0 h rfl ?_ | refine Sep.put 1 h rfl ?_ | refine Sep.put 2 h rfl ?_ | refine Sep.put 3 h rfl ?_ | refine Sep.put 4 h rfl ?_ | refine Sep.put 5 h rfl ?_ | refine Sep.rnum 1 h rfl (by omega) (by omega) (by omega) ?_ | refine Sep.rpoint 1 h rfl (by omega) (by omega) (by omega) (by omega) (by omega) ?_); (clear F; (try clear h); intros; rename_i h; (try simp only [nfD] at h); have F := h.facts; (try simp only [nfF, emp_fact, rds_fact, frm_fact, tab_fact] at F); try simp -dsimp only [↓vcA, vcB, vcD, ↓pureT_lenS, ↓iteT, ↓iteF, cond_true, cond_false, eq_self, argE, Env.get, Env.push, ev, evs, evo, retV, Value.cells, Value.oneCell', setR, overR, fillL, zl, places, allSizes, heldC, ne_eq, Int.reduceLE, Int.reduceLT, Int.reduceEq, Int.reduceNe, Int.reduceToNat, Int.cast_ofNat_Int, Nat.reduceMul, Nat.reduceLeDiff, reduceIte, Nat.reduceEqDiff, Nat.reduceAdd, ↓reduceIte, Try.vcT, F, h.cell0, gets, vsD, if_true, if_false, Bool.false_eq_true, cellsAt, decide_true, decide_false, Bool.not_true, Bool.not_false, beq_self_eq_true, ei]))
    refine ⟨_, ?_, i + 1, by omega, rfl, rfl, fin2 ?_ hfold h⟩
    · omega
    · omega
  · (try simp only [nfD] at h); have F := h.facts; (try simp only [nfF, emp_fact, rds_fact, frm_fact, tab_fact] at F); try simp -dsimp only [↓vcA, vcB, vcD, ↓pureT_lenS, ↓iteT, ↓iteF, cond_true, cond_false, eq_self, argE, Env.get, Env.push, ev, evs, evo, retV, Value.cells, Value.oneCell', setR, overR, fillL, zl, places, allSizes, heldC, ne_eq, Int.reduceLE, Int.reduceLT, Int.reduceEq, Int.reduceNe, Int.reduceToNat, Int.cast_ofNat_Int, Nat.reduceMul, Nat.reduceLeDiff, reduceIte, Nat.reduceEqDiff, Nat.reduceAdd, ↓reduceIte, Try.vcT, F, h.cell0, gets, vsD, if_true, if_false, Bool.false_eq_true,  cellsAt, decide_true, decide_false, Bool.not_true, Bool.not_false, beq_self_eq_true]
    repeat ((first | refine Sep.new h ?_ | refine Sep.put 0 h rfl ?_ | refine Sep.put 1 h rfl ?_ | refine Sep.put 2 h rfl ?_ | refine Sep.put 3 h rfl ?_ | refine Sep.put 4 h rfl ?_ | refine Sep.put 5 h rfl ?_ | refine Sep.rtri 1 h rfl (by omega) (by simp only [Ok64, List.forall_mem_cons, List.not_mem_nil, false_implies, implies_true, and_true]; omega) ?_); (clear F; (try clear h); intros; rename_i h; (try simp only [nfD] at h); have F := h.facts; (try simp only [nfF, emp_fact, rds_fact, frm_fact, tab_fact] at F); try simp -dsimp only [↓vcA, vcB, vcD, ↓pureT_lenS, ↓iteT, ↓iteF, cond_true, cond_false, eq_self, argE, Env.get, Env.push, ev, evs, evo, retV, Value.cells, Value.oneCell', setR, overR, fillL, zl, places, allSizes, heldC, ne_eq, Int.reduceLE, Int.reduceLT, Int.reduceEq, Int.reduceNe, Int.reduceToNat, Int.cast_ofNat_Int, Nat.reduceMul, Nat.reduceLeDiff, reduceIte, Nat.reduceEqDiff, Nat.reduceAdd, ↓reduceIte, Try.vcT, F, h.cell0, gets, vsD, if_true, if_false, Bool.false_eq_true, cellsAt]))
    obtain ⟨a9, c9, h, hlen9⟩ := h.wrOpen 1 rfl
    have hfold : (L.take (i + 1)).foldl (putR ⟨z0, z1, z2, z3, z4, z5, z6, z7, z8, z9, z10, z11, z12, z13, z14, z15, z16, z17, z18, z19, z20, z21, z22, z23, z24, z25⟩) E0 = (E.tri z5 z6 z7 z8 z9 z10).spoil (!(T3.valid ⟨z5, z6, z7, z8, z9, z10⟩)) := hfold
    generalize E.tri z5 z6 z7 z8 z9 z10 = E1 at *
    obtain ⟨El, Eb⟩ := E1
    cases Eb with
    | true =>
      (try simp only [nfD] at h); have F := h.facts; (try simp only [nfF, emp_fact, rds_fact, frm_fact, tab_fact] at F); try simp -dsimp only [↓vcA, vcB, vcD, ↓pureT_lenS, ↓iteT, ↓iteF, cond_true, cond_false, eq_self, argE, Env.get, Env.push, ev, evs, evo, retV, Value.cells, Value.oneCell', setR, overR, fillL, zl, places, allSizes, heldC, ne_eq, Int.reduceLE, Int.reduceLT, Int.reduceEq, Int.reduceNe, Int.reduceToNat, Int.cast_ofNat_Int, Nat.reduceMul, Nat.reduceLeDiff, reduceIte, Nat.reduceEqDiff, Nat.reduceAdd, ↓reduceIte, Try.vcT, F, h.cell0, gets, vsD, if_true, if_false, Bool.false_eq_true,  cellsAt, ei, decide_true, decide_false, Bool.not_true, Bool.not_false, beq_self_eq_true]
      repeat ((first | refine Sep.new h ?_ | refine Sep.put 0 h rfl ?_ | refine Sep.put 1 h rfl ?_ | refine Sep.put 2 h rfl ?_ | refine Sep.put 3 h rfl ?_ | refine Sep.put 4 h rfl ?_ | refine Sep.put 5 h rfl ?_); (clear F; (try clear h); intros; rename_i h; (try simp only [nfD] at h); have F := h.facts; (try simp only [nfF, emp_fact, rds_fact, frm_fact, tab_fact] at F); try simp -dsimp only [↓vcA, vcB, vcD, ↓pureT_lenS, ↓iteT, ↓iteF, cond_true, cond_false, eq_self, argE, Env.get, Env.push, ev, evs, evo, retV, Value.cells, Value.oneCell', setR, overR, fillL, zl, places, allSizes, heldC, ne_eq, Int.reduceLE, Int.reduceLT, Int.reduceEq, Int.reduceNe, Int.reduceToNat, Int.cast_ofNat_Int, Nat.reduceMul, Nat.reduceLeDiff, reduceIte, Nat.reduceEqDiff, Nat.reduceAdd, ↓reduceIte, Try.vcT, F, h.cell0, gets, vsD, if_true, if_false, Bool.false_eq_true, cellsAt, ei]))
      have h := ((h.wrClose (l := El) 1 2 (8 + 100 * i + 48) rfl rfl (by decide) hlen9).erase 2)
      refine ⟨_, ?_, i + 1, by omega, rfl, rfl, fin2 ?_ hfold h⟩
      · omega
      · omega
    | false =>
      (try simp only [nfD] at h); have F := h.facts; (try simp only [nfF, emp_fact, rds_fact, frm_fact, tab_fact] at F); try simp -dsimp only [↓vcA, vcB, vcD, ↓pureT_lenS, ↓iteT, ↓iteF, cond_true, cond_false, eq_self, argE, Env.get, Env.push, ev, evs, evo, retV, Value.cells, Value.oneCell', setR, overR, fillL, zl, places, allSizes, heldC, ne_eq, Int.reduceLE, Int.reduceLT, Int.reduceEq, Int.reduceNe, Int.reduceToNat, Int.cast_ofNat_Int, Nat.reduceMul, Nat.reduceLeDiff, reduceIte, Nat.reduceEqDiff, Nat.reduceAdd, ↓reduceIte, Try.vcT, F, h.cell0, gets, vsD, if_true, if_false, Bool.false_eq_true,  cellsAt, ei, decide_true, decide_false, Bool.not_true, Bool.not_false, beq_self_eq_true]
      repeat ((first | refine Sep.new h ?_ | refine Sep.put 0 h rfl ?_ | refine Sep.put 1 h rfl ?_ | refine Sep.put 2 h rfl ?_ | refine Sep.put 3 h rfl ?_ | refine Sep.put 4 h rfl ?_ | refine Sep.put 5 h rfl ?_ | refine Sep.callp h (validTri ⟨z5, z6, z7, z8, z9, z10⟩ _) ?_); (clear F; (try clear h); intros; rename_i h; (try simp only [nfD] at h); have F := h.facts; (try simp only [nfF, emp_fact, rds_fact, frm_fact, tab_fact] at F); try simp -dsimp only [↓vcA, vcB, vcD, ↓pureT_lenS, ↓iteT, ↓iteF, cond_true, cond_false, eq_self, argE, Env.get, Env.push, ev, evs, evo, retV, Value.cells, Value.oneCell', setR, overR, fillL, zl, places, allSizes, heldC, ne_eq, Int.reduceLE, Int.reduceLT, Int.reduceEq, Int.reduceNe, Int.reduceToNat, Int.cast_ofNat_Int, Nat.reduceMul, Nat.reduceLeDiff, reduceIte, Nat.reduceEqDiff, Nat.reduceAdd, ↓reduceIte, Try.vcT, F, h.cell0, gets, vsD, if_true, if_false, Bool.false_eq_true, cellsAt, ei]))
      have h := ((h.wrClose (l := El) 1 2 (8 + 100 * i + 48) rfl rfl (by decide) hlen9).erase 2)
      refine ⟨_, ?_, i + 1, by omega, rfl, rfl, fin2 ?_ hfold h⟩
      · omega
      · omega
  · (try simp only [nfD] at h); have F := h.facts; (try simp only [nfF, emp_fact, rds_fact, frm_fact, tab_fact] at F); try simp -dsimp only [↓vcA, vcB, vcD, ↓pureT_lenS, ↓iteT, ↓iteF, cond_true, cond_false, eq_self, argE, Env.get, Env.push, ev, evs, evo, retV, Value.cells, Value.oneCell', setR, overR, fillL, zl, places, allSizes, heldC, ne_eq, Int.reduceLE, Int.reduceLT, Int.reduceEq, Int.reduceNe, Int.reduceToNat, Int.cast_ofNat_Int, Nat.reduceMul, Nat.reduceLeDiff, reduceIte, Nat.reduceEqDiff, Nat.reduceAdd, ↓reduceIte, Try.vcT, F, h.cell0, gets, vsD, if_true, if_false, Bool.false_eq_true,  cellsAt, decide_true, decide_false, Bool.not_true, Bool.not_false, beq_self_eq_true]
    repeat ((first | refine Sep.new h ?_ | refine Sep.put 0 h rfl ?_ | refine Sep.put 1 h rfl ?_ | refine Sep.put 2 h rfl ?_ | refine Sep.put 3 h rfl ?_ | refine Sep.put 4 h rfl ?_ | refine Sep.put 5 h rfl ?_ | refine Sep.rnum 1 h rfl (by omega) (by omega) (by omega) ?_ | refine Sep.rpoint 1 h rfl (by omega) (by omega) (by omega) (by omega) (by omega) ?_); (clear F; (try clear h); intros; rename_i h; (try simp only [nfD] at h); have F := h.facts; (try simp only [nfF, emp_fact, rds_fact, frm_fact, tab_fact] at F); try simp -dsimp only [↓vcA, vcB, vcD, ↓pureT_lenS, ↓iteT, ↓iteF, cond_true, cond_false, eq_self, argE, Env.get, Env.push, ev, evs, evo, retV, Value.cells, Value.oneCell', setR, overR, fillL, zl, places, allSizes, heldC, ne_eq, Int.reduceLE, Int.reduceLT, Int.reduceEq, Int.reduceNe, Int.reduceToNat, Int.cast_ofNat_Int, Nat.reduceMul, Nat.reduceLeDiff, reduceIte, Nat.reduceEqDiff, Nat.reduceAdd, ↓reduceIte, Try.vcT, F, h.cell0, gets, vsD, if_true, if_false, Bool.false_eq_true, cellsAt, decide_true, decide_false, Bool.not_true, Bool.not_false, beq_self_eq_true, ei]))
    refine ⟨_, ?_, i + 1, by omega, rfl, rfl, fin2 ?_ hfold h⟩
    · omega
    · omega
  · (try simp only [nfD] at h); have F := h.facts; (try simp only [nfF, emp_fact, rds_fact, frm_fact, tab_fact] at F); try simp -dsimp only [↓vcA, vcB, vcD, ↓pureT_lenS, ↓iteT, ↓iteF, cond_true, cond_false, eq_self, argE, Env.get, Env.push, ev, evs, evo, retV, Value.cells, Value.oneCell', setR, overR, fillL, zl, places, allSizes, heldC, ne_eq, Int.reduceLE, Int.reduceLT, Int.reduceEq, Int.reduceNe, Int.reduceToNat, Int.cast_ofNat_Int, Nat.reduceMul, Nat.reduceLeDiff, reduceIte, Nat.reduceEqDiff, Nat.reduceAdd, ↓reduceIte, Try.vcT, F, h.cell0, gets, vsD, if_true, if_false, Bool.false_eq_true,  cellsAt, decide_true, decide_false, Bool.not_true, Bool.not_false, beq_self_eq_true]
    repeat ((first | refine Sep.new h ?_ | refine Sep.put 0 h rfl ?_ | refine Sep.put 1 h rfl ?_ | refine Sep.put 2 h rfl ?_ | refine Sep.put 3 h rfl ?_ | refine Sep.put 4 h rfl ?_ | refine Sep.put 5 h rfl ?_ | refine Sep.rnum 1 h rfl (by omega) (by omega) (by omega) ?_ | refine Sep.rpoint 1 h rfl (by omega) (by omega) (by omega) (by omega) (by omega) ?_); (clear F; (try clear h); intros; rename_i h; (try simp only [nfD] at h); have F := h.facts; (try simp only [nfF, emp_fact, rds_fact, frm_fact, tab_fact] at F); try simp -dsimp only [↓vcA, vcB, vcD, ↓pureT_lenS, ↓iteT, ↓iteF, cond_true, cond_false, eq_self, argE, Env.get, Env.push, ev, evs, evo, retV, Value.cells, Value.oneCell', setR, overR, fillL, zl, places, allSizes, heldC, ne_eq, Int.reduceLE, Int.reduceLT, Int.reduceEq, Int.reduceNe, Int.reduceToNat, Int.cast_ofNat_Int, Nat.reduceMul, Nat.reduceLeDiff, reduceIte, Nat.reduceEqDiff, Nat.reduceAdd, ↓reduceIte, Try.vcT, F, h.cell0, gets, vsD, if_true, if_false, Bool.false_eq_true, cellsAt, decide_true, decide_false, Bool.not_true, Bool.not_false, beq_self_eq_true, ei]))
    refine ⟨_, ?_, i + 1, by omega, rfl, rfl, fin2 ?_ hfold h⟩
    · omega
    · omega
  · (try simp only [nfD] at h); have F := h.facts; (try simp only [nfF, emp_fact, rds_fact, frm_fact, tab_fact] at F); try simp -dsimp only [↓vcA, vcB, vcD, ↓pureT_lenS, ↓iteT, ↓iteF, cond_true, cond_false, eq_self, argE, Env.get, Env.push, ev, evs, evo, retV, Value.cells, Value.oneCell', setR, overR, fillL, zl, places, allSizes, heldC, ne_eq, Int.reduceLE, Int.reduceLT, Int.reduceEq, Int.reduceNe, Int.reduceToNat, Int.cast_ofNat_Int, Nat.reduceMul, Nat.reduceLeDiff, reduceIte, Nat.reduceEqDiff, Nat.reduceAdd, ↓reduceIte, Try.vcT, F, h.cell0, gets, vsD, if_true, if_false, Bool.false_eq_true,  cellsAt, decide_true, decide_false, Bool.not_true, Bool.not_false, beq_self_eq_true]
    repeat ((first | refine Sep.new h ?_ | refine Sep.put 0 h rfl ?_ | refine Sep.put 1 h rfl ?_ | refine Sep.put 2 h rfl ?_ | refine Sep.put 3 h rfl ?_ | refine Sep.put 4 h rfl ?_ | refine Sep.put 5 h rfl ?_ | refine Sep.rnum 1 h rfl (by omega) (by omega) (by omega) ?_ | refine Sep.rpoint 1 h rfl (by omega) (by omega) (by omega) (by omega) (by omega) ?_); (clear F; (try clear h); intros; rename_i h; (try simp only [nfD] at h); have F := h.facts; (try simp only [nfF, emp_fact, rds_fact, frm_fact, tab_fact] at F); try simp -dsimp only [↓vcA, vcB, vcD, ↓pureT_lenS, ↓iteT, ↓iteF, cond_true, cond_false, eq_self, argE, Env.get, Env.push, ev, evs, evo, retV, Value.cells, Value.oneCell', setR, overR, fillL, zl, places, allSizes, heldC, ne_eq, Int.reduceLE, Int.reduceLT, Int.reduceEq, Int.reduceNe, Int.reduceToNat, Int.cast_ofNat_Int, Nat.reduceMul, Nat.reduceLeDiff, reduceIte, Nat.reduceEqDiff, Nat.reduceAdd, ↓reduceIte, Try.vcT, F, h.cell0, gets, vsD, if_true, if_false, Bool.false_eq_true, cellsAt, decide_true, decide_false, Bool.not_true, Bool.not_false, beq_self_eq_true, ei]))
    refine ⟨_, ?_, i + 1, by omega, rfl, rfl, fin2 ?_ hfold h⟩
    · omega
    · omega
  · (try simp only [nfD] at h); have F := h.facts; (try simp only [nfF, emp_fact, rds_fact, frm_fact, tab_fact] at F); try simp -dsimp only [↓vcA, vcB, vcD, ↓pureT_lenS, ↓iteT, ↓iteF, cond_true, cond_false, eq_self, argE, Env.get, Env.push, ev, evs, evo, retV, Value.cells, Value.oneCell', setR, overR, fillL, zl, places, allSizes, heldC, ne_eq, Int.reduceLE, Int.reduceLT, Int.reduceEq, Int.reduceNe, Int.reduceToNat, Int.cast_ofNat_Int, Nat.reduceMul, Nat.reduceLeDiff, reduceIte, Nat.reduceEqDiff, Nat.reduceAdd, ↓reduceIte, Try.vcT, F, h.cell0, gets, vsD, if_true, if_false, Bool.false_eq_true,  cellsAt, decide_true, decide_false, Bool.not_true, Bool.not_false, beq_self_eq_true]
    repeat ((first | refine Sep.new h ?_ | refine Sep.put 0 h rfl ?_ | refine Sep.put 1 h rfl ?_ | refine Sep.put 2 h rfl ?_ | refine Sep.put 3 h rfl ?_ | refine Sep.put 4 h rfl ?_ | refine Sep.put 5 h rfl ?_ | refine Sep.rnum 1 h rfl (by omega) (by omega) (by omega) ?_ | refine Sep.rpoint 1 h rfl (by omega) (by omega) (by omega) (by omega) (by omega) ?_); (clear F; (try clear h); intros; rename_i h; (try simp only [nfD] at h); have F := h.facts; (try simp only [nfF, emp_fact, rds_fact, frm_fact, tab_fact] at F); try simp -dsimp only [↓vcA, vcB, vcD, ↓pureT_lenS, ↓iteT, ↓iteF, cond_true, cond_false, eq_self, argE, Env.get, Env.push, ev, evs, evo, retV, Value.cells, Value.oneCell', setR, overR, fillL, zl, places, allSizes, heldC, ne_eq, Int.reduceLE, Int.reduceLT, Int.reduceEq, Int.reduceNe, Int.reduceToNat, Int.cast_ofNat_Int, Nat.reduceMul, Nat.reduceLeDiff, reduceIte, Nat.reduceEqDiff, Nat.reduceAdd, ↓reduceIte, Try.vcT, F, h.cell0, gets, vsD, if_true, if_false, Bool.false_eq_true, cellsAt, decide_true, decide_false, Bool.not_true, Bool.not_false, beq_self_eq_true, ei]))
    refine ⟨_, ?_, i + 1, by omega, rfl, rfl, fin2 ?_ hfold h⟩
    · omega
    · omega
  · (try simp only [nfD] at h); have F := h.facts; (try simp only [nfF, emp_fact, rds_fact, frm_fact, tab_fact] at F); try simp -dsimp only [↓vcA, vcB, vcD, ↓pureT_lenS, ↓iteT, ↓iteF, cond_true, cond_false, eq_self, argE, Env.get, Env.push, ev, evs, evo, retV, Value.cells, Value.oneCell', setR, overR, fillL, zl, places, allSizes, heldC, ne_eq, Int.reduceLE, Int.reduceLT, Int.reduceEq, Int.reduceNe, Int.reduceToNat, Int.cast_ofNat_Int, Nat.reduceMul, Nat.reduceLeDiff, reduceIte, Nat.reduceEqDiff, Nat.reduceAdd, ↓reduceIte, Try.vcT, F, h.cell0, gets, vsD, if_true, if_false, Bool.false_eq_true,  cellsAt, decide_true, decide_false, Bool.not_true, Bool.not_false, beq_self_eq_true]
    repeat ((first | refine Sep.new h ?_ | refine Sep.put 0 h rfl ?_ | refine Sep.put 1 h rfl ?_ | refine Sep.put 2 h rfl ?_ | refine Sep.put 3 h rfl ?_ | refine Sep.put 4 h rfl ?_ | refine Sep.put 5 h rfl ?_ | refine Sep.rnum 1 h rfl (by omega) (by omega) (by omega) ?_ | refine Sep.rpoint 1 h rfl (by omega) (by omega) (by omega) (by omega) (by omega) ?_); (clear F; (try clear h); intros; rename_i h; (try simp only [nfD] at h); have F := h.facts; (try simp only [nfF, emp_fact, rds_fact, frm_fact, tab_fact] at F); try simp -dsimp only [↓vcA, vcB, vcD, ↓pureT_lenS, ↓iteT, ↓iteF, cond_true, cond_false, eq_self, argE, Env.get, Env.push, ev, evs, evo, retV, Value.cells, Value.oneCell', setR, overR, fillL, zl, places, allSizes, heldC, ne_eq, Int.reduceLE, Int.reduceLT, Int.reduceEq, Int.reduceNe, Int.reduceToNat, Int.cast_ofNat_Int, Nat.reduceMul, Nat.reduceLeDiff, reduceIte, Nat.reduceEqDiff, Nat.reduceAdd, ↓reduceIte, Try.vcT, F, h.cell0, gets, vsD, if_true, if_false, Bool.false_eq_true, cellsAt, decide_true, decide_false, Bool.not_true, Bool.not_false, beq_self_eq_true, ei]))
    refine ⟨_, ?_, i + 1, by omega, rfl, rfl, fin2 ?_ hfold h⟩
    · omega
    · omega
  · (try simp only [nfD] at h); have F := h.facts; (try simp only [nfF, emp_fact, rds_fact, frm_fact, tab_fact] at F); try simp -dsimp only [↓vcA, vcB, vcD, ↓pureT_lenS, ↓iteT, ↓iteF, cond_true, cond_false, eq_self, argE, Env.get, Env.push, ev, evs, evo, retV, Value.cells, Value.oneCell', setR, overR, fillL, zl, places, allSizes, heldC, ne_eq, Int.reduceLE, Int.reduceLT, Int.reduceEq, Int.reduceNe, Int.reduceToNat, Int.cast_ofNat_Int, Nat.reduceMul, Nat.reduceLeDiff, reduceIte, Nat.reduceEqDiff, Nat.reduceAdd, ↓reduceIte, Try.vcT, F, h.cell0, gets, vsD, if_true, if_false, Bool.false_eq_true,  cellsAt, decide_true, decide_false, Bool.not_true, Bool.not_false, beq_self_eq_true]
    repeat ((first | refine Sep.new h ?_ | refine Sep.put 0 h rfl ?_ | refine Sep.put 1 h rfl ?_ | refine Sep.put 2 h rfl ?_ | refine Sep.put 3 h rfl ?_ | refine Sep.put 4 h rfl ?_ | refine Sep.put 5 h rfl ?_ | refine Sep.rnum 1 h rfl (by omega) (by omega) (by omega) ?_ | refine Sep.rpoint 1 h rfl (by omega) (by omega) (by omega) (by omega) (by omega) ?_); (clear F; (try clear h); intros; rename_i h; (try simp only [nfD] at h); have F := h.facts; (try simp only [nfF, emp_fact, rds_fact, frm_fact, tab_fact] at F); try simp -dsimp only [↓vcA, vcB, vcD, ↓pureT_lenS, ↓iteT, ↓iteF, cond_true, cond_false, eq_self, argE, Env.get, Env.push, ev, evs, evo, retV, Value.cells, Value.oneCell', setR, overR, fillL, zl, places, allSizes, heldC, ne_eq, Int.reduceLE, Int.reduceLT, Int.reduceEq, Int.reduceNe, Int.reduceToNat, Int.cast_ofNat_Int, Nat.reduceMul, Nat.reduceLeDiff, reduceIte, Nat.reduceEqDiff, Nat.reduceAdd, ↓reduceIte, Try.vcT, F, h.cell0, gets, vsD, if_true, if_false, Bool.false_eq_true, cellsAt, decide_true, decide_false, Bool.not_true, Bool.not_false, beq_self_eq_true, ei]))
    refine ⟨_, ?_, i + 1, by omega, rfl, rfl, fin2 ?_ hfold h⟩
    · omega
    · omega
  · (try simp only [nfD] at h); have F := h.facts; (try simp only [nfF, emp_fact, rds_fact, frm_fact, tab_fact] at F); try simp -dsimp only [↓vcA, vcB, vcD, ↓pureT_lenS, ↓iteT, ↓iteF, cond_true, cond_false, eq_self, argE, Env.get, Env.push, ev, evs, evo, retV, Value.cells, Value.oneCell', setR, overR, fillL, zl, places, allSizes, heldC, ne_eq, Int.reduceLE, Int.reduceLT, Int.reduceEq, Int.reduceNe, Int.reduceToNat, Int.cast_ofNat_Int, Nat.reduceMul, Nat.reduceLeDiff, reduceIte, Nat.reduceEqDiff, Nat.reduceAdd, ↓reduceIte, Try.vcT, F, h.cell0, gets, vsD, if_true, if_false, Bool.false_eq_true,  cellsAt, decide_true, decide_false, Bool.not_true, Bool.not_false, beq_self_eq_true]
    repeat ((first | refine Sep.new h ?_ | refine Sep.put 0 h rfl ?_ | refine Sep.put 1 h rfl ?_ | refine Sep.put 2 h rfl ?_ | refine Sep.put 3 h rfl ?_ | refine Sep.put 4 h rfl ?_ | refine Sep.put 5 h rfl ?_ | refine Sep.rnum 1 h rfl (by omega) (by omega) (by omega) ?_ | refine Sep.rpoint 1 h rfl (by omega) (by omega) (by omega) (by omega) (by omega) ?_); (clear F; (try clear h); intros; rename_i h; (try simp only [nfD] at h); have F := h.facts; (try simp only [nfF, emp_fact, rds_fact, frm_fact, tab_fact] at F); try simp -dsimp only [↓vcA, vcB, vcD, ↓pureT_lenS, ↓iteT, ↓iteF, cond_true, cond_false, eq_self, argE, Env.get, Env.push, ev, evs, evo, retV, Value.cells, Value.oneCell', setR, overR, fillL, zl, places, allSizes, heldC, ne_eq, Int.reduceLE, Int.reduceLT, Int.reduceEq, Int.reduceNe, Int.reduceToNat, Int.cast_ofNat_Int, Nat.reduceMul, Nat.reduceLeDiff, reduceIte, Nat.reduceEqDiff, Nat.reduceAdd, ↓reduceIte, Try.vcT, F, h.cell0, gets, vsD, if_true, if_false, Bool.false_eq_true, cellsAt, decide_true, decide_false, Bool.not_true, Bool.not_false, beq_self_eq_true, ei]))
    refine ⟨_, ?_, i + 1, by omega, rfl, rfl, fin2 ?_ hfold h⟩
    · omega
    · omega
  · (try simp only [nfD] at h); have F := h.facts; (try simp only [nfF, emp_fact, rds_fact, frm_fact, tab_fact] at F); try simp -dsimp only [↓vcA, vcB, vcD, ↓pureT_lenS, ↓iteT, ↓iteF, cond_true, cond_false, eq_self, argE, Env.get, Env.push, ev, evs, evo, retV, Value.cells, Value.oneCell', setR, overR, fillL, zl, places, allSizes, heldC, ne_eq, Int.reduceLE, Int.reduceLT, Int.reduceEq, Int.reduceNe, Int.reduceToNat, Int.cast_ofNat_Int, Nat.reduceMul, Nat.reduceLeDiff, reduceIte, Nat.reduceEqDiff, Nat.reduceAdd, ↓reduceIte, Try.vcT, F, h.cell0, gets, vsD, if_true, if_false, Bool.false_eq_true,  cellsAt, decide_true, decide_false, Bool.not_true, Bool.not_false, beq_self_eq_true]
    repeat ((first | refine Sep.new h ?_ | refine Sep.put 0 h rfl ?_ | refine Sep.put 1 h rfl ?_ | refine Sep.put 2 h rfl ?_ | refine Sep.put 3 h rfl ?_ | refine Sep.put 4 h rfl ?_ | refine Sep.put 5 h rfl ?_ | refine Sep.rnum 1 h rfl (by omega) (by omega) (by omega) ?_ | refine Sep.rpoint 1 h rfl (by omega) (by omega) (by omega) (by omega) (by omega) ?_); (clear F; (try clear h); intros; rename_i h; (try simp only [nfD] at h); have F := h.facts; (try simp only [nfF, emp_fact, rds_fact, frm_fact, tab_fact] at F); try simp -dsimp only [↓vcA, vcB, vcD, ↓pureT_lenS, ↓iteT, ↓iteF, cond_true, cond_false, eq_self, argE, Env.get, Env.push, ev, evs, evo, retV, Value.cells, Value.oneCell', setR, overR, fillL, zl, places, allSizes, heldC, ne_eq, Int.reduceLE, Int.reduceLT, Int.reduceEq, Int.reduceNe, Int.reduceToNat, Int.cast_ofNat_Int, Nat.reduceMul, Nat.reduceLeDiff, reduceIte, Nat.reduceEqDiff, Nat.reduceAdd, ↓reduceIte, Try.vcT, F, h.cell0, gets, vsD, if_true, if_false, Bool.false_eq_true, cellsAt, decide_true, decide_false, Bool.not_true, Bool.not_false, beq_self_eq_true, ei]))
    refine ⟨_, ?_, i + 1, by omega, rfl, rfl, fin2 ?_ hfold h⟩
    · omega
    · omega
  · (try simp only [nfD] at h); have F := h.facts; (try simp only [nfF, emp_fact, rds_fact, frm_fact, tab_fact] at F); try simp -dsimp only [↓vcA, vcB, vcD, ↓pureT_lenS, ↓iteT, ↓iteF, cond_true, cond_false, eq_self, argE, Env.get, Env.push, ev, evs, evo, retV, Value.cells, Value.oneCell', setR, overR, fillL, zl, places, allSizes, heldC, ne_eq, Int.reduceLE, Int.reduceLT, Int.reduceEq, Int.reduceNe, Int.reduceToNat, Int.cast_ofNat_Int, Nat.reduceMul, Nat.reduceLeDiff, reduceIte, Nat.reduceEqDiff, Nat.reduceAdd, ↓reduceIte, Try.vcT, F, h.cell0, gets, vsD, if_true, if_false, Bool.false_eq_true,  cellsAt, decide_true, decide_false, Bool.not_true, Bool.not_false, beq_self_eq_true]
    repeat ((first | refine Sep.new h ?_ | refine Sep.put 0 h rfl ?_ | refine Sep.put 1 h rfl ?_ | refine Sep.put 2 h rfl ?_ | refine Sep.put 3 h rfl ?_ | refine Sep.put 4 h rfl ?_ | refine Sep.put 5 h rfl ?_ | refine Sep.rnum 1 h rfl (by omega) (by omega) (by omega) ?_ | refine Sep.rpoint 1 h rfl (by omega) (by omega) (by omega) (by omega) (by omega) ?_); (clear F; (try clear h); intros; rename_i h; (try simp only [nfD] at h); have F := h.facts; (try simp only [nfF, emp_fact, rds_fact, frm_fact, tab_fact] at F); try simp -dsimp only [↓vcA, vcB, vcD, ↓pureT_lenS, ↓iteT, ↓iteF, cond_true, cond_false, eq_self, argE, Env.get, Env.push, ev, evs, evo, retV, Value.cells, Value.oneCell', setR, overR, fillL, zl, places, allSizes, heldC, ne_eq, Int.reduceLE, Int.reduceLT, Int.reduceEq, Int.reduceNe, Int.reduceToNat, Int.cast_ofNat_Int, Nat.reduceMul, Nat.reduceLeDiff, reduceIte, Nat.reduceEqDiff, Nat.reduceAdd, ↓reduceIte, Try.vcT, F, h.cell0, gets, vsD, if_true, if_false, Bool.false_eq_true, cellsAt, decide_true, decide_false, Bool.not_true, Bool.not_false, beq_self_eq_true, ei]))
    refine ⟨_, ?_, i + 1, by omega, rfl, rfl, fin2 ?_ hfold h⟩
    · omega
    · omega
  · (try simp only [nfD] at h); have F := h.facts; (try simp only [nfF, emp_fact, rds_fact, frm_fact, tab_fact] at F); try simp -dsimp only [↓vcA, vcB, vcD, ↓pureT_lenS, ↓iteT, ↓iteF, cond_true, cond_false, eq_self, argE, Env.get, Env.push, ev, evs, evo, retV, Value.cells, Value.oneCell', setR, overR, fillL, zl, places, allSizes, heldC, ne_eq, Int.reduceLE, Int.reduceLT, Int.reduceEq, Int.reduceNe, Int.reduceToNat, Int.cast_ofNat_Int, Nat.reduceMul, Nat.reduceLeDiff, reduceIte, Nat.reduceEqDiff, Nat.reduceAdd, ↓reduceIte, Try.vcT, F, h.cell0, gets, vsD, if_true, if_false, Bool.false_eq_true,  cellsAt, decide_true, decide_false, Bool.not_true, Bool.not_false, beq_self_eq_true]
    repeat ((first | refine Sep.new h ?_ | refine Sep.put 0 h rfl ?_ | refine Sep.put 1 h rfl ?_ | refine Sep.put 2 h rfl ?_ | refine Sep.put 3 h rfl ?_ | refine Sep.put 4 h rfl ?_ | refine Sep.put 5 h rfl ?_ | refine Sep.rnum 1 h rfl (by omega) (by omega) (by omega) ?_ | refine Sep.rpoint 1 h rfl (by omega) (by omega) (by omega) (by omega) (by omega) ?_); (clear F; (try clear h); intros; rename_i h; (try simp only [nfD] at h); have F := h.facts; (try simp only [nfF, emp_fact, rds_fact, frm_fact, tab_fact] at F); try simp -dsimp only [↓vcA, vcB, vcD, ↓pureT_lenS, ↓iteT, ↓iteF, cond_true, cond_false, eq_self, argE, Env.get, Env.push, ev, evs, evo, retV, Value.cells, Value.oneCell', setR, overR, fillL, zl, places, allSizes, heldC, ne_eq, Int.reduceLE, Int.reduceLT, Int.reduceEq, Int.reduceNe, Int.reduceToNat, Int.cast_ofNat_Int, Nat.reduceMul, Nat.reduceLeDiff, reduceIte, Nat.reduceEqDiff, Nat.reduceAdd, ↓reduceIte, Try.vcT, F, h.cell0, gets, vsD, if_true, if_false, Bool.false_eq_true, cellsAt, decide_true, decide_false, Bool.not_true, Bool.not_false, beq_self_eq_true, ei]))
    refine ⟨_, ?_, i + 1, by omega, rfl, rfl, fin2 ?_ hfold h⟩
    · omega
    · omega
  · (try simp only [nfD] at h); have F := h.facts; (try simp only [nfF, emp_fact, rds_fact, frm_fact, tab_fact] at F); try simp -dsimp only [↓vcA, vcB, vcD, ↓pureT_lenS, ↓iteT, ↓iteF, cond_true, cond_false, eq_self, argE, Env.get, Env.push, ev, evs, evo, retV, Value.cells, Value.oneCell', setR, overR, fillL, zl, places, allSizes, heldC, ne_eq, Int.reduceLE, Int.reduceLT, Int.reduceEq, Int.reduceNe, Int.reduceToNat, Int.cast_ofNat_Int, Nat.reduceMul, Nat.reduceLeDiff, reduceIte, Nat.reduceEqDiff, Nat.reduceAdd, ↓reduceIte, Try.vcT, F, h.cell0, gets, vsD, if_true, if_false, Bool.false_eq_true,  cellsAt, decide_true, decide_false, Bool.not_true, Bool.not_false, beq_self_eq_true]
    repeat ((first | refine Sep.new h ?_ | refine Sep.put 0 h rfl ?_ | refine Sep.put 1 h rfl ?_ | refine Sep.put 2 h rfl ?_ | refine Sep.put 3 h rfl ?_ | refine Sep.put 4 h rfl ?_ | refine Sep.put 5 h rfl ?_ | refine Sep.rnum 1 h rfl (by omega) (by omega) (by omega) ?_ | refine Sep.rpoint 1 h rfl (by omega) (by omega) (by omega) (by omega) (by omega) ?_); (clear F; (try clear h); intros; rename_i h; (try simp only [nfD] at h); have F := h.facts; (try simp only [nfF, emp_fact, rds_fact, frm_fact, tab_fact] at F); try simp -dsimp only [↓vcA, vcB, vcD, ↓pureT_lenS, ↓iteT, ↓iteF, cond_true, cond_false, eq_self, argE, Env.get, Env.push, ev, evs, evo, retV, Value.cells, Value.oneCell', setR, overR, fillL, zl, places, allSizes, heldC, ne_eq, Int.reduceLE, Int.reduceLT, Int.reduceEq, Int.reduceNe, Int.reduceToNat, Int.cast_ofNat_Int, Nat.reduceMul, Nat.reduceLeDiff, reduceIte, Nat.reduceEqDiff, Nat.reduceAdd, ↓reduceIte, Try.vcT, F, h.cell0, gets, vsD, if_true, if_false, Bool.false_eq_true, cellsAt, decide_true, decide_false, Bool.not_true, Bool.not_false, beq_self_eq_true, ei]))
    refine ⟨_, ?_, i + 1, by omega, rfl, rfl, fin2 ?_ hfold h⟩
    · omega
    · omega
  · (try simp only [nfD] at h); have F := h.facts; (try simp only [nfF, emp_fact, rds_fact, frm_fact, tab_fact] at F); try simp -dsimp only [↓vcA, vcB, vcD, ↓pureT_lenS, ↓iteT, ↓iteF, cond_true, cond_false, eq_self, argE, Env.get, Env.push, ev, evs, evo, retV, Value.cells, Value.oneCell', setR, overR, fillL, zl, places, allSizes, heldC, ne_eq, Int.reduceLE, Int.reduceLT, Int.reduceEq, Int.reduceNe, Int.reduceToNat, Int.cast_ofNat_Int, Nat.reduceMul, Nat.reduceLeDiff, reduceIte, Nat.reduceEqDiff, Nat.reduceAdd, ↓reduceIte, Try.vcT, F, h.cell0, gets, vsD, if_true, if_false, Bool.false_eq_true,  cellsAt, decide_true, decide_false, Bool.not_true, Bool.not_false, beq_self_eq_true]
    repeat ((first | refine Sep.new h ?_ | refine Sep.put 0 h rfl ?_ | refine Sep.put 1 h rfl ?_ | refine Sep.put 2 h rfl ?_ | refine Sep.put 3 h rfl ?_ | refine Sep.put 4 h rfl ?_ | refine Sep.put 5 h rfl ?_ | refine Sep.rnum 1 h rfl (by omega) (by omega) (by omega) ?_ | refine Sep.rpoint 1 h rfl (by omega) (by omega) (by omega) (by omega) (by omega) ?_); (clear F; (try clear h); intros; rename_i h; (try simp only [nfD] at h); have F := h.facts; (try simp only [nfF, emp_fact, rds_fact, frm_fact, tab_fact] at F); try simp -dsimp only [↓vcA, vcB, vcD, ↓pureT_lenS, ↓iteT, ↓iteF, cond_true, cond_false, eq_self, argE, Env.get, Env.push, ev, evs, evo, retV, Value.cells, Value.oneCell', setR, overR, fillL, zl, places, allSizes, heldC, ne_eq, Int.reduceLE, Int.reduceLT, Int.reduceEq, Int.reduceNe, Int.reduceToNat, Int.cast_ofNat_Int, Nat.reduceMul, Nat.reduceLeDiff, reduceIte, Nat.reduceEqDiff, Nat.reduceAdd, ↓reduceIte, Try.vcT, F, h.cell0, gets, vsD, if_true, if_false, Bool.false_eq_true, cellsAt, decide_true, decide_false, Bool.not_true, Bool.not_false, beq_self_eq_true, ei]))
    refine ⟨_, ?_, i + 1, by omega, rfl, rfl, fin2 ?_ hfold h⟩
    · omega
    · omega
end Go.Proofs.Ytnhgjgoglmadnaa
namespace Go.Proofs.Ytnhgjgoglmadnaa
open Go.RowKit
set_option linter.unusedVariables false

def Stp (k : Nat) (s s' : W8) : Prop := (Byt s.l → Byt s'.l) ∧ s'.l.length ≤ s.l.length + k ∧ (s.bad = true → s'.bad = true)
theorem Stp.refl (s : W8) : Stp 0 s s := ⟨id, Nat.le_refl _, id⟩
theorem Stp.trans {j k : Nat} {s t u : W8} (h : Stp j s t) (g : Stp k t u) : Stp (j + k) s u := ⟨fun b => g.1 (h.1 b), by have := h.2.1; have := g.2.1; omega, fun b => g.2.2 (h.2.2 b)⟩
theorem Stp.mono {j k : Nat} {s t : W8} (h : Stp j s t) (hk : j ≤ k) : Stp k s t := ⟨h.1, by have := h.2.1; omega, h.2.2⟩
theorem Stp.num (s : W8) (n k : Int) : Stp 8 s (s.num n k) := by
  unfold W8.num
  split
  · rename_i h
    simp only [fits, decide_eq_true_eq] at h
    exact ⟨fun b => b.append (be_byt _ _), by simp [be_length]; omega, id⟩
  · exact ⟨id, by simp, fun _ => rfl⟩
theorem Stp.pt (s : W8) (x y : Int) : Stp 16 s (s.pt x y) := (Stp.num s x 3).trans (Stp.num _ y 3)
theorem Stp.tri (s : W8) (ax ay bx by' cx cy : Int) : Stp 48 s (s.tri ax ay bx by' cx cy) := ((Stp.pt s ax ay).trans (Stp.pt _ bx by')).trans (Stp.pt _ cx cy)
theorem Stp.raw (s : W8) {xs : List Int} (h : Byt xs) : Stp xs.length s (s.raw xs) := ⟨fun b => b.append h, by simp [W8.raw], id⟩

theorem Stp.wP (s : W8) : ∀ x, Stp 16 s (wP s x)
  | [a0, a1] => (Stp.pt s a0 a1)
  | [] => (Stp.refl s).mono (by omega)
  | [_] => (Stp.refl s).mono (by omega)
  | _ :: _ :: _ :: _ => (Stp.refl s).mono (by omega)
theorem Stp.wW (s : W8) : ∀ x, Stp 40 s (wW s x)
  | [a0, a1, a2, a3, a4] => (((Stp.pt s a0 a1).trans (Stp.pt _ a2 a3)).trans (Stp.num _ _ _))
  | [] => (Stp.refl s).mono (by omega)
  | [_] => (Stp.refl s).mono (by omega)
  | [_, _] => (Stp.refl s).mono (by omega)
  | [_, _, _] => (Stp.refl s).mono (by omega)
  | [_, _, _, _] => (Stp.refl s).mono (by omega)
  | _ :: _ :: _ :: _ :: _ :: _ :: _ => (Stp.refl s).mono (by omega)
theorem Stp.wPa (s : W8) : ∀ x, Stp 16 s (wPa s x)
  | [a0, a1] => ((Stp.num s _ _).trans (Stp.num _ _ _))
  | [] => (Stp.refl s).mono (by omega)
  | [_] => (Stp.refl s).mono (by omega)
  | _ :: _ :: _ :: _ => (Stp.refl s).mono (by omega)
theorem Stp.wRe (s : W8) : ∀ x, Stp 80 s (wRe s x)
  | [a0, a1, a2, a3, a4, a5, a6, a7, a8, a9] => (((((Stp.num s _ _).trans (Stp.num _ _ _)).trans (Stp.num _ _ _)).trans (Stp.num _ _ _)).trans (Stp.tri _ a4 a5 a6 a7 a8 a9))
  | [] => (Stp.refl s).mono (by omega)
  | [_] => (Stp.refl s).mono (by omega)
  | [_, _] => (Stp.refl s).mono (by omega)
  | [_, _, _] => (Stp.refl s).mono (by omega)
  | [_, _, _, _] => (Stp.refl s).mono (by omega)
  | [_, _, _, _, _] => (Stp.refl s).mono (by omega)
  | [_, _, _, _, _, _] => (Stp.refl s).mono (by omega)
  | [_, _, _, _, _, _, _] => (Stp.refl s).mono (by omega)
  | [_, _, _, _, _, _, _, _] => (Stp.refl s).mono (by omega)
  | [_, _, _, _, _, _, _, _, _] => (Stp.refl s).mono (by omega)
  | _ :: _ :: _ :: _ :: _ :: _ :: _ :: _ :: _ :: _ :: _ :: _ => (Stp.refl s).mono (by omega)
theorem Stp.wCa (s : W8) : ∀ x, Stp 72 s (wCa s x)
  | [a0, a1, a2, a3, a4, a5, a6, a7, a8] => (((((((((Stp.num s _ _).trans (Stp.num _ _ _)).trans (Stp.num _ _ _)).trans (Stp.num _ _ _)).trans (Stp.num _ _ _)).trans (Stp.num _ _ _)).trans (Stp.num _ _ _)).trans (Stp.num _ _ _)).trans (Stp.num _ _ _))
  | [] => (Stp.refl s).mono (by omega)
  | [_] => (Stp.refl s).mono (by omega)
  | [_, _] => (Stp.refl s).mono (by omega)
  | [_, _, _] => (Stp.refl s).mono (by omega)
  | [_, _, _, _] => (Stp.refl s).mono (by omega)
  | [_, _, _, _, _] => (Stp.refl s).mono (by omega)
  | [_, _, _, _, _, _] => (Stp.refl s).mono (by omega)
  | [_, _, _, _, _, _, _] => (Stp.refl s).mono (by omega)
  | [_, _, _, _, _, _, _, _] => (Stp.refl s).mono (by omega)
  | _ :: _ :: _ :: _ :: _ :: _ :: _ :: _ :: _ :: _ :: _ => (Stp.refl s).mono (by omega)
theorem Stp.wIs (s : W8) : ∀ x, Stp 24 s (wIs s x)
  | [a0, a1, a2] => (((Stp.num s _ _).trans (Stp.num _ _ _)).trans (Stp.num _ _ _))
  | [] => (Stp.refl s).mono (by omega)
  | [_] => (Stp.refl s).mono (by omega)
  | [_, _] => (Stp.refl s).mono (by omega)
  | _ :: _ :: _ :: _ :: _ => (Stp.refl s).mono (by omega)
theorem Stp.wCo (s : W8) : ∀ x, Stp 24 s (wCo s x)
  | [a0, a1, a2] => (((Stp.num s _ _).trans (Stp.num _ _ _)).trans (Stp.num _ _ _))
  | [] => (Stp.refl s).mono (by omega)
  | [_] => (Stp.refl s).mono (by omega)
  | [_, _] => (Stp.refl s).mono (by omega)
  | _ :: _ :: _ :: _ :: _ => (Stp.refl s).mono (by omega)
theorem Stp.list {f : W8 → List Int → W8} {k : Nat} (hf : ∀ s x, Stp k s (f s x)) : ∀ (xs : List (List Int)) (s : W8), Stp (xs.length * k) s (xs.foldl f s)
  | [], s => (Stp.refl s).mono (by omega)
  | x :: xs, s => ((hf s x).trans (Stp.list hf xs (f s x))).mono (by simp only [List.length_cons, Nat.succ_mul]; omega)
theorem Stp.encL {f : W8 → List Int → W8} {k : Nat} (hf : ∀ s x, Stp k s (f s x)) (xs : List (List Int)) (s : W8) : Stp (8 + xs.length * k) s (Go.Proofs.Ytnhgjgoglmadnaa.encL f s xs) := (Stp.num s _ _).trans (Stp.list hf xs _)
theorem Stp.wCh (s : W8) {c : Ch} (h : Byt c.b) : Stp (24 + c.b.length) s (Go.Proofs.Ytnhgjgoglmadnaa.wCh s c) := (((Stp.num s _ _).trans (Stp.num _ _ _)).trans (Stp.num _ _ _)).trans (Stp.raw _ h)
end Go.Proofs.Ytnhgjgoglmadnaa
namespace Go.Proofs.Ytnhgjgoglmadnaa
open Go.RowKit
set_option maxRecDepth 100000
set_option linter.unusedSimpArgs false
set_option linter.unusedVariables false
set_option pp.maxSteps 1500
set_option pp.deepTerms.threshold 8

def two (r q : Res) : Res where
  on w A := ∃ B C, r.on w B ∧ q.on w C ∧ (∀ x, B x → ¬ C x) ∧ A = fun x => B x ∨ C x
  rd x := r.rd x ∨ q.rd x
  fact w := r.fact w ∧ q.fact w
  lt := fun ⟨B, C, h1, h2, _, e⟩ x hx => by subst e; exact hx.elim (r.lt h1 x) (q.lt h2 x)
  chg := fun {w w' A} ⟨B, C, h1, h2, h3, e⟩ hs hc => ⟨B, C, r.chg h1 hs fun x hx h => hc x hx (h.elim (fun h => .inl (by rw [e]; exact .inl h)) fun h => .inr (.inl h)), q.chg h2 hs fun x hx h => hc x hx (h.elim (fun h => .inl (by rw [e]; exact .inr h)) fun h => .inr (.inr h)), h3, e⟩
  ok := fun ⟨B, C, h1, h2, _, _⟩ => ⟨r.ok h1, q.ok h2⟩
theorem two_fact (r q : Res) (w : World) : (two r q).fact w = (r.fact w ∧ q.fact w) := (rfl)
theorem Sep.two (i j : Nat) {w0 w : World} {S : Nat → Prop} {M : List Res} {r q : Res} (h : Sep w0 S M w) (hi : (M.set j emp)[i]? = some r) (hj : M[j]? = some q) : Sep w0 S ((M.set j emp).set i (Go.Proofs.Ytnhgjgoglmadnaa.two r q)) w :=
  h.join i j hi hj (fun A B h1 h2 hd => ⟨A, B, h1, h2, hd, rfl⟩) fun x hx => hx
theorem Sep.emp {w0 w : World} {S : Nat → Prop} {M : List Res} (h : Sep w0 S M w) : Sep w0 S (M ++ [Go.Proofs.Ytnhgjgoglmadnaa.emp]) w := h.push (Chg.refl _ _) (A := fun _ => False) rfl (fun _ f => f.elim) (fun _ f => f.elim)
def MapV.zero : MapV := ⟨0, 0, 0, 0, 0, 0, 0, [], [], [], [], [], [], [], []⟩
def MapS.zero : MapS := ⟨.slice none 0 0, .slice none 0 0, .slice none 0 0, .slice none 0 0, .slice none 0 0, .slice none 0 0, .slice none 0 0, .slice none 0 0⟩
theorem bytesEq (u v : Value) (xs ys : List Int) (w : World) (h1 : Rd w u xs) (h2 : Rd w v ys) (b1 : Byt xs) (b2 : Byt ys) : Calls Try.prog 114 [u, v].toArray w (RetK fun r w' => r = .bool (decide (xs = ys)) ∧ Chg (fun _ => False) w w') := by
  refine walk Try.func114 rfl (by kernel_rfl) (by rw [Try.nt114]; simp) ?_
  have es := strOfNums_eq b1 b2
  simp -dsimp only [↓vcA, vcB, vcD, ↓pureT_lenS, ↓iteT, ↓iteF, cond_true, cond_false, eq_self, argE, Env.get, Env.push, ev, evs, evo, retV, Value.cells, Value.oneCell', setR, overR, fillL, zl, places, allSizes, heldC, ne_eq, Int.reduceLE, Int.reduceLT, Int.reduceEq, Int.reduceNe, Int.reduceToNat, Int.cast_ofNat_Int, Nat.reduceMul, Nat.reduceLeDiff, reduceIte, Nat.reduceEqDiff, Nat.reduceAdd, ↓reduceIte, Try.vcT]
  refine str_rule h1 ?_
  simp -dsimp only [↓vcA, vcB, vcD, ↓pureT_lenS, ↓iteT, ↓iteF, cond_true, cond_false, eq_self, argE, Env.get, Env.push, ev, evs, evo, retV, Value.cells, Value.oneCell', setR, overR, fillL, zl, places, allSizes, heldC, ne_eq, Int.reduceLE, Int.reduceLT, Int.reduceEq, Int.reduceNe, Int.reduceToNat, Int.cast_ofNat_Int, Nat.reduceMul, Nat.reduceLeDiff, reduceIte, Nat.reduceEqDiff, Nat.reduceAdd, ↓reduceIte, Try.vcT]
  refine str_rule h2 ?_
  simp -dsimp only [↓vcA, vcB, vcD, ↓pureT_lenS, ↓iteT, ↓iteF, cond_true, cond_false, eq_self, argE, Env.get, Env.push, ev, evs, evo, retV, Value.cells, Value.oneCell', setR, overR, fillL, zl, places, allSizes, heldC, ne_eq, Int.reduceLE, Int.reduceLT, Int.reduceEq, Int.reduceNe, Int.reduceToNat, Int.cast_ofNat_Int, Nat.reduceMul, Nat.reduceLeDiff, reduceIte, Nat.reduceEqDiff, Nat.reduceAdd, ↓reduceIte, Try.vcT, es]
  exact Chg.refl _ _

def decOk (b : List Int) : Bool := (dE ⟨b, false⟩).done && (!(dV ⟨b, false⟩).fails && decide ((dV ⟨b, false⟩).bytes = b))
end Go.Proofs.Ytnhgjgoglmadnaa
namespace Go.Proofs.Ytnhgjgoglmadnaa
open Go.RowKit
set_option maxRecDepth 100000
set_option linter.unusedSimpArgs false
set_option linter.unusedVariables false
set_option pp.maxSteps 1500
set_option pp.deepTerms.threshold 8

def IntsR (w : World) (v : Value) (ns : List Int) : Prop := Row 1 w v ns.length (ns.map (Value.int .i64))
theorem IntsR.shape {w : World} {v : Value} {ns : List Int} (h : IntsR w v ns) : ∃ a c, v = .slice a ns.length c := by
  obtain ⟨a, c, e, _⟩ := Row.shape h
  exact ⟨a, c, e⟩
theorem IntsR.len {w : World} {v : Value} {ns : List Int} (h : IntsR w v ns) : ns.length ≤ maxLen := by
  obtain ⟨a, c, e, h1, h2, _⟩ := Row.shape h
  omega
theorem IntsR.at {w : World} {a : Option Addr} {n c : Nat} {ns : List Int} (h : IntsR w (.slice a n c) ns) {i : Nat} (hi : i < ns.length) :
    ∃ b o, a = some ⟨b, o, none⟩ ∧ w.cell? ⟨b, o + i, none⟩ = some (.int .i64 ns[i]) := by
  obtain ⟨a', c', e, h4, h5, h6, h7⟩ := Row.shape h
  obtain ⟨b, o, rfl, hc⟩ := h7 (by omega)
  injection e with e1 e2 e3
  exact ⟨b, o, e1, hc i _ (by simp [hi])⟩

end Go.Proofs.Ytnhgjgoglmadnaa
