/- The plain law of the two readers: they agree. -/
import Derived.Test.YtnhgjgoglmadnaaO9
namespace Go.Proofs.Ytnhgjgoglmadnaa
open Go.RowKit
set_option linter.unusedVariables false

/-- alike, or both spoilt -/
def Agr (s s' : R8) : Prop := s = s' ∨ (s.bad = true ∧ s'.bad = true)
theorem num_bad {s : R8} (h : s.bad = true) (n : Int) : s.numV n = 0 ∧ (s.numS n).bad = true := by
  obtain ⟨h1, h2⟩ := s.num_no n (.inl h)
  exact ⟨h1, by rw [h2]⟩
theorem raw_bad {s : R8} (h : s.bad = true) (n : Int) : s.rawV n = [] ∧ (s.rawS n).bad = true := by
  have hno : s.no n := .inl h
  unfold R8.rawV R8.rawS
  rw [if_pos hno, if_pos hno]
  exact ⟨rfl, rfl⟩
theorem Agr.num {s s' : R8} (h : Agr s s') (n : Int) : s.numV n = s'.numV n ∧ Agr (s.numS n) (s'.numS n) := by
  rcases h with rfl | ⟨h1, h2⟩
  · exact ⟨rfl, .inl rfl⟩
  · exact ⟨by rw [(num_bad h1 n).1, (num_bad h2 n).1], .inr ⟨(num_bad h1 n).2, (num_bad h2 n).2⟩⟩
theorem Agr.raw {s s' : R8} (h : Agr s s') (n : Int) : s.rawV n = s'.rawV n ∧ Agr (s.rawS n) (s'.rawS n) := by
  rcases h with rfl | ⟨h1, h2⟩
  · exact ⟨rfl, .inl rfl⟩
  · exact ⟨by rw [(raw_bad h1 n).1, (raw_bad h2 n).1], .inr ⟨(raw_bad h1 n).2, (raw_bad h2 n).2⟩⟩
theorem num3_ok {s : R8} (h : (s.numS 3).bad = false) : s.bad = false ∧ (s.numS 3).l.length + 3 = s.l.length := by
  have hb : s.bad = false := by
    cases hb : s.bad with
    | false => rfl
    | true => rw [(num_bad hb 3).2] at h; cases h
  have hl : 3 ≤ s.l.length := by
    rcases Nat.lt_or_ge s.l.length 3 with hl | hl
    · obtain ⟨_, h2⟩ := s.num_no 3 (.inr (.inr (.inr (by omega))))
      rw [h2] at h; cases h
    · exact hl
  obtain ⟨_, h2⟩ := s.num_yes 3 hb (by omega) (by omega) hl
  have e3 : ((3 : Nat) : Int) = 3 := rfl
  rw [e3] at h2
  rw [h2]
  exact ⟨hb, by simp; omega⟩
theorem pt_ok {s : R8} (h : s.ptS.bad = false) : s.bad = false ∧ s.ptS.l.length + 6 = s.l.length := by
  obtain ⟨h1, h2⟩ := num3_ok (s := s.numS 3) h
  obtain ⟨h3, h4⟩ := num3_ok h1
  exact ⟨h3, by unfold R8.ptS; omega⟩
theorem pt_bad {s : R8} (h : s.bad = true) : s.ptS.bad = true := (num_bad (num_bad h 3).2 3).2
theorem pre_bad {s : R8} (h : s.bad = true) (k : Int) : (s.pre k).bad = true := by
  unfold R8.pre; split
  · rfl
  · exact h
theorem rpt_bad {s : R8} (h : s.bad = true) : s.rptX = 0 ∧ s.rptY = 0 ∧ s.rptS.bad = true :=
  ⟨(num_bad (pre_bad h 6) 3).1, (num_bad (num_bad (pre_bad h 6) 3).2 3).1, (num_bad (num_bad (pre_bad h 6) 3).2 3).2⟩
theorem Agr.pt {s s' : R8} (h : Agr s s') : s.ptV = (s'.rptX, s'.rptY) ∧ Agr s.ptS s'.rptS := by
  have bad : s.ptS.bad = true → (s'.rptX = 0 ∧ s'.rptY = 0 ∧ s'.rptS.bad = true) → s.ptV = (s'.rptX, s'.rptY) ∧ Agr s.ptS s'.rptS := fun h1 h2 => by
    refine ⟨?_, .inr ⟨h1, h2.2.2⟩⟩
    unfold R8.ptV; rw [h1, h2.1, h2.2.1]; rfl
  rcases h with rfl | ⟨h1, h2⟩
  · by_cases h6 : (s.l.length : Int) < 6
    · refine bad ?_ ?_
      · cases hb : s.ptS.bad with
        | true => rfl
        | false => have := (pt_ok hb).2; omega
      · have e : s.pre 6 = ⟨s.l, true⟩ := by simp [R8.pre, h6]
        have hp : (s.pre 6).bad = true := by rw [e]
        exact ⟨(num_bad hp 3).1, (num_bad (num_bad hp 3).2 3).1, (num_bad (num_bad hp 3).2 3).2⟩
    · have e : s.pre 6 = s := by simp [R8.pre, h6]
      cases hb : s.ptS.bad with
      | false =>
        refine ⟨?_, .inl ?_⟩
        · unfold R8.ptV R8.rptX R8.rptY; rw [hb, e]; rfl
        · unfold R8.rptS R8.ptS; rw [e]
      | true =>
        cases hs : s.bad with
        | true => exact bad hb (rpt_bad hs)
        | false =>
          exfalso
          obtain ⟨_, h2⟩ := s.num_yes 3 hs (by omega) (by omega) (by omega)
          have e3 : ((3 : Nat) : Int) = 3 := rfl
          rw [e3] at h2
          obtain ⟨_, h4⟩ := (s.numS 3).num_yes 3 (by rw [h2]) (by omega) (by omega) (by rw [h2]; simp; omega)
          rw [e3] at h4
          unfold R8.ptS at hb
          rw [h4] at hb; cases hb
  · exact bad (pt_bad h1) (rpt_bad h2)
theorem Agr.bad {s s' : R8} (h : Agr s s') : s.bad = s'.bad := by
  rcases h with rfl | ⟨h1, h2⟩
  · rfl
  · rw [h1, h2]
theorem Agr.of_ok {s s' : R8} (h : Agr s s') (hb : s.bad = false) : s = s' := by
  rcases h with rfl | ⟨h1, h2⟩
  · rfl
  · rw [h1] at hb; cases hb
theorem Agr.tri {s s' : R8} (h : Agr s s') : s.triV = s'.rtriV ∧ Agr s.triS s'.rtriS := by
  have bad : s.tS3.bad = true → s'.rtS3.bad = true → s.triV = s'.rtriV ∧ Agr s.triS s'.rtriS := fun h1 h2 => by
    have ef : s'.rtFail = true := by simp [R8.rtFail, h2]
    refine ⟨by simp [R8.triV, R8.rtriV, h1, ef], .inr ⟨by simp [R8.triS, h1], by simp [R8.rtriS, ef]⟩⟩
  have rb : ∀ q : R8, q.bad = true → q.rptS.rptS.rptS.bad = true := fun q hq => (rpt_bad (rpt_bad (rpt_bad hq).2.2).2.2).2.2
  rcases h with rfl | ⟨h1, h2⟩
  · by_cases h18 : (s.l.length : Int) < 18
    · refine bad ?_ ?_
      · cases hb : s.tS3.bad with
        | true => rfl
        | false =>
          obtain ⟨a1, a2⟩ := pt_ok (s := s.ptS.ptS) hb
          obtain ⟨b1, b2⟩ := pt_ok a1
          obtain ⟨c1, c2⟩ := pt_ok b1
          omega
      · have e : s.pre 18 = ⟨s.l, true⟩ := by simp [R8.pre, h18]
        exact rb _ (by rw [e])
    · have e : s.pre 18 = s := by simp [R8.pre, h18]
      obtain ⟨v1, g1⟩ := Agr.pt (s := s) (s' := s) (.inl rfl)
      obtain ⟨v2, g2⟩ := g1.pt
      obtain ⟨v3, g3⟩ := g2.pt
      have eS : s.rtS3 = s.rptS.rptS.rptS := by unfold R8.rtS3; rw [e]
      have eT : s.rtT = s.tT := by unfold R8.rtT R8.tT; rw [e, v1, v2, v3]
      have g3' : Agr s.tS3 s.rtS3 := by rw [eS]; exact g3
      cases hb : s.tS3.bad with
      | true => exact bad hb (by rw [← g3'.bad, hb])
      | false =>
        have hb' : s.rtS3.bad = false := by rw [← g3'.bad, hb]
        cases hv : s.tT.valid with
        | true =>
          have ef : s.rtFail = false := by simp [R8.rtFail, hb', eT, hv]
          refine ⟨by simp [R8.triV, R8.rtriV, hb, ef, hv, eT], ?_⟩
          simp only [R8.triS, R8.rtriS, hb, ef, hv, Bool.false_eq_true, if_false, if_true]
          exact g3'
        | false =>
          have ef : s.rtFail = true := by simp [R8.rtFail, hb', eT, hv]
          refine ⟨by simp [R8.triV, R8.rtriV, hb, ef, hv], .inr ⟨by simp [R8.triS, hb, hv], by simp [R8.rtriS, ef]⟩⟩
  · exact bad (pt_bad (pt_bad (pt_bad h1))) (rb _ (pre_bad h2 18))
end Go.Proofs.Ytnhgjgoglmadnaa
