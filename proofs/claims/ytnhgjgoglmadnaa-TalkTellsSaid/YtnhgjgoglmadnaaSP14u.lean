/- Joined texts of this claim (part 21), printed by a program of this work. The last part holds the claimed theorem: the law answers true at every input of its row. -/
import Derived.Test.YtnhgjgoglmadnaaSP14t
namespace Go.Proofs.Ytnhgjgoglmadnaa
open Go.RowKit
set_option linter.unusedVariables false
set_option maxRecDepth 100000

theorem itemsB_bad {α : Type} {f : R8 → α} {g : R8 → R8} : ∀ (n : Nat) (s : R8), s.bad = true → (itemsB f g n s).2.bad = true
  | 0, s, h => h
  | n + 1, s, h => by rw [itemsB, if_pos h]; exact h
theorem items_same {α : Type} {f : R8 → α} {g : R8 → R8} : ∀ (n : Nat) (s : R8), (itemsB f g n s).2.bad = false → itemsN f g n s = itemsB f g n s
  | 0, s, h => rfl
  | n + 1, s, h => by
    cases hb : s.bad with
    | true => rw [itemsB_bad _ _ hb] at h; cases h
    | false =>
      have e : itemsB f g (n + 1) s = (f s :: (itemsB f g n (g s)).1, (itemsB f g n (g s)).2) := by rw [itemsB, if_neg (by rw [hb]; simp)]
      rw [e] at h ⊢
      rw [itemsN, items_same n (g s) h]
theorem itemsN_bad {α : Type} {f : R8 → α} {g : R8 → R8} (hg : ∀ s, s.bad = true → (g s).bad = true) : ∀ (n : Nat) (s : R8), s.bad = true → (itemsN f g n s).2.bad = true
  | 0, s, h => h
  | n + 1, s, h => itemsN_bad hg n (g s) (hg s h)
theorem items_sameN {α : Type} {f : R8 → α} {g : R8 → R8} (hg : ∀ s, s.bad = true → (g s).bad = true) : ∀ (n : Nat) (s : R8), (itemsN f g n s).2.bad = false → itemsB f g n s = itemsN f g n s
  | 0, s, h => rfl
  | n + 1, s, h => by
    cases hb : s.bad with
    | true => rw [itemsN_bad hg _ _ hb] at h; cases h
    | false =>
      rw [itemsB, if_neg (by rw [hb]; simp), itemsN, items_sameN hg n (g s) h]
theorem sPc_bad {s : R8} (h : s.bad = true) : (sPc s).bad = true := by
  cases e : (sPc s).bad with
  | true => rfl
  | false =>
    have a := (num1_ok (s := (s.triS.numS 1).numS 2) e).1
    have b := (num2_ok a).1
    have c := (num1_ok b).1
    have d := (tri_ok c).1.1
    rw [h] at d; cases d
theorem sCp_bad {s : R8} (h : s.bad = true) : (sCp s).bad = true := numS_bad _ 4 (numS_bad _ 1 (numS_bad _ 2 (numS_bad _ 1 (numS_bad _ 1 (numS_bad _ 1 h)))))
theorem sLa_bad {s : R8} (h : s.bad = true) : (sLa s).bad = true := numS_bad _ 2 h
theorem more_ok {E : R8} (h : (moreS E).bad = false) : moreS E = E.numS 1 ∧ E.bad = false := by
  unfold moreS at h ⊢
  by_cases hg : 1 < E.numV 1
  · rw [if_pos hg] at h; cases h
  · rw [if_neg hg] at h ⊢; exact ⟨rfl, (num1_ok h).1⟩
theorem sum_ag {s : R8} (hb : Byt s.l) (h8 : 8 ≤ s.l.length) (h : s.bad = false) : (s.rawV 8).foldl shl8 0 = sumR (s.numV 4) ((s.numS 4).numV 4) ∧ s.rawS 8 = (s.numS 4).numS 4 := by
  obtain ⟨L, b⟩ := s
  dsimp only at hb h8 h
  subst h
  have hno : ¬ (⟨L, false⟩ : R8).no 8 := by simp only [R8.no]; simp; omega
  obtain ⟨v1, s1⟩ := (⟨L, false⟩ : R8).num_yes 4 rfl (by omega) (by omega) (by show 4 ≤ L.length; omega)
  obtain ⟨v2, s2⟩ := (⟨L.drop 4, false⟩ : R8).num_yes 4 rfl (by omega) (by omega) (by simp; omega)
  have e4 : ((4 : Nat) : Int) = 4 := rfl
  rw [e4] at v1 s1 v2 s2
  dsimp only at v1 s1 v2 s2
  rw [s1, v1, v2, s2]
  unfold R8.rawV R8.rawS
  rw [if_neg hno, if_neg hno]
  have e8 : (8 : Int).toNat = 8 := rfl
  rw [e8]
  dsimp only
  refine ⟨?_, by rw [List.drop_drop]⟩
  have ht : L.take 8 = L.take 4 ++ (L.drop 4).take 4 := by rw [← List.take_add]
  rw [ht]
  exact sum_fold (by simp; omega) (by simp; omega) (fun x hx => hb x (List.mem_of_mem_take hx)) (fun x hx => hb x (List.mem_of_mem_drop (List.mem_of_mem_take hx)))
theorem told_ag {z : Int} {s : R8} (hb : Byt s.l) (h : (toldRQ s z).2.bad = false) : toldQ s z = toldRQ s z := by
  unfold toldRQ at h ⊢
  unfold toldQ
  by_cases h12 : z = 1 ∨ z = 2
  · simp only [if_pos h12]
  by_cases h34 : z = 3 ∨ z = 4
  · simp only [if_neg h12, if_pos h34] at h ⊢
    obtain ⟨m1, m2⟩ := more_ok h
    rw [items_same _ _ m2, m1]
  by_cases h14 : z = 14
  · simp only [if_neg h12, if_neg h34, if_pos h14] at h ⊢
    obtain ⟨m1, m2⟩ := more_ok h
    rw [items_same _ _ m2, m1]
  by_cases h15 : z = 15
  · simp only [if_neg h12, if_neg h34, if_neg h14, if_pos h15] at h ⊢
    rw [items_same _ _ h]
  by_cases e12 : z = 12
  · simp only [if_neg h12, if_neg h34, if_neg h14, if_neg h15, if_pos e12]
  by_cases e16 : z = 16
  · simp only [if_neg h12, if_neg h34, if_neg h14, if_neg h15, if_neg e12, if_pos e16] at h ⊢
    obtain ⟨a1, a2⟩ := num4_ok h
    obtain ⟨a3, a4⟩ := num4_ok a1
    obtain ⟨q1, q2⟩ := sum_ag (numS_byt s 4 hb) (by omega) a3
    rw [q1, q2]
  · simp only [if_neg h12, if_neg h34, if_neg h14, if_neg h15, if_neg e12, if_neg e16]
theorem flag_ag {α : Type} {f : R8 → α} {g : R8 → R8} {wf : W8 → α → W8} (hF : Fw g (fun r s => wf s (f r))) (hg : ∀ s, s.bad = true → (g s).bad = true) {s : R8} {S : W8} (hb : Byt s.l)
    (h : (itemsN f g (s.numV 1).toNat (s.numS 1)).2.numS 1 = ⟨[], false⟩)
    (hw : ((itemsN f g (s.numV 1).toNat (s.numS 1)).1.foldl wf (S.num (itemsN f g (s.numV 1).toNat (s.numS 1)).1.length 1)).num (bit (decide ((itemsN f g (s.numV 1).toNat (s.numS 1)).2.numV 1 = 1))) 1 = ⟨S.l ++ s.l, S.bad⟩) :
    itemsB f g (s.numV 1).toNat (s.numS 1) = itemsN f g (s.numV 1).toNat (s.numS 1) ∧ moreS (itemsN f g (s.numV 1).toNat (s.numS 1)).2 = (itemsN f g (s.numV 1).toNat (s.numS 1)).2.numS 1 := by
  obtain ⟨hE, hl⟩ := num1_ok (s := (itemsN f g (s.numV 1).toNat (s.numS 1)).2) (by rw [h])
  have eB := items_sameN (f := f) hg _ _ hE
  refine ⟨eB, ?_⟩
  obtain ⟨k1, k2⟩ := Fw.lst hF s hb
  dsimp only at k1 k2
  rw [eB] at k1 k2
  obtain ⟨c, u, e, w⟩ := k2 hE
  have w := w S
  rw [w] at hw
  generalize (itemsN f g (s.numV 1).toNat (s.numS 1)).2 = E at *
  rw [h] at hl
  obtain ⟨El, Eb⟩ := E
  dsimp only at hl hE k1 e
  subst hE
  obtain ⟨v, rfl⟩ : ∃ v, El = [v] := by
    match El, hl with
    | [v], _ => exact ⟨v, rfl⟩
  have hv := k1 v (.head _)
  obtain ⟨q1, q2⟩ := one_read hv []
  unfold moreS
  rw [q1]
  by_cases hv1 : 1 < v
  · exfalso
    rw [q1, decide_eq_false (show ¬ v = 1 by omega), show bit false = 0 from rfl, num_one (by omega)] at hw
    injection hw with hw _
    rw [e, ← List.append_assoc] at hw
    have := List.append_cancel_left hw
    injection this with this _
    omega
  · rw [if_neg hv1]
theorem told_ag2 {z : Int} {s : R8} {S : W8} (hb : Byt s.l) (h : (toldQ s z).2 = ⟨[], false⟩) (hw : tellsW S z (toldQ s z).1 = ⟨S.l ++ s.l, S.bad⟩) : toldRQ s z = toldQ s z := by
  unfold toldQ at h hw ⊢
  unfold tellsW at hw
  unfold toldRQ
  by_cases h12 : z = 1 ∨ z = 2
  · simp only [if_pos h12]
  by_cases h34 : z = 3 ∨ z = 4
  · simp only [if_neg h12, if_pos h34] at h hw ⊢
    obtain ⟨e1, e2⟩ := flag_ag Fw.Pc (fun s => sPc_bad) hb h hw
    rw [e1, e2]
  by_cases h14 : z = 14
  · simp only [if_neg h12, if_neg h34, if_pos h14] at h hw ⊢
    obtain ⟨e1, e2⟩ := flag_ag Fw.Cp (fun s => sCp_bad) hb h hw
    rw [e1, e2]
  by_cases h15 : z = 15
  · simp only [if_neg h12, if_neg h34, if_neg h14, if_pos h15] at h hw ⊢
    rw [items_sameN (f := rLa) (fun s => sLa_bad) _ _ (by rw [h])]
  by_cases e12 : z = 12
  · simp only [if_neg h12, if_neg h34, if_neg h14, if_neg h15, if_pos e12]
  by_cases e16 : z = 16
  · simp only [if_neg h12, if_neg h34, if_neg h14, if_neg h15, if_neg e12, if_pos e16] at h hw ⊢
    obtain ⟨a1, a2, _, _, a5⟩ := raw_ok (s := s.numS 4) (n := 8) (by rw [h])
    have e8 : (8 : Int).toNat = 8 := rfl
    rw [e8] at a5
    obtain ⟨q1, q2⟩ := sum_ag (numS_byt s 4 hb) (by omega) a1
    rw [q1, q2]
  · simp only [if_neg h12, if_neg h34, if_neg h14, if_neg h15, if_neg e12, if_neg e16]

theorem wPcR_bad' {s : W8} (h : s.bad = true) {x : List Int} (hl : x.length = 9) : (wPcR s x).bad = true := by
  cases hv : okPc x with
  | false => exact wPcR_bad hl hv s
  | true =>
    rw [wPcR_ok hl hv]
    obtain ⟨a0, a1, a2, a3, a4, a5, a6, a7, a8, rfl⟩ := len_9 hl
    exact num_badW (num_badW (num_badW (num_badW (num_badW (num_badW (num_badW (num_badW (num_badW h _ _) _ _) _ _) _ _) _ _) _ _) _ _) _ _) _ _
theorem foldR_bad : ∀ (xs : List (List Int)) (s : W8), (∀ x ∈ xs, x.length = 9) → s.bad = true → (xs.foldl wPcR s).bad = true
  | [], s, _, h => h
  | x :: xs, s, hl, h => foldR_bad xs (wPcR s x) (fun y hy => hl y (.tail _ hy)) (wPcR_bad' h (hl x (.head _)))
theorem foldR_ok : ∀ (xs : List (List Int)) (s : W8), (∀ x ∈ xs, x.length = 9) → xs.all okPc = true → xs.foldl wPcR s = xs.foldl wPc s
  | [], s, _, h => rfl
  | x :: xs, s, hl, h => by
    simp only [List.all_cons, Bool.and_eq_true] at h
    rw [List.foldl_cons, List.foldl_cons, wPcR_ok (hl x (.head _)) h.1, foldR_ok xs _ (fun y hy => hl y (.tail _ hy)) h.2]
theorem foldR_all : ∀ (xs : List (List Int)) (s : W8), (∀ x ∈ xs, x.length = 9) → (xs.foldl wPcR s).bad = false → xs.all okPc = true
  | [], s, _, h => rfl
  | x :: xs, s, hl, h => by
    cases hv : okPc x with
    | false =>
      rw [List.foldl_cons, foldR_bad xs _ (fun y hy => hl y (.tail _ hy)) (wPcR_bad (hl x (.head _)) hv s)] at h
      cases h
    | true =>
      rw [List.all_cons, hv, foldR_all xs (wPcR s x) (fun y hy => hl y (.tail _ hy)) h]; rfl
theorem num_badW' {s : W8} {n k : Int} (h : (s.num n k).bad = false) : s.bad = false := by
  cases e : s.bad with
  | false => rfl
  | true => rw [num_badW e] at h; cases h
theorem tells_eq {z : Int} {a : AnV} (hp : ∀ x ∈ a.p, x.length = 9) (hs : 0 ≤ a.sum ∧ a.sum < 18446744073709551616) {s : W8} (h : (tellsR s z a).bad = false) : tellsW s z a = tellsR s z a := by
  unfold tellsR at h ⊢
  unfold tellsW
  by_cases h12 : z = 1 ∨ z = 2
  · simp only [if_pos h12] at h ⊢
    by_cases h1 : a.p.length = 1
    · rw [if_pos h1] at h
      rw [if_pos h1, if_pos h1, foldR_ok _ _ hp (foldR_all _ _ hp h)]
    · rw [if_neg h1, if_neg h1]
  by_cases h34 : z = 3 ∨ z = 4
  · simp only [if_neg h12, if_pos h34] at h ⊢
    rw [foldR_ok _ _ hp (foldR_all _ _ hp (num_badW' h))]
  by_cases h14 : z = 14
  · simp only [if_neg h12, if_neg h34, if_pos h14]
  by_cases h15 : z = 15
  · simp only [if_neg h12, if_neg h34, if_neg h14, if_pos h15]
  by_cases e12 : z = 12
  · simp only [if_neg h12, if_neg h34, if_neg h14, if_neg h15, if_pos e12]
  by_cases e16 : z = 16
  · simp only [if_neg h12, if_neg h34, if_neg h14, if_neg h15, if_neg e12, if_pos e16]
    exact raw8 _ hs
  · simp only [if_neg h12, if_neg h34, if_neg h14, if_neg h15, if_neg e12, if_neg e16]

theorem piece_inv (s : W8) {x : List Int} (hl : x.length = 9) (hb : (wPc s x).bad = false) : s.bad = false ∧ ∃ u, (wPc s x).l = s.l ++ u ∧ (okPc x = true → ∀ rest, sPc ⟨u ++ rest, false⟩ = ⟨rest, false⟩) ∧ (okPc x = false → ∀ rest, (sPc ⟨u ++ rest, false⟩).bad = true) := by
  cases hv : okPc x with
  | true =>
    obtain ⟨b0, u, e, _, r⟩ := Bk.PcR s hl (by rw [wPcR_ok hl hv]; exact hb)
    rw [wPcR_ok hl hv] at e
    exact ⟨b0, u, e, fun _ rest => (r rest).2, fun h => by cases h⟩
  | false =>
    obtain ⟨a0, a1, a2, a3, a4, a5, a6, a7, a8, rfl⟩ := len_9 hl
    have h' : T3.valid ⟨a0, a1, a2, a3, a4, a5⟩ = false := hv
    have k : Bk s (wPc s [a0, a1, a2, a3, a4, a5, a6, a7, a8]) _ _ _ := (((((Bk.pt s).and (Bk.pt _)).and (Bk.pt _)).and (Bk.n1 _)).and (Bk.n2 _)).and (Bk.n1 _)
    have k3 : Bk s (((s.pt a0 a1).pt a2 a3).pt a4 a5) (fun R => (((R.ptV, R.ptS.ptV), R.ptS.ptS.ptV) : ((Int × Int) × (Int × Int)) × (Int × Int))) (fun R => R.ptS.ptS.ptS) (((a0, a1), (a2, a3)), (a4, a5)) := ((Bk.pt s).and (Bk.pt _)).and (Bk.pt _)
    have kt : Bk (((s.pt a0 a1).pt a2 a3).pt a4 a5) (wPc s [a0, a1, a2, a3, a4, a5, a6, a7, a8]) _ _ _ := ((Bk.n1 _).and (Bk.n2 _)).and (Bk.n1 _)
    obtain ⟨b1, u1, e1, _, _⟩ := kt hb
    obtain ⟨b0, u0, e0, _, r0⟩ := k3 b1
    refine ⟨b0, u0 ++ u1, by rw [e1, e0, List.append_assoc], (fun h => by cases h), fun _ rest => ?_⟩
    obtain ⟨p1, p2⟩ := r0 (u1 ++ rest)
    dsimp only at p1 p2
    simp only [Prod.mk.injEq] at p1
    obtain ⟨⟨p1, p3⟩, p4⟩ := p1
    rw [List.append_assoc]
    have eT : (⟨u0 ++ (u1 ++ rest), false⟩ : R8).tT = ⟨a0, a1, a2, a3, a4, a5⟩ := by unfold R8.tT; rw [p1, p3, p4]
    have eS : (⟨u0 ++ (u1 ++ rest), false⟩ : R8).triS.bad = true := by
      unfold R8.triS
      rw [show (⟨u0 ++ (u1 ++ rest), false⟩ : R8).tS3 = _ from p2, eT, h']; rfl
    exact numS_bad _ 1 (numS_bad _ 2 (numS_bad _ 1 eS))
theorem items_inv : ∀ (xs : List (List Int)) (s : W8), (∀ x ∈ xs, x.length = 9) → (xs.foldl wPc s).bad = false → s.bad = false ∧ ∃ u, (xs.foldl wPc s).l = s.l ++ u ∧ ∀ rest, (itemsB rPc sPc xs.length ⟨u ++ rest, false⟩).2.bad = false → xs.all okPc = true
  | [], s, _, hb => ⟨hb, [], by simp, fun _ _ => rfl⟩
  | x :: xs, s, hl, hb => by
    obtain ⟨b1, u1, e1, r1⟩ := items_inv xs (wPc s x) (fun y hy => hl y (.tail _ hy)) hb
    obtain ⟨b0, u0, e0, ry, rn⟩ := piece_inv s (hl x (.head _)) b1
    refine ⟨b0, u0 ++ u1, by rw [List.foldl_cons, e1, e0, List.append_assoc], fun rest h => ?_⟩
    rw [List.append_assoc, List.length_cons, itemsB, if_neg (by simp)] at h
    cases hv : okPc x with
    | false =>
      rw [itemsB_bad _ _ (rn hv (u1 ++ rest))] at h; cases h
    | true =>
      rw [ry hv (u1 ++ rest)] at h
      rw [List.all_cons, hv, r1 rest h]; rfl
theorem tells_inv {z : Int} {a : AnV} (hp : ∀ x ∈ a.p, x.length = 9) (hc : ∀ x ∈ a.ca, x.length = 9) (hs : 0 ≤ a.sum ∧ a.sum < 18446744073709551616) {s : W8} (hb : (tellsW s z a).bad = false) :
    ∃ u, (tellsW s z a).l = s.l ++ u ∧ ((toldRQ ⟨u, false⟩ z).2.bad = false → tellsR s z a = tellsW s z a) := by
  have other : tellsW s z a = tellsR s z a → ∃ u, (tellsW s z a).l = s.l ++ u ∧ ((toldRQ ⟨u, false⟩ z).2.bad = false → tellsR s z a = tellsW s z a) := fun e => by
    obtain ⟨_, u, e', _⟩ := tells_rd z a hp hc s (by rw [← e]; exact hb)
    exact ⟨u, by rw [e, e'], fun _ => e.symm⟩
  by_cases h12 : z = 1 ∨ z = 2
  · unfold tellsW at hb ⊢
    unfold toldRQ tellsR
    simp only [if_pos h12] at hb ⊢
    by_cases h1 : a.p.length = 1
    · obtain ⟨x, hx⟩ : ∃ x, a.p = [x] := by
        match a.p, h1 with
        | [x], _ => exact ⟨x, rfl⟩
      have hl : x.length = 9 := hp x (by rw [hx]; exact .head _)
      rw [if_pos h1, hx] at hb
      rw [if_pos h1, if_pos h1, hx]
      obtain ⟨b0, u, e, ry, rn⟩ := piece_inv s hl hb
      refine ⟨u, e, fun h => ?_⟩
      cases hv : okPc x with
      | true => exact wPcR_ok hl hv s
      | false =>
        have := rn hv []
        rw [List.append_nil] at this
        rw [this] at h; cases h
    · rw [if_neg h1] at hb
      simp [W8.num, fits] at hb
  by_cases h34 : z = 3 ∨ z = 4
  · unfold tellsW at hb ⊢
    unfold toldRQ tellsR
    simp only [if_neg h12, if_pos h34] at hb ⊢
    obtain ⟨b2, u2, e2, _, r2⟩ := Bk.n1 _ (n := bit a.more) hb
    obtain ⟨b1, u1, e1, r1⟩ := items_inv a.p _ hp b2
    obtain ⟨b0, u0, e0, _, r0⟩ := Bk.n1 s (n := a.p.length) b1
    refine ⟨u0 ++ (u1 ++ u2), by rw [e2, e1, e0]; simp, fun h => ?_⟩
    obtain ⟨q1, q2⟩ := r0 (u1 ++ u2)
    dsimp only at q1 q2
    rw [q1, q2, Int.toNat_natCast] at h
    rw [foldR_ok _ _ hp (r1 u2 (more_ok h).2)]
  apply other
  unfold tellsW tellsR
  by_cases h14 : z = 14
  · simp only [if_neg h12, if_neg h34, if_pos h14]
  by_cases h15 : z = 15
  · simp only [if_neg h12, if_neg h34, if_neg h14, if_pos h15]
  by_cases e12 : z = 12
  · simp only [if_neg h12, if_neg h34, if_neg h14, if_neg h15, if_pos e12]
  by_cases e16 : z = 16
  · simp only [if_neg h12, if_neg h34, if_neg h14, if_neg h15, if_neg e12, if_pos e16]
    exact raw8 _ hs
  · simp only [if_neg h12, if_neg h34, if_neg h14, if_neg h15, if_neg e12, if_neg e16]
end Go.Proofs.Ytnhgjgoglmadnaa
namespace Go.Proofs.Ytnhgjgoglmadnaa
open Go.RowKit
set_option linter.unusedVariables false
set_option maxRecDepth 100000

structure AnV.Wid (a : AnV) : Prop where
  p : ∀ x ∈ a.p, x.length = 9
  ca : ∀ x ∈ a.ca, x.length = 9
  sum : 0 ≤ a.sum ∧ a.sum < 18446744073709551616
theorem toldQ_wid {s : R8} (hb : Byt s.l) (z : Int) : (toldQ s z).1.Wid := by
  have hs1 := numS_byt s 1 hb
  have o := (toldQ_ok hb z).1.sum
  have hP := (itemsN_all (P := fun x => x.length = 9) (f := rPc) (g := sPc) (fun s _ => rPc_len s) (fun s => sPc_byt (s := s)) (s.numV 1).toNat _ hs1).1
  have hC := (itemsN_all (P := fun x => x.length = 9) (f := rCp) (g := sCp) (fun s _ => rfl) (fun s => sCp_byt (s := s)) (s.numV 1).toNat _ hs1).1
  refine ⟨?_, ?_, o⟩
  all_goals
    unfold toldQ
    by_cases h12 : z = 1 ∨ z = 2
    · rw [if_pos h12]
      intro x hx
      simp only [AnV.zero, List.mem_cons, List.not_mem_nil, or_false] at hx
      all_goals (subst hx; rfl)
    rw [if_neg h12]
    by_cases h34 : z = 3 ∨ z = 4
    · rw [if_pos h34]
      first | exact hP | exact fun x hx => by cases hx
    rw [if_neg h34]
    by_cases h14 : z = 14
    · rw [if_pos h14]
      first | exact hC | exact fun x hx => by cases hx
    rw [if_neg h14]
    split
    · exact fun x hx => by cases hx
    split
    · exact fun x hx => by cases hx
    split
    · exact fun x hx => by cases hx
    · exact fun x hx => by cases hx
theorem toldRQ_bad {s : R8} (hb : Byt s.l) (h : s.bad = true) (z : Int) : (toldRQ s z).2.bad = true := by
  cases e : (toldRQ s z).2.bad with
  | true => rfl
  | false =>
    have := toldQ_bad h z
    rw [told_ag hb e, e] at this; cases this
theorem done_eq {s : R8} (h : s.done = true) : s = ⟨[], false⟩ := by
  obtain ⟨l, b⟩ := s
  cases b with
  | true => simp [R8.done] at h
  | false =>
    cases l with
    | nil => rfl
    | cons x l => simp [R8.done] at h
theorem toldA_cons {x : Int} (hx : 0 ≤ x ∧ x ≤ 255) (l : List Int) (z : Int) : toldA z (x :: l) = if x = 0 then ({(toldQ ⟨l, false⟩ z).1 with code := 0}, (toldQ ⟨l, false⟩ z).2) else (codeA x, ⟨l, false⟩) := by
  obtain ⟨e1, e2⟩ := one_read hx l
  unfold toldA
  rw [e1, e2]
  by_cases h : x = 0
  · subst h; rfl
  · rw [if_neg h, if_neg h]; rfl
theorem toldRA_cons {x : Int} (hx : 0 ≤ x ∧ x ≤ 255) (l : List Int) (z : Int) : toldRA z (x :: l) = if x = 0 then ({(toldRQ ⟨l, false⟩ z).1 with code := 0}, (toldRQ ⟨l, false⟩ z).2) else (codeA x, ⟨l, false⟩) := by
  obtain ⟨e1, e2⟩ := one_read hx l
  unfold toldRA
  rw [e1, e2]
  by_cases h : x = 0
  · subst h; rfl
  · rw [if_neg h, if_neg h]; rfl
theorem zero_W (z : Int) (a : AnV) : writtenW z {a with code := 0} = tellsW ⟨[0], false⟩ z a := by
  unfold writtenW
  rw [if_pos (show ({a with code := 0} : AnV).code = 0 from rfl)]
  have : (⟨[], false⟩ : W8).num ({a with code := 0} : AnV).code 1 = ⟨[0], false⟩ := num_one (c := 0) (by omega) _
  rw [this]; rfl
theorem zero_RW (z : Int) (a : AnV) : ansRW z {a with code := 0} = tellsR ⟨[0], false⟩ z a := by
  unfold ansRW
  rw [if_pos (show ({a with code := 0} : AnV).code = 0 from rfl)]
  have : (⟨[], false⟩ : W8).num ({a with code := 0} : AnV).code 1 = ⟨[0], false⟩ := num_one (c := 0) (by omega) _
  rw [this]; rfl
theorem told_same {b : List Int} (hb : Byt b) (z : Int) : toldOk z b = toldROk z b ∧ toldV z b = toldRV z b := by
  have key : toldOk z b = toldROk z b ∧ (toldROk z b = true → toldA z b = toldRA z b) := by
    cases b with
    | nil =>
      have h2 : toldROk z [] = false := by
        obtain ⟨e1, e2⟩ := (⟨[], false⟩ : R8).num_no 1 (.inr (.inr (.inr (by decide))))
        have : (toldRA z []).2.bad = true := by
          unfold toldRA
          rw [e1, e2, if_pos rfl]
          exact toldRQ_bad Byt.nil rfl z
        unfold toldROk
        simp [R8.done, this]
      rw [(nil_told z).1, h2]
      exact ⟨rfl, fun h => by cases h⟩
    | cons x l =>
      have hx := hb x (.head _)
      have hbl : Byt l := fun y hy => hb y (.tail _ hy)
      by_cases h0 : x = 0
      case neg =>
        have hc : 1 ≤ x ∧ x ≤ 255 := by omega
        have e1 := toldA_cons hx l z
        have e2 := toldRA_cons hx l z
        rw [if_neg h0] at e1 e2
        refine ⟨?_, fun _ => by rw [e1, e2]⟩
        have e3 : toldROk z (x :: l) = l.isEmpty := by unfold toldROk; rw [e2]; simp [R8.done]
        rw [e3]
        cases l with
        | nil => exact (code_ok z hc).1
        | cons y l => exact (code_more z hc y l).1
      subst h0
      have e1 := toldA_cons hx l z
      have e2 := toldRA_cons hx l z
      rw [if_pos rfl] at e1 e2
      have e3 : toldROk z (0 :: l) = (toldRQ ⟨l, false⟩ z).2.done := by unfold toldROk; rw [e2]
      have e4 : toldOk z (0 :: l) = ((toldQ ⟨l, false⟩ z).2.done && (!(tellsW ⟨[0], false⟩ z (toldQ ⟨l, false⟩ z).1).bad && decide ((if (tellsW ⟨[0], false⟩ z (toldQ ⟨l, false⟩ z).1).bad then [] else (tellsW ⟨[0], false⟩ z (toldQ ⟨l, false⟩ z).1).l) = 0 :: l))) := by
        unfold toldOk writtenB
        rw [e1]
        dsimp only
        rw [zero_W]
      have hbs : Byt (⟨l, false⟩ : R8).l := hbl
      cases hR : toldROk z (0 :: l) with
      | true =>
        rw [hR] at e3
        have hd := done_eq e3.symm
        have ag := told_ag hbs (z := z) (by rw [hd])
        obtain ⟨_, k2⟩ := told_fw z ⟨l, false⟩ hbs
        dsimp only at k2
        obtain ⟨_, u, e, w⟩ := k2 (by rw [hd])
        have w := w ⟨[0], false⟩
        rw [hd, List.append_nil] at e
        subst e
        have wid := toldQ_wid hbs z
        rw [ag] at wid
        have eW := tells_eq (z := z) wid.p wid.sum (s := ⟨[0], false⟩) (by rw [w])
        refine ⟨?_, fun _ => by rw [e1, e2, ag]⟩
        rw [e4, ag, eW, w, hd]
        simp [R8.done]
      | false =>
        refine ⟨?_, fun h => by cases h⟩
        cases hP : toldOk z (0 :: l) with
        | false => rfl
        | true =>
          exfalso
          rw [hP] at e4
          have e4 := e4.symm
          simp only [Bool.and_eq_true, decide_eq_true_eq, Bool.not_eq_true'] at e4
          obtain ⟨d, wb, wl⟩ := e4
          rw [wb] at wl
          simp only [Bool.false_eq_true, if_false] at wl
          have hd := done_eq d
          have ag := told_ag2 hbs (z := z) (S := ⟨[0], false⟩) hd (by
            generalize tellsW ⟨[0], false⟩ z (toldQ ⟨l, false⟩ z).1 = W at *
            obtain ⟨Wl, Wb⟩ := W
            dsimp only at wb wl
            subst wb wl
            rfl)
          rw [hR, ag, d] at e3
          cases e3
  obtain ⟨k1, k2⟩ := key
  refine ⟨k1, ?_⟩
  unfold toldV toldRV
  rw [k1]
  cases h : toldROk z b with
  | false => rfl
  | true => rw [k2 h]
theorem num_small {c : Int} (h : ((⟨[], false⟩ : W8).num c 1).bad = false) : 0 ≤ c ∧ c ≤ 255 := by
  cases hf : fits c 1 with
  | false => simp [W8.num, hf] at h
  | true =>
    have hf' : fits c ((1 : Nat) : Int) = true := hf
    obtain ⟨h0, h1⟩ := fits_of hf'
    have h1 := h1 (by omega)
    have e : (2 : Int) ^ (8 * 1) = 256 := by decide
    rw [e] at h1
    omega
theorem with_code {a : AnV} (h : a.code = 0) : a = {a with code := 0} := by
  cases a; simp only at h; subst h; rfl
theorem ans_same {a : AnV} (D : a.Wid) (z : Int) : ansOk z a = ansROk z a ∧ ansB z a = ansRB z a := by
  have key : ansOk z a = ansROk z a ∧ (ansROk z a = true → writtenW z a = ansRW z a) := by
    by_cases h0 : a.code = 0
    case neg =>
      have e : writtenW z a = ansRW z a := by unfold writtenW ansRW; rw [if_neg h0, if_neg h0]
      refine ⟨?_, fun _ => e⟩
      unfold ansOk ansROk
      rw [e]
      have e' : ansRW z a = (⟨[], false⟩ : W8).num a.code 1 := by unfold ansRW; rw [if_neg h0]
      cases hb : (ansRW z a).bad with
      | true => rfl
      | false =>
        rw [e'] at hb ⊢
        have hc := num_small hb
        rw [num_one hc]
        simp [(code_ok z (c := a.code) (by omega)).1]
    rw [with_code h0]
    have e1 := zero_W z a
    have e2 := zero_RW z a
    cases hR : ansROk z {a with code := 0} with
    | true =>
      have hb : (tellsR ⟨[0], false⟩ z a).bad = false := by
        unfold ansROk at hR
        rw [e2] at hR
        simpa using hR
      have eW := tells_eq D.p D.sum hb
      refine ⟨?_, fun _ => by rw [e1, e2, eW]⟩
      obtain ⟨_, u, e, r⟩ := tells_rd z a D.p D.ca _ hb
      have by_ : Byt (writtenW z {a with code := 0}).l := (writtenW_byt z _).1
      unfold ansOk
      rw [(told_same by_ z).1, e1, eW, hb, e]
      unfold toldROk
      rw [show ([0] ++ u : List Int) = 0 :: u from rfl, toldRA_cons (by omega), if_pos rfl]
      have := r []
      rw [List.append_nil] at this
      rw [this]; rfl
    | false =>
      refine ⟨?_, fun h => by cases h⟩
      cases hP : ansOk z {a with code := 0} with
      | false => rfl
      | true =>
        exfalso
        unfold ansOk at hP
        have by_ : Byt (writtenW z {a with code := 0}).l := (writtenW_byt z _).1
        rw [(told_same by_ z).1, e1] at hP
        simp only [Bool.and_eq_true, Bool.not_eq_true'] at hP
        obtain ⟨wb, t⟩ := hP
        obtain ⟨u, e, k⟩ := tells_inv D.p D.ca D.sum wb
        rw [e, show ([0] ++ u : List Int) = 0 :: u from rfl] at t
        unfold toldROk at t
        rw [toldRA_cons (by omega), if_pos rfl] at t
        have hd := done_eq t
        dsimp only at hd
        have := k (by rw [hd])
        unfold ansROk at hR
        rw [e2, this, wb] at hR
        cases hR
  obtain ⟨k1, k2⟩ := key
  refine ⟨k1, ?_⟩
  unfold ansB ansRB
  rw [k1]
  cases h : ansROk z a with
  | false => rfl
  | true => rw [k2 h]
structure AnV.Said (a : AnV) (z : Int) (b : List Int) (m : AnV) : Prop where
  byt : Byt b
  pos : 0 < b.length ∧ b.length ≤ a.room
  ok : m.Ok ∧ m.room ≤ 45000
  rd : toldOk z b = true
  rv : toldV z b = m
  code : m.code = a.code
  pok : ansOk z m = true
  pb : ansB z m = b
  more : ∀ x, 0 ≤ x ∧ x ≤ 255 → toldOk z (b ++ [x]) = false
  short : a.code ≠ 0 → b.length = 1 ∧ m.p = [] ∧ m.ca = [] ∧ m.la = []
end Go.Proofs.Ytnhgjgoglmadnaa
namespace Go.Proofs.Ytnhgjgoglmadnaa
open Go.RowKit
set_option maxRecDepth 100000
set_option linter.unusedSimpArgs false
set_option linter.unusedVariables false
set_option pp.maxSteps 1500
set_option pp.deepTerms.threshold 8

theorem err0 (d : Bool) : decide ((if d = true then (0 : Int) else 2) = 0) = d := by cases d <;> rfl
set_option maxHeartbeats 4000000 in
theorem walk14 (r : Rq) (v : Value) (bs : List Int) (z : Int) (a : AnV) (t : AnS) (w : World) (hO : Ok64 r.vals) (hrd : Rd w v bs) (hby : Byt bs) (R : AnR w a t) (O : a.Ok) :
    Calls Try.prog 14 [.agg r.cells.toArray, v, .int .i64 z, .agg (a.cells t).toArray].toArray w (RetK fun r w' => r = .bool true ∧ Chg (fun _ => False) w w') := by
  have f1 := fun w' (R : AnR w' a t) => few64 a t w' R
  have a1 := fun w' (R : AnR w' a t) (hl : a.room ≤ 90000) => answer70 z a t w' R O hl
  have a2 := fun w' (R : AnR w' a t) (hl : a.room ≤ 90000) => answer71 z a t w' R O hl
  have Rs : ∀ {M : List Res} {w' : World}, Sep w (fun _ => False) M w' → AnR w' a t := fun h => R.sep h
  have hR2 : ∀ {M : List Res} {w' : World}, Sep w (fun _ => False) M w' → Rd w' v bs := fun h => hrd.sep h fun _ _ => id
  have D : a.Wid := ⟨R.p.wid, R.ca.wid, O.sum⟩
  obtain ⟨n1, n2⟩ := ans_same D z
  obtain ⟨n3, n4⟩ := told_same hby z
  obtain ⟨n5, n6⟩ := rq_same r
  rw [← n1, ← n2] at a2
  obtain ⟨tp, tca, tla⟩ := t
  obtain ⟨ap, cp, ep⟩ := R.p.shape
  obtain ⟨aca, cca, eca⟩ := R.ca.shape
  obtain ⟨ala, cla, ela⟩ := R.la.shape
  dsimp only at ep eca ela
  subst ep eca ela
  simp only [AnV.cells] at f1 a1 a2
  have hrd' := hrd
  obtain ⟨ab, cb, rfl, _⟩ := hrd'
  have h := Sep.nil w
  refine walk Try.func14 rfl (by kernel_rfl) (by rw [Try.nt14]; simp) ?_
  (try simp only [nfD] at h); have F := h.facts; (try simp only [nfF, emp_fact, rds_fact, frm_fact, tab_fact, two_fact, inr_fact, ansX_fact] at F)
  simp -dsimp only [↓vcA, vcB, vcD, ↓pureT_lenS, ↓iteT, ↓iteF, cond_true, cond_false, eq_self, argE, Env.get, Env.push, ev, evs, evo, retV, Value.cells, Value.oneCell', setR, overR, fillL, zl, places, allSizes, heldC, ne_eq, Int.reduceLE, Int.reduceLT, Int.reduceEq, Int.reduceNe, Int.reduceToNat, Int.cast_ofNat_Int, Nat.reduceMul, Nat.reduceLeDiff, reduceIte, Nat.reduceEqDiff, Nat.reduceAdd, ↓reduceIte, Try.vcT, AnV.cells, Rq.cells]
  refine h.new ?_
  clear h F
  intro w1 b1 h
  (try simp only [nfD] at h); have F := h.facts; (try simp only [nfF, emp_fact, rds_fact, frm_fact, tab_fact, two_fact, inr_fact, ansX_fact] at F); try simp -dsimp only [↓vcA, vcB, vcD, ↓pureT_lenS, ↓iteT, ↓iteF, cond_true, cond_false, eq_self, argE, Env.get, Env.push, ev, evs, evo, retV, Value.cells, Value.oneCell', setR, overR, fillL, zl, places, allSizes, heldC, ne_eq, Int.reduceLE, Int.reduceLT, Int.reduceEq, Int.reduceNe, Int.reduceToNat, Int.cast_ofNat_Int, Nat.reduceMul, Nat.reduceLeDiff, reduceIte, Nat.reduceEqDiff, Nat.reduceAdd, ↓reduceIte, Try.vcT, F, h.cell0, gets, vsD, if_true, if_false, Bool.false_eq_true,  cellsAt, AnV.cells]
  refine h.new ?_
  clear h F
  intro w2 b2 h
  have aw : ∀ {w' : World} {M : List Res} {K : Value → World → Prop}, Sep w (fun _ => False) M w' → (∀ w1, Sep w (fun _ => False) M w1 → K (.bool true) w1) → callsK Try.prog 65 [].toArray w' K := fun h hk => Sep.callp h (awake65 _) hk
  by_cases hlen : (bs.length : Int) > 600
  case pos =>
    (try simp only [nfD] at h); have F := h.facts; (try simp only [nfF, emp_fact, rds_fact, frm_fact, tab_fact, two_fact, inr_fact, ansX_fact] at F); try simp -dsimp only [↓vcA, vcB, vcD, ↓pureT_lenS, ↓iteT, ↓iteF, cond_true, cond_false, eq_self, argE, Env.get, Env.push, ev, evs, evo, retV, Value.cells, Value.oneCell', setR, overR, fillL, zl, places, allSizes, heldC, ne_eq, Int.reduceLE, Int.reduceLT, Int.reduceEq, Int.reduceNe, Int.reduceToNat, Int.cast_ofNat_Int, Nat.reduceMul, Nat.reduceLeDiff, reduceIte, Nat.reduceEqDiff, Nat.reduceAdd, ↓reduceIte, Try.vcT, F, h.cell0, gets, vsD, if_true, if_false, Bool.false_eq_true,  decide_eq_true hlen, cellsAt, if_true, if_false, Bool.not_true, Bool.not_false, Bool.false_eq_true]
    refine aw h ?_
    clear h F
    intro w4 h
    (try simp only [nfD] at h); have F := h.facts; (try simp only [nfF, emp_fact, rds_fact, frm_fact, tab_fact, two_fact, inr_fact, ansX_fact] at F); try simp -dsimp only [↓vcA, vcB, vcD, ↓pureT_lenS, ↓iteT, ↓iteF, cond_true, cond_false, eq_self, argE, Env.get, Env.push, ev, evs, evo, retV, Value.cells, Value.oneCell', setR, overR, fillL, zl, places, allSizes, heldC, ne_eq, Int.reduceLE, Int.reduceLT, Int.reduceEq, Int.reduceNe, Int.reduceToNat, Int.cast_ofNat_Int, Nat.reduceMul, Nat.reduceLeDiff, reduceIte, Nat.reduceEqDiff, Nat.reduceAdd, ↓reduceIte, Try.vcT, F, h.cell0, gets, vsD, if_true, if_false, Bool.false_eq_true]
    exact h.done
  (try simp only [nfD] at h); have F := h.facts; (try simp only [nfF, emp_fact, rds_fact, frm_fact, tab_fact, two_fact, inr_fact, ansX_fact] at F); try simp -dsimp only [↓vcA, vcB, vcD, ↓pureT_lenS, ↓iteT, ↓iteF, cond_true, cond_false, eq_self, argE, Env.get, Env.push, ev, evs, evo, retV, Value.cells, Value.oneCell', setR, overR, fillL, zl, places, allSizes, heldC, ne_eq, Int.reduceLE, Int.reduceLT, Int.reduceEq, Int.reduceNe, Int.reduceToNat, Int.cast_ofNat_Int, Nat.reduceMul, Nat.reduceLeDiff, reduceIte, Nat.reduceEqDiff, Nat.reduceAdd, ↓reduceIte, Try.vcT, F, h.cell0, gets, vsD, if_true, if_false, Bool.false_eq_true,  decide_eq_false hlen, cellsAt, if_true, if_false, Bool.not_true, Bool.not_false, Bool.false_eq_true]
  refine Sep.callp h (f1 w2 (Rs h)) ?_
  clear h F
  intro w3 h
  cases hfm : a.few with
  | false =>
    (try simp only [nfD] at h); have F := h.facts; (try simp only [nfF, emp_fact, rds_fact, frm_fact, tab_fact, two_fact, inr_fact, ansX_fact] at F); try simp -dsimp only [↓vcA, vcB, vcD, ↓pureT_lenS, ↓iteT, ↓iteF, cond_true, cond_false, eq_self, argE, Env.get, Env.push, ev, evs, evo, retV, Value.cells, Value.oneCell', setR, overR, fillL, zl, places, allSizes, heldC, ne_eq, Int.reduceLE, Int.reduceLT, Int.reduceEq, Int.reduceNe, Int.reduceToNat, Int.cast_ofNat_Int, Nat.reduceMul, Nat.reduceLeDiff, reduceIte, Nat.reduceEqDiff, Nat.reduceAdd, ↓reduceIte, Try.vcT, F, h.cell0, gets, vsD, if_true, if_false, Bool.false_eq_true,  hfm, decide_eq_false hlen, cellsAt, if_true, if_false, Bool.not_true, Bool.not_false, Bool.false_eq_true]
    refine aw h ?_
    clear h F
    intro w4 h
    (try simp only [nfD] at h); have F := h.facts; (try simp only [nfF, emp_fact, rds_fact, frm_fact, tab_fact, two_fact, inr_fact, ansX_fact] at F); try simp -dsimp only [↓vcA, vcB, vcD, ↓pureT_lenS, ↓iteT, ↓iteF, cond_true, cond_false, eq_self, argE, Env.get, Env.push, ev, evs, evo, retV, Value.cells, Value.oneCell', setR, overR, fillL, zl, places, allSizes, heldC, ne_eq, Int.reduceLE, Int.reduceLT, Int.reduceEq, Int.reduceNe, Int.reduceToNat, Int.cast_ofNat_Int, Nat.reduceMul, Nat.reduceLeDiff, reduceIte, Nat.reduceEqDiff, Nat.reduceAdd, ↓reduceIte, Try.vcT, F, h.cell0, gets, vsD, if_true, if_false, Bool.false_eq_true]
    exact h.done
  | true =>
  have hr := few_room hfm
  (try simp only [nfD] at h); have F := h.facts; (try simp only [nfF, emp_fact, rds_fact, frm_fact, tab_fact, two_fact, inr_fact, ansX_fact] at F); try simp -dsimp only [↓vcA, vcB, vcD, ↓pureT_lenS, ↓iteT, ↓iteF, cond_true, cond_false, eq_self, argE, Env.get, Env.push, ev, evs, evo, retV, Value.cells, Value.oneCell', setR, overR, fillL, zl, places, allSizes, heldC, ne_eq, Int.reduceLE, Int.reduceLT, Int.reduceEq, Int.reduceNe, Int.reduceToNat, Int.cast_ofNat_Int, Nat.reduceMul, Nat.reduceLeDiff, reduceIte, Nat.reduceEqDiff, Nat.reduceAdd, ↓reduceIte, Try.vcT, F, h.cell0, gets, vsD, if_true, if_false, Bool.false_eq_true,  hfm, decide_eq_false hlen, cellsAt, if_true, if_false, Bool.not_true, Bool.not_false, Bool.false_eq_true]
  refine Sep.callN h (request66 r w3 hO (rqP_byt _)) ?_
  clear h F
  intro e N w4 hQ h
  obtain ⟨a4, c4, rfl, rfl⟩ := hQ
  (try simp only [nfD] at h); have F := h.facts; (try simp only [nfF, emp_fact, rds_fact, frm_fact, tab_fact, two_fact, inr_fact, ansX_fact] at F); try simp -dsimp only [↓vcA, vcB, vcD, ↓pureT_lenS, ↓iteT, ↓iteF, cond_true, cond_false, eq_self, argE, Env.get, Env.push, ev, evs, evo, retV, Value.cells, Value.oneCell', setR, overR, fillL, zl, places, allSizes, heldC, ne_eq, Int.reduceLE, Int.reduceLT, Int.reduceEq, Int.reduceNe, Int.reduceToNat, Int.cast_ofNat_Int, Nat.reduceMul, Nat.reduceLeDiff, reduceIte, Nat.reduceEqDiff, Nat.reduceAdd, ↓reduceIte, Try.vcT, F, h.cell0, gets, vsD, if_true, if_false, Bool.false_eq_true,  cellsAt]
  refine Sep.callN h (request67 r w4 hO) ?_
  clear h F
  intro e N w5 hQ h
  rw [← n5, ← n6] at hQ
  obtain ⟨a5, c5, rfl, rfl⟩ := hQ
  (try simp only [nfD] at h); have F := h.facts; (try simp only [nfF, emp_fact, rds_fact, frm_fact, tab_fact, two_fact, inr_fact, ansX_fact] at F); try simp -dsimp only [↓vcA, vcB, vcD, ↓pureT_lenS, ↓iteT, ↓iteF, cond_true, cond_false, eq_self, argE, Env.get, Env.push, ev, evs, evo, retV, Value.cells, Value.oneCell', setR, overR, fillL, zl, places, allSizes, heldC, ne_eq, Int.reduceLE, Int.reduceLT, Int.reduceEq, Int.reduceNe, Int.reduceToNat, Int.cast_ofNat_Int, Nat.reduceMul, Nat.reduceLeDiff, reduceIte, Nat.reduceEqDiff, Nat.reduceAdd, ↓reduceIte, Try.vcT, F, h.cell0, gets, vsD, if_true, if_false, Bool.false_eq_true]
  refine Sep.callp h (ask68 _ bs _ (hR2 h) hby (by omega)) ?_
  clear h F
  intro w6 h
  generalize hqq : askRV bs = q at *
  (try simp only [nfD] at h); have F := h.facts; (try simp only [nfF, emp_fact, rds_fact, frm_fact, tab_fact, two_fact, inr_fact, ansX_fact] at F); try simp -dsimp only [↓vcA, vcB, vcD, ↓pureT_lenS, ↓iteT, ↓iteF, cond_true, cond_false, eq_self, argE, Env.get, Env.push, ev, evs, evo, retV, Value.cells, Value.oneCell', setR, overR, fillL, zl, places, allSizes, heldC, ne_eq, Int.reduceLE, Int.reduceLT, Int.reduceEq, Int.reduceNe, Int.reduceToNat, Int.cast_ofNat_Int, Nat.reduceMul, Nat.reduceLeDiff, reduceIte, Nat.reduceEqDiff, Nat.reduceAdd, ↓reduceIte, Try.vcT, F, h.cell0, gets, vsD, if_true, if_false, Bool.false_eq_true,  Rq.cells]
  refine h.new ?_
  clear h F
  intro w7 b7 h
  (try simp only [nfD] at h); have F := h.facts; (try simp only [nfF, emp_fact, rds_fact, frm_fact, tab_fact, two_fact, inr_fact, ansX_fact] at F); try simp -dsimp only [↓vcA, vcB, vcD, ↓pureT_lenS, ↓iteT, ↓iteF, cond_true, cond_false, eq_self, argE, Env.get, Env.push, ev, evs, evo, retV, Value.cells, Value.oneCell', setR, overR, fillL, zl, places, allSizes, heldC, ne_eq, Int.reduceLE, Int.reduceLT, Int.reduceEq, Int.reduceNe, Int.reduceToNat, Int.cast_ofNat_Int, Nat.reduceMul, Nat.reduceLeDiff, reduceIte, Nat.reduceEqDiff, Nat.reduceAdd, ↓reduceIte, Try.vcT, F, h.cell0, gets, vsD, if_true, if_false, Bool.false_eq_true]
  refine Sep.put 4 h rfl ?_
  clear h F
  intro w8 h
  (try simp only [nfD] at h); have F := h.facts; (try simp only [nfF, emp_fact, rds_fact, frm_fact, tab_fact, two_fact, inr_fact, ansX_fact] at F); try simp -dsimp only [↓vcA, vcB, vcD, ↓pureT_lenS, ↓iteT, ↓iteF, cond_true, cond_false, eq_self, argE, Env.get, Env.push, ev, evs, evo, retV, Value.cells, Value.oneCell', setR, overR, fillL, zl, places, allSizes, heldC, ne_eq, Int.reduceLE, Int.reduceLT, Int.reduceEq, Int.reduceNe, Int.reduceToNat, Int.cast_ofNat_Int, Nat.reduceMul, Nat.reduceLeDiff, reduceIte, Nat.reduceEqDiff, Nat.reduceAdd, ↓reduceIte, Try.vcT, F, h.cell0, gets, vsD, if_true, if_false, Bool.false_eq_true]
  refine Sep.callp h (ask69 _ bs _ (hR2 h) hby (by omega)) ?_
  clear h F
  intro w9 h
  rw [hqq]
  (try simp only [nfD] at h); have F := h.facts; (try simp only [nfF, emp_fact, rds_fact, frm_fact, tab_fact, two_fact, inr_fact, ansX_fact] at F); try simp -dsimp only [↓vcA, vcB, vcD, ↓pureT_lenS, ↓iteT, ↓iteF, cond_true, cond_false, eq_self, argE, Env.get, Env.push, ev, evs, evo, retV, Value.cells, Value.oneCell', setR, overR, fillL, zl, places, allSizes, heldC, ne_eq, Int.reduceLE, Int.reduceLT, Int.reduceEq, Int.reduceNe, Int.reduceToNat, Int.cast_ofNat_Int, Nat.reduceMul, Nat.reduceLeDiff, reduceIte, Nat.reduceEqDiff, Nat.reduceAdd, ↓reduceIte, Try.vcT, F, h.cell0, gets, vsD, if_true, if_false, Bool.false_eq_true,  Rq.cells]
  refine h.new ?_
  clear h F
  intro w10 b10 h
  (try simp only [nfD] at h); have F := h.facts; (try simp only [nfF, emp_fact, rds_fact, frm_fact, tab_fact, two_fact, inr_fact, ansX_fact] at F); try simp -dsimp only [↓vcA, vcB, vcD, ↓pureT_lenS, ↓iteT, ↓iteF, cond_true, cond_false, eq_self, argE, Env.get, Env.push, ev, evs, evo, retV, Value.cells, Value.oneCell', setR, overR, fillL, zl, places, allSizes, heldC, ne_eq, Int.reduceLE, Int.reduceLT, Int.reduceEq, Int.reduceNe, Int.reduceToNat, Int.cast_ofNat_Int, Nat.reduceMul, Nat.reduceLeDiff, reduceIte, Nat.reduceEqDiff, Nat.reduceAdd, ↓reduceIte, Try.vcT, F, h.cell0, gets, vsD, if_true, if_false, Bool.false_eq_true]
  refine Sep.put 5 h rfl ?_
  clear h F
  intro w11 h
  (try simp only [nfD] at h); have F := h.facts; (try simp only [nfF, emp_fact, rds_fact, frm_fact, tab_fact, two_fact, inr_fact, ansX_fact] at F); try simp -dsimp only [↓vcA, vcB, vcD, ↓pureT_lenS, ↓iteT, ↓iteF, cond_true, cond_false, eq_self, argE, Env.get, Env.push, ev, evs, evo, retV, Value.cells, Value.oneCell', setR, overR, fillL, zl, places, allSizes, heldC, ne_eq, Int.reduceLE, Int.reduceLT, Int.reduceEq, Int.reduceNe, Int.reduceToNat, Int.cast_ofNat_Int, Nat.reduceMul, Nat.reduceLeDiff, reduceIte, Nat.reduceEqDiff, Nat.reduceAdd, ↓reduceIte, Try.vcT, F, h.cell0, gets, vsD, if_true, if_false, Bool.false_eq_true,  cellsAt]
  refine Sep.callN h (a1 _ (Rs h) (by omega)) ?_
  clear h F
  intro e N w12 hQ h
  obtain ⟨a12, c12, rfl, rfl⟩ := hQ
  (try simp only [nfD] at h); have F := h.facts; (try simp only [nfF, emp_fact, rds_fact, frm_fact, tab_fact, two_fact, inr_fact, ansX_fact] at F); try simp -dsimp only [↓vcA, vcB, vcD, ↓pureT_lenS, ↓iteT, ↓iteF, cond_true, cond_false, eq_self, argE, Env.get, Env.push, ev, evs, evo, retV, Value.cells, Value.oneCell', setR, overR, fillL, zl, places, allSizes, heldC, ne_eq, Int.reduceLE, Int.reduceLT, Int.reduceEq, Int.reduceNe, Int.reduceToNat, Int.cast_ofNat_Int, Nat.reduceMul, Nat.reduceLeDiff, reduceIte, Nat.reduceEqDiff, Nat.reduceAdd, ↓reduceIte, Try.vcT, F, h.cell0, gets, vsD, if_true, if_false, Bool.false_eq_true,  cellsAt]
  refine Sep.callN h (a2 _ (Rs h) (by omega)) ?_
  clear h F
  intro e N w13 hQ h
  obtain ⟨a13, c13, rfl, rfl⟩ := hQ
  (try simp only [nfD] at h); have F := h.facts; (try simp only [nfF, emp_fact, rds_fact, frm_fact, tab_fact, two_fact, inr_fact, ansX_fact] at F); try simp -dsimp only [↓vcA, vcB, vcD, ↓pureT_lenS, ↓iteT, ↓iteF, cond_true, cond_false, eq_self, argE, Env.get, Env.push, ev, evs, evo, retV, Value.cells, Value.oneCell', setR, overR, fillL, zl, places, allSizes, heldC, ne_eq, Int.reduceLE, Int.reduceLT, Int.reduceEq, Int.reduceNe, Int.reduceToNat, Int.cast_ofNat_Int, Nat.reduceMul, Nat.reduceLeDiff, reduceIte, Nat.reduceEqDiff, Nat.reduceAdd, ↓reduceIte, Try.vcT, F, h.cell0, gets, vsD, if_true, if_false, Bool.false_eq_true]
  refine Sep.callN h (told72 z _ bs _ (hR2 h) hby (by omega)) ?_
  clear h F
  intro e N w14 hQ h
  generalize hmm : toldV z bs = m at *
  obtain ⟨u, rfl, rfl⟩ := hQ
  (try simp only [nfD] at h); have F := h.facts; (try simp only [nfF, emp_fact, rds_fact, frm_fact, tab_fact, two_fact, inr_fact, ansX_fact] at F)
  have RU := F.2.2.2.2.2.2.2.2.1
  obtain ⟨up, uca, ula⟩ := u
  obtain ⟨Pp, Pcp, ep⟩ := RU.p.shape
  obtain ⟨Pca, Pcca, eca⟩ := RU.ca.shape
  obtain ⟨Pla, Pcla, ela⟩ := RU.la.shape
  dsimp only at ep eca ela
  subst ep eca ela
  (try simp only [nfD] at h); have F := h.facts; (try simp only [nfF, emp_fact, rds_fact, frm_fact, tab_fact, two_fact, inr_fact, ansX_fact] at F); try simp -dsimp only [↓vcA, vcB, vcD, ↓pureT_lenS, ↓iteT, ↓iteF, cond_true, cond_false, eq_self, argE, Env.get, Env.push, ev, evs, evo, retV, Value.cells, Value.oneCell', setR, overR, fillL, zl, places, allSizes, heldC, ne_eq, Int.reduceLE, Int.reduceLT, Int.reduceEq, Int.reduceNe, Int.reduceToNat, Int.cast_ofNat_Int, Nat.reduceMul, Nat.reduceLeDiff, reduceIte, Nat.reduceEqDiff, Nat.reduceAdd, ↓reduceIte, Try.vcT, F, h.cell0, gets, vsD, if_true, if_false, Bool.false_eq_true,  AnV.cells]
  refine h.new ?_
  clear h F RU
  intro w15 b15 h
  (try simp only [nfD] at h); have F := h.facts; (try simp only [nfF, emp_fact, rds_fact, frm_fact, tab_fact, two_fact, inr_fact, ansX_fact] at F); try simp -dsimp only [↓vcA, vcB, vcD, ↓pureT_lenS, ↓iteT, ↓iteF, cond_true, cond_false, eq_self, argE, Env.get, Env.push, ev, evs, evo, retV, Value.cells, Value.oneCell', setR, overR, fillL, zl, places, allSizes, heldC, ne_eq, Int.reduceLE, Int.reduceLT, Int.reduceEq, Int.reduceNe, Int.reduceToNat, Int.cast_ofNat_Int, Nat.reduceMul, Nat.reduceLeDiff, reduceIte, Nat.reduceEqDiff, Nat.reduceAdd, ↓reduceIte, Try.vcT, F, h.cell0, gets, vsD, if_true, if_false, Bool.false_eq_true,  AnV.cells]
  refine Sep.put 9 h rfl ?_
  clear h F
  intro w16 h
  (try simp only [nfD] at h); have F := h.facts; (try simp only [nfF, emp_fact, rds_fact, frm_fact, tab_fact, two_fact, inr_fact, ansX_fact] at F); try simp -dsimp only [↓vcA, vcB, vcD, ↓pureT_lenS, ↓iteT, ↓iteF, cond_true, cond_false, eq_self, argE, Env.get, Env.push, ev, evs, evo, retV, Value.cells, Value.oneCell', setR, overR, fillL, zl, places, allSizes, heldC, ne_eq, Int.reduceLE, Int.reduceLT, Int.reduceEq, Int.reduceNe, Int.reduceToNat, Int.cast_ofNat_Int, Nat.reduceMul, Nat.reduceLeDiff, reduceIte, Nat.reduceEqDiff, Nat.reduceAdd, ↓reduceIte, Try.vcT, F, h.cell0, gets, vsD, if_true, if_false, Bool.false_eq_true]
  refine Sep.callN h (told73 z _ bs _ (hR2 h) hby (by omega)) ?_
  clear h F
  intro e N w17 hQ h
  rw [← n4, ← n3] at hQ
  obtain ⟨u, rfl, rfl⟩ := hQ
  (try simp only [nfD] at h); have F := h.facts; (try simp only [nfF, emp_fact, rds_fact, frm_fact, tab_fact, two_fact, inr_fact, ansX_fact] at F)
  have RU := F.2.2.2.2.2.2.2.2.2.2.1
  obtain ⟨up, uca, ula⟩ := u
  obtain ⟨Qp, Qcp, ep⟩ := RU.p.shape
  obtain ⟨Qca, Qcca, eca⟩ := RU.ca.shape
  obtain ⟨Qla, Qcla, ela⟩ := RU.la.shape
  dsimp only at ep eca ela
  subst ep eca ela
  (try simp only [nfD] at h); have F := h.facts; (try simp only [nfF, emp_fact, rds_fact, frm_fact, tab_fact, two_fact, inr_fact, ansX_fact] at F); try simp -dsimp only [↓vcA, vcB, vcD, ↓pureT_lenS, ↓iteT, ↓iteF, cond_true, cond_false, eq_self, argE, Env.get, Env.push, ev, evs, evo, retV, Value.cells, Value.oneCell', setR, overR, fillL, zl, places, allSizes, heldC, ne_eq, Int.reduceLE, Int.reduceLT, Int.reduceEq, Int.reduceNe, Int.reduceToNat, Int.cast_ofNat_Int, Nat.reduceMul, Nat.reduceLeDiff, reduceIte, Nat.reduceEqDiff, Nat.reduceAdd, ↓reduceIte, Try.vcT, F, h.cell0, gets, vsD, if_true, if_false, Bool.false_eq_true,  AnV.cells]
  refine h.new ?_
  clear h F RU
  intro w18 b18 h
  (try simp only [nfD] at h); have F := h.facts; (try simp only [nfF, emp_fact, rds_fact, frm_fact, tab_fact, two_fact, inr_fact, ansX_fact] at F); try simp -dsimp only [↓vcA, vcB, vcD, ↓pureT_lenS, ↓iteT, ↓iteF, cond_true, cond_false, eq_self, argE, Env.get, Env.push, ev, evs, evo, retV, Value.cells, Value.oneCell', setR, overR, fillL, zl, places, allSizes, heldC, ne_eq, Int.reduceLE, Int.reduceLT, Int.reduceEq, Int.reduceNe, Int.reduceToNat, Int.cast_ofNat_Int, Nat.reduceMul, Nat.reduceLeDiff, reduceIte, Nat.reduceEqDiff, Nat.reduceAdd, ↓reduceIte, Try.vcT, F, h.cell0, gets, vsD, if_true, if_false, Bool.false_eq_true,  AnV.cells]
  refine Sep.put 11 h rfl ?_
  clear h F
  intro w19 h
  have es1 : ((strOfNums (rqPB r)).toList == (strOfNums (rqPB r)).toList) = true := beq_self_eq_true _
  have es2 : ((strOfNums (ansB z a)).toList == (strOfNums (ansB z a)).toList) = true := beq_self_eq_true _
  (try simp only [nfD] at h); have F := h.facts; (try simp only [nfF, emp_fact, rds_fact, frm_fact, tab_fact, two_fact, inr_fact, ansX_fact] at F); try simp -dsimp only [↓vcA, vcB, vcD, ↓pureT_lenS, ↓iteT, ↓iteF, cond_true, cond_false, eq_self, argE, Env.get, Env.push, ev, evs, evo, retV, Value.cells, Value.oneCell', setR, overR, fillL, zl, places, allSizes, heldC, ne_eq, Int.reduceLE, Int.reduceLT, Int.reduceEq, Int.reduceNe, Int.reduceToNat, Int.cast_ofNat_Int, Nat.reduceMul, Nat.reduceLeDiff, reduceIte, Nat.reduceEqDiff, Nat.reduceAdd, ↓reduceIte, Try.vcT, F, h.cell0, gets, vsD, if_true, if_false, Bool.false_eq_true,  err0, beq_self_eq_true, decide_true, es1, es2, if_true, if_false, Bool.not_true, Bool.not_false, Bool.false_eq_true]
  refine str_rule F.2.2.1 ?_
  (try simp only [nfD] at h); have F := h.facts; (try simp only [nfF, emp_fact, rds_fact, frm_fact, tab_fact, two_fact, inr_fact, ansX_fact] at F); try simp -dsimp only [↓vcA, vcB, vcD, ↓pureT_lenS, ↓iteT, ↓iteF, cond_true, cond_false, eq_self, argE, Env.get, Env.push, ev, evs, evo, retV, Value.cells, Value.oneCell', setR, overR, fillL, zl, places, allSizes, heldC, ne_eq, Int.reduceLE, Int.reduceLT, Int.reduceEq, Int.reduceNe, Int.reduceToNat, Int.cast_ofNat_Int, Nat.reduceMul, Nat.reduceLeDiff, reduceIte, Nat.reduceEqDiff, Nat.reduceAdd, ↓reduceIte, Try.vcT, F, h.cell0, gets, vsD, if_true, if_false, Bool.false_eq_true,  err0, beq_self_eq_true, decide_true, es1, es2, if_true, if_false, Bool.not_true, Bool.not_false, Bool.false_eq_true]
  refine str_rule F.2.2.2.1 ?_
  (try simp only [nfD] at h); have F := h.facts; (try simp only [nfF, emp_fact, rds_fact, frm_fact, tab_fact, two_fact, inr_fact, ansX_fact] at F); try simp -dsimp only [↓vcA, vcB, vcD, ↓pureT_lenS, ↓iteT, ↓iteF, cond_true, cond_false, eq_self, argE, Env.get, Env.push, ev, evs, evo, retV, Value.cells, Value.oneCell', setR, overR, fillL, zl, places, allSizes, heldC, ne_eq, Int.reduceLE, Int.reduceLT, Int.reduceEq, Int.reduceNe, Int.reduceToNat, Int.cast_ofNat_Int, Nat.reduceMul, Nat.reduceLeDiff, reduceIte, Nat.reduceEqDiff, Nat.reduceAdd, ↓reduceIte, Try.vcT, F, h.cell0, gets, vsD, if_true, if_false, Bool.false_eq_true,  err0, beq_self_eq_true, decide_true, es1, es2, if_true, if_false, Bool.not_true, Bool.not_false, Bool.false_eq_true, cellsAt]
  refine binK_eql_agg (by kernel_rfl) (fun w => seqRq (d := 9996) q.k q.px q.py q.qx q.qy q.ax q.ay q.bx q.by' q.cx q.cy q.e q.c q.l q.o q.x0 q.y0 q.x1 q.y1 q.f q.m q.i q.n q.h q.b q.u q.k q.px q.py q.qx q.qy q.ax q.ay q.bx q.by' q.cx q.cy q.e q.c q.l q.o q.x0 q.y0 q.x1 q.y1 q.f q.m q.i q.n q.h q.b q.u w) ?_
  (try simp only [nfD] at h); have F := h.facts; (try simp only [nfF, emp_fact, rds_fact, frm_fact, tab_fact, two_fact, inr_fact, ansX_fact] at F); try simp -dsimp only [↓vcA, vcB, vcD, ↓pureT_lenS, ↓iteT, ↓iteF, cond_true, cond_false, eq_self, argE, Env.get, Env.push, ev, evs, evo, retV, Value.cells, Value.oneCell', setR, overR, fillL, zl, places, allSizes, heldC, ne_eq, Int.reduceLE, Int.reduceLT, Int.reduceEq, Int.reduceNe, Int.reduceToNat, Int.cast_ofNat_Int, Nat.reduceMul, Nat.reduceLeDiff, reduceIte, Nat.reduceEqDiff, Nat.reduceAdd, ↓reduceIte, Try.vcT, F, h.cell0, gets, vsD, if_true, if_false, Bool.false_eq_true,  err0, beq_self_eq_true, decide_true, es1, es2, if_true, if_false, Bool.not_true, Bool.not_false, Bool.false_eq_true]
  refine str_rule F.2.2.2.2.2.2.1 ?_
  (try simp only [nfD] at h); have F := h.facts; (try simp only [nfF, emp_fact, rds_fact, frm_fact, tab_fact, two_fact, inr_fact, ansX_fact] at F); try simp -dsimp only [↓vcA, vcB, vcD, ↓pureT_lenS, ↓iteT, ↓iteF, cond_true, cond_false, eq_self, argE, Env.get, Env.push, ev, evs, evo, retV, Value.cells, Value.oneCell', setR, overR, fillL, zl, places, allSizes, heldC, ne_eq, Int.reduceLE, Int.reduceLT, Int.reduceEq, Int.reduceNe, Int.reduceToNat, Int.cast_ofNat_Int, Nat.reduceMul, Nat.reduceLeDiff, reduceIte, Nat.reduceEqDiff, Nat.reduceAdd, ↓reduceIte, Try.vcT, F, h.cell0, gets, vsD, if_true, if_false, Bool.false_eq_true,  err0, beq_self_eq_true, decide_true, es1, es2, if_true, if_false, Bool.not_true, Bool.not_false, Bool.false_eq_true]
  refine str_rule F.2.2.2.2.2.2.2.1 ?_
  (try simp only [nfD] at h); have F := h.facts; (try simp only [nfF, emp_fact, rds_fact, frm_fact, tab_fact, two_fact, inr_fact, ansX_fact] at F); try simp -dsimp only [↓vcA, vcB, vcD, ↓pureT_lenS, ↓iteT, ↓iteF, cond_true, cond_false, eq_self, argE, Env.get, Env.push, ev, evs, evo, retV, Value.cells, Value.oneCell', setR, overR, fillL, zl, places, allSizes, heldC, ne_eq, Int.reduceLE, Int.reduceLT, Int.reduceEq, Int.reduceNe, Int.reduceToNat, Int.cast_ofNat_Int, Nat.reduceMul, Nat.reduceLeDiff, reduceIte, Nat.reduceEqDiff, Nat.reduceAdd, ↓reduceIte, Try.vcT, F, h.cell0, gets, vsD, if_true, if_false, Bool.false_eq_true,  err0, beq_self_eq_true, decide_true, es1, es2, if_true, if_false, Bool.not_true, Bool.not_false, Bool.false_eq_true, cellsAt]
  have s1 := same74 m m _ _ _ F.2.2.2.2.2.2.2.2.1 F.2.2.2.2.2.2.2.2.2.2.1
  simp only [AnV.cells, decide_true] at s1
  refine Sep.callp h s1 ?_
  clear h F s1
  intro w20 h
  (try simp only [nfD] at h); have F := h.facts; (try simp only [nfF, emp_fact, rds_fact, frm_fact, tab_fact, two_fact, inr_fact, ansX_fact] at F); try simp -dsimp only [↓vcA, vcB, vcD, ↓pureT_lenS, ↓iteT, ↓iteF, cond_true, cond_false, eq_self, argE, Env.get, Env.push, ev, evs, evo, retV, Value.cells, Value.oneCell', setR, overR, fillL, zl, places, allSizes, heldC, ne_eq, Int.reduceLE, Int.reduceLT, Int.reduceEq, Int.reduceNe, Int.reduceToNat, Int.cast_ofNat_Int, Nat.reduceMul, Nat.reduceLeDiff, reduceIte, Nat.reduceEqDiff, Nat.reduceAdd, ↓reduceIte, Try.vcT, F, h.cell0, gets, vsD, if_true, if_false, Bool.false_eq_true,  err0, beq_self_eq_true, decide_true, es1, es2, if_true, if_false, Bool.not_true, Bool.not_false, Bool.false_eq_true]
  refine aw h ?_
  clear h F
  intro w21 h
  (try simp only [nfD] at h); have F := h.facts; (try simp only [nfF, emp_fact, rds_fact, frm_fact, tab_fact, two_fact, inr_fact, ansX_fact] at F); try simp -dsimp only [↓vcA, vcB, vcD, ↓pureT_lenS, ↓iteT, ↓iteF, cond_true, cond_false, eq_self, argE, Env.get, Env.push, ev, evs, evo, retV, Value.cells, Value.oneCell', setR, overR, fillL, zl, places, allSizes, heldC, ne_eq, Int.reduceLE, Int.reduceLT, Int.reduceEq, Int.reduceNe, Int.reduceToNat, Int.cast_ofNat_Int, Nat.reduceMul, Nat.reduceLeDiff, reduceIte, Nat.reduceEqDiff, Nat.reduceAdd, ↓reduceIte, Try.vcT, F, h.cell0, gets, vsD, if_true, if_false, Bool.false_eq_true]
  exact h.done
end Go.Proofs.Ytnhgjgoglmadnaa
