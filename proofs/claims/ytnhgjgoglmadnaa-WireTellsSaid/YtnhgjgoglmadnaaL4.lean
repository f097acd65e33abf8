/- The plain law of frames: what is cut comes whole. -/
import Derived.Test.YtnhgjgoglmadnaaW5
namespace Go.Proofs.Ytnhgjgoglmadnaa
open Go.RowKit
set_option linter.unusedVariables false

def encs : List (List Int) → List Int
  | [] => []
  | l :: ls => enc l ++ encs ls
theorem encs_append : ∀ (a b : List (List Int)), encs (a ++ b) = encs a ++ encs b
  | [], b => rfl
  | l :: a, b => by simp [encs, encs_append a b]
theorem enc_byt {l : List Int} (h : Byt l) : Byt (enc l) := by
  intro x hx
  simp only [enc, List.mem_cons] at hx
  rcases hx with rfl | rfl | hx
  · omega
  · omega
  · exact h x hx
theorem encs_byt : ∀ {ls : List (List Int)}, BytL ls → Byt (encs ls)
  | [], _ => Byt.nil
  | l :: ls, h => (enc_byt (h l (by simp))).append (encs_byt fun x hx => h x (by simp [hx]))
theorem lenOf_enc (l r : List Int) (h : l.length ≤ 65535) : lenOf (enc l ++ r) = l.length := by
  simp only [enc, List.cons_append, lenOf]; omega
theorem parse_enc (l r : List Int) (h : l.length ≤ 256) : parse (enc l ++ r) = (l :: (parse r).1, (parse r).2) := by
  have e := lenOf_enc l r (by omega)
  rw [parse_yes (by omega) (by omega) (by rw [e]; simp [enc]; omega)]
  rw [e, Int.toNat_natCast]
  have e1 : (enc l ++ r).drop (2 + l.length) = r := by
    simp only [enc, List.cons_append]
    rw [show 2 + l.length = l.length + 2 by omega, List.drop_succ_cons, List.drop_succ_cons, List.drop_append]; simp
  have e2 : ((enc l ++ r).drop 2).take l.length = l := by simp [enc]
  rw [e1, e2]
theorem parse_encs : ∀ (ls : List (List Int)) (r : List Int), (∀ l ∈ ls, l.length ≤ 256) → parse (encs ls ++ r) = (ls ++ (parse r).1, (parse r).2)
  | [], r, _ => by simp [encs]
  | l :: ls, r, h => by
    simp only [encs, List.append_assoc]
    rw [parse_enc l _ (h l (by simp)), parse_encs ls r fun x hx => h x (by simp [hx])]; simp
theorem parse_nil : parse [] = ([], false, []) := parse_no (.inl (by decide)) (by decide)
theorem lenOf_append {xs : List Int} (ys : List Int) (h : 2 ≤ xs.length) : lenOf (xs ++ ys) = lenOf xs := by
  match xs, h with
  | x :: y :: zs, _ => rfl
theorem lenOf_two {xs : List Int} (h : 0 ≤ lenOf xs) : 2 ≤ xs.length := by
  match xs, h with
  | x :: y :: zs, _ => simp
  | [x], h => simp [lenOf] at h
  | [], h => simp [lenOf] at h
theorem parse_append : ∀ (n : Nat) (xs ys : List Int), xs.length ≤ n → parse (xs ++ ys) = if (parse xs).2.1 then parse xs else ((parse xs).1 ++ (parse ((parse xs).2.2 ++ ys)).1, (parse ((parse xs).2.2 ++ ys)).2)
  | 0, xs, ys, h => by
    have : xs = [] := List.eq_nil_of_length_eq_zero (by omega)
    subst this
    simp [parse_nil]
  | n + 1, xs, ys, h => by
    by_cases h1 : 256 < lenOf xs
    · have h2 := lenOf_two (xs := xs) (by omega)
      rw [parse_big h1, parse_big (by rw [lenOf_append ys h2]; exact h1)]; rfl
    · by_cases h2 : 0 ≤ lenOf xs ∧ 2 + (lenOf xs).toNat ≤ xs.length
      · have h3 := lenOf_two h2.1
        have e := lenOf_append ys h3
        rw [parse_yes (xs := xs) h2.1 (by omega) h2.2, parse_yes (xs := xs ++ ys) (by omega) (by omega) (by rw [e]; simp; omega), e]
        have e1 : (xs ++ ys).drop (2 + (lenOf xs).toNat) = xs.drop (2 + (lenOf xs).toNat) ++ ys := by rw [List.drop_append_of_le_length h2.2]
        have e2 : ((xs ++ ys).drop 2).take (lenOf xs).toNat = (xs.drop 2).take (lenOf xs).toNat := by
          rw [List.drop_append_of_le_length h3, List.take_append_of_le_length (by simp; omega)]
        rw [e1, e2, parse_append n _ ys (by simp; omega)]
        split <;> simp
      · rw [parse_no (xs := xs) (by omega) (by omega)]; simp
theorem parse_rest : ∀ (n : Nat) (xs : List Int), xs.length ≤ n → Byt xs → (parse xs).2.1 = false → may24 false (parse xs).2.2 = true ∧ Byt (parse xs).2.2 ∧ (parse xs).2.2.length ≤ xs.length
  | 0, xs, h, hb, _ => by
    have : xs = [] := List.eq_nil_of_length_eq_zero (by omega)
    subst this
    rw [parse_nil]; exact ⟨rfl, Byt.nil, by simp⟩
  | n + 1, xs, h, hb, hd => by
    by_cases h1 : 256 < lenOf xs
    · rw [parse_big h1] at hd; cases hd
    · by_cases h2 : 0 ≤ lenOf xs ∧ 2 + (lenOf xs).toNat ≤ xs.length
      · rw [parse_yes (xs := xs) h2.1 (by omega) h2.2] at hd ⊢
        obtain ⟨k1, k2, k3⟩ := parse_rest n (xs.drop (2 + (lenOf xs).toNat)) (by simp; omega) (fun x hx => hb x (List.mem_of_mem_drop hx)) hd
        exact ⟨k1, k2, by simp at k3 ⊢; omega⟩
      · rw [parse_no (xs := xs) (by omega) (by omega)]
        refine ⟨?_, hb, Nat.le_refl _⟩
        simp only [may24, Bool.false_eq_true, if_false, Bool.or_eq_true, decide_eq_true_eq, Bool.and_eq_true]
        by_cases h3 : 2 ≤ xs.length
        · have := lenOf_ge h3 hb; omega
        · omega
theorem parse_byt : ∀ (n : Nat) (xs : List Int), xs.length ≤ n → Byt xs → BytL (parse xs).1 ∧ Byt (parse xs).2.2 ∧ (parse xs).2.2.length ≤ xs.length
  | 0, xs, h, hb => by
    have : xs = [] := List.eq_nil_of_length_eq_zero (by omega)
    subst this
    rw [parse_nil]; exact ⟨fun l hl => (by cases hl), Byt.nil, by simp⟩
  | n + 1, xs, h, hb => by
    by_cases h1 : 256 < lenOf xs
    · rw [parse_big h1]; exact ⟨fun l hl => (by cases hl), Byt.nil, by simp⟩
    · by_cases h2 : 0 ≤ lenOf xs ∧ 2 + (lenOf xs).toNat ≤ xs.length
      · rw [parse_yes (xs := xs) h2.1 (by omega) h2.2]
        obtain ⟨k1, k2, k3⟩ := parse_byt n (xs.drop (2 + (lenOf xs).toNat)) (by simp; omega) (fun x hx => hb x (List.mem_of_mem_drop hx))
        refine ⟨fun l hl => ?_, k2, by simp at k3 ⊢; omega⟩
        rcases List.mem_cons.1 hl with rfl | hl
        · exact fun x hx => hb x (List.mem_of_mem_drop (List.mem_of_mem_take hx))
        · exact k1 l hl
      · rw [parse_no (xs := xs) (by omega) (by omega)]
        exact ⟨fun l hl => (by cases hl), hb, Nat.le_refl _⟩
theorem feed_byt (s : S24) (b : List Int) (h : Byt (s.l ++ b)) : BytL (s.feedF b) ∧ Byt (s.feedS b).l ∧ (s.feedS b).l.length ≤ s.l.length + b.length := by
  obtain ⟨d, l⟩ := s
  cases d with
  | true => exact ⟨fun l hl => (by simp [S24.feedF] at hl), fun x hx => h x (List.mem_append.2 (.inl hx)), by simp [S24.feedS]⟩
  | false =>
    obtain ⟨k1, k2, k3⟩ := parse_byt _ _ (Nat.le_refl _) h
    simp only [S24.feedF, S24.feedS, Bool.false_eq_true, if_false]
    exact ⟨k1, k2, by simpa using k3⟩
/-- One piece of a stream that ends well. -/
theorem feed_cut {r all got : List Int} {fs ls : List (List Int)} {n : Nat} (hf : fs ++ (parse (r ++ all)).1 = ls) (hr : (parse (r ++ all)).2 = (false, [])) :
    S24.feedC ⟨false, r⟩ (all.take n) = 0 ∧ ∃ r', S24.feedS ⟨false, r⟩ (all.take n) = ⟨false, r'⟩ ∧ (fs ++ S24.feedF ⟨false, r⟩ (all.take n)) ++ (parse (r' ++ all.drop n)).1 = ls ∧ (parse (r' ++ all.drop n)).2 = (false, []) ∧ (parse (r ++ all.take n)).2.1 = false ∧ r' = (parse (r ++ all.take n)).2.2 := by
  have e := parse_append _ (r ++ all.take n) (all.drop n) (Nat.le_refl _)
  rw [List.append_assoc, List.take_append_drop] at e
  cases hd : (parse (r ++ all.take n)).2.1 with
  | true =>
    rw [hd, if_pos rfl] at e
    rw [e, ] at hr
    rw [hr] at hd; cases hd
  | false =>
    rw [hd, if_neg (by simp)] at e
    rw [e] at hf hr
    simp only [S24.feedC, S24.feedS, S24.feedF, Bool.false_eq_true, if_false, hd]
    exact ⟨trivial, _, rfl, by simpa using hf, hr, trivial, rfl⟩
end Go.Proofs.Ytnhgjgoglmadnaa
