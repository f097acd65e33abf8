/- Equality of points and triangles; bytes as strings. -/
import Derived.Test.YtnhgjgoglmadnaaTypes
import Derived.Test.YtnhgjgoglmadnaaA
import Derived.Laws.BytesArg
import Derived.Laws.IdiomStrings
import Derived.Lib.Bytes
namespace Go.Proofs.Ytnhgjgoglmadnaa
open Go.RowKit
theorem pureF_eq {P : Program} {s : Sem Value} {v : Value} {K : Value → Prop} (h : ∀ w, s.run P w = .ok v w) : pureF P s K = K v :=
  propext ⟨fun ⟨u, hu, hk⟩ => by
    have := (hu default).symm.trans (h default)
    injection this with e
    rw [← e]; exact hk, fun hk => ⟨v, h, hk⟩⟩
section
variable (xo yo : Operand) (K : Value → Prop) (a b c d e f a' b' c' d' e' f' : Int)
theorem eql_pt : binK Try.prog .eql 37 xo yo (.agg #[.int .i64 a, .int .i64 b]) (.agg #[.int .i64 c, .int .i64 d]) K = valK (.bool (decide (a = c) && decide (b = d))) K := by
  show pureF _ _ _ = K _
  refine pureF_eq fun w => ?_
  go_simp
  by_cases h1 : a = c <;> by_cases h2 : b = d <;> simp [h1, h2]
theorem neq_pt : binK Try.prog .neq 37 xo yo (.agg #[.int .i64 a, .int .i64 b]) (.agg #[.int .i64 c, .int .i64 d]) K = valK (.bool (!(decide (a = c) && decide (b = d)))) K := by
  show pureF _ _ _ = K _
  refine pureF_eq fun w => ?_
  go_simp
  by_cases h1 : a = c <;> by_cases h2 : b = d <;> simp [h1, h2]
theorem eql_tri : binK Try.prog .eql 39 xo yo (.agg #[.int .i64 a, .int .i64 b, .int .i64 c, .int .i64 d, .int .i64 e, .int .i64 f]) (.agg #[.int .i64 a', .int .i64 b', .int .i64 c', .int .i64 d', .int .i64 e', .int .i64 f']) K
    = valK (.bool (decide (a = a' ∧ b = b' ∧ c = c' ∧ d = d' ∧ e = e' ∧ f = f'))) K := by
  show pureF _ _ _ = K _
  refine pureF_eq fun w => ?_
  go_simp
  by_cases h1 : a = a' <;> by_cases h2 : b = b' <;> by_cases h3 : c = c' <;> by_cases h4 : d = d' <;> by_cases h5 : e = e' <;> by_cases h6 : f = f' <;> simp [h1, h2, h3, h4, h5, h6]
theorem neq_tri : binK Try.prog .neq 39 xo yo (.agg #[.int .i64 a, .int .i64 b, .int .i64 c, .int .i64 d, .int .i64 e, .int .i64 f]) (.agg #[.int .i64 a', .int .i64 b', .int .i64 c', .int .i64 d', .int .i64 e', .int .i64 f']) K
    = valK (.bool (!decide (a = a' ∧ b = b' ∧ c = c' ∧ d = d' ∧ e = e' ∧ f = f'))) K := by
  show pureF _ _ _ = K _
  refine pureF_eq fun w => ?_
  go_simp
  by_cases h1 : a = a' <;> by_cases h2 : b = b' <;> by_cases h3 : c = c' <;> by_cases h4 : d = d' <;> by_cases h5 : e = e' <;> by_cases h6 : f = f' <;> simp [h1, h2, h3, h4, h5, h6]
end

/-- bytes as a string -/
theorem str_rule {w : World} {v : Value} {xs : List Int} {K : Value → World → Prop} (h : Rd w v xs) (hk : K (.string (strOfNums xs)) w) : RunK Try.prog (convert 22 9 v) w K := by
  obtain ⟨a, c, rfl, h1, h2, h3, h4⟩ := h
  refine ⟨_, w, ?_, hk⟩
  rcases Nat.eq_zero_or_pos xs.length with h0 | h0
  · have : xs = [] := List.eq_nil_of_length_eq_zero h0
    subst this
    cases a with
    | none => exact run_convert_bytes_nil w _ _ Try.underlying22 Try.underlying5 _ _ _ Try.underlying9
    | some a => rw [run_convert_bytes_string w _ _ _ _ _ _ Try.underlying22 Try.underlying5 Try.underlying9]; simp [Conv.bytesToString, strOfNums]; rfl
  · obtain ⟨b, o, rfl, hc⟩ := h4 h0
    exact run_convert_bytes_arg w _ _ Try.underlying22 Try.underlying5 b o _ c xs rfl hc _ Try.underlying9
/-- []byte of a constant: the row gets a mark behind its end -/
theorem lit_rule {w w1 : World} {b n : Nat} {cs : List Value} {K : Value → World → Prop} (h : New w w1 b cs 5) (hn : cs.length = n)
    (hk : ∀ w2, Chg (fun k => k = b) w1 w2 → w2.heap[b]? = some (.cells cs.toArray 5 (n, n + 1)) → K (.slice (some ⟨b, 0, none⟩) n n) w2) :
    RunK Try.prog (convert 22 22 (.slice (some ⟨b, 0, none⟩) n n)) w1 K := by
  have hsh : w1.shape? b = some (5, n) := by
    unfold World.shape?
    rw [h.blk]; simp [hn]
  refine ⟨_, w1.freeze ⟨b, n, none⟩ 1, ?_, hk _ ?_ ?_⟩
  · simp [convert, run_underlying Try.underlying22, run_underlying Try.underlying5, markStringish, hsh]
  · unfold World.freeze
    rw [if_neg (by decide)]
    refine ⟨rfl, rfl, rfl, by simp, fun k hk hne => ?_⟩
    simp only [Array.getElem?_modify]
    rw [if_neg (fun e => hne e.symm)]
  · have hlt := h.lt
    have hb := h.blk
    unfold World.freeze
    rw [if_neg (by decide)]
    simp only [Array.getElem?_modify, if_true, hb, Option.map_some]
    rfl
/-- rows of bytes are alike as strings if they are alike -/
theorem strOfNums_eq {xs ys : List Int} (hx : Byt xs) (hy : Byt ys) : ((strOfNums xs).toList == (strOfNums ys).toList) = decide (xs = ys) := by
  rw [Lib.strOfNums_toList, Lib.strOfNums_toList]
  have : Lib.bytesOf xs = Lib.bytesOf ys ↔ xs = ys := by
    constructor
    · intro h
      have hb : ∀ zs : List Int, Byt zs → (Lib.bytesOf zs).map (fun u => (u.toNat : Int)) = zs := by
        intro zs hz
        unfold Lib.bytesOf
        rw [List.map_map]
        conv => rhs; rw [← List.map_id zs]
        refine List.map_congr_left fun x hxm => ?_
        have := hz x hxm
        simp
        omega
      rw [← hb xs hx, ← hb ys hy, h]
    · rintro rfl; rfl
  by_cases e : xs = ys
  · subst e; simp
  · have : ¬ Lib.bytesOf xs = Lib.bytesOf ys := fun h => e (this.1 h)
    simp [e, this]
end Go.Proofs.Ytnhgjgoglmadnaa
