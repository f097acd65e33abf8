/- A walk by reckoning, 6: facts about new and written blocks, calls, append. No program in sight. -/
import Derived.Test.YtnhgjgoglmadnaaVF
namespace Go.Proofs.Ytnhgjgoglmadnaa
open Go.RowKit

theorem New.cell {w w1 : World} {b : Nat} {cs : List Value} {t : TypeId} (h : New w w1 b cs t) (o : Nat) : w1.cell? ⟨b, o, none⟩ = cs[o]? := by
  rw [cell_of_row w1 b o _ _ _ h.blk]; simp
theorem New.blkOf {w w1 : World} {b : Nat} {cs : List Value} {t : TypeId} (h : New w w1 b cs t) : blkOf w1 b = some (cs, t) := by
  simpa using blkOf_of h.blk
theorem New.lt {w w1 : World} {b : Nat} {cs : List Value} {t : TypeId} (h : New w w1 b cs t) : b < w1.heap.size := lt_of_block h.blk
theorem Put.cell {w w1 : World} {b : Nat} {cs : List Value} {t : TypeId} (h : Put w w1 b cs t) (o : Nat) : w1.cell? ⟨b, o, none⟩ = cs[o]? := by
  rw [cell_of_row w1 b o _ _ _ h.blk]; simp
theorem Put.blkOf {w w1 : World} {b : Nat} {cs : List Value} {t : TypeId} (h : Put w w1 b cs t) : blkOf w1 b = some (cs, t) := by
  simpa using blkOf_of h.blk
theorem Chg.blkOf {S : Nat → Prop} {w w1 : World} {b : Nat} {x : List Value × TypeId} (h : Chg S w w1) (hb : blkOf w b = some x) (hn : ¬ S b) : blkOf w1 b = some x := by
  have := blkOf_elim hb
  have h1 := h.at this hn
  simpa using blkOf_of h1
theorem cell_of_blkOf {w : World} {b : Nat} {x : List Value × TypeId} (h : blkOf w b = some x) (o : Nat) : w.cell? ⟨b, o, none⟩ = x.1[o]? := by
  rw [cell_of_row w b o _ _ _ (blkOf_elim h)]; simp
theorem lt_of_blkOf {w : World} {b : Nat} {x : List Value × TypeId} (h : blkOf w b = some x) : b < w.heap.size := lt_of_block (blkOf_elim h)

theorem Holds_nil (w : World) : Holds [] w = True := by simp [Holds]
theorem Holds_cons (b o : Nat) (v : Value) (L : Held) (w : World) : Holds ((b, o, v) :: L) w = (w.cell? ⟨b, o, none⟩ = some v ∧ Holds L w) := by
  apply propext
  constructor
  · intro h
    exact ⟨h _ _ _ (.head _), fun b' o' v' hm => h _ _ _ (.tail _ hm)⟩
  · rintro ⟨h1, h2⟩ b' o' v' hm
    cases hm with
    | head => exact h1
    | tail _ hm => exact h2 _ _ _ hm

theorem RetK_mk (K : Value → World → Prop) (v : Value) (w : World) : RetK K (.returned v) w = K v w :=
  propext ⟨fun ⟨_, e, h⟩ => by injection e with e; subst e; exact h, fun h => ⟨v, rfl, h⟩⟩
theorem Chg.seq {w w1 w2 : World} {S : Nat → Prop} (h : Chg (fun _ => False) w w1) (k : Chg S w1 w2) : Chg S w w2 := (h.mono (fun _ f => f.elim)).trans k (fun _ hx => .inl hx)
theorem ifK_dec {p : Prop} [Decidable p] {A B : Prop} (h1 : p → A) (h2 : ¬ p → B) : ifK (decide p) A B :=
  ⟨fun h => h1 (of_decide_eq_true h), fun h => h2 (of_decide_eq_false h)⟩
theorem ifK_nec {p : Prop} [Decidable p] {A B : Prop} (h1 : ¬ p → A) (h2 : p → B) : ifK (!decide p) A B :=
  ⟨fun h => h1 (by simpa using h), fun h => h2 (by simpa using h)⟩
theorem ifK_any {b : Bool} {A B : Prop} (h1 : b = true → A) (h2 : b = false → B) : ifK b A B := ⟨h1, h2⟩
/-- A call whose contract is known. -/
theorem callsK_use {P : Program} {f : FuncId} {args : Array Value} {w : World} {R K : Value → World → Prop} (h : Calls P f args w (RetK R)) (hk : ∀ v w', R v w' → K v w') : callsK P f args w K :=
  Calls.mono h fun _ _ ⟨v, e, hr⟩ => ⟨v, e, hk _ _ hr⟩

theorem callsK_pure {P : Program} {f : FuncId} {args : Array Value} {w : World} {x : Value} {K : Value → World → Prop} (h : Calls P f args w (RetK fun r w' => r = x ∧ w' = w)) (hk : K x w) : callsK P f args w K :=
  callsK_use h fun _ _ ⟨e1, e2⟩ => by rw [e1, e2]; exact hk

/-- The slice v has n elements of s cells; they read cs. -/
structure Row (s : Nat) (w : World) (v : Value) (n : Nat) (cs : List Value) : Prop where
  len : cs.length = n * s
  one : ∀ u ∈ cs, u.oneCell' = true
  shape : ∃ a c, v = .slice a n c ∧ n ≤ c ∧ c ≤ maxLen ∧ (a = none → c = 0) ∧ (0 < n → ∃ b o, a = some ⟨b, o, none⟩ ∧ ∀ j u, cs[j]? = some u → w.cell? ⟨b, o + j, none⟩ = some u)
theorem Row.chg {S : Nat → Prop} {s : Nat} {w w' : World} {v : Value} {n : Nat} {cs : List Value} (h : Row s w v n cs) (hc : Chg S w w') (hn : ∀ k, v.ownBlock = some k → ¬ S k) : Row s w' v n cs := by
  obtain ⟨h1, h2, a, c, rfl, h3, h4, h5, h6⟩ := h
  refine ⟨h1, h2, a, c, rfl, h3, h4, h5, fun hp => ?_⟩
  obtain ⟨b, o, rfl, hcell⟩ := h6 hp
  exact ⟨b, o, rfl, fun j u hj => hc.cell (hcell j u hj) (hn b (by simp [Value.ownBlock]))⟩
theorem Row.nil (s : Nat) (w : World) : Row s w (.slice none 0 0) 0 [] := ⟨by simp, by simp, none, 0, rfl, by omega, by simp [maxLen], fun _ => rfl, fun h => by omega⟩
theorem Rd.row {w : World} {v : Value} {xs : List Int} (h : Rd w v xs) : Row 1 w v xs.length (u8s xs) := by
  obtain ⟨a, c, rfl, h1, h2, h3, h4⟩ := h
  refine ⟨by simp [u8s], fun u hu => ?_, a, c, rfl, h1, h2, h3, fun hp => ?_⟩
  · obtain ⟨x, _, rfl⟩ := List.mem_map.1 hu; rfl
  · obtain ⟨b, o, rfl, hc⟩ := h4 hp
    refine ⟨b, o, rfl, fun j u hj => ?_⟩
    simp only [u8s, List.getElem?_map, Option.map_eq_some_iff] at hj
    obtain ⟨x, hx, rfl⟩ := hj
    obtain ⟨hlt, hx⟩ := List.getElem?_eq_some_iff.1 hx
    rw [hc j hlt]
    simp [List.getD, hlt, hx]
/-- A row of one's own is read. -/
theorem row_of_owns {w : World} {e : TypeId} {s : Nat} {v : Value} {n : Nat} {xs : List Value} (h : w.ownsRow 0 e s v n xs) (h1 : ∀ u ∈ xs, u.oneCell' = true) : Row s w v n xs := by
  refine ⟨h.1, h1, ?_⟩
  rcases h.2 with ⟨rfl, hz⟩ | ⟨g, cap, cur, rfl, hb, hg, hn, hm, hsz, ht⟩
  · exact ⟨none, 0, by rw [hz], by omega, by simp [maxLen], fun _ => rfl, fun hp => by omega⟩
  · refine ⟨some ⟨g, 0, none⟩, cap, rfl, hn, hm, (fun h => by cases h), fun hp => ⟨g, 0, rfl, fun j u hj => ?_⟩⟩
    have := World.ownsRow.cells h (g := g) rfl j _ hj
    simpa [Addr.add_lit] using this
/-- A literal's block is a row of one's own. -/
theorem New.owns {w w1 : World} {b : Nat} {cs : List Value} {e : TypeId} {s n : Nat} (h : New w w1 b cs e) (hn : cs.length = n * s) (hm : n ≤ maxLen) : w1.ownsRow 0 e s (.slice (some ⟨b, 0, none⟩) n n) n cs :=
  ⟨hn, .inr ⟨b, n, cs.toArray, rfl, Nat.zero_le _, h.blk, Nat.le_refl _, hm, by simpa using hn, List.take_of_length_le (by simp [hn])⟩⟩
theorem owns_chg {S : Nat → Prop} {w w' : World} {e : TypeId} {s : Nat} {v : Value} {n : Nat} {xs : List Value} (h : w.ownsRow 0 e s v n xs) (hc : Chg S w w') (hn : ∀ k, v.ownBlock = some k → ¬ S k) : w'.ownsRow 0 e s v n xs := by
  refine ⟨h.1, ?_⟩
  rcases h.2 with hz | ⟨g, cap, cur, rfl, hb, hg, rest⟩
  · exact .inl hz
  · exact .inr ⟨g, cap, cur, rfl, hb, hc.at hg (hn g (by simp [Value.ownBlock])), rest⟩

/-- append onto a row of one's own. -/
theorem append_rule {P : Program} {t e : TypeId} {z : Value} {s by' : Nat} (hi : (P.info? e).map (fun i => (i.zero, i.size, i.bytes)) = some (some z, s, by')) (ht : P.underlying t = some (.slice e)) (hzs : z.cells.size = s) (hs : 0 < s)
    {w : World} {v : Value} {n : Nat} {xs : List Value} {src : Value} {m : Nat} {news : List Value} {ty : TypeId} {K : Value → World → Prop} (hown : w.ownsRow 0 e s v n xs) (hsrc : Row s w src m news)
    (hl : (n + m) * by' ≤ 140737488355328) (h63 : n + m ≤ maxLen)
    (hK : ∀ v' w', w'.ownsRow 0 e s v' (n + m) (xs ++ news) → w.grownBy w' v.ownBlock → (v'.ownBlock = v.ownBlock ∨ v'.ownBlock = some w.heap.size) → K v' w') : RunK P (Builtin.append_ #[t, t] ty #[v, src]) w K := by
  obtain ⟨i, hi, hp⟩ := Option.map_eq_some_iff.1 hi
  simp only [Prod.mk.injEq] at hp
  obtain ⟨hz, hsz, hby⟩ := hp
  obtain ⟨h1, h2, a, c, rfl, h3, h4, h5, h6⟩ := hsrc
  cases a with
  | none =>
    obtain rfl := h5 rfl
    obtain rfl : m = 0 := by omega
    obtain rfl : news = [] := List.eq_nil_of_length_eq_zero (by simpa using h1)
    refine ⟨v, w, run_append_owned_none w 0 t ty e i s ht hi v n xs hown, hK _ _ (by simpa using hown) ⟨rfl, rfl, rfl, Nat.le_refl _, fun _ _ _ => rfl⟩ (.inl rfl)⟩
  | some a =>
    obtain ⟨v', w', hr, h7, h8, _, h9⟩ := run_append_own_at (P := P) w 0 t ty e i z s by' ht hi hz hsz hby hzs hs v n xs hown a m c news h1 (fun j u hj => by
      have hlt := (List.getElem?_eq_some_iff.1 hj).1
      have hm : 0 < m := by
        rcases Nat.eq_zero_or_pos m with rfl | h
        · simp [h1] at hlt
        · exact h
      obtain ⟨b, o, he, hc⟩ := h6 hm
      injection he with he
      subst he
      rw [add_off]
      exact hc j u hj) h2 h63 hl (Nat.zero_le _)
    exact ⟨v', w', hr, hK _ _ h7 h8 h9⟩
end Go.Proofs.Ytnhgjgoglmadnaa
