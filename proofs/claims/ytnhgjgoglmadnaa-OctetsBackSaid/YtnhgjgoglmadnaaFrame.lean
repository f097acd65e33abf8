/- What a call may change, and rows of bytes: no program in sight. -/
import Derived.WalkKit
import Derived.Deep.AppendLies
import Derived.Deep.Draws
import Derived.Lib.Hide
namespace Go.Proofs.Ytnhgjgoglmadnaa
open Go.RowKit

/-- w' is w but for new blocks and what was written in blocks of S. -/
structure Chg (S : Nat → Prop) (w w' : World) : Prop where
  os : w'.os = w.os
  tape : w'.tape = w.tape
  output : w'.output = w.output
  size : w.heap.size ≤ w'.heap.size
  block : ∀ k, k < w.heap.size → ¬ S k → w'.heap[k]? = w.heap[k]?

theorem Chg.refl (S : Nat → Prop) (w : World) : Chg S w w := ⟨rfl, rfl, rfl, Nat.le_refl _, fun _ _ _ => rfl⟩
theorem Chg.trans {S T : Nat → Prop} {a b c : World} (h : Chg S a b) (k : Chg T b c) (hT : ∀ x, T x → S x ∨ a.heap.size ≤ x) : Chg S a c :=
  ⟨k.os.trans h.os, k.tape.trans h.tape, k.output.trans h.output, Nat.le_trans h.size k.size,
    fun i hi hn => (k.block i (Nat.lt_of_lt_of_le hi h.size) (fun ht => (hT i ht).elim hn (fun hle => by omega))).trans (h.block i hi hn)⟩
theorem Chg.mono {S T : Nat → Prop} {a b : World} (h : Chg S a b) (hs : ∀ x, S x → T x) : Chg T a b :=
  ⟨h.os, h.tape, h.output, h.size, fun i hi hn => h.block i hi (fun hx => hn (hs i hx))⟩
theorem Chg.mono' {S T : Nat → Prop} {a b : World} (h : Chg S a b) (hs : ∀ x, S x → x < a.heap.size → T x) : Chg T a b :=
  ⟨h.os, h.tape, h.output, h.size, fun i hi hn => h.block i hi (fun hx => hn (hs i hx hi))⟩
theorem Chg.ofGrown {a b : World} {row : Option Nat} (h : a.grownBy b row) : Chg (fun k => row = some k) a b :=
  ⟨h.os, h.tape, h.output, h.size, fun i hi hn => h.block i hi (fun e => hn e.symm)⟩
theorem Chg.ofBelow {a b : World} (h : Below a.heap.size a b) : Chg (fun _ => False) a b :=
  ⟨h.os, h.tape, h.output, h.size, fun i hi _ => h.block i hi⟩
theorem Chg.below {S : Nat → Prop} {a b : World} (h : Chg S a b) (hs : ∀ x, S x → a.heap.size ≤ x) : Below a.heap.size a b :=
  ⟨h.os, h.tape, h.output, h.size, fun i hi => h.block i hi (fun hx => by have := hs i hx; omega)⟩
theorem Chg.drew {S : Nat → Prop} {a b : World} (h : Chg S a b) : Chg S a b.drew := ⟨h.os, h.tape, h.output, h.size, h.block⟩
theorem Chg.drewN {S : Nat → Prop} {a b : World} (h : Chg S a b) (n : Nat) : Chg S a (b.drewN n) := ⟨h.os, h.tape, h.output, h.size, h.block⟩
theorem Chg.alloc {S : Nat → Prop} {a b : World} (h : Chg S a b) (o : Obj) : Chg S a (b.alloc o) :=
  h.trans (T := fun _ => False) ⟨rfl, rfl, rfl, by simp, fun k hk _ => Below.heap_alloc _ _ _ hk⟩ (fun _ hx => hx.elim)
theorem Chg.setCell {S : Nat → Prop} {a b : World} (h : Chg S a b) {p : Addr} (hp : S p.block ∨ a.heap.size ≤ p.block) (u : Value) : Chg S a (b.setCell p u) :=
  h.trans (T := fun k => k = p.block) ⟨rfl, rfl, rfl, by simp [World.setCell], fun k _ hn => Below.heap_setCell _ _ _ _ hn⟩ (fun x hx => hx ▸ hp)
theorem Chg.cell {S : Nat → Prop} {a b : World} (h : Chg S a b) {p : Addr} {v : Value} (hc : a.cell? p = some v) (hn : ¬ S p.block) : b.cell? p = some v :=
  (World.cell?_of_block (w := a) (h.block p.block (World.block_lt_of_cell? a p hc) hn)).trans hc
theorem Chg.at {S : Nat → Prop} {a b : World} (h : Chg S a b) {k : Nat} {o : Obj} (hc : a.heap[k]? = some o) (hn : ¬ S k) : b.heap[k]? = some o :=
  (h.block k (Array.getElem?_eq_some_iff.1 hc).1 hn).trans hc

/-- The numbers of a list as the cells of a row of bytes. -/
def u8s (xs : List Int) : List Value := xs.map (Value.int .u8)
theorem u8s_length (xs : List Int) : (u8s xs).length = xs.length := by simp [u8s]
theorem u8s_append (xs ys : List Int) : u8s (xs ++ ys) = u8s xs ++ u8s ys := by simp [u8s]
/-- each is a byte -/
def Byt (xs : List Int) : Prop := ∀ x ∈ xs, 0 ≤ x ∧ x ≤ 255
theorem Byt.append {xs ys : List Int} (h : Byt xs) (k : Byt ys) : Byt (xs ++ ys) := fun x hx => (List.mem_append.1 hx).elim (h x) (k x)
theorem Byt.nil : Byt [] := fun _ h => by cases h

/-- The slice v is read as the bytes xs. -/
def Rd (w : World) (v : Value) (xs : List Int) : Prop :=
  ∃ a c, v = .slice a xs.length c ∧ xs.length ≤ c ∧ c ≤ maxLen ∧ (a = none → c = 0) ∧
    (0 < xs.length → ∃ b o, a = some ⟨b, o, none⟩ ∧ ∀ j, j < xs.length → w.cell? ⟨b, o + j, none⟩ = some (.int .u8 (xs.getD j 0)))

/-- The slice v is a row of the program's own, with room behind it for itself alone. -/
def Own (w : World) (v : Value) (xs : List Int) : Prop := w.ownsRow 0 5 1 v xs.length (u8s xs)

theorem Own.nil (w : World) : Own w (.slice none 0 0) [] := World.ownsRow_nil _ _ _ _
theorem Own.chg {S : Nat → Prop} {w w' : World} {v : Value} {xs : List Int} (h : Own w v xs) (hc : Chg S w w') (hn : ∀ k, v.ownBlock = some k → ¬ S k) : Own w' v xs := by
  refine ⟨h.1, ?_⟩
  rcases h.2 with hz | ⟨g, cap, cur, rfl, hb, hg, rest⟩
  · exact .inl hz
  · exact .inr ⟨g, cap, cur, rfl, hb, hc.at hg (hn g (by simp [Value.ownBlock])), rest⟩
theorem Own.lt {w : World} {v : Value} {xs : List Int} (h : Own w v xs) {k : Nat} (hk : v.ownBlock = some k) : k < w.heap.size := (World.ownsRow.lt h k hk).2
theorem Rd.chg {S : Nat → Prop} {w w' : World} {v : Value} {xs : List Int} (h : Rd w v xs) (hc : Chg S w w') (hn : ∀ k, v.ownBlock = some k → ¬ S k) : Rd w' v xs := by
  obtain ⟨a, c, rfl, h1, h2, h3, h4⟩ := h
  refine ⟨a, c, rfl, h1, h2, h3, fun hp => ?_⟩
  obtain ⟨b, o, rfl, hcell⟩ := h4 hp
  exact ⟨b, o, rfl, fun j hj => hc.cell (hcell j hj) (hn b (by simp [Value.ownBlock]))⟩
theorem Own.rd {w : World} {v : Value} {xs : List Int} (h : Own w v xs) : Rd w v xs := by
  rcases h.2 with ⟨rfl, hz⟩ | ⟨g, cap, cur, rfl, hb, hg, hn, hm, hsz, ht⟩
  · refine ⟨none, 0, by rw [hz], by omega, by simp [maxLen], fun _ => rfl, fun hp => by omega⟩
  · refine ⟨some ⟨g, 0, none⟩, cap, rfl, hn, hm, (fun h => by cases h), fun hp => ⟨g, 0, rfl, fun j hj => ?_⟩⟩
    have hj' : (u8s xs)[j]? = some (.int .u8 (xs.getD j 0)) := by simp [u8s, List.getD, hj]
    have := World.ownsRow.cells h (g := g) rfl j _ hj'
    simpa [Addr.add_lit] using this
theorem Rd.len {w : World} {v : Value} {xs : List Int} (h : Rd w v xs) : xs.length ≤ maxLen := by
  obtain ⟨a, c, rfl, h1, h2, _⟩ := h; omega
end Go.Proofs.Ytnhgjgoglmadnaa
