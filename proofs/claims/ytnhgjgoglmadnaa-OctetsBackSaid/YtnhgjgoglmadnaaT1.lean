import Derived.Test.YtnhgjgoglmadnaaProg
import Derived.Test.YtnhgjgoglmadnaaFrame
import Derived.Outline
import Derived.Deep.RegionLaw
namespace Go.Proofs.Ytnhgjgoglmadnaa
open Go.RowKit

theorem Try.info5 : (Try.prog.info? 5).map (fun i => (i.zero, i.size, i.bytes)) = some (some (.int .u8 0), 1, 1) := by kernel_rfl

/-- A writer at block p: its slice v, which owns the bytes xs; is it spoilt? t: the struct's type. -/
structure Wr (t : Nat) (w : World) (p : Nat) (v : Value) (xs : List Int) (bad : Bool) : Prop where
  blk : w.heap[p]? = some (.cells #[v, .bool bad] t (0, 0))
  own : Own w v xs

/-- What a step of a writer changes. -/
structure WrStep (p : Nat) (w : World) (v : Value) (w' : World) (v' : Value) : Prop where
  chg : Chg (fun k => k = p ∨ v.ownBlock = some k) w w'
  new : ∀ k, v'.ownBlock = some k → v.ownBlock = some k ∨ w.heap.size ≤ k

theorem WrStep.refl (p : Nat) (w : World) (v : Value) : WrStep p w v w v := ⟨Chg.refl _ _, fun _ h => .inl h⟩
theorem WrStep.trans {p : Nat} {w w1 w2 : World} {v v1 v2 : Value} (h : WrStep p w v w1 v1) (k : WrStep p w1 v1 w2 v2) : WrStep p w v w2 v2 :=
  ⟨h.chg.trans k.chg (fun x hx => hx.elim (fun e => .inl (.inl e)) (fun e => (h.new x e).elim (fun e => .inl (.inr e)) .inr)),
   fun x hx => (k.new x hx).elim (h.new x) (fun hle => .inr (Nat.le_trans h.chg.size hle))⟩
theorem WrStep.drewL {p : Nat} {w w' : World} {v v' : Value} (h : WrStep p w.drew v w' v') : WrStep p w v w' v' := ⟨⟨h.chg.os, h.chg.tape, h.chg.output, h.chg.size, h.chg.block⟩, h.new⟩

/-- Block b is none of the writer's. -/
def Safe (p : Nat) (v : Value) (b : Nat) : Prop := b ≠ p ∧ v.ownBlock ≠ some b
theorem WrStep.cell {p b o : Nat} {w w' : World} {v v' u : Value} (h : WrStep p w v w' v') (hc : w.cell? ⟨b, o, none⟩ = some u) (hs : Safe p v b) : w'.cell? ⟨b, o, none⟩ = some u :=
  h.chg.cell hc (fun e => e.elim hs.1 hs.2)
theorem WrStep.safe {p b : Nat} {w w' : World} {v v' : Value} (h : WrStep p w v w' v') (hb : b < w.heap.size) (hs : Safe p v b) : Safe p v' b :=
  ⟨hs.1, fun e => (h.new b e).elim hs.2 (fun hle => by omega)⟩
theorem Safe.new {p : Nat} {w : World} {v : Value} {xs : List Int} (hp : p < w.heap.size) (ho : Own w v xs) {b : Nat} (hb : w.heap.size ≤ b) : Safe p v b :=
  ⟨by omega, fun e => by have := ho.lt e; omega⟩
theorem Wr.lt {t p : Nat} {w : World} {v : Value} {xs : List Int} {bad : Bool} (h : Wr t w p v xs bad) : p < w.heap.size := lt_of_block h.blk
theorem Wr.c0 {t p : Nat} {w : World} {v : Value} {xs : List Int} {bad : Bool} (h : Wr t w p v xs bad) : w.cell? ⟨p, 0, none⟩ = some v := by rw [cell_of_row w p 0 _ _ _ h.blk]; rfl
theorem Wr.c1 {t p : Nat} {w : World} {v : Value} {xs : List Int} {bad : Bool} (h : Wr t w p v xs bad) : w.cell? ⟨p, 1, none⟩ = some (.bool bad) := by rw [cell_of_row w p 1 _ _ _ h.blk]; rfl
theorem Wr.fz {t p : Nat} {w : World} {v : Value} {xs : List Int} {bad : Bool} (h : Wr t w p v xs bad) (o : Nat) : w.frozen? ⟨p, o, none⟩ = false := by simp [World.frozen?, h.blk]
/-- The struct is none of the rows of bytes. -/
theorem Own.ne {t p : Nat} {w : World} {v : Value} {xs : List Int} {cs : Array Value} {fr : Nat × Nat} (h : Own w v xs) (hb : w.heap[p]? = some (.cells cs t fr)) (ht : t ≠ 5) : v.ownBlock ≠ some p := by
  rcases h.2 with ⟨rfl, _⟩ | ⟨g, cap, cur, rfl, _, hg, _⟩
  · simp [Value.ownBlock]
  · intro e
    simp [Value.ownBlock] at e
    subst e
    rw [hg] at hb
    injection hb with hb
    injection hb with _ hb _
    exact ht hb.symm
theorem Wr.chg {t p : Nat} {S : Nat → Prop} {w w' : World} {v : Value} {xs : List Int} {bad : Bool} (h : Wr t w p v xs bad) (hc : Chg S w w') (hp : ¬ S p) (hv : ∀ k, v.ownBlock = some k → ¬ S k) : Wr t w' p v xs bad :=
  ⟨hc.at h.blk hp, h.own.chg hc hv⟩

theorem heap_setCell_at {w : World} {p o : Nat} {cs : Array Value} {t : TypeId} {fr : Nat × Nat} {u : Value} (h : w.heap[p]? = some (.cells cs t fr)) : (w.setCell ⟨p, o, none⟩ u).heap[p]? = some (.cells (cs.setIfInBounds o u) t fr) := by
  have hlt := lt_of_block h
  have h' : w.heap[p] = .cells cs t fr := by simpa [Array.getElem?_eq_getElem hlt] using h
  show (w.heap.modify p _)[p]? = _
  rw [Array.getElem?_eq_getElem (by simpa using hlt), Array.getElem_modify_self, h']
  rfl

/-- The writer's own mark is set. -/
theorem Wr.mark {t p : Nat} {w : World} {v : Value} {xs : List Int} {bad : Bool} (h : Wr t w p v xs bad) (ht : t ≠ 5) (b : Bool) : Wr t (w.setCell ⟨p, 1, none⟩ (.bool b)) p v xs b ∧ WrStep p w v (w.setCell ⟨p, 1, none⟩ (.bool b)) v := by
  have hc : Chg (fun k => k = p) w (w.setCell ⟨p, 1, none⟩ (.bool b)) := Chg.setCell (S := fun k => k = p) (p := ⟨p, 1, none⟩) (Chg.refl _ w) (.inl rfl) _
  refine ⟨⟨by rw [heap_setCell_at h.blk]; rfl, h.own.chg hc fun k hk e => h.own.ne h.blk ht (e ▸ hk)⟩, hc.mono fun k hk => .inl hk, fun k hk => .inl hk⟩

/-- What an append to the writer's slice leaves (w0: the world at the append, in which new blocks may have been laid). -/
theorem Wr.grown {t p : Nat} {w w0 w1 : World} {v v1 : Value} {xs ys : List Int} {bad : Bool} (h : Wr t w p v xs bad) (ht : t ≠ 5) (h0 : Chg (fun _ => False) w w0)
    (hown : Own w1 v1 ys) (hg : w0.grownBy w1 v.ownBlock) (hat : ∀ k, v1.ownBlock = some k → v.ownBlock = some k ∨ w0.heap.size ≤ k) :
    w1.cell? ⟨p, 0, none⟩ = some v ∧ w1.frozen? ⟨p, 0, none⟩ = false ∧ Wr t (w1.setCell ⟨p, 0, none⟩ v1) p v1 ys bad ∧ WrStep p w v (w1.setCell ⟨p, 0, none⟩ v1) v1 := by
  have hne := h.own.ne h.blk ht
  have hc : Chg (fun k => v.ownBlock = some k) w w1 := h0.mono (fun _ f => f.elim) |>.trans (Chg.ofGrown hg) (fun x hx => .inl hx)
  have hb1 : w1.heap[p]? = some (.cells #[v, .bool bad] t (0, 0)) := hc.at h.blk hne
  refine ⟨by rw [cell_of_row w1 p 0 _ _ _ hb1]; rfl, by simp [World.frozen?, hb1], ⟨by rw [heap_setCell_at hb1]; rfl, ?_⟩, ?_, fun k hk => (hat k hk).imp id (Nat.le_trans h0.size)⟩
  · exact hown.chg (Chg.setCell (S := fun k => k = p) (p := ⟨p, 0, none⟩) (Chg.refl _ w1) (.inl rfl) _) fun k hk e => hown.ne hb1 ht (e ▸ hk)
  · exact Chg.setCell (S := fun k => k = p ∨ v.ownBlock = some k) (p := ⟨p, 0, none⟩) (hc.mono fun x hx => Or.inr hx) (.inl (.inl rfl)) _

/-- A step of a region: one byte more behind a writer's row. wr: the world in which the writer is known; w: that at the append. -/
theorem step_byte {ops : Array Oper} {o : Oper} {a : Act} {K : Act → World → Prop} {Q : Exit → Act → World → Prop} {E : Prop} {wr w : World} {t p : Nat} {v : Value} {ys : List Int} {bad : Bool} (x : Int)
    (hwr : Wr t wr p v ys bad) (ht : t ≠ 5) (hl : ys.length ≤ 100000000) (hgd : o.guard = none) (s u : Operand)
    (ho : o.op = .call { callee := .builtin .append, args := #[s, u], argTypes := #[22, 22] }) (B : Nat) (h0 : Chg (fun _ => False) wr w)
    (hs : a.eval s = v) (hu : a.eval u = .slice (some ⟨B, 0, none⟩) 1 1) (hx : w.cell? ⟨B, 0, none⟩ = some (.int .u8 x))
    (hK : ∀ g n cap w1, w1.cell? ⟨p, 0, none⟩ = some v → w1.frozen? ⟨p, 0, none⟩ = false → Wr t (w1.setCell ⟨p, 0, none⟩ (.slice (some ⟨g, 0, none⟩) n cap)) p (.slice (some ⟨g, 0, none⟩) n cap) (ys ++ [x]) bad →
      WrStep p wr v (w1.setCell ⟨p, 0, none⟩ (.slice (some ⟨g, 0, none⟩) n cap)) (.slice (some ⟨g, 0, none⟩) n cap) → K (a.put o.dst (.slice (some ⟨g, 0, none⟩) n cap)) w1) :
    if Region.wanted o (yielded ops a.tmps) = true then Oper.wp Try.prog o a w K Q else E := by
  obtain ⟨i0, hi, hz0, hz1, hz2⟩ := info_parts Try.info5
  have hw0 : Wr t w p v ys bad := hwr.chg h0 id (fun _ _ => id)
  refine step_append_lies w hgd s u 22 ho 0 5 i0 (.int .u8 0) 1 1 Try.underlying22 hi hz0 hz1 hz2 rfl (by decide) v ys.length (u8s ys) hs hw0.own ⟨B, 0, none⟩ 1 1 [.int .u8 x] hu rfl ?_ (by intro y hy; simp at hy; subst hy; rfl) (by decide) (by unfold maxLen; omega) (by omega) (Nat.zero_le _) w.heap.size rfl ?_
  · intro j y hj
    match j, hj with
    | 0, hj => simp at hj; subst hj; simpa [Addr.add] using hx
  · intro g cap w1 hown hg hat hlt
    have e : u8s (ys ++ [x]) = u8s ys ++ [.int .u8 x] := by simp [u8s]
    obtain ⟨G0, G1, G2, G3⟩ := Wr.grown (ys := ys ++ [x]) (v1 := .slice (some ⟨g, 0, none⟩) (ys.length + 1) cap) hwr ht h0 (by unfold Own; rw [e]; simpa using hown) hg (by
      intro k hk
      simp [Value.ownBlock] at hk
      subst hk
      exact hat.imp id (fun e => by omega))
    exact hK _ _ _ _ G0 G1 G2 G3
end Go.Proofs.Ytnhgjgoglmadnaa
