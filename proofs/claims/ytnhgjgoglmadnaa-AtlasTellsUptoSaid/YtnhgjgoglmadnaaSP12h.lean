/- Joined texts of this claim (part 8), printed by a program of this work. The last part holds the claimed theorem: the law answers true at every input of its row. -/
import Derived.Test.YtnhgjgoglmadnaaSP12g
namespace Go.Proofs.Ytnhgjgoglmadnaa
open Go.RowKit
set_option linter.unusedVariables false

def cellsI (x : List Int) : List Value := x.map (Value.int .i64)
def flatT (xs : List (List Int)) : List Value := xs.flatMap cellsI
theorem cellsI_len (x : List Int) : (cellsI x).length = x.length := by simp [cellsI]
theorem cellsI_one {x : List Int} {u : Value} (h : u ∈ cellsI x) : u.oneCell' = true := by
  obtain ⟨y, _, rfl⟩ := List.mem_map.1 h; rfl
theorem flatT_one {xs : List (List Int)} {u : Value} (h : u ∈ flatT xs) : u.oneCell' = true := by
  obtain ⟨x, _, hx⟩ := List.mem_flatMap.1 h
  exact cellsI_one hx
theorem flatT_len {s : Nat} : ∀ {xs : List (List Int)}, (∀ x ∈ xs, x.length = s) → (flatT xs).length = xs.length * s
  | [], _ => by simp [flatT]
  | x :: xs, h => by
    have h1 := h x (by simp)
    have h2 := flatT_len (xs := xs) fun y hy => h y (by simp [hy])
    have e : flatT (x :: xs) = cellsI x ++ flatT xs := rfl
    rw [e, List.length_append, cellsI_len, h1, h2, List.length_cons, Nat.succ_mul]; omega
theorem flatT_at {s : Nat} : ∀ {xs : List (List Int)} {i : Nat} (h : i < xs.length), (∀ x ∈ xs, x.length = s) → ((flatT xs).drop (i * s)).take s = cellsI xs[i]
  | x :: xs, 0, h, hs => by
    have h1 := hs x (by simp)
    simp only [Nat.zero_mul, List.drop_zero, flatT, List.flatMap_cons, List.getElem_cons_zero]
    rw [List.take_append_of_le_length (by rw [cellsI_len, h1]; exact Nat.le_refl _), List.take_of_length_le (by rw [cellsI_len, h1]; exact Nat.le_refl _)]
  | x :: xs, i + 1, h, hs => by
    have h1 := hs x (by simp)
    have e : (i + 1) * s = (cellsI x).length + i * s := by rw [cellsI_len, h1, Nat.succ_mul]; omega
    simp only [flatT, List.flatMap_cons, List.getElem_cons_succ]
    rw [e, ← List.drop_drop, List.drop_append_of_le_length (Nat.le_refl _), List.drop_length, List.nil_append]
    exact flatT_at (by simpa using h) fun y hy => hs y (by simp [hy])
theorem Row.cellsAt {w : World} {s : Nat} {a : Option Addr} {m n c : Nat} {cs : List Value} (h : Row s w (.slice a m c) n cs) {i : Nat} (hi : i < n) (hs : 0 < s) :
    ∃ b o, a = some ⟨b, o, none⟩ ∧ cellsAt w b (o + i * s) s = some ((cs.drop (i * s)).take s) := by
  have hlen := h.len
  obtain ⟨a', c', e, h4, h5, h6, h7⟩ := h.shape
  injection e with e1 e2 e3
  obtain ⟨b, o, e4, hc⟩ := h7 (by omega)
  refine ⟨b, o, by rw [e1, e4], ?_⟩
  have hle : i * s + s ≤ cs.length := by rw [hlen, ← Nat.succ_mul]; exact Nat.mul_le_mul_right s hi
  have hl : ((cs.drop (i * s)).take s).length = s := by simp; omega
  have := cellsAt_of (w := w) (b := b) (o := o + i * s) ((cs.drop (i * s)).take s) (fun j u hj => by
    have hjl := (List.getElem?_eq_some_iff.1 hj).1
    rw [hl] at hjl
    rw [List.getElem?_take_of_lt hjl, List.getElem?_drop] at hj
    rw [Nat.add_assoc]; exact hc _ _ hj)
  rw [hl] at this
  exact this

structure Tab (s : Nat) (w : World) (v : Value) (xs : List (List Int)) : Prop where
  wid : ∀ x ∈ xs, x.length = s
  row : Row s w v xs.length (flatT xs)
theorem Tab.shape {s : Nat} {w : World} {v : Value} {xs : List (List Int)} (h : Tab s w v xs) : ∃ a c, v = .slice a xs.length c := by
  obtain ⟨a, c, e, _⟩ := h.row.shape
  exact ⟨a, c, e⟩
theorem Tab.len {s : Nat} {w : World} {v : Value} {xs : List (List Int)} (h : Tab s w v xs) : xs.length ≤ maxLen := by
  obtain ⟨a, c, e, h3, h4, _⟩ := h.row.shape
  omega
theorem Tab.nil (s : Nat) (w : World) : Tab s w (.slice none 0 0) [] := ⟨fun _ h => (by cases h), Row.nil s w⟩
theorem Tab.at {s : Nat} {w : World} {a : Option Addr} {m c : Nat} {xs : List (List Int)} (h : Tab s w (.slice a m c) xs) {i : Nat} (hi : i < xs.length) (hs : 0 < s) :
    ∃ b o, a = some ⟨b, o, none⟩ ∧ cellsAt w b (o + i * s) s = some (cellsI xs[i]) := by
  obtain ⟨b, o, e, hc⟩ := h.row.cellsAt hi hs
  rw [flatT_at hi h.wid] at hc
  exact ⟨b, o, e, hc⟩
theorem Tab.chg {S : Nat → Prop} {s : Nat} {w w' : World} {v : Value} {xs : List (List Int)} (h : Tab s w v xs) (hc : Chg S w w') (hn : ∀ k, v.ownBlock = some k → ¬ S k) : Tab s w' v xs := ⟨h.wid, h.row.chg hc hn⟩
theorem Tab.sep {s : Nat} {w0 w : World} {S : Nat → Prop} {M : List Res} {v : Value} {xs : List (List Int)} (h : Tab s w0 v xs) (hh : Sep w0 S M w) (hS : ∀ k, v.ownBlock = some k → ¬ S k) : Tab s w v xs := ⟨h.wid, h.row.sep hh hS⟩
def tab (e s : Nat) (v : Value) (xs : List (List Int)) : Res where
  on w A := (∀ x ∈ xs, x.length = s) ∧ w.ownsRow 0 e s v xs.length (flatT xs) ∧ A = fun x => v.ownBlock = some x
  rd _ := False
  fact w := Tab s w v xs
  lt := fun ⟨_, h, e⟩ x hx => by subst e; exact (World.ownsRow.lt h x hx).2
  chg := fun {w w' A} ⟨h0, h, e⟩ hs hc => ⟨h0, owns_same h fun k hk => hc k (World.ownsRow.lt h k hk).2 (.inl (by rw [e]; exact hk)), e⟩
  ok := fun ⟨h0, h, _⟩ => ⟨h0, row_of_owns h fun u hu => flatT_one hu⟩
theorem tab_fact (e s : Nat) (v : Value) (xs : List (List Int)) (w : World) : (tab e s v xs).fact w = Tab s w v xs := (rfl)
theorem Sep.tabNil (e s : Nat) {w0 w : World} {S : Nat → Prop} {M : List Res} (h : Sep w0 S M w) : Sep w0 S (M ++ [tab e s (.slice none 0 0) []]) w :=
  h.push (Chg.refl _ _) (A := fun _ => False) ⟨fun _ h => (by cases h), World.ownsRow_nil _ _ _ _, by funext x; simp [Value.ownBlock]⟩ (fun _ f => f.elim) (fun _ f => f.elim)
theorem Sep.appTab (i k : Nat) {P : Program} {t e : TypeId} {z : Value} {s by' : Nat} (hinf : (P.info? e).map (fun i => (i.zero, i.size, i.bytes)) = some (some z, s, by')) (ht : P.underlying t = some (.slice e)) (hzs : z.cells.size = s) (hs : 0 < s)
    {w0 w : World} {S : Nat → Prop} {M : List Res} {b : Nat} {v : Value} {xs : List (List Int)} (x : List Int) {ty : TypeId} {K : Value → World → Prop} (h : Sep w0 S M w) (hi : M[i]? = some (tab e s v xs)) (hk : M[k]? = some (blk b e (cellsI x))) (hx : x.length = s)
    (hl : (xs.length + 1) * by' ≤ 140737488355328) (h63 : xs.length + 1 ≤ maxLen)
    (hK : ∀ a c w', Sep w0 S (M.set i (tab e s (.slice a (xs ++ [x]).length c) (xs ++ [x]))) w' → K (.slice a (xs ++ [x]).length c) w') : RunK P (Builtin.append_ #[t, t] ty #[v, .slice (some ⟨b, 0, none⟩) 1 1]) w K := by
  obtain ⟨C, ⟨c1, _⟩, _, _⟩ := h.at hk
  obtain ⟨A, ⟨h0, h1, rfl⟩, _, h3⟩ := h.at hi
  have hrow : Row s w (.slice (some ⟨b, 0, none⟩) 1 1) 1 (cellsI x) := ⟨by rw [cellsI_len, hx, Nat.one_mul], fun u hu => cellsI_one hu, _, _, rfl, Nat.le_refl _, by simp [maxLen], fun e => by (cases e), fun _ => ⟨b, 0, rfl, fun j u hj => by rw [cell_of_row w b _ _ _ _ c1, Nat.zero_add]; simpa using hj⟩⟩
  refine append_rule hinf ht hzs hs h1 hrow hl h63 fun v' w' ho hg hat => ?_
  have hsh : ∃ a c, v' = .slice a (xs.length + 1) c := by
    rcases ho.2 with ⟨rfl, hz⟩ | ⟨g, cap, cur, rfl, _⟩
    · exact ⟨none, 0, by rw [hz]⟩
    · exact ⟨_, _, rfl⟩
  obtain ⟨a, c, rfl⟩ := hsh
  have el : (xs ++ [x]).length = xs.length + 1 := by simp
  have ef : flatT (xs ++ [x]) = flatT xs ++ cellsI x := by simp [flatT]
  have := hK a c w' (h3 _ _ w' ⟨fun y hy => (List.mem_append.1 hy).elim (h0 y) fun hy => by simp at hy; subst hy; exact hx, by rw [el, ef]; exact ho, rfl⟩ (fun y hy => ?_) (Chg.ofGrown hg) (fun _ f => f))
  · rw [el] at this; exact this
  · rw [el] at hy
    rcases hat with e | e
    · exact .inl (by rw [← e]; exact hy)
    · rw [hy] at e; injection e with e; exact .inr (by omega)

theorem Sep.wrMono' (i : Nat) {w0 w : World} {S : Nat → Prop} {M : List Res} {t p k : Nat} {s : W8} (k' : Nat) (h : Sep w0 S M w) (hi : M[i]? = some (wr t p s k)) (hk : k ≤ k') : Sep w0 S (M.set i (wr t p s k')) w :=
  h.conv i hi (fun A ⟨h1, h2, h3⟩ => ⟨Nat.le_trans h1 hk, h2, h3⟩) (fun _ f => f)
structure Ch where
  t : Int
  d : Bool
  b : List Int
def Chn (w : World) (v : Value) (cs : List Ch) : Prop := ∃ us : List Value, us.length = cs.length ∧ Row 3 w v cs.length (((cs.zip us).flatMap fun p => [.int .i64 p.1.t, .bool p.1.d, p.2]) : List Value) ∧ ∀ (i : Nat) (u : Value) (c : Ch), us[i]? = some u → cs[i]? = some c → Rd w u c.b
def cellsC (p : Ch × Value) : List Value := [.int .i64 p.1.t, .bool p.1.d, p.2]
theorem cellsC_at : ∀ {ps : List (Ch × Value)} {i : Nat} (h : i < ps.length), ((ps.flatMap cellsC).drop (i * 3)).take 3 = cellsC ps[i]
  | p :: ps, 0, h => by simp [cellsC]
  | p :: ps, i + 1, h => by
    have e : (i + 1) * 3 = (cellsC p).length + i * 3 := by simp [cellsC]; omega
    simp only [List.flatMap_cons, List.getElem_cons_succ]
    rw [e, ← List.drop_drop, List.drop_append_of_le_length (Nat.le_refl _), List.drop_length, List.nil_append]
    exact cellsC_at (by simpa using h)
theorem Chn.shape {w : World} {v : Value} {cs : List Ch} (h : Chn w v cs) : ∃ a c, v = .slice a cs.length c := by
  obtain ⟨us, _, h1, _⟩ := h
  obtain ⟨a, c, e, _⟩ := h1.shape
  exact ⟨a, c, e⟩
theorem Chn.len {w : World} {v : Value} {cs : List Ch} (h : Chn w v cs) : cs.length ≤ maxLen := by
  obtain ⟨us, _, h1, _⟩ := h
  obtain ⟨a, c, e, h3, h4, _⟩ := h1.shape
  omega
theorem Chn.nil (w : World) : Chn w (.slice none 0 0) [] := ⟨[], rfl, Row.nil 3 w, fun i u c h => by simp at h⟩
theorem Chn.at {w : World} {a : Option Addr} {m c : Nat} {cs : List Ch} (h : Chn w (.slice a m c) cs) {i : Nat} (hi : i < cs.length) :
    ∃ b o u, a = some ⟨b, o, none⟩ ∧ cellsAt w b (o + i * 3) 3 = some [.int .i64 cs[i].t, .bool cs[i].d, u] ∧ Rd w u cs[i].b := by
  obtain ⟨us, hl, h1, h2⟩ := h
  obtain ⟨b, o, e, hc⟩ := h1.cellsAt hi (by decide)
  have hz : i < (cs.zip us).length := by simp; omega
  have := cellsC_at hz
  simp only [cellsC] at this
  rw [show (fun p : Ch × Value => ([.int .i64 p.1.t, .bool p.1.d, p.2] : List Value)) = cellsC from rfl] at hc
  rw [cellsC_at hz] at hc
  refine ⟨b, o, us[i]'(by omega), e, ?_, h2 i _ _ (List.getElem?_eq_getElem (by omega)) (List.getElem?_eq_getElem hi)⟩
  rw [hc]; simp [cellsC]
theorem Chn.sep {w0 w : World} {M : List Res} {v : Value} {cs : List Ch} (h : Chn w0 v cs) (hh : Sep w0 (fun _ => False) M w) : Chn w v cs := by
  obtain ⟨us, h1, h2, h3⟩ := h
  exact ⟨us, h1, h2.sep hh fun _ _ => id, fun i u c hu hc => (h3 i u c hu hc).sep hh fun _ _ => id⟩
end Go.Proofs.Ytnhgjgoglmadnaa
namespace Go.Proofs.Ytnhgjgoglmadnaa
open Go.RowKit
set_option maxRecDepth 100000
set_option linter.unusedSimpArgs false
set_option linter.unusedVariables false
set_option pp.maxSteps 1500
set_option pp.deepTerms.threshold 8

structure S24 where
  dead : Bool
  l : List Int
section
variable {w0 w : World} {S : Nat → Prop} {M : List Res} {K : Value → World → Prop}
end
end Go.Proofs.Ytnhgjgoglmadnaa
