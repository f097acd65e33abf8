/- Writers, readers and rows of bytes as resources. -/
import Derived.Test.YtnhgjgoglmadnaaVS
import Derived.Test.YtnhgjgoglmadnaaL3
import Derived.Test.YtnhgjgoglmadnaaO6
namespace Go.Proofs.Ytnhgjgoglmadnaa
open Go.RowKit
set_option linter.unusedVariables false

theorem owns_same {w w' : World} {e s : Nat} {v : Value} {n : Nat} {xs : List Value} (h : w.ownsRow 0 e s v n xs) (hc : ∀ k, v.ownBlock = some k → w'.heap[k]? = w.heap[k]?) : w'.ownsRow 0 e s v n xs := by
  refine ⟨h.1, ?_⟩
  rcases h.2 with hz | ⟨g, cap, cur, rfl, hb, hg, rest⟩
  · exact .inl hz
  · exact .inr ⟨g, cap, cur, rfl, hb, (hc g (by simp [Value.ownBlock])).trans hg, rest⟩
theorem Rd.same {w w' : World} {v : Value} {xs : List Int} (h : Rd w v xs) (hc : 0 < xs.length → ∀ k, v.ownBlock = some k → k < w.heap.size → w'.heap[k]? = w.heap[k]?) : Rd w' v xs := by
  obtain ⟨a, c, rfl, h1, h2, h3, h4⟩ := h
  refine ⟨a, c, rfl, h1, h2, h3, fun hp => ?_⟩
  obtain ⟨b, o, rfl, hcell⟩ := h4 hp
  refine ⟨b, o, rfl, fun j hj => (World.cell?_of_block (w := w) (hc hp b (by simp [Value.ownBlock]) ?_)).trans (hcell j hj)⟩
  exact World.block_lt_of_cell? w _ (hcell j hj)

/-- bytes of one's own -/
def byt (v : Value) (xs : List Int) : Res where
  on w A := Own w v xs ∧ A = fun x => v.ownBlock = some x
  rd _ := False
  fact w := Rd w v xs
  lt := fun ⟨h, e⟩ x hx => by subst e; exact h.lt hx
  chg := fun {w w' A} ⟨h, e⟩ hs hc => ⟨owns_same h fun k hk => hc k (h.lt hk) (.inl (by rw [e]; exact hk)), e⟩
  ok := fun h => h.1.rd
theorem byt_fact (v : Value) (xs : List Int) (w : World) : (byt v xs).fact w = Rd w v xs := (rfl)
theorem row_byt (v : Value) (xs : List Int) : ∀ w A, (row 5 1 v xs.length (u8s xs)).on w A → (byt v xs).on w A := fun _ _ h => h
theorem byt_row (v : Value) (xs : List Int) : ∀ w A, (byt v xs).on w A → (row 5 1 v xs.length (u8s xs)).on w A := fun _ _ h => h

/-- a writer -/
def wr (t p : Nat) (s : W8) (k : Nat) : Res where
  on w A := s.l.length ≤ k ∧ t ≠ 5 ∧ ∃ v, WrS t w p v s ∧ A = fun x => x = p ∨ v.ownBlock = some x
  rd _ := False
  fact _ := s.l.length ≤ k
  lt := fun ⟨_, _, v, h, e⟩ x hx => by
    subst e
    rcases hx with rfl | hx
    · exact h.lt
    · exact h.own.lt hx
  chg := fun {w w' A} ⟨h1, h2, v, h, e⟩ hs hc => ⟨h1, h2, v, ⟨(hc p h.lt (.inl (by rw [e]; exact .inl rfl))).trans h.blk, owns_same h.own fun k hk => hc k (h.own.lt hk) (.inl (by rw [e]; exact .inr hk))⟩, e⟩
  ok := fun h => h.1
theorem wr_fact (t p : Nat) (s : W8) (k : Nat) (w : World) : (wr t p s k).fact w = (s.l.length ≤ k) := (rfl)

/-- a reader; Z: where its bytes lie, if they are not its own -/
def rdr (t p : Nat) (s : R8) (Z : Nat → Prop) : Res where
  on w A := s.l.length ≤ 10000000 ∧ (∀ x, A x → x < w.heap.size) ∧ A p ∧ ∃ v, Rdr t w p v s ∧ (0 < s.l.length → ∀ k, v.ownBlock = some k → A k ∨ Z k)
  rd := Z
  fact _ := s.l.length ≤ 10000000
  lt := fun ⟨_, h, _⟩ => h
  chg := fun {w w' A} ⟨h1, h2, h3, v, h, h4⟩ hs hc => ⟨h1, fun x hx => Nat.lt_of_lt_of_le (h2 x hx) hs, h3, v,
    ⟨(hc p (h2 p h3) (.inl h3)).trans h.blk, h.rd.same fun hp k hk hl => hc k hl (h4 hp k hk), h.ne⟩, h4⟩
  ok := fun h => h.1
theorem rdr_fact (t p : Nat) (s : R8) (Z : Nat → Prop) (w : World) : (rdr t p s Z).fact w = (s.l.length ≤ 10000000) := (rfl)

section
variable {w0 w : World} {S : Nat → Prop} {M : List Res} {K : Value → World → Prop}

/-! ### Writers -/
theorem Sep.wrNew (i : Nat) {b t : Nat} (h : Sep w0 S M w) (hi : M[i]? = some (blk b t [.slice none 0 0, .bool false])) (ht : t ≠ 5) : Sep w0 S (M.set i (wr t b ⟨[], false⟩ 0)) w :=
  h.conv i hi (fun A ⟨h1, e⟩ => ⟨Nat.le_refl _, ht, _, ⟨h1, Own.nil w⟩, by rw [e]; funext x; simp [Value.ownBlock]⟩) (fun _ f => f)
theorem Sep.wrAt {i t p k : Nat} {s : W8} (h : Sep w0 S M w) (hi : M[i]? = some (wr t p s k)) :
    s.l.length ≤ k ∧ t ≠ 5 ∧ ∃ v, WrS t w p v s ∧ ∀ s' k' v' w', WrS t w' p v' s' → WrStep p w v w' v' → s'.l.length ≤ k' → Sep w0 S (M.set i (wr t p s' k')) w' := by
  obtain ⟨A, ⟨h1, h2, v, h3, rfl⟩, _, h4⟩ := h.at hi
  exact ⟨h1, h2, v, h3, fun s' k' v' w' g1 g2 g3 => h4 _ _ w' ⟨g3, h2, v', g1, rfl⟩ (fun x hx => hx.elim (fun e => .inl (.inl e)) fun hx => (g2.new x hx).elim (fun h => .inl (.inr h)) .inr) g2.chg (fun _ f => f)⟩
theorem Sep.num (i : Nat) {p k : Nat} {s : W8} {n size : Int} (h : Sep w0 S M w) (hi : M[i]? = some (wr 32 p s k)) (hl : k ≤ 1000000) (hn : -9223372036854775808 ≤ n) (hn1 : n ≤ 9223372036854775807)
    (hk : ∀ w1, Sep w0 S (M.set i (wr 32 p (s.num n size) (k + 8))) w1 → K (.pointer (some ⟨p, 0, none⟩)) w1) : callsK Try.prog 23 [.pointer (some ⟨p, 0, none⟩), .int .i64 n, .int .i64 size].toArray w K := by
  obtain ⟨h1, h2, v, h3, h4⟩ := h.wrAt hi
  refine callsK_use (Go.Proofs.Ytnhgjgoglmadnaa.num p v s n size w h3 (by omega) hn hn1) ?_
  rintro _ w1 ⟨rfl, v1, g1, g2⟩
  exact hk w1 (h4 _ _ _ _ g1 g2 (by have := s.num_len n size; omega))
theorem Sep.point (i : Nat) {p k : Nat} {s : W8} {x y : Int} (h : Sep w0 S M w) (hi : M[i]? = some (wr 32 p s k)) (hl : k ≤ 900000) (hx : -9223372036854775808 ≤ x) (hx1 : x ≤ 9223372036854775807) (hy : -9223372036854775808 ≤ y) (hy1 : y ≤ 9223372036854775807)
    (hk : ∀ w1, Sep w0 S (M.set i (wr 32 p (s.pt x y) (k + 16))) w1 → K (.pointer (some ⟨p, 0, none⟩)) w1) : callsK Try.prog 25 [.pointer (some ⟨p, 0, none⟩), .agg #[.int .i64 x, .int .i64 y]].toArray w K := by
  obtain ⟨h1, h2, v, h3, h4⟩ := h.wrAt hi
  refine callsK_use (Go.Proofs.Ytnhgjgoglmadnaa.point p v s x y w h3 (by omega) hx hx1 hy hy1) ?_
  rintro _ w1 ⟨rfl, v1, g1, g2⟩
  exact hk w1 (h4 _ _ _ _ g1 g2 (by have := s.pt_len x y; omega))
theorem Sep.tri (i : Nat) {p k : Nat} {s : W8} {ax ay bx by' cx cy : Int} (h : Sep w0 S M w) (hi : M[i]? = some (wr 32 p s k)) (hl : k ≤ 800000) (ho : Ok64 [ax, ay, bx, by', cx, cy])
    (hk : ∀ w1, Sep w0 S (M.set i (wr 32 p (s.tri ax ay bx by' cx cy) (k + 48))) w1 → K (.pointer (some ⟨p, 0, none⟩)) w1) : callsK Try.prog 27 [.pointer (some ⟨p, 0, none⟩), .agg #[.int .i64 ax, .int .i64 ay, .int .i64 bx, .int .i64 by', .int .i64 cx, .int .i64 cy]].toArray w K := by
  obtain ⟨h1, h2, v, h3, h4⟩ := h.wrAt hi
  refine callsK_use (Go.Proofs.Ytnhgjgoglmadnaa.tri p v s ax ay bx by' cx cy w h3 (by omega) ho) ?_
  rintro _ w1 ⟨rfl, v1, g1, g2⟩
  exact hk w1 (h4 _ _ _ _ g1 g2 (by have := s.tri_len ax ay bx by' cx cy; omega))
theorem Sep.raw (i : Nat) {p k : Nat} {s : W8} {src : Value} (ys : List Int) (h : Sep w0 S M w) (hi : M[i]? = some (wr 32 p s k)) (hl : k ≤ 1000000) (hr : Rd w src ys) (hy : ys.length ≤ 10000000)
    (hk : ∀ w1, Sep w0 S (M.set i (wr 32 p (s.raw ys) (k + ys.length))) w1 → K (.pointer (some ⟨p, 0, none⟩)) w1) : callsK Try.prog 29 [.pointer (some ⟨p, 0, none⟩), src].toArray w K := by
  obtain ⟨h1, h2, v, h3, h4⟩ := h.wrAt hi
  refine callsK_use (Go.Proofs.Ytnhgjgoglmadnaa.raw p v s src ys w h3 hr (by omega) hy) ?_
  rintro _ w1 ⟨rfl, v1, g1, g2⟩
  exact hk w1 (h4 _ _ _ _ g1 g2 (by simp [W8.raw]; omega))
theorem Copy.push {w w' : World} {r : Value} {xs : List Int} (h : Sep w0 S M w) (c : Copy w w' r xs) : Sep w0 S (M ++ [byt r xs]) w' :=
  h.push c.chg (A := fun x => r.ownBlock = some x) ⟨c.own, rfl⟩ (fun x hx => c.new x hx) (fun _ f => f.elim)
theorem Sep.bytes (i : Nat) {p k : Nat} {s : W8} (h : Sep w0 S M w) (hi : M[i]? = some (wr 32 p s k)) (hl : k ≤ 1000000)
    (hk : ∀ a c w1, Sep w0 S (M ++ [byt (.slice a (if s.bad then [] else s.l).length c) (if s.bad then [] else s.l)]) w1 → K (.tuple #[.slice a (if s.bad then [] else s.l).length c, .int .i64 (if s.bad then 2 else 0)]) w1) : callsK Try.prog 30 [.pointer (some ⟨p, 0, none⟩)].toArray w K := by
  obtain ⟨h1, h2, v, h3, h4⟩ := h.wrAt hi
  refine callsK_use (Go.Proofs.Ytnhgjgoglmadnaa.bytes p v s w h3 (by omega)) ?_
  rintro _ w1 ⟨v1, rfl, c1⟩
  obtain ⟨a, c, rfl⟩ := owns_shape c1.own
  exact hk a c w1 (c1.push h)
theorem Sep.rnum (i : Nat) {p k : Nat} {s : W8} {n size : Int} (h : Sep w0 S M w) (hi : M[i]? = some (wr 35 p s k)) (hl : k ≤ 1000000) (hn : -9223372036854775808 ≤ n) (hn1 : n ≤ 9223372036854775807)
    (hk : ∀ w1, Sep w0 S (M.set i (wr 35 p (s.num n size) (k + 8))) w1 → K (.tuple #[]) w1) : callsK Try.prog 24 [.pointer (some ⟨p, 0, none⟩), .int .i64 n, .int .i64 size].toArray w K := by
  obtain ⟨h1, h2, v, h3, h4⟩ := h.wrAt hi
  refine callsK_use (refNum p v s n size w h3 (by omega) hn hn1) ?_
  rintro _ w1 ⟨rfl, v1, g1, g2⟩
  exact hk w1 (h4 _ _ _ _ g1 g2 (by have := s.num_len n size; omega))
theorem Sep.rpoint (i : Nat) {p k : Nat} {s : W8} {x y : Int} (h : Sep w0 S M w) (hi : M[i]? = some (wr 35 p s k)) (hl : k ≤ 900000) (hx : -9223372036854775808 ≤ x) (hx1 : x ≤ 9223372036854775807) (hy : -9223372036854775808 ≤ y) (hy1 : y ≤ 9223372036854775807)
    (hk : ∀ w1, Sep w0 S (M.set i (wr 35 p (s.pt x y) (k + 16))) w1 → K (.tuple #[]) w1) : callsK Try.prog 26 [.pointer (some ⟨p, 0, none⟩), .agg #[.int .i64 x, .int .i64 y]].toArray w K := by
  obtain ⟨h1, h2, v, h3, h4⟩ := h.wrAt hi
  refine callsK_use (refPoint p v s x y w h3 (by omega) hx hx1 hy hy1) ?_
  rintro _ w1 ⟨rfl, v1, g1, g2⟩
  exact hk w1 (h4 _ _ _ _ g1 g2 (by have := s.pt_len x y; omega))
theorem Sep.rtri (i : Nat) {p k : Nat} {s : W8} {ax ay bx by' cx cy : Int} (h : Sep w0 S M w) (hi : M[i]? = some (wr 35 p s k)) (hl : k ≤ 800000) (ho : Ok64 [ax, ay, bx, by', cx, cy])
    (hk : ∀ w1, Sep w0 S (M.set i (wr 35 p (s.tri ax ay bx by' cx cy) (k + 48))) w1 → K (.tuple #[]) w1) : callsK Try.prog 28 [.pointer (some ⟨p, 0, none⟩), .agg #[.int .i64 ax, .int .i64 ay, .int .i64 bx, .int .i64 by', .int .i64 cx, .int .i64 cy]].toArray w K := by
  obtain ⟨h1, h2, v, h3, h4⟩ := h.wrAt hi
  refine callsK_use (refTri p v s ax ay bx by' cx cy w h3 (by omega) ho) ?_
  rintro _ w1 ⟨rfl, v1, g1, g2⟩
  exact hk w1 (h4 _ _ _ _ g1 g2 (by have := s.tri_len ax ay bx by' cx cy; omega))

/-! ### Readers -/
theorem Sep.rdAt {i t p : Nat} {s : R8} {Z : Nat → Prop} (h : Sep w0 S M w) (hi : M[i]? = some (rdr t p s Z)) :
    s.l.length ≤ 10000000 ∧ ∃ v, Rdr t w p v s ∧ ∀ s' w', RdQ t p w v s' w' → s'.l.length ≤ s.l.length → Sep w0 S (M.set i (rdr t p s' Z)) w' := by
  obtain ⟨A, ⟨h1, h2, h3, v, h4, h5⟩, _, h6⟩ := h.at hi
  refine ⟨h1, v, h4, fun s' w' ⟨v', g1, g2, g3⟩ hl => h6 _ A w' ⟨by omega, fun x hx => Nat.lt_of_lt_of_le (h2 x hx) g2.size, h3, v', g1, fun hp k hk => h5 (by omega) k (g3 k hk)⟩ (fun x hx => .inl hx) (g2.mono fun x e => ?_) (fun _ f => f)⟩
  subst e; exact h3
theorem Sep.rdNum (i : Nat) {p : Nat} {s : R8} {Z : Nat → Prop} {n : Int} (h : Sep w0 S M w) (hi : M[i]? = some (rdr 134 p s Z))
    (hk : ∀ w1, Sep w0 S (M.set i (rdr 134 p (s.numS n) Z)) w1 → K (.int .i64 (s.numV n)) w1) : callsK Try.prog 33 [.pointer (some ⟨p, 0, none⟩), .int .i64 n].toArray w K := by
  obtain ⟨h1, v, h2, h3⟩ := h.rdAt hi
  refine callsK_use (Go.Proofs.Ytnhgjgoglmadnaa.rnum p v s n w h2 h1) ?_
  rintro _ w1 ⟨rfl, q⟩
  exact hk w1 (h3 _ _ q (s.numS_len n))
theorem Sep.rdPoint (i : Nat) {p : Nat} {s : R8} {Z : Nat → Prop} (h : Sep w0 S M w) (hi : M[i]? = some (rdr 134 p s Z))
    (hk : ∀ w1, Sep w0 S (M.set i (rdr 134 p s.ptS Z)) w1 → K (.agg #[.int .i64 s.ptV.1, .int .i64 s.ptV.2]) w1) : callsK Try.prog 49 [.pointer (some ⟨p, 0, none⟩)].toArray w K := by
  obtain ⟨h1, v, h2, h3⟩ := h.rdAt hi
  refine callsK_use (Go.Proofs.Ytnhgjgoglmadnaa.rpoint p v s w h2 h1) ?_
  rintro _ w1 ⟨rfl, q⟩
  exact hk w1 (h3 _ _ q s.ptS_len)
theorem R8.triS_len (s : R8) : s.triS.l.length ≤ s.l.length := by unfold R8.triS; split; exact s.tS3_len; split; exact s.tS3_len; exact s.tS3_len
theorem R8.rtriS_len (s : R8) : s.rtriS.l.length ≤ s.l.length := by unfold R8.rtriS; split; exact s.rtS3_len; exact s.rtS3_len
theorem Sep.rdTri (i : Nat) {p : Nat} {s : R8} {Z : Nat → Prop} (h : Sep w0 S M w) (hi : M[i]? = some (rdr 134 p s Z))
    (hk : ∀ w1, Sep w0 S (M.set i (rdr 134 p s.triS Z)) w1 → K (.agg s.triV.cells.toArray) w1) : callsK Try.prog 50 [.pointer (some ⟨p, 0, none⟩)].toArray w K := by
  obtain ⟨h1, v, h2, h3⟩ := h.rdAt hi
  refine callsK_use (Go.Proofs.Ytnhgjgoglmadnaa.rtri p v s w h2 h1) ?_
  rintro _ w1 ⟨rfl, q⟩
  exact hk w1 (h3 _ _ q s.triS_len)
theorem Sep.rdQ_own {i t p : Nat} {s s' : R8} {Z : Nat → Prop} {r : Value} {xs : List Int} {w' : World} (h : Sep w0 S M w) (hi : M[i]? = some (rdr t p s Z)) (hl : s'.l.length ≤ s.l.length)
    (hq : ∀ v, Rdr t w p v s → RdQ t p w v s' w') (ho : Own w' r xs) (hn : ∀ k, r.ownBlock = some k → w.heap.size ≤ k) : Sep w0 S (M.set i (rdr t p s' Z) ++ [byt r xs]) w' := by
  obtain ⟨A, ⟨h1, h2, h3, v, h4, h5⟩, _, _, h6⟩ := h.embed1 hi
  obtain ⟨v', g1, g2, g3⟩ := hq v h4
  refine h6 _ [byt r xs] w' ⟨g2.mono fun x e => ?_, ⟨A, ⟨by omega, fun x hx => Nat.lt_of_lt_of_le (h2 x hx) g2.size, h3, v', g1, fun hp k hk => h5 (by omega) k (g3 k hk)⟩, fun x hx => .inl hx, ⟨fun x => r.ownBlock = some x, ⟨ho, rfl⟩, fun x hx => ⟨.inr (hn x hx), fun hA => by have := h2 x hA; have := hn x hx; omega⟩, trivial⟩⟩, fun q hq x hx => ?_⟩ (fun _ f => f) (fun q hq x hx => ?_)
  · subst e; exact .inl h3
  · simp only [List.mem_cons, List.not_mem_nil, or_false] at hq
    rcases hq with rfl | rfl
    · exact ‹∀ x, (rdr t p s Z).rd x → ¬ (A x ∨ w.heap.size ≤ x)› x hx
    · exact hx.elim
  · simp only [List.mem_cons, List.not_mem_nil, or_false] at hq
    subst hq; exact hx.elim
theorem Sep.rdRaw (i : Nat) {p : Nat} {s : R8} {Z : Nat → Prop} {n : Int} (h : Sep w0 S M w) (hi : M[i]? = some (rdr 134 p s Z))
    (hk : ∀ a c w1, Sep w0 S (M.set i (rdr 134 p (s.rawS n) Z) ++ [byt (.slice a (s.rawV n).length c) (s.rawV n)]) w1 → K (.slice a (s.rawV n).length c) w1) : callsK Try.prog 51 [.pointer (some ⟨p, 0, none⟩), .int .i64 n].toArray w K := by
  obtain ⟨h1, v, h2, h3⟩ := h.rdAt hi
  refine Calls.mono (Go.Proofs.Ytnhgjgoglmadnaa.rraw p v s n w h2 h1) ?_
  rintro e w1 ⟨r, rfl, q, ho, hn⟩
  obtain ⟨a, c, rfl⟩ := owns_shape ho
  refine ⟨_, rfl, hk a c w1 (h.rdQ_own hi (s.rawS_len n) (fun v' h2' => ?_) ho hn)⟩
  have e : v' = v := by have a := h2.c0; have b := h2'.c0; rw [a] at b; injection b with b; exact b.symm
  rw [e]; exact q
theorem Sep.rdDone (i : Nat) {p : Nat} {s : R8} {Z : Nat → Prop} (h : Sep w0 S M w) (hi : M[i]? = some (rdr 134 p s Z)) (hk : K (.int .i64 (if s.done then 0 else 2)) w) : callsK Try.prog 34 [.pointer (some ⟨p, 0, none⟩)].toArray w K := by
  obtain ⟨h1, v, h2, h3⟩ := h.rdAt hi
  exact callsK_pure (Go.Proofs.Ytnhgjgoglmadnaa.rdone p v s w h2) hk
theorem Sep.rdLeft (i : Nat) {p : Nat} {s : R8} {Z : Nat → Prop} (h : Sep w0 S M w) (hi : M[i]? = some (rdr 134 p s Z)) (hk : K (.int .i64 s.left) w) : callsK Try.prog 35 [.pointer (some ⟨p, 0, none⟩)].toArray w K := by
  obtain ⟨h1, v, h2, h3⟩ := h.rdAt hi
  exact callsK_pure (Go.Proofs.Ytnhgjgoglmadnaa.rleft p v s w h2) hk
theorem Sep.read {v : Value} (xs : List Int) (h : Sep w0 S M w) (hr : Rd w v xs) (hl : xs.length ≤ 10000000)
    (hk : ∀ p w1, Sep w0 S (M ++ [rdr 134 p ⟨xs, false⟩ (fun _ => False)]) w1 → K (.pointer (some ⟨p, 0, none⟩)) w1) : callsK Try.prog 32 [v].toArray w K := by
  refine callsK_use (Go.Proofs.Ytnhgjgoglmadnaa.read v xs w hr hl) ?_
  rintro _ w1 ⟨p, v1, rfl, g1, g2, g3, g4⟩
  have hp := lt_of_block g1.blk
  refine hk p w1 (h.push g2 (A := fun x => x = p ∨ (0 < xs.length ∧ v1.ownBlock = some x)) ⟨hl, ?_, .inl rfl, v1, g1, fun hp k hk => .inl (.inr ⟨hp, hk⟩)⟩ ?_ (fun _ f => f.elim))
  · rintro x (rfl | ⟨hx, hk⟩)
    · exact hp
    · exact g1.lt hx x hk
  · rintro x (rfl | ⟨hx, hk⟩)
    · exact g3
    · exact g4 x hk
/-- The reference's readers. -/
theorem Sep.rrNum (i : Nat) {p : Nat} {s : R8} {Z : Nat → Prop} {n : Int} (h : Sep w0 S M w) (hi : M[i]? = some (rdr 85 p s Z))
    (hk : ∀ w1, Sep w0 S (M.set i (rdr 85 p (s.numS n) Z)) w1 → K (.int .i64 (s.numV n)) w1) : callsK Try.prog 52 [.pointer (some ⟨p, 0, none⟩), .int .i64 n].toArray w K := by
  obtain ⟨h1, v, h2, h3⟩ := h.rdAt hi
  refine callsK_use (refRnum p v s n w h2 h1) ?_
  rintro _ w1 ⟨rfl, q⟩
  exact hk w1 (h3 _ _ q (s.numS_len n))
theorem Sep.rrPoint (i : Nat) {p : Nat} {s : R8} {Z : Nat → Prop} (h : Sep w0 S M w) (hi : M[i]? = some (rdr 85 p s Z))
    (hk : ∀ w1, Sep w0 S (M.set i (rdr 85 p s.rptS Z)) w1 → K (.agg #[.int .i64 s.rptX, .int .i64 s.rptY]) w1) : callsK Try.prog 53 [.pointer (some ⟨p, 0, none⟩)].toArray w K := by
  obtain ⟨h1, v, h2, h3⟩ := h.rdAt hi
  refine callsK_use (refRpoint p v s w h2 h1) ?_
  rintro _ w1 ⟨rfl, q⟩
  exact hk w1 (h3 _ _ q s.rptS_len)
theorem Sep.rrTri (i : Nat) {p : Nat} {s : R8} {Z : Nat → Prop} (h : Sep w0 S M w) (hi : M[i]? = some (rdr 85 p s Z))
    (hk : ∀ w1, Sep w0 S (M.set i (rdr 85 p s.rtriS Z)) w1 → K (.agg s.rtriV.cells.toArray) w1) : callsK Try.prog 54 [.pointer (some ⟨p, 0, none⟩)].toArray w K := by
  obtain ⟨h1, v, h2, h3⟩ := h.rdAt hi
  refine callsK_use (refRtri p v s w h2 h1) ?_
  rintro _ w1 ⟨rfl, q⟩
  exact hk w1 (h3 _ _ q s.rtriS_len)
theorem Sep.rrRaw (i : Nat) {p : Nat} {s : R8} {Z : Nat → Prop} {n : Int} (h : Sep w0 S M w) (hi : M[i]? = some (rdr 85 p s Z))
    (hk : ∀ a c w1, Sep w0 S (M.set i (rdr 85 p (s.rawS n) Z) ++ [byt (.slice a (s.rawV n).length c) (s.rawV n)]) w1 → K (.slice a (s.rawV n).length c) w1) : callsK Try.prog 55 [.pointer (some ⟨p, 0, none⟩), .int .i64 n].toArray w K := by
  obtain ⟨h1, v, h2, h3⟩ := h.rdAt hi
  refine Calls.mono (refRraw p v s n w h2 h1) ?_
  rintro e w1 ⟨r, rfl, q, ho, hn⟩
  obtain ⟨a, c, rfl⟩ := owns_shape ho
  refine ⟨_, rfl, hk a c w1 (h.rdQ_own hi (s.rawS_len n) (fun v' h2' => ?_) ho hn)⟩
  have e : v' = v := by have a := h2.c0; have b := h2'.c0; rw [a] at b; injection b with b; exact b.symm
  rw [e]; exact q
/-- A new reader of the reference, over bytes that lay there before. -/
theorem Sep.rrNew (i : Nat) {b t : Nat} {v : Value} (xs : List Int) (h : Sep w0 S M w) (hi : M[i]? = some (blk b t [v, .bool false])) (hr : Rd w0 v xs) (hl : xs.length ≤ 10000000) (hS : ∀ k, v.ownBlock = some k → ¬ S k) (hb : w0.heap.size ≤ b) :
    Sep w0 S (M.set i (rdr t b ⟨xs, false⟩ (fun x => 0 < xs.length ∧ v.ownBlock = some x))) w := by
  have hw := hr.sep h hS
  obtain ⟨A, ⟨h1, rfl⟩, _, h3⟩ := h.at hi
  have k := h3 (rdr t b ⟨xs, false⟩ (fun _ => False))
  have hlt : 0 < xs.length → ∀ k, v.ownBlock = some k → k < w0.heap.size := fun hp k hk => hr.lt hp k hk
  have hne : 0 < xs.length → v.ownBlock ≠ some b := fun hp e => by have := hlt hp b e; omega
  obtain ⟨B, g1, g2, g3⟩ := h.has.focus hi h.rd h.up
  obtain ⟨g1, rfl⟩ := g1
  refine ⟨h.chg, by simpa using g3 (rdr t b ⟨xs, false⟩ (fun x => 0 < xs.length ∧ v.ownBlock = some x)) (fun x => x = b) w [] ⟨hl, fun x hx => by subst hx; exact lt_of_block g1, rfl, v, ⟨g1, hw, hne⟩, fun hp k hk => .inr ⟨hp, hk⟩⟩ (fun x hx => .inl hx) (Chg.refl _ _) trivial, fun q hq => ?_⟩
  rcases mem_set hq with hq | hq
  · exact h.rd q hq
  · subst hq
    rintro x ⟨hp, hx⟩ (hx' | hx')
    · exact hS x hx hx'
    · have := hlt hp x hx; omega
end
theorem nfF : type_of% (And.intro (And.intro (@Facts_cons) (And.intro (@Facts_nil) (@blk_fact))) (And.intro (And.intro (@row_fact) (@byt_fact)) (And.intro (@wr_fact) (@rdr_fact)))) := And.intro (And.intro (@Facts_cons) (And.intro (@Facts_nil) (@blk_fact))) (And.intro (And.intro (@row_fact) (@byt_fact)) (And.intro (@wr_fact) (@rdr_fact)))
end Go.Proofs.Ytnhgjgoglmadnaa
