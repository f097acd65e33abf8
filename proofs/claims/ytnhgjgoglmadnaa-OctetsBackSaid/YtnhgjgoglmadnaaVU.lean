/- Resources, 3: taken out, put in, joined; readable slices; rows of rows of bytes. -/
import Derived.Test.YtnhgjgoglmadnaaVT
namespace Go.Proofs.Ytnhgjgoglmadnaa
open Go.RowKit
set_option linter.unusedVariables false

def emp : Res where
  on _ A := A = fun _ => False
  rd _ := False
  fact _ := True
  lt := fun h x hx => by subst h; exact hx.elim
  chg := fun h _ _ => h
  ok := fun _ => trivial
theorem emp_fact (w : World) : emp.fact w = True := (rfl)
theorem Has.take : ∀ {M : List Res} {F : Nat → Prop} {w : World} {j : Nat} {r : Res}, Has M F w → M[j]? = some r → ∃ B, r.on w B ∧ (∀ x, B x → F x) ∧ Has (M.set j emp) (fun x => F x ∧ ¬ B x) w
  | [], _, _, _, _, _, hj => by simp at hj
  | q :: M, F, w, 0, r, ⟨A, h1, h2, h3⟩, hj => by
    simp at hj; subst hj
    exact ⟨A, h1, h2, fun _ => False, rfl, fun _ f => f.elim, Has.append.Has.wide h3 fun x hx => ⟨hx, id⟩⟩
  | q :: M, F, w, j + 1, r, ⟨A, h1, h2, h3⟩, hj => by
    simp at hj
    obtain ⟨B, g1, g2, g3⟩ := Has.take h3 hj
    exact ⟨B, g1, fun x hx => (g2 x hx).1, A, h1, fun x hx => ⟨h2 x hx, fun hB => (g2 x hB).2 hx⟩, Has.append.Has.wide g3 fun x hx => ⟨⟨hx.1.1, hx.2⟩, hx.1.2⟩⟩
theorem Has.give : ∀ {M : List Res} {F B : Nat → Prop} {w : World} {i : Nat} {r : Res}, Has M (fun x => F x ∧ ¬ B x) w → M[i]? = some r → (∀ x, B x → F x) →
    ∃ A, r.on w A ∧ (∀ x, A x → F x ∧ ¬ B x) ∧ ∀ r', r'.on w (fun x => A x ∨ B x) → Has (M.set i r') F w
  | [], _, _, _, _, _, _, hi, _ => by simp at hi
  | q :: M, F, B, w, 0, r, ⟨A, h1, h2, h3⟩, hi, hB => by
    simp at hi; subst hi
    exact ⟨A, h1, h2, fun r' hr => ⟨_, hr, fun x hx => hx.elim (fun hx => (h2 x hx).1) (hB x), Has.append.Has.wide h3 fun x hx => ⟨hx.1.1, fun h => h.elim hx.2 hx.1.2⟩⟩⟩
  | q :: M, F, B, w, i + 1, r, ⟨A, h1, h2, h3⟩, hi, hB => by
    simp at hi
    have h3' : Has M (fun x => (F x ∧ ¬ A x) ∧ ¬ B x) w := Has.append.Has.wide h3 fun x hx => ⟨⟨hx.1.1, hx.2⟩, hx.1.2⟩
    obtain ⟨C, g1, g2, g3⟩ := Has.give h3' hi (fun x hx => ⟨hB x hx, fun hA => (h2 x hA).2 hx⟩)
    exact ⟨C, g1, fun x hx => ⟨(g2 x hx).1.1, (g2 x hx).2⟩, fun r' hr => ⟨A, h1, fun x hx => (h2 x hx).1, g3 r' hr⟩⟩

section
variable {w0 w : World} {S : Nat → Prop} {M : List Res}
/-- The j-th goes into the i-th. -/
theorem Sep.join (i j : Nat) {r q r' : Res} (h : Sep w0 S M w) (hi : (M.set j emp)[i]? = some r) (hj : M[j]? = some q) (hc : ∀ A B, r.on w A → q.on w B → (∀ x, A x → ¬ B x) → r'.on w (fun x => A x ∨ B x)) (hr : ∀ x, r'.rd x → r.rd x ∨ q.rd x) :
    Sep w0 S ((M.set j emp).set i r') w := by
  obtain ⟨B, g1, g2, g3⟩ := h.has.take hj
  obtain ⟨A, k1, k2, k3⟩ := Has.give g3 hi g2
  refine ⟨h.chg, k3 r' (hc A B k1 g1 fun x hx => (k2 x hx).2), fun p hp => ?_⟩
  have hq := List.mem_of_getElem? hj
  have hm : ∀ p ∈ M.set j emp, ∀ x, p.rd x → ¬ (S x ∨ w0.heap.size ≤ x) := fun p hp => by
    rcases mem_set hp with hp | hp
    · exact h.rd p hp
    · subst hp; exact fun x hx => hx.elim
  rcases mem_set hp with hp | hp
  · exact hm p hp
  · subst hp
    exact fun x hx => (hr x hx).elim (fun hx => hm r (List.mem_of_getElem? hi) x hx) (fun hx => h.rd q hq x hx)
/-- The i-th is two. -/
theorem Sep.split (i : Nat) {r : Res} (h : Sep w0 S M w) (hi : M[i]? = some r) : ∃ A, r.on w A ∧ ∀ r' q B C, r'.on w B → q.on w C → (∀ x, B x → A x) → (∀ x, C x → A x ∧ ¬ B x) → (∀ x, r'.rd x → r.rd x) → (∀ x, q.rd x → r.rd x) → Sep w0 S (M.set i r' ++ [q]) w := by
  obtain ⟨A, h1, h2, _, h3⟩ := h.embed1 hi
  refine ⟨A, h1, fun r' q B C k1 k2 k3 k4 k5 k6 => h3 r' [q] w ⟨Chg.refl _ _, ⟨B, k1, fun x hx => .inl (k3 x hx), C, k2, fun x hx => ⟨.inl (k4 x hx).1, (k4 x hx).2⟩, trivial⟩, fun p hp x hx => ?_⟩ k5 (fun p hp x hx => ?_)⟩
  · simp only [List.mem_cons, List.not_mem_nil, or_false] at hp
    rcases hp with rfl | rfl
    · exact h2 x (k5 x hx)
    · exact h2 x (k6 x hx)
  · simp only [List.mem_cons, List.not_mem_nil, or_false] at hp
    subst hp; exact k6 x hx
theorem Sep.wipe (j : Nat) {q : Res} (h : Sep w0 S M w) (hj : M[j]? = some q) : Sep w0 S (M.set j emp) w := by
  obtain ⟨B, g1, g2, g3⟩ := h.has.take hj
  refine ⟨h.chg, Has.append.Has.wide g3 fun x hx => hx.1, fun p hp => ?_⟩
  rcases mem_set hp with hp | hp
  · exact h.rd p hp
  · subst hp; exact fun x hx => hx.elim
end

/-- A slice that can be read; Z: what it lies on, if not on its own. -/
def rdz (u : Value) (ys : List Int) (Z : Nat → Prop) : Res where
  on w A := (∀ x, A x → x < w.heap.size) ∧ Rd w u ys ∧ (0 < ys.length → ∀ k, u.ownBlock = some k → A k ∨ Z k)
  rd := Z
  fact w := Rd w u ys
  lt := fun h => h.1
  chg := fun {w w' A} ⟨h1, h2, h3⟩ hs hc => ⟨fun x hx => Nat.lt_of_lt_of_le (h1 x hx) hs, h2.same fun hp k hk hl => hc k hl (h3 hp k hk), h3⟩
  ok := fun h => h.2.1
theorem rdz_fact (u : Value) (ys : List Int) (Z : Nat → Prop) (w : World) : (rdz u ys Z).fact w = Rd w u ys := (rfl)
/-- A slice that can be read. -/
def rds (u : Value) (ys : List Int) : Res where
  on w A := (∀ x, A x → x < w.heap.size) ∧ Rd w u ys ∧ (0 < ys.length → ∀ k, u.ownBlock = some k → A k)
  rd _ := False
  fact w := Rd w u ys
  lt := fun h => h.1
  chg := fun {w w' A} ⟨h1, h2, h3⟩ hs hc => ⟨fun x hx => Nat.lt_of_lt_of_le (h1 x hx) hs, h2.same fun hp k hk hl => hc k hl (.inl (h3 hp k hk)), h3⟩
  ok := fun h => h.2.1
theorem rds_fact (u : Value) (ys : List Int) (w : World) : (rds u ys).fact w = Rd w u ys := (rfl)
theorem byt_rds {v : Value} {xs : List Int} : ∀ {w A}, (byt v xs).on w A → (rds v xs).on w A := fun {w A} ⟨h, e⟩ => ⟨fun x hx => by rw [e] at hx; exact h.lt hx, h.rd, fun _ k hk => by rw [e]; exact hk⟩
theorem rds_cut {a : Option Addr} {n c : Nat} {xs : List Int} {l m : Nat} (hl : l ≤ m) (hm : m ≤ n) : ∀ {w A}, (rds (.slice a n c) xs).on w A → (rds (.slice (cutA a c l 1) (m - l) (c - l)) ((xs.take m).drop l)).on w A := fun {w A} ⟨h1, h2, h3⟩ => by
  refine ⟨h1, h2.cut hl hm, fun hp k hk => h3 ?_ k (cutA_block hk)⟩
  have : ((xs.take m).drop l).length ≤ xs.length := by simp; omega
  omega

/-- A row of rows of bytes that can be read. -/
def Frs (w : World) (v : Value) (ls : List (List Int)) : Prop := ∃ us, Row 1 w v us.length us ∧ us.length = ls.length ∧ ∀ (i : Nat) (u : Value) (l : List Int), us[i]? = some u → ls[i]? = some l → Rd w u l
theorem Frs.shape {w : World} {v : Value} {ls : List (List Int)} (h : Frs w v ls) : ∃ a c, v = .slice a ls.length c := by
  obtain ⟨us, h1, h2, _⟩ := h
  obtain ⟨a, c, e, _⟩ := h1.shape
  exact ⟨a, c, by rw [e, h2]⟩
theorem Frs.len {w : World} {v : Value} {ls : List (List Int)} (h : Frs w v ls) : ls.length ≤ maxLen := by
  obtain ⟨us, h1, h2, _⟩ := h
  obtain ⟨a, c, e, h3, h4, _⟩ := h1.shape
  omega
theorem Frs.nil (w : World) : Frs w (.slice none 0 0) [] := ⟨[], Row.nil 1 w, rfl, fun i u l h => by simp at h⟩
theorem Frs.at {w : World} {a : Option Addr} {n c : Nat} {ls : List (List Int)} (h : Frs w (.slice a n c) ls) {i : Nat} (hi : i < ls.length) :
    ∃ b o u, a = some ⟨b, o, none⟩ ∧ w.cell? ⟨b, o + i, none⟩ = some u ∧ Rd w u ls[i] := by
  obtain ⟨us, h1, h2, h3⟩ := h
  obtain ⟨a', c', e, h4, h5, h6, h7⟩ := h1.shape
  obtain ⟨b, o, rfl, hc⟩ := h7 (by omega)
  injection e with e1 e2 e3
  have hu : us[i]? = some us[i] := List.getElem?_eq_getElem (by omega)
  exact ⟨b, o, us[i], e1, hc i _ hu, h3 i _ _ hu (List.getElem?_eq_getElem hi)⟩
/-- what lay there before -/
theorem Frs.sep {w0 w : World} {M : List Res} {v : Value} {ls : List (List Int)} (h : Frs w0 v ls) (hh : Sep w0 (fun _ => False) M w) : Frs w v ls := by
  obtain ⟨us, h1, h2, h3⟩ := h
  exact ⟨us, h1.sep hh fun _ _ => id, h2, fun i u l hu hl => (h3 i u l hu hl).sep hh fun _ _ => id⟩

/-- One's own row of rows of bytes. -/
def frm (v : Value) (ls : List (List Int)) : Res where
  on w A := (∀ x, A x → x < w.heap.size) ∧ ∃ us, w.ownsRow 0 22 1 v us.length us ∧ (∀ k, v.ownBlock = some k → A k) ∧ us.length = ls.length ∧ (∀ u ∈ us, u.oneCell' = true) ∧
    ∀ (i : Nat) (u : Value) (l : List Int), us[i]? = some u → ls[i]? = some l → Rd w u l ∧ (0 < l.length → ∀ k, u.ownBlock = some k → A k ∧ v.ownBlock ≠ some k)
  rd _ := False
  fact w := Frs w v ls
  lt := fun h => h.1
  chg := fun {w w' A} ⟨h1, us, h2, h3, h4, h5, h6⟩ hs hc => ⟨fun x hx => Nat.lt_of_lt_of_le (h1 x hx) hs, us, owns_same h2 fun k hk => hc k (h1 k (h3 k hk)) (.inl (h3 k hk)), h3, h4, h5, fun i u l hu hl =>
    ⟨(h6 i u l hu hl).1.same fun hp k hk hlt => hc k hlt (.inl ((h6 i u l hu hl).2 hp k hk).1), (h6 i u l hu hl).2⟩⟩
  ok := fun ⟨h1, us, h2, h3, h4, h5, h6⟩ => ⟨us, row_of_owns h2 h5, h4, fun i u l hu hl => (h6 i u l hu hl).1⟩
theorem frm_fact (v : Value) (ls : List (List Int)) (w : World) : (frm v ls).fact w = Frs w v ls := (rfl)
theorem Sep.frmNil {w0 w : World} {S : Nat → Prop} {M : List Res} (h : Sep w0 S M w) : Sep w0 S (M ++ [frm (.slice none 0 0) []]) w :=
  h.push (Chg.refl _ _) (A := fun _ => False) ⟨fun _ f => f.elim, [], World.ownsRow_nil _ _ _ _, fun k hk => by simp [Value.ownBlock] at hk, rfl, fun u hu => (by cases hu), fun i u l hu => (by simp at hu)⟩ (fun _ f => f.elim) (fun _ f => f.elim)
/-- Rows of bytes are appended. -/
theorem frm_app {w : World} {A B : Nat → Prop} {v src : Value} {ls ms : List (List Int)} {us' : List Value} {ty : TypeId} {K : Value → World → Prop} (h : (frm v ls).on w A)
    (hB : ∀ x, B x → x < w.heap.size) (hAB : ∀ x, A x → ¬ B x) (hs : Row 1 w src us'.length us') (he : us'.length = ms.length)
    (hl : ∀ (i : Nat) (u : Value) (l : List Int), us'[i]? = some u → ms[i]? = some l → Rd w u l ∧ (0 < l.length → ∀ k, u.ownBlock = some k → B k)) (hn : ls.length + ms.length ≤ 100000000)
    (hK : ∀ a c w' A', (frm (.slice a (ls.length + ms.length) c) (ls ++ ms)).on w' A' → (∀ x, A' x → A x ∨ B x ∨ w.heap.size ≤ x) → Chg A w w' → K (.slice a (ls.length + ms.length) c) w') :
    RunK Try.prog (Builtin.append_ #[59, 59] ty #[v, src]) w K := by
  obtain ⟨h1, us, h2, h3, h4, h5, h6⟩ := h
  have hinf : (Try.prog.info? 22).map (fun i => (i.zero, i.size, i.bytes)) = some (some (.slice none 0 0), 1, 24) := by kernel_rfl
  refine append_rule hinf Try.underlying59 rfl (by decide) h2 hs (by omega) (by simp only [maxLen]; omega) fun v' w' ho hg hat => ?_
  obtain ⟨a, c, rfl⟩ := owns_shape ho
  have hc : Chg A w w' := (Chg.ofGrown hg).mono h3
  have e1 : us.length + us'.length = ls.length + ms.length := by omega
  rw [e1] at ho hat ⊢
  have hb : ∀ k, (Value.slice a (ls.length + ms.length) c).ownBlock = some k → A k ∨ w.heap.size ≤ k := fun k hk => by
    rcases hat with e | e
    · exact .inl (h3 k (by rw [← e]; exact hk))
    · rw [hk] at e; injection e with e; exact .inr (by omega)
  have hlt : ∀ k, (Value.slice a (ls.length + ms.length) c).ownBlock = some k → k < w'.heap.size := fun k hk => (World.ownsRow.lt ho k hk).2
  refine hK a c w' (fun x => A x ∨ B x ∨ (Value.slice a (ls.length + ms.length) c).ownBlock = some x) ⟨?_, us ++ us', by rw [List.length_append, e1]; exact ho, fun k hk => .inr (.inr hk), by simp; omega, fun u hu => (List.mem_append.1 hu).elim (h5 u) (hs.one u), fun i u l hu hl' => ?_⟩ ?_ hc
  · rintro x (hx | hx | hx)
    · exact Nat.lt_of_lt_of_le (h1 x hx) hc.size
    · exact Nat.lt_of_lt_of_le (hB x hx) hc.size
    · exact hlt x hx
  · by_cases hi : i < us.length
    · rw [List.getElem?_append_left hi] at hu
      rw [List.getElem?_append_left (by omega)] at hl'
      obtain ⟨k1, k2⟩ := h6 i u l hu hl'
      have kne : 0 < l.length → ∀ k, u.ownBlock = some k → ¬ v.ownBlock = some k := fun hp k hk => (k2 hp k hk).2
      refine ⟨k1.chg' (Chg.ofGrown hg) fun hp k hk e => kne hp k hk e, fun hp k hk => ⟨.inl (k2 hp k hk).1, fun e => ?_⟩⟩
      rcases hat with e' | e'
      · rw [e'] at e; exact kne hp k hk e
      · rw [e'] at e; injection e with e; have := k1.lt hp k hk; omega
    · rw [List.getElem?_append_right (by omega)] at hu
      rw [List.getElem?_append_right (by omega)] at hl'
      obtain ⟨k1, k2⟩ := hl _ u l hu (by rw [h4]; exact hl')
      refine ⟨k1.chg' hc fun hp k hk hA => hAB k hA (k2 hp k hk), fun hp k hk => ⟨.inr (.inl (k2 hp k hk)), fun e => ?_⟩⟩
      rcases hb k e with hA | hA
      · exact hAB k hA (k2 hp k hk)
      · have := hB k (k2 hp k hk); omega
  · rintro x (hx | hx | hx)
    · exact .inl hx
    · exact .inr (.inl hx)
    · rcases hb x hx with hx | hx
      · exact .inl hx
      · exact .inr (.inr hx)
/-- give back more than was there -/
theorem Has.give2 : ∀ {M : List Res} {F B : Nat → Prop} {w : World} {i : Nat} {r : Res}, Has M (fun x => F x ∧ ¬ B x) w → M[i]? = some r → (∀ x, B x → F x) → (∀ x, B x → x < w.heap.size) → (∀ q ∈ M, ∀ x, q.rd x → ¬ F x) → (∀ x, w.heap.size ≤ x → F x) →
    ∃ A, r.on w A ∧ (∀ x, A x → F x ∧ ¬ B x) ∧ ∀ r' A' w', r'.on w' A' → (∀ x, A' x → A x ∨ B x ∨ w.heap.size ≤ x) → Chg A w w' → Has (M.set i r') F w'
  | [], _, _, _, _, _, _, hi, _, _, _, _ => by simp at hi
  | q :: M, F, B, w, 0, r, ⟨A, h1, h2, h3⟩, hi, hB, hBl, hr, hN => by
    simp at hi; subst hi
    refine ⟨A, h1, h2, fun r' A' w' hr' hA' hc => ⟨A', hr', fun x hx => (hA' x hx).elim (fun hx => (h2 x hx).1) fun hx => hx.elim (hB x) (hN x), ?_⟩⟩
    refine Has.other h3 hc.size (fun x hx hl => ⟨hx.1.1, fun h => (hA' x h).elim hx.2 fun h => h.elim hx.1.2 fun h => by omega⟩) (fun x hl hx => hc.block x hl hx.2) (fun p hp x hl hx => hc.block x hl fun hA => hr p (.tail _ hp) x hx (h2 x hA).1)
  | q :: M, F, B, w, i + 1, r, ⟨A, h1, h2, h3⟩, hi, hB, hBl, hr, hN => by
    simp at hi
    have h3' : Has M (fun x => (F x ∧ ¬ A x) ∧ ¬ B x) w := Has.append.Has.wide h3 fun x hx => ⟨⟨hx.1.1, hx.2⟩, hx.1.2⟩
    obtain ⟨C, g1, g2, g3⟩ := Has.give2 h3' hi (fun x hx => ⟨hB x hx, fun hA => (h2 x hA).2 hx⟩) hBl (fun p hp x hx hF => hr p (.tail _ hp) x hx hF.1) (fun x hx => ⟨hN x hx, fun hA => by have := q.lt h1 x hA; omega⟩)
    refine ⟨C, g1, fun x hx => ⟨(g2 x hx).1.1, (g2 x hx).2⟩, fun r' A' w' hr' hA' hc => ⟨A, q.chg h1 hc.size fun x hl hx => hc.block x hl fun hC => ?_, fun x hx => (h2 x hx).1, g3 r' A' w' hr' hA' hc⟩⟩
    rcases hx with hx | hx
    · exact (g2 x hC).1.2 hx
    · exact hr q (.head _) x hx (g2 x hC).1.1
theorem Sep.at2 (i j : Nat) {w0 w : World} {S : Nat → Prop} {M : List Res} {r q : Res} (h : Sep w0 S M w) (hi : (M.set j emp)[i]? = some r) (hj : M[j]? = some q) :
    ∃ A B, r.on w A ∧ q.on w B ∧ (∀ x, A x → ¬ B x) ∧ ∀ r' A' w', r'.on w' A' → (∀ x, A' x → A x ∨ B x ∨ w.heap.size ≤ x) → Chg A w w' → (∀ x, ¬ r'.rd x) → Sep w0 S ((M.set j emp).set i r') w' := by
  obtain ⟨B, g1, g2, g3⟩ := h.has.take hj
  have hm : ∀ p ∈ M.set j emp, ∀ x, p.rd x → ¬ (S x ∨ w0.heap.size ≤ x) := fun p hp => by
    rcases mem_set hp with hp | hp
    · exact h.rd p hp
    · subst hp; exact fun x hx => hx.elim
  obtain ⟨A, k1, k2, k3⟩ := Has.give2 g3 hi g2 (fun x hx => q.lt g1 x hx) hm h.up
  refine ⟨A, B, k1, g1, fun x hx => (k2 x hx).2, fun r' A' w' hr' hA' hc hn => ⟨h.chg.trans hc fun x hx => (k2 x hx).1 |>.elim (fun h => .inl (.inl h)) .inr, k3 r' A' w' hr' hA' hc, fun p hp => ?_⟩⟩
  rcases mem_set hp with hp | hp
  · exact hm p hp
  · subst hp; exact fun x hx => (hn x hx).elim
/-- append(got, f...) -/
theorem Sep.appFrm (i j : Nat) {w0 w : World} {S : Nat → Prop} {M : List Res} {v u : Value} {ls ms : List (List Int)} {ty : TypeId} {K : Value → World → Prop} (h : Sep w0 S M w) (hi : (M.set j emp)[i]? = some (frm v ls)) (hj : M[j]? = some (frm u ms)) (hn : ls.length + ms.length ≤ 100000000)
    (hK : ∀ a c w', Sep w0 S ((M.set j emp).set i (frm (.slice a (ls.length + ms.length) c) (ls ++ ms))) w' → K (.slice a (ls.length + ms.length) c) w') : RunK Try.prog (Builtin.append_ #[59, 59] ty #[v, u]) w K := by
  obtain ⟨A, B, h1, ⟨g1, us, g2, g3, g4, g5, g6⟩, hd, h3⟩ := h.at2 i j hi hj
  exact frm_app h1 g1 hd (row_of_owns g2 g5) g4 (fun i u l hu hl => ⟨(g6 i u l hu hl).1, fun hp k hk => ((g6 i u l hu hl).2 hp k hk).1⟩) hn
    fun a c w' A' k1 k2 k3 => hK a c w' (h3 _ A' w' k1 k2 k3 (fun _ f => f))
/-- append(out, x), x a row of bytes of one's own, that lies in a literal -/
theorem Sep.appOne (i j k : Nat) {w0 w : World} {S : Nat → Prop} {M : List Res} {b : Nat} {v u : Value} {ls : List (List Int)} {xs : List Int} {ty : TypeId} {K : Value → World → Prop} (h : Sep w0 S M w) (hi : (M.set j emp)[i]? = some (frm v ls)) (hj : M[j]? = some (byt u xs)) (hk : M[k]? = some (blk b 22 [u])) (hn : ls.length + 1 ≤ 100000000)
    (hK : ∀ a c w', Sep w0 S ((M.set j emp).set i (frm (.slice a (ls.length + 1) c) (ls ++ [xs]))) w' → K (.slice a (ls.length + 1) c) w') : RunK Try.prog (Builtin.append_ #[59, 59] ty #[v, .slice (some ⟨b, 0, none⟩) 1 1]) w K := by
  obtain ⟨C, ⟨c1, _⟩, _, _⟩ := h.at hk
  obtain ⟨A, B, h1, ⟨g1, rfl⟩, hd, h3⟩ := h.at2 i j hi hj
  obtain ⟨a, c, rfl⟩ := owns_shape g1
  have hrow : Row 1 w (.slice (some ⟨b, 0, none⟩) 1 1) 1 [.slice a xs.length c] := ⟨rfl, fun u hu => by simp at hu; subst hu; rfl, _, _, rfl, Nat.le_refl _, by simp [maxLen], fun e => by (cases e), fun _ => ⟨b, 0, rfl, fun j u hj => by rw [cell_of_row w b _ _ _ _ c1]; simpa using hj⟩⟩
  exact frm_app (us' := [.slice a xs.length c]) (ms := [xs]) h1 (fun x hx => g1.lt hx) hd hrow rfl (fun i u l hu hl => by
    match i with
    | 0 => simp at hu hl; subst hu hl; exact ⟨g1.rd, fun _ k hk => hk⟩
    | i + 1 => simp at hu) hn fun a c w' A' k1 k2 k3 => hK a c w' (h3 _ A' w' k1 k2 k3 (fun _ f => f))
end Go.Proofs.Ytnhgjgoglmadnaa
