/- A walk by reckoning, 7: what is one's own, as a list of resources on blocks that are apart. No program in sight. -/
import Derived.Test.YtnhgjgoglmadnaaVB
namespace Go.Proofs.Ytnhgjgoglmadnaa
open Go.RowKit
set_option linter.unusedVariables false

/-! ### Long regions stand in two parts -/
theorem opsvT_two (P : Program) (ops : Array Oper) (l r : List Oper) (E : Env) (w : World) (K : Env → World → Prop) : opsvT P ops (l.append r) E w K = opsvT P ops l E w (fun E w => opsvT P ops r E w K) := by
  show opsv P ops (l ++ r) E w K = opsv P ops l E w (fun E w => opsv P ops r E w K)
  induction l generalizing E w with
  | nil => rfl
  | cons o l ih =>
    simp only [List.cons_append, opsv]
    have e : (fun (v : Value) (w' : World) => opsv P ops (l ++ r) (E.push o.dst v) w' K) = fun v w' => opsv P ops l (E.push o.dst v) w' fun E w => opsv P ops r E w K := by funext v w'; exact ih _ _
    rw [e, ih]
theorem app_get0 {α : Type} (a : α) (l r : List α) : (List.append (a :: l) r)[0]? = some a := (rfl)
theorem app_getS {α : Type} (a : α) (l r : List α) (j : Nat) : (List.append (a :: l) r)[j + 1]? = (List.append l r)[j]? := (rfl)
theorem app_getN {α : Type} (r : List α) (j : Nat) : (List.append [] r)[j]? = r[j]? := (rfl)

/-- A resource: what holds of a world on some blocks (and, reading alone, on rd). It stays while these stay. -/
structure Res where
  on : World → (Nat → Prop) → Prop
  rd : Nat → Prop
  fact : World → Prop
  lt : ∀ {w A}, on w A → ∀ x, A x → x < w.heap.size
  chg : ∀ {w w' A}, on w A → w.heap.size ≤ w'.heap.size → (∀ x, x < w.heap.size → A x ∨ rd x → w'.heap[x]? = w.heap[x]?) → on w' A
  ok : ∀ {w A}, on w A → fact w

def Has : List Res → (Nat → Prop) → World → Prop
  | [], _, _ => True
  | r :: M, F, w => ∃ A, r.on w A ∧ (∀ x, A x → F x) ∧ Has M (fun x => F x ∧ ¬ A x) w
def Facts : List Res → World → Prop
  | [], _ => True
  | r :: M, w => r.fact w ∧ Facts M w

theorem Has.other : ∀ {M : List Res} {F F' : Nat → Prop} {w w' : World}, Has M F w → w.heap.size ≤ w'.heap.size → (∀ x, F x → x < w.heap.size → F' x) →
    (∀ x, x < w.heap.size → F x → w'.heap[x]? = w.heap[x]?) → (∀ r ∈ M, ∀ x, x < w.heap.size → r.rd x → w'.heap[x]? = w.heap[x]?) → Has M F' w'
  | [], _, _, _, _, _, _, _, _, _ => trivial
  | r :: M, F, F', w, w', ⟨A, h1, h2, h3⟩, hs, hF, hc, hr =>
    ⟨A, r.chg h1 hs fun x hx hA => hA.elim (fun hA => hc x hx (h2 x hA)) (fun hR => hr r (.head _) x hx hR), fun x hA => hF x (h2 x hA) (r.lt h1 x hA),
      Has.other h3 hs (fun x hx hl => ⟨hF x hx.1 hl, hx.2⟩) (fun x hl hx => hc x hl hx.1) (fun r hm => hr r (.tail _ hm))⟩

theorem Has.append : ∀ {M N : List Res} {F G F' : Nat → Prop} {w : World}, Has M F w → Has N G w → (∀ x, F x → ¬ G x) → (∀ x, F x → F' x) → (∀ x, G x → F' x) → Has (M ++ N) F' w
  | [], _, _, _, _, _, _, h, _, _, hG => Has.wide h hG
  | _ :: _, _, _, _, _, _, ⟨A, h1, h2, h3⟩, h, hd, hF, hG =>
    ⟨A, h1, fun x hx => hF x (h2 x hx), Has.append h3 h (fun x hx => hd x hx.1) (fun x hx => ⟨hF x hx.1, hx.2⟩) (fun x hx => ⟨hG x hx, fun hA => hd x (h2 x hA) hx⟩)⟩
where
  Has.wide : ∀ {M : List Res} {F F' : Nat → Prop} {w : World}, Has M F w → (∀ x, F x → F' x) → Has M F' w
    | [], _, _, _, _, _ => trivial
    | _ :: _, _, _, _, ⟨A, h1, h2, h3⟩, hF => ⟨A, h1, fun x hx => hF x (h2 x hx), Has.wide h3 fun x hx => ⟨hF x hx.1, hx.2⟩⟩
theorem Has.focus : ∀ {M : List Res} {F : Nat → Prop} {w : World} {i : Nat} {r : Res}, Has M F w → M[i]? = some r → (∀ q ∈ M, ∀ x, q.rd x → ¬ F x) → (∀ x, w.heap.size ≤ x → F x) →
    ∃ A, r.on w A ∧ (∀ x, A x → F x) ∧ ∀ r' A' w' N, r'.on w' A' → (∀ x, A' x → A x ∨ w.heap.size ≤ x) → Chg A w w' → Has N (fun x => (A x ∨ w.heap.size ≤ x) ∧ ¬ A' x) w' → Has (M.set i r' ++ N) F w'
  | [], _, _, _, _, _, hi, _, _ => by simp at hi
  | q :: M, F, w, 0, r, ⟨A, h1, h2, h3⟩, hi, hr, hN => by
    simp at hi; subst hi
    refine ⟨A, h1, h2, fun r' A' w' N h1' hA' hc hh => ?_⟩
    refine ⟨A', h1', fun x hx => (hA' x hx).elim (h2 x) (hN x), ?_⟩
    have k : Has M (fun x => (F x ∧ ¬ A x) ∧ x < w.heap.size) w' := Has.other h3 hc.size (fun x hx hl => ⟨hx, hl⟩) (fun x hl hx => hc.block x hl hx.2) (fun p hp x hl hx => hc.block x hl fun hA => hr p (.tail _ hp) x hx (h2 x hA))
    refine Has.append k hh (fun x hx hG => hG.1.elim hx.1.2 fun h => by have := hx.2; omega) (fun x hx => ⟨hx.1.1, fun h => (hA' x h).elim hx.1.2 fun h => by have := hx.2; omega⟩) (fun x hx => ⟨hx.1.elim (h2 x) (hN x), hx.2⟩)
  | q :: M, F, w, i + 1, r, ⟨A, h1, h2, h3⟩, hi, hr, hN => by
    simp at hi
    obtain ⟨B, g1, g2, g3⟩ := Has.focus h3 hi (fun p hp x hx hF => hr p (.tail _ hp) x hx hF.1) (fun x hx => ⟨hN x hx, fun hA => by have := q.lt h1 x hA; omega⟩)
    refine ⟨B, g1, fun x hx => (g2 x hx).1, fun r' A' w' N h1' hA' hc hh => ?_⟩
    refine ⟨A, q.chg h1 hc.size fun x hl hx => hc.block x hl fun hB => ?_, h2, g3 r' A' w' N h1' hA' hc hh⟩
    rcases hx with hx | hx
    · exact (g2 x hB).2 hx
    · exact hr q (.head _) x hx (g2 x hB).1

theorem Has.push : ∀ {M : List Res} {F : Nat → Prop} {w w' : World} {r : Res} {A : Nat → Prop}, Has M F w → r.on w' A → (∀ x, A x → w.heap.size ≤ x) → (∀ x, w.heap.size ≤ x → F x) →
    w.heap.size ≤ w'.heap.size → (∀ x, x < w.heap.size → F x → w'.heap[x]? = w.heap[x]?) → (∀ q ∈ M, ∀ x, x < w.heap.size → q.rd x → w'.heap[x]? = w.heap[x]?) → Has (M ++ [r]) F w'
  | [], F, w, w', r, A, _, hr, hA, hN, _, _, _ => ⟨A, hr, fun x hx => hN x (hA x hx), trivial⟩
  | q :: M, F, w, w', r, A, ⟨B, h1, h2, h3⟩, hr, hA, hN, hs, hc, hq =>
    ⟨B, q.chg h1 hs fun x hl hx => hx.elim (fun hx => hc x hl (h2 x hx)) (fun hx => hq q (.head _) x hl hx), h2,
      Has.push h3 hr hA (fun x hx => ⟨hN x hx, fun hB => by have := q.lt h1 x hB; omega⟩) hs (fun x hl hx => hc x hl hx.1) (fun p hp => hq p (.tail _ hp))⟩

theorem Has.facts : ∀ {M : List Res} {F : Nat → Prop} {w : World}, Has M F w → Facts M w
  | [], _, _, _ => trivial
  | r :: _, _, _, ⟨_, h1, _, h3⟩ => ⟨r.ok h1, Has.facts h3⟩

/-- Since w0 nothing has changed but S and what is new; of that, M is known. -/
structure Sep (w0 : World) (S : Nat → Prop) (M : List Res) (w : World) : Prop where
  chg : Chg (fun k => S k ∨ w0.heap.size ≤ k) w0 w
  has : Has M (fun k => S k ∨ w0.heap.size ≤ k) w
  rd : ∀ r ∈ M, ∀ x, r.rd x → ¬ (S x ∨ w0.heap.size ≤ x)

section
variable {w0 w w1 : World} {S : Nat → Prop} {M : List Res}
theorem Sep.facts (h : Sep w0 S M w) : Facts M w := h.has.facts
theorem Sep.nil (w : World) : Sep w (fun _ => False) [] w := ⟨Chg.refl _ _, trivial, fun _ h => by cases h⟩
theorem Sep.old (h : Sep w0 S M w) : w0.heap.size ≤ w.heap.size := h.chg.size
theorem Sep.up (h : Sep w0 S M w) : ∀ x, w.heap.size ≤ x → (S x ∨ w0.heap.size ≤ x) := fun _ hx => .inr (Nat.le_trans h.old hx)
theorem Sep.quiet (h : Sep w0 S M w) (c : Chg (fun _ => False) w w1) : Sep w0 S M w1 :=
  ⟨h.chg.trans c fun _ f => f.elim, h.has.other c.size (fun _ hx _ => hx) (fun x hl _ => c.block x hl id) (fun _ _ x hl _ => c.block x hl id), h.rd⟩
theorem Sep.push {r : Res} {A : Nat → Prop} (h : Sep w0 S M w) (c : Chg (fun _ => False) w w1) (hr : r.on w1 A) (hA : ∀ x, A x → w.heap.size ≤ x) (hn : ∀ x, r.rd x → ¬ (S x ∨ w0.heap.size ≤ x)) : Sep w0 S (M ++ [r]) w1 :=
  ⟨h.chg.trans c fun _ f => f.elim, h.has.push hr hA h.up c.size (fun x hl _ => c.block x hl id) (fun _ _ x hl _ => c.block x hl id),
    fun q hq => (List.mem_append.1 hq).elim (h.rd q) fun hq => by simp at hq; subst hq; exact hn⟩
theorem mem_set {α : Type} {l : List α} {i : Nat} {a x : α} (h : x ∈ l.set i a) : x ∈ l ∨ x = a := by
  rcases List.mem_or_eq_of_mem_set h with h | h
  · exact .inl h
  · exact .inr h
theorem Sep.at {i : Nat} {r : Res} (h : Sep w0 S M w) (hi : M[i]? = some r) :
    ∃ A, r.on w A ∧ (∀ x, r.rd x → ¬ A x) ∧ ∀ r' A' w', r'.on w' A' → (∀ x, A' x → A x ∨ w.heap.size ≤ x) → Chg A w w' → (∀ x, r'.rd x → r.rd x) → Sep w0 S (M.set i r') w' := by
  obtain ⟨A, h1, h2, h3⟩ := h.has.focus hi h.rd h.up
  have hm : r ∈ M := List.mem_of_getElem? hi
  refine ⟨A, h1, fun x hx hA => h.rd r hm x hx (h2 x hA), fun r' A' w' h1' hA' hc hr => ⟨?_, by simpa using h3 r' A' w' [] h1' hA' hc trivial, fun q hq => ?_⟩⟩
  · exact h.chg.trans hc fun x hx => h2 x hx |>.elim (fun h => .inl (.inl h)) .inr
  · rcases mem_set hq with hq | hq
    · exact h.rd q hq
    · subst hq; exact fun x hx => h.rd r hm x (hr x hx)
/-- A call that is handed the i-th, and hands it back, with what is new. -/
theorem Sep.embed1 {i : Nat} {r : Res} (h : Sep w0 S M w) (hi : M[i]? = some r) :
    ∃ A, r.on w A ∧ (∀ x, r.rd x → ¬ (A x ∨ w.heap.size ≤ x)) ∧ (∀ x, A x → S x ∨ w0.heap.size ≤ x) ∧ ∀ r' N w', Sep w A (r' :: N) w' → (∀ x, r'.rd x → r.rd x) → (∀ q ∈ N, ∀ x, q.rd x → r.rd x) → Sep w0 S (M.set i r' ++ N) w' := by
  obtain ⟨A, h1, h2, h3⟩ := h.has.focus hi h.rd h.up
  have hm : r ∈ M := List.mem_of_getElem? hi
  refine ⟨A, h1, fun x hx hA => hA.elim (fun hA => h.rd r hm x hx (h2 x hA)) fun hA => h.rd r hm x hx (h.up x hA), h2, fun r' N w' k hr hN => ⟨?_, ?_, fun q hq => ?_⟩⟩
  · exact h.chg.trans k.chg fun x hx => hx.elim (fun hx => h2 x hx |>.elim (fun h => .inl (.inl h)) .inr) fun hx => .inr (Nat.le_trans h.old hx)
  · obtain ⟨A', g1, g2, g3⟩ := k.has
    exact h3 r' A' w' N g1 g2 (k.chg.mono' fun x hx hl => hx.elim id fun hx => by omega) g3
  · rcases List.mem_append.1 hq with hq | hq
    · rcases mem_set hq with hq | hq
      · exact h.rd q hq
      · subst hq; exact fun x hx => h.rd r hm x (hr x hx)
    · exact fun x hx => h.rd r hm x (hN q hq x hx)
/-- A call that hands back what is new. -/
theorem Sep.embed {N : List Res} {w' : World} (h : Sep w0 S M w) (k : Sep w (fun _ => False) N w') (hN : ∀ q ∈ N, ∀ x, ¬ q.rd x) : Sep w0 S (M ++ N) w' := by
  have c : Chg (fun _ => False) w w' := k.chg.mono' fun x hx hl => hx.elim id fun hx => by omega
  refine ⟨h.chg.trans c fun _ f => f.elim, ?_, fun q hq => (List.mem_append.1 hq).elim (h.rd q) fun hq x hx => (hN q hq x hx).elim⟩
  have g : Has M (fun x => (S x ∨ w0.heap.size ≤ x) ∧ x < w.heap.size) w' := h.has.other c.size (fun x hx hl => ⟨hx, hl⟩) (fun x hl _ => c.block x hl id) (fun _ _ x hl _ => c.block x hl id)
  exact Has.append g k.has (fun x hx hG => hG.elim id fun hG => by have := hx.2; omega) (fun x hx => hx.1) (fun x hx => hx.elim (fun f => f.elim) (h.up x))
theorem Sep.start {r : Res} {w : World} {A : Nat → Prop} (h : r.on w A) (hr : ∀ x, r.rd x → ¬ (A x ∨ w.heap.size ≤ x)) : Sep w A [r] w :=
  ⟨Chg.refl _ _, ⟨A, h, fun x hx => .inl hx, trivial⟩, fun q hq => by simp at hq; subst hq; exact hr⟩
/-- another look at the i-th -/
theorem Sep.conv (i : Nat) {r r' : Res} (h : Sep w0 S M w) (hi : M[i]? = some r) (hc : ∀ A, r.on w A → r'.on w A) (hr : ∀ x, r'.rd x → r.rd x) : Sep w0 S (M.set i r') w := by
  obtain ⟨A, h1, _, h3⟩ := h.at hi
  exact h3 r' A w (hc A h1) (fun x hx => .inl hx) (Chg.refl _ _) hr

theorem Has.tail : ∀ {M : List Res} {F : Nat → Prop} {w : World} {r : Res}, Has (M ++ [r]) F w → Has M F w
  | [], _, _, _, _ => trivial
  | _ :: _, _, _, _, ⟨A, h1, h2, h3⟩ => ⟨A, h1, h2, Has.tail h3⟩
theorem Sep.pop {r : Res} (h : Sep w0 S (M ++ [r]) w) : Sep w0 S M w := ⟨h.chg, h.has.tail, fun q hq => h.rd q (List.mem_append.2 (.inl hq))⟩
theorem Has.erase : ∀ {M : List Res} {F F' : Nat → Prop} {w : World} (i : Nat), Has M F w → (∀ x, F x → F' x) → Has (M.eraseIdx i) F' w
  | [], _, _, _, _, _, _ => trivial
  | _ :: _, _, _, _, 0, ⟨A, h1, h2, h3⟩, hF => by
    refine Has.mono h3 fun x hx => hF x hx.1
  | _ :: _, _, _, _, i + 1, ⟨A, h1, h2, h3⟩, hF => ⟨A, h1, fun x hx => hF x (h2 x hx), Has.erase i h3 fun x hx => ⟨hF x hx.1, hx.2⟩⟩
where
  Has.mono : ∀ {M : List Res} {F F' : Nat → Prop} {w : World}, Has M F w → (∀ x, F x → F' x) → Has M F' w
    | [], _, _, _, _, _ => trivial
    | _ :: _, _, _, _, ⟨A, h1, h2, h3⟩, hF => ⟨A, h1, fun x hx => hF x (h2 x hx), Has.mono h3 fun x hx => ⟨hF x hx.1, hx.2⟩⟩
theorem Sep.erase (i : Nat) (h : Sep w0 S M w) : Sep w0 S (M.eraseIdx i) w := ⟨h.chg, h.has.erase i fun _ => id, fun q hq => h.rd q (List.mem_of_mem_eraseIdx hq)⟩
/-- What lay there before, outside of S, is as it was. -/
theorem Sep.cell0 {b o : Nat} (h : Sep w0 S M w) (hb : (w0.cell? ⟨b, o, none⟩).isSome = true) (hS : ¬ S b) : w.cell? ⟨b, o, none⟩ = w0.cell? ⟨b, o, none⟩ := by
  obtain ⟨v, hv⟩ := Option.isSome_iff_exists.1 hb
  rw [hv]
  have hl := World.block_lt_of_cell? w0 _ hv
  exact h.chg.cell hv fun hx => hx.elim hS fun hx => by omega
end

/-! ### A block -/
def blk (b : Nat) (t : TypeId) (cs : List Value) : Res where
  on w A := w.heap[b]? = some (.cells cs.toArray t (0, 0)) ∧ A = fun x => x = b
  rd _ := False
  fact w := (∀ o, w.cell? ⟨b, o, none⟩ = cs[o]?) ∧ blkOf w b = some (cs, t)
  lt := fun ⟨h, e⟩ x hx => by subst e; subst hx; exact lt_of_block h
  chg := fun {w w' A} ⟨h, e⟩ hs hc => ⟨(hc b (lt_of_block h) (.inl (by rw [e]))).trans h, e⟩
  ok := fun {w A} ⟨h, e⟩ => by
    have hb : blkOf w b = some (cs, t) := by simpa using blkOf_of h
    exact ⟨fun o => cell_of_blkOf hb o, hb⟩
theorem blk_fact (b : Nat) (t : TypeId) (cs : List Value) (w : World) : (blk b t cs).fact w = ((∀ o, w.cell? ⟨b, o, none⟩ = cs[o]?) ∧ blkOf w b = some (cs, t)) := (rfl)
theorem Facts_nil (w : World) : Facts [] w = True := (rfl)
theorem Facts_cons (r : Res) (M : List Res) (w : World) : Facts (r :: M) w = (r.fact w ∧ Facts M w) := (rfl)

section
variable {w0 w w1 : World} {S : Nat → Prop} {M : List Res}
theorem Sep.new {cs : List Value} {t : TypeId} {K : World → Nat → Prop} (h : Sep w0 S M w) (hk : ∀ w1 b, Sep w0 S (M ++ [blk b t cs]) w1 → K w1 b) : ∀ w1 b, New w w1 b cs t → K w1 b := fun w1 b n =>
  hk w1 b (h.push n.chg (A := fun x => x = b) ⟨n.blk, rfl⟩ (fun x hx => by have := n.eq; omega) (fun _ f => f.elim))
theorem Sep.put (i : Nat) {b : Nat} {cs cs' : List Value} {t : TypeId} {K : World → Prop} (h : Sep w0 S M w) (hi : M[i]? = some (blk b t cs)) (hk : ∀ w1, Sep w0 S (M.set i (blk b t cs')) w1 → K w1) : ∀ w1, Put w w1 b cs' t → K w1 := fun w1 p => by
  obtain ⟨A, ⟨h1, rfl⟩, _, h3⟩ := h.at hi
  exact hk w1 (h3 _ (fun x => x = b) w1 ⟨p.blk, rfl⟩ (fun x hx => .inl hx) p.chg (fun _ f => f.elim))
/-- a call that changes nothing -/
theorem Sep.callp {P : Program} {f : FuncId} {args : Array Value} {x : Value} {K : Value → World → Prop} (h : Sep w0 S M w) (hc : Calls P f args w (RetK fun r w' => r = x ∧ Chg (fun _ => False) w w')) (hk : ∀ w1, Sep w0 S M w1 → K x w1) : callsK P f args w K :=
  callsK_use hc fun _ _ ⟨e, c⟩ => by rw [e]; exact hk _ (h.quiet c)
theorem Sep.callN {P : Program} {f : FuncId} {args : Array Value} {Q : Value → List Res → Prop} {K : Value → World → Prop} (h : Sep w0 S M w) (hc : Calls P f args w (RetK fun r w' => ∃ N, Sep w (fun _ => False) N w' ∧ (∀ q ∈ N, ∀ x, ¬ q.rd x) ∧ Q r N))
    (hk : ∀ r N w1, Q r N → Sep w0 S (M ++ N) w1 → K r w1) : callsK P f args w K :=
  callsK_use hc fun _ _ ⟨_, k, hN, q⟩ => hk _ _ _ q (h.embed k hN)
theorem Sep.call1 (i : Nat) {P : Program} {f : FuncId} {args : Array Value} {r : Res} {Q : Value → Res → List Res → Prop} {K : Value → World → Prop} (h : Sep w0 S M w) (hi : M[i]? = some r)
    (hc : ∀ A, (∀ x, A x → S x ∨ w0.heap.size ≤ x) → Sep w A [r] w → Calls P f args w (RetK fun v w' => ∃ r' N, Sep w A (r' :: N) w' ∧ (∀ x, r'.rd x → r.rd x) ∧ (∀ q ∈ N, ∀ x, ¬ q.rd x) ∧ Q v r' N))
    (hk : ∀ v r' N w1, Q v r' N → Sep w0 S (M.set i r' ++ N) w1 → K v w1) : callsK P f args w K := by
  obtain ⟨A, h1, h2, hu, h3⟩ := h.embed1 hi
  exact callsK_use (hc A hu (Sep.start h1 h2)) fun _ _ ⟨_, _, k, hr, hN, q⟩ => hk _ _ _ _ q (h3 _ _ _ k hr fun q hq x hx => (hN q hq x hx).elim)
theorem Sep.draw {K : World → Prop} (h : Sep w0 S M w) (hk : ∀ w1, Sep w0 S M w1 → K w1) : ∀ w1, w1.heap = w.heap → Chg (fun _ => False) w w1 → K w1 := fun w1 _ c => hk w1 (h.quiet c)
end

/-! ### A slice that is a row of one's own -/
def row (e s : Nat) (v : Value) (n : Nat) (xs : List Value) : Res where
  on w A := w.ownsRow 0 e s v n xs ∧ A = fun x => v.ownBlock = some x
  rd _ := False
  fact w := w.ownsRow 0 e s v n xs
  lt := fun ⟨h, e⟩ x hx => by subst e; exact (World.ownsRow.lt h x hx).2
  chg := fun {w w' A} ⟨h, e⟩ hs hc => by
    refine ⟨⟨h.1, ?_⟩, e⟩
    rcases h.2 with hz | ⟨g, cap, cur, rfl, hb, hg, rest⟩
    · exact .inl hz
    · exact .inr ⟨g, cap, cur, rfl, hb, (hc g (lt_of_block hg) (.inl (by rw [e]; simp [Value.ownBlock]))).trans hg, rest⟩
  ok := fun h => h.1
theorem row_fact (e s : Nat) (v : Value) (n : Nat) (xs : List Value) (w : World) : (row e s v n xs).fact w = w.ownsRow 0 e s v n xs := (rfl)
theorem Sep.fresh {w0 w : World} {S : Nat → Prop} {M : List Res} {e s : Nat} (h : Sep w0 S M w) : Sep w0 S (M ++ [row e s (.slice none 0 0) 0 []]) w :=
  h.push (Chg.refl _ _) (A := fun _ => False) ⟨World.ownsRow_nil _ _ _ _, by funext x; simp [Value.ownBlock]⟩ (fun _ f => f.elim) (fun _ f => f.elim)
/-- a literal as a row -/
theorem Sep.toRow (i : Nat) {w0 w : World} {S : Nat → Prop} {M : List Res} {b : Nat} {t : TypeId} {cs : List Value} (s n : Nat) (h : Sep w0 S M w) (hi : M[i]? = some (blk b t cs)) (hn : cs.length = n * s) (hm : n ≤ maxLen) : Sep w0 S (M.set i (row t s (.slice (some ⟨b, 0, none⟩) n n) n cs)) w :=
  h.conv i hi (fun A ⟨h1, e⟩ => ⟨⟨hn, .inr ⟨b, n, cs.toArray, rfl, Nat.zero_le _, h1, Nat.le_refl _, hm, by simpa using hn, List.take_of_length_le (by simp [hn])⟩⟩, by rw [e]; funext x; simp [Value.ownBlock, eq_comm]⟩) (fun _ f => f)
/-- append to one's own row -/
theorem Sep.app (i : Nat) {P : Program} {t e : TypeId} {z : Value} {s by' : Nat} (hinf : (P.info? e).map (fun i => (i.zero, i.size, i.bytes)) = some (some z, s, by')) (ht : P.underlying t = some (.slice e)) (hzs : z.cells.size = s) (hs : 0 < s)
    {w0 w : World} {S : Nat → Prop} {M : List Res} {v : Value} {n : Nat} {xs : List Value} {src : Value} {m : Nat} {news : List Value} {ty : TypeId} {K : Value → World → Prop} (h : Sep w0 S M w) (hi : M[i]? = some (row e s v n xs)) (hsrc : Row s w src m news)
    (hl : (n + m) * by' ≤ 140737488355328) (h63 : n + m ≤ maxLen)
    (hK : ∀ a c w', Sep w0 S (M.set i (row e s (.slice a (n + m) c) (n + m) (xs ++ news))) w' → K (.slice a (n + m) c) w') : RunK P (Builtin.append_ #[t, t] ty #[v, src]) w K := by
  obtain ⟨A, ⟨h1, rfl⟩, _, h3⟩ := h.at hi
  refine append_rule hinf ht hzs hs h1 hsrc hl h63 fun v' w' ho hg hat => ?_
  have hsh : ∃ a c, v' = .slice a (n + m) c := by
    rcases ho.2 with ⟨rfl, hz⟩ | ⟨g, cap, cur, rfl, _⟩
    · exact ⟨none, 0, by rw [hz]⟩
    · exact ⟨_, _, rfl⟩
  obtain ⟨a, c, rfl⟩ := hsh
  refine hK a c w' (h3 _ _ w' ⟨ho, rfl⟩ (fun x hx => ?_) (Chg.ofGrown hg) (fun _ f => f))
  rcases hat with e | e
  · exact .inl (by rw [← e]; exact hx)
  · rw [hx] at e; injection e with e; exact .inr (by omega)
/-- what is read of a row -/
theorem Row.sep {s : Nat} {w0 w : World} {S : Nat → Prop} {M : List Res} {v : Value} {n : Nat} {cs : List Value} (h : Row s w0 v n cs) (hh : Sep w0 S M w) (hS : ∀ k, v.ownBlock = some k → ¬ S k) : Row s w v n cs := by
  obtain ⟨h1, h2, a, c, rfl, h3, h4, h5, h6⟩ := h
  refine ⟨h1, h2, a, c, rfl, h3, h4, h5, fun hp => ?_⟩
  obtain ⟨b, o, rfl, hcell⟩ := h6 hp
  refine ⟨b, o, rfl, fun j u hj => hh.chg.cell (hcell j u hj) ?_⟩
  have := World.block_lt_of_cell? w0 _ (hcell j u hj)
  exact fun hx => hx.elim (hS b (by simp [Value.ownBlock])) fun hx => by dsimp only at this hx; omega
theorem Rd.sep {w0 w : World} {S : Nat → Prop} {M : List Res} {v : Value} {xs : List Int} (h : Rd w0 v xs) (hh : Sep w0 S M w) (hS : ∀ k, v.ownBlock = some k → ¬ S k) : Rd w v xs := by
  obtain ⟨a, c, rfl, h1, h2, h3, h4⟩ := h
  refine ⟨a, c, rfl, h1, h2, h3, fun hp => ?_⟩
  obtain ⟨b, o, rfl, hc⟩ := h4 hp
  refine ⟨b, o, rfl, fun j hj => hh.chg.cell (hc j hj) ?_⟩
  have := World.block_lt_of_cell? w0 _ (hc j hj)
  exact fun hx => hx.elim (hS b (by simp [Value.ownBlock])) fun hx => by dsimp only at this hx; omega
theorem Sep.done {w0 w : World} {M : List Res} (h : Sep w0 (fun _ => False) M w) : Chg (fun _ => False) w0 w :=
  ⟨h.chg.os, h.chg.tape, h.chg.output, h.chg.size, fun k hk _ => h.chg.block k hk fun hx => hx.elim id fun hx => by omega⟩
theorem vsD : type_of% (And.intro (And.intro (@Holds_cons) (@Holds_nil)) (And.intro (And.intro (@tupK_mk) (@opsvT_two)) (And.intro (@app_get0) (And.intro (@app_getS) (@app_getN))))) := And.intro (And.intro (@Holds_cons) (@Holds_nil)) (And.intro (And.intro (@tupK_mk) (@opsvT_two)) (And.intro (@app_get0) (And.intro (@app_getS) (@app_getN))))
theorem nfD : type_of% (And.intro (And.intro (@List.cons_append.{0}) (@List.nil_append.{0})) (And.intro (And.intro (@List.set_cons_zero.{0}) (@List.set_cons_succ.{0})) (And.intro (@List.eraseIdx_cons_zero.{0}) (@List.eraseIdx_cons_succ.{0})))) := And.intro (And.intro (@List.cons_append.{0}) (@List.nil_append.{0})) (And.intro (And.intro (@List.set_cons_zero.{0}) (@List.set_cons_succ.{0})) (And.intro (@List.eraseIdx_cons_zero.{0}) (@List.eraseIdx_cons_succ.{0})))
end Go.Proofs.Ytnhgjgoglmadnaa
