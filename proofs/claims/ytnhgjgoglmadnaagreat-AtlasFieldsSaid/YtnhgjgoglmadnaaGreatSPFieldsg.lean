/- Joined texts of this claim (part 7), printed by a program of this work. The last part holds the claimed theorem: the law answers true at every input of its row. -/
import Derived.Test.YtnhgjgoglmadnaaGreatRows
import Derived.ProofKit
import Derived.OpenShut
import Derived.ShutString
import Derived.ChangeOld
import Derived.Below
import Derived.Test.YtnhgjgoglmadnaaGreatSPFieldsf
namespace Go.Proofs.YtnhgjgoglmadnaaGreat
open Go.RowKit
set_option linter.unusedVariables false
theorem opsvT_two (P : Program) (ops : Array Oper) (l r : List Oper) (E : Env) (w : World) (K : Env→World→Prop) : opsvT P ops (l.append r) E w K = opsvT P ops l E w (fun E w=>opsvT P ops r E w K):=by
  show opsv P ops (l ++ r) E w K = opsv P ops l E w (fun E w=>opsv P ops r E w K)
  induction l generalizing E w with
  | nil=>rfl
  | cons o l ih=>
    simp only [List.cons_append,opsv]
    have e : (fun (v : Value) (w' : World)=>opsv P ops (l ++ r) (E.push o.dst v) w' K) = fun v w'=>opsv P ops l (E.push o.dst v) w' fun E w=>opsv P ops r E w K:=by funext v w';exact ih _ _
    rw [e,ih]
theorem app_get0 {α : Type} (a : α) (l r : List α) : (List.append (a :: l) r)[0]? = some a:=(rfl)
theorem app_getS {α : Type} (a : α) (l r : List α) (j : Nat) : (List.append (a :: l) r)[j + 1]? = (List.append l r)[j]?:=(rfl)
theorem app_getN {α : Type} (r : List α) (j : Nat) : (List.append [] r)[j]? = r[j]?:=(rfl)
structure Res where
  on : World→(Nat→Prop)→Prop
  rd : Nat→Prop
  fact : World→Prop
  lt : ∀ {w A},on w A→∀ x,A x→x < w.heap.size
  chg : ∀ {w w' A},on w A→w.heap.size≤w'.heap.size→(∀ x,x < w.heap.size→A x∨rd x→w'.heap[x]? = w.heap[x]?)→on w' A
  ok : ∀ {w A},on w A→fact w
def Has : List Res→(Nat→Prop)→World→Prop
  | [],_,_=>True
  | r :: M,F,w=>∃ A,r.on w A∧(∀ x,A x→F x)∧Has M (fun x=>F x∧¬ A x) w
def Facts : List Res→World→Prop
  | [],_=>True
  | r :: M,w=>r.fact w∧Facts M w
theorem Has.other : ∀ {M : List Res} {F F' : Nat → Prop} {w w' : World}, Has M F w → w.heap.size ≤ w'.heap.size → (∀ x, F x → x < w.heap.size → F' x) →
    (∀ x,x < w.heap.size→F x→w'.heap[x]? = w.heap[x]?)→(∀ r ∈ M,∀ x,x < w.heap.size→r.rd x→w'.heap[x]? = w.heap[x]?)→Has M F' w'
  | [],_,_,_,_,_,_,_,_,_=>trivial
  | r :: M,F,F',w,w',⟨A,h1,h2,h3⟩,hs,hF,hc,hr=>
    ⟨A,r.chg h1 hs fun x hx hA=>hA.elim (fun hA=>hc x hx (h2 x hA)) (fun hR=>hr r (.head _) x hx hR),fun x hA=>hF x (h2 x hA) (r.lt h1 x hA),
      Has.other h3 hs (fun x hx hl=>⟨hF x hx.1 hl,hx.2⟩) (fun x hl hx=>hc x hl hx.1) (fun r hm=>hr r (.tail _ hm))⟩
theorem Has.append : ∀ {M N : List Res} {F G F' : Nat→Prop} {w : World},Has M F w→Has N G w→(∀ x,F x→¬ G x)→(∀ x,F x→F' x)→(∀ x,G x→F' x)→Has (M ++ N) F' w
  | [],_,_,_,_,_,_,h,_,_,hG=>Has.wide h hG
  | _ :: _,_,_,_,_,_,⟨A,h1,h2,h3⟩,h,hd,hF,hG=>
    ⟨A,h1,fun x hx=>hF x (h2 x hx),Has.append h3 h (fun x hx=>hd x hx.1) (fun x hx=>⟨hF x hx.1,hx.2⟩) (fun x hx=>⟨hG x hx,fun hA=>hd x (h2 x hA) hx⟩)⟩
where
  Has.wide : ∀ {M : List Res} {F F' : Nat→Prop} {w : World},Has M F w→(∀ x,F x→F' x)→Has M F' w
    | [],_,_,_,_,_=>trivial
    | _ :: _,_,_,_,⟨A,h1,h2,h3⟩,hF=>⟨A,h1,fun x hx=>hF x (h2 x hx),Has.wide h3 fun x hx=>⟨hF x hx.1,hx.2⟩⟩
theorem Has.focus : ∀ {M : List Res} {F : Nat → Prop} {w : World} {i : Nat} {r : Res}, Has M F w → M[i]? = some r → (∀ q ∈ M, ∀ x, q.rd x → ¬ F x) → (∀ x, w.heap.size ≤ x → F x) →
    ∃ A,r.on w A∧(∀ x,A x→F x)∧∀ r' A' w' N,r'.on w' A'→(∀ x,A' x→A x∨w.heap.size≤x)→Chg A w w'→Has N (fun x=>(A x∨w.heap.size≤x)∧¬ A' x) w'→Has (M.set i r' ++ N) F w'
  | [],_,_,_,_,_,hi,_,_=>by simp at hi
  | q :: M,F,w,0,r,⟨A,h1,h2,h3⟩,hi,hr,hN=>by
    simp at hi;subst hi
    refine ⟨A,h1,h2,fun r' A' w' N h1' hA' hc hh=>?_⟩
    refine ⟨A',h1',fun x hx=>(hA' x hx).elim (h2 x) (hN x),?_⟩
    have k : Has M (fun x=>(F x∧¬ A x)∧x < w.heap.size) w':=Has.other h3 hc.size (fun x hx hl=>⟨hx,hl⟩) (fun x hl hx=>hc.block x hl hx.2) (fun p hp x hl hx=>hc.block x hl fun hA=>hr p (.tail _ hp) x hx (h2 x hA))
    refine Has.append k hh (fun x hx hG=>hG.1.elim hx.1.2 fun h=>by have:=hx.2;omega) (fun x hx=>⟨hx.1.1,fun h=>(hA' x h).elim hx.1.2 fun h=>by have:=hx.2;omega⟩) (fun x hx=>⟨hx.1.elim (h2 x) (hN x),hx.2⟩)
  | q :: M,F,w,i + 1,r,⟨A,h1,h2,h3⟩,hi,hr,hN=>by
    simp at hi
    obtain ⟨B,g1,g2,g3⟩ :=Has.focus h3 hi (fun p hp x hx hF=>hr p (.tail _ hp) x hx hF.1) (fun x hx=>⟨hN x hx,fun hA=>by have:=q.lt h1 x hA;omega⟩)
    refine ⟨B,g1,fun x hx=>(g2 x hx).1,fun r' A' w' N h1' hA' hc hh=>?_⟩
    refine ⟨A,q.chg h1 hc.size fun x hl hx=>hc.block x hl fun hB=>?_,h2,g3 r' A' w' N h1' hA' hc hh⟩
    rcases hx with hx | hx
    · exact (g2 x hB).2 hx
    · exact hr q (.head _) x hx (g2 x hB).1
theorem Has.push : ∀ {M : List Res} {F : Nat → Prop} {w w' : World} {r : Res} {A : Nat → Prop}, Has M F w → r.on w' A → (∀ x, A x → w.heap.size ≤ x) → (∀ x, w.heap.size ≤ x → F x) →
    w.heap.size≤w'.heap.size→(∀ x,x < w.heap.size→F x→w'.heap[x]? = w.heap[x]?)→(∀ q ∈ M,∀ x,x < w.heap.size→q.rd x→w'.heap[x]? = w.heap[x]?)→Has (M ++ [r]) F w'
  | [],F,w,w',r,A,_,hr,hA,hN,_,_,_=>⟨A,hr,fun x hx=>hN x (hA x hx),trivial⟩
  | q :: M,F,w,w',r,A,⟨B,h1,h2,h3⟩,hr,hA,hN,hs,hc,hq=>
    ⟨B,q.chg h1 hs fun x hl hx=>hx.elim (fun hx=>hc x hl (h2 x hx)) (fun hx=>hq q (.head _) x hl hx),h2,
      Has.push h3 hr hA (fun x hx=>⟨hN x hx,fun hB=>by have:=q.lt h1 x hB;omega⟩) hs (fun x hl hx=>hc x hl hx.1) (fun p hp=>hq p (.tail _ hp))⟩
theorem Has.facts : ∀ {M : List Res} {F : Nat→Prop} {w : World},Has M F w→Facts M w
  | [],_,_,_=>trivial
  | r :: _,_,_,⟨_,h1,_,h3⟩ =>⟨r.ok h1,Has.facts h3⟩
structure Sep (w0 : World) (S : Nat→Prop) (M : List Res) (w : World) : Prop where
  chg : Chg (fun k=>S k∨w0.heap.size≤k) w0 w
  has : Has M (fun k=>S k∨w0.heap.size≤k) w
  rd : ∀ r ∈ M,∀ x,r.rd x→¬ (S x∨w0.heap.size≤x)
section
variable {w0 w w1 : World} {S : Nat→Prop} {M : List Res}
theorem Sep.facts (h : Sep w0 S M w) : Facts M w:=h.has.facts
theorem Sep.nil (w : World) : Sep w (fun _=>False) [] w:=⟨Chg.refl _ _,trivial,fun _ h=>by cases h⟩
theorem Sep.old (h : Sep w0 S M w) : w0.heap.size≤w.heap.size:=h.chg.size
theorem Sep.up (h : Sep w0 S M w) : ∀ x,w.heap.size≤x→(S x∨w0.heap.size≤x):=fun _ hx=>.inr (Nat.le_trans h.old hx)
theorem Sep.quiet (h : Sep w0 S M w) (c : Chg (fun _=>False) w w1) : Sep w0 S M w1:=
  ⟨h.chg.trans c fun _ f=>f.elim,h.has.other c.size (fun _ hx _=>hx) (fun x hl _=>c.block x hl id) (fun _ _ x hl _=>c.block x hl id),h.rd⟩
theorem Sep.push {r : Res} {A : Nat→Prop} (h : Sep w0 S M w) (c : Chg (fun _=>False) w w1) (hr : r.on w1 A) (hA : ∀ x,A x→w.heap.size≤x) (hn : ∀ x,r.rd x→¬ (S x∨w0.heap.size≤x)) : Sep w0 S (M ++ [r]) w1:=
  ⟨h.chg.trans c fun _ f=>f.elim,h.has.push hr hA h.up c.size (fun x hl _=>c.block x hl id) (fun _ _ x hl _=>c.block x hl id),
    fun q hq=>(List.mem_append.1 hq).elim (h.rd q) fun hq=>by simp at hq;subst hq;exact hn⟩
theorem mem_set {α : Type} {l : List α} {i : Nat} {a x : α} (h : x ∈ l.set i a) : x ∈ l∨x = a:=by
  rcases List.mem_or_eq_of_mem_set h with h | h
  · exact .inl h
  · exact .inr h
theorem Sep.at {i : Nat} {r : Res} (h : Sep w0 S M w) (hi : M[i]? = some r) :
    ∃ A,r.on w A∧(∀ x,r.rd x→¬ A x)∧∀ r' A' w',r'.on w' A'→(∀ x,A' x→A x∨w.heap.size≤x)→Chg A w w'→(∀ x,r'.rd x→r.rd x)→Sep w0 S (M.set i r') w':=by
  obtain ⟨A,h1,h2,h3⟩ :=h.has.focus hi h.rd h.up
  have hm : r ∈ M:=List.mem_of_getElem? hi
  refine ⟨A,h1,fun x hx hA=>h.rd r hm x hx (h2 x hA),fun r' A' w' h1' hA' hc hr=>⟨?_,by simpa using h3 r' A' w' [] h1' hA' hc trivial,fun q hq=>?_⟩⟩
  · exact h.chg.trans hc fun x hx=>h2 x hx |>.elim (fun h=>.inl (.inl h)) .inr
  · rcases mem_set hq with hq | hq
    · exact h.rd q hq
    · subst hq;exact fun x hx=>h.rd r hm x (hr x hx)
theorem Sep.embed1 {i : Nat} {r : Res} (h : Sep w0 S M w) (hi : M[i]? = some r) :
    ∃ A,r.on w A∧(∀ x,r.rd x→¬ (A x∨w.heap.size≤x))∧(∀ x,A x→S x∨w0.heap.size≤x)∧∀ r' N w',Sep w A (r' :: N) w'→(∀ x,r'.rd x→r.rd x)→(∀ q ∈ N,∀ x,q.rd x→r.rd x)→Sep w0 S (M.set i r' ++ N) w':=by
  obtain ⟨A,h1,h2,h3⟩ :=h.has.focus hi h.rd h.up
  have hm : r ∈ M:=List.mem_of_getElem? hi
  refine ⟨A,h1,fun x hx hA=>hA.elim (fun hA=>h.rd r hm x hx (h2 x hA)) fun hA=>h.rd r hm x hx (h.up x hA),h2,fun r' N w' k hr hN=>⟨?_,?_,fun q hq=>?_⟩⟩
  · exact h.chg.trans k.chg fun x hx=>hx.elim (fun hx=>h2 x hx |>.elim (fun h=>.inl (.inl h)) .inr) fun hx=>.inr (Nat.le_trans h.old hx)
  · obtain ⟨A',g1,g2,g3⟩ :=k.has
    exact h3 r' A' w' N g1 g2 (k.chg.mono' fun x hx hl=>hx.elim id fun hx=>by omega) g3
  · rcases List.mem_append.1 hq with hq | hq
    · rcases mem_set hq with hq | hq
      · exact h.rd q hq
      · subst hq;exact fun x hx=>h.rd r hm x (hr x hx)
    · exact fun x hx=>h.rd r hm x (hN q hq x hx)
theorem Sep.embed {N : List Res} {w' : World} (h : Sep w0 S M w) (k : Sep w (fun _=>False) N w') (hN : ∀ q ∈ N,∀ x,¬ q.rd x) : Sep w0 S (M ++ N) w':=by
  have c : Chg (fun _=>False) w w':=k.chg.mono' fun x hx hl=>hx.elim id fun hx=>by omega
  refine ⟨h.chg.trans c fun _ f=>f.elim,?_,fun q hq=>(List.mem_append.1 hq).elim (h.rd q) fun hq x hx=>(hN q hq x hx).elim⟩
  have g : Has M (fun x=>(S x∨w0.heap.size≤x)∧x < w.heap.size) w':=h.has.other c.size (fun x hx hl=>⟨hx,hl⟩) (fun x hl _=>c.block x hl id) (fun _ _ x hl _=>c.block x hl id)
  exact Has.append g k.has (fun x hx hG=>hG.elim id fun hG=>by have:=hx.2;omega) (fun x hx=>hx.1) (fun x hx=>hx.elim (fun f=>f.elim) (h.up x))
theorem Sep.start {r : Res} {w : World} {A : Nat→Prop} (h : r.on w A) (hr : ∀ x,r.rd x→¬ (A x∨w.heap.size≤x)) : Sep w A [r] w:=
  ⟨Chg.refl _ _,⟨A,h,fun x hx=>.inl hx,trivial⟩,fun q hq=>by simp at hq;subst hq;exact hr⟩
theorem Sep.conv (i : Nat) {r r' : Res} (h : Sep w0 S M w) (hi : M[i]? = some r) (hc : ∀ A,r.on w A→r'.on w A) (hr : ∀ x,r'.rd x→r.rd x) : Sep w0 S (M.set i r') w:=by
  obtain ⟨A,h1,_,h3⟩ :=h.at hi
  exact h3 r' A w (hc A h1) (fun x hx=>.inl hx) (Chg.refl _ _) hr
theorem Has.tail : ∀ {M : List Res} {F : Nat→Prop} {w : World} {r : Res},Has (M ++ [r]) F w→Has M F w
  | [],_,_,_,_=>trivial
  | _ :: _,_,_,_,⟨A,h1,h2,h3⟩ =>⟨A,h1,h2,Has.tail h3⟩
theorem Has.erase : ∀ {M : List Res} {F F' : Nat→Prop} {w : World} (i : Nat),Has M F w→(∀ x,F x→F' x)→Has (M.eraseIdx i) F' w
  | [],_,_,_,_,_,_=>trivial
  | _ :: _,_,_,_,0,⟨A,h1,h2,h3⟩,hF=>by
    refine Has.mono h3 fun x hx=>hF x hx.1
  | _ :: _,_,_,_,i + 1,⟨A,h1,h2,h3⟩,hF=>⟨A,h1,fun x hx=>hF x (h2 x hx),Has.erase i h3 fun x hx=>⟨hF x hx.1,hx.2⟩⟩
where
  Has.mono : ∀ {M : List Res} {F F' : Nat→Prop} {w : World},Has M F w→(∀ x,F x→F' x)→Has M F' w
    | [],_,_,_,_,_=>trivial
    | _ :: _,_,_,_,⟨A,h1,h2,h3⟩,hF=>⟨A,h1,fun x hx=>hF x (h2 x hx),Has.mono h3 fun x hx=>⟨hF x hx.1,hx.2⟩⟩
theorem Sep.erase (i : Nat) (h : Sep w0 S M w) : Sep w0 S (M.eraseIdx i) w:=⟨h.chg,h.has.erase i fun _=>id,fun q hq=>h.rd q (List.mem_of_mem_eraseIdx hq)⟩
theorem Sep.cell0 {b o : Nat} (h : Sep w0 S M w) (hb : (w0.cell? ⟨b,o,none⟩).isSome = true) (hS : ¬ S b) : w.cell? ⟨b,o,none⟩ = w0.cell? ⟨b,o,none⟩ :=by
  obtain ⟨v,hv⟩ :=Option.isSome_iff_exists.1 hb
  rw [hv]
  have hl:=World.block_lt_of_cell? w0 _ hv
  exact h.chg.cell hv fun hx=>hx.elim hS fun hx=>by omega
end
def blk (b : Nat) (t : TypeId) (cs : List Value) : Res where
  on w A:=w.heap[b]? = some (.cells cs.toArray t (0,0))∧A = fun x=>x = b
  rd _:=False
  fact w:=(∀ o,w.cell? ⟨b,o,none⟩ = cs[o]?)∧blkOf w b = some (cs,t)
  lt:=fun ⟨h,e⟩ x hx=>by subst e;subst hx;exact lt_of_block h
  chg:=fun {w w' A} ⟨h,e⟩ hs hc=>⟨(hc b (lt_of_block h) (.inl (by rw [e]))).trans h,e⟩
  ok:=fun {w A} ⟨h,e⟩ =>by
    have hb : blkOf w b = some (cs,t):=by simpa using blkOf_of h
    exact ⟨fun o=>cell_of_blkOf hb o,hb⟩
theorem blk_fact (b : Nat) (t : TypeId) (cs : List Value) (w : World) : (blk b t cs).fact w = ((∀ o,w.cell? ⟨b,o,none⟩ = cs[o]?)∧blkOf w b = some (cs,t)):=(rfl)
theorem Facts_nil (w : World) : Facts [] w = True:=(rfl)
theorem Facts_cons (r : Res) (M : List Res) (w : World) : Facts (r :: M) w = (r.fact w∧Facts M w):=(rfl)
section
variable {w0 w w1 : World} {S : Nat→Prop} {M : List Res}
theorem Sep.new {cs : List Value} {t : TypeId} {K : World→Nat→Prop} (h : Sep w0 S M w) (hk : ∀ w1 b,Sep w0 S (M ++ [blk b t cs]) w1→K w1 b) : ∀ w1 b,New w w1 b cs t→K w1 b:=fun w1 b n=>
  hk w1 b (h.push n.chg (A:=fun x=>x = b) ⟨n.blk,rfl⟩ (fun x hx=>by have:=n.eq;omega) (fun _ f=>f.elim))
theorem Sep.put (i : Nat) {b : Nat} {cs cs' : List Value} {t : TypeId} {K : World→Prop} (h : Sep w0 S M w) (hi : M[i]? = some (blk b t cs)) (hk : ∀ w1,Sep w0 S (M.set i (blk b t cs')) w1→K w1) : ∀ w1,Put w w1 b cs' t→K w1:=fun w1 p=>by
  obtain ⟨A,⟨h1,rfl⟩,_,h3⟩ :=h.at hi
  exact hk w1 (h3 _ (fun x=>x = b) w1 ⟨p.blk,rfl⟩ (fun x hx=>.inl hx) p.chg (fun _ f=>f.elim))
theorem Sep.callp {P : Program} {f : FuncId} {args : Array Value} {x : Value} {K : Value→World→Prop} (h : Sep w0 S M w) (hc : Calls P f args w (RetK fun r w'=>r = x∧Chg (fun _=>False) w w')) (hk : ∀ w1,Sep w0 S M w1→K x w1) : callsK P f args w K:=
  callsK_use hc fun _ _ ⟨e,c⟩ =>by rw [e];exact hk _ (h.quiet c)
theorem Sep.callN {P : Program} {f : FuncId} {args : Array Value} {Q : Value → List Res → Prop} {K : Value → World → Prop} (h : Sep w0 S M w) (hc : Calls P f args w (RetK fun r w' => ∃ N, Sep w (fun _ => False) N w' ∧ (∀ q ∈ N, ∀ x, ¬ q.rd x) ∧ Q r N))
    (hk : ∀ r N w1,Q r N→Sep w0 S (M ++ N) w1→K r w1) : callsK P f args w K:=
  callsK_use hc fun _ _ ⟨_,k,hN,q⟩ =>hk _ _ _ q (h.embed k hN)
theorem Sep.call1 (i : Nat) {P : Program} {f : FuncId} {args : Array Value} {r : Res} {Q : Value → Res → List Res → Prop} {K : Value → World → Prop} (h : Sep w0 S M w) (hi : M[i]? = some r)
    (hc : ∀ A,(∀ x,A x→S x∨w0.heap.size≤x)→Sep w A [r] w→Calls P f args w (RetK fun v w'=>∃ r' N,Sep w A (r' :: N) w'∧(∀ x,r'.rd x→r.rd x)∧(∀ q ∈ N,∀ x,¬ q.rd x)∧Q v r' N))
    (hk : ∀ v r' N w1,Q v r' N→Sep w0 S (M.set i r' ++ N) w1→K v w1) : callsK P f args w K:=by
  obtain ⟨A,h1,h2,hu,h3⟩ :=h.embed1 hi
  exact callsK_use (hc A hu (Sep.start h1 h2)) fun _ _ ⟨_,_,k,hr,hN,q⟩ =>hk _ _ _ _ q (h3 _ _ _ k hr fun q hq x hx=>(hN q hq x hx).elim)
theorem Sep.draw {K : World→Prop} (h : Sep w0 S M w) (hk : ∀ w1,Sep w0 S M w1→K w1) : ∀ w1,w1.heap = w.heap→Chg (fun _=>False) w w1→K w1:=fun w1 _ c=>hk w1 (h.quiet c)
end
def row (e s : Nat) (v : Value) (n : Nat) (xs : List Value) : Res where
  on w A:=w.ownsRow 0 e s v n xs∧A = fun x=>v.ownBlock = some x
  rd _:=False
  fact w:=w.ownsRow 0 e s v n xs
  lt:=fun ⟨h,e⟩ x hx=>by subst e;exact (World.ownsRow.lt h x hx).2
  chg:=fun {w w' A} ⟨h,e⟩ hs hc=>by
    refine ⟨⟨h.1,?_⟩,e⟩
    rcases h.2 with hz | ⟨g,cap,cur,rfl,hb,hg,rest⟩
    · exact .inl hz
    · exact .inr ⟨g,cap,cur,rfl,hb,(hc g (lt_of_block hg) (.inl (by rw [e];simp [Value.ownBlock]))).trans hg,rest⟩
  ok:=fun h=>h.1
theorem row_fact (e s : Nat) (v : Value) (n : Nat) (xs : List Value) (w : World) : (row e s v n xs).fact w = w.ownsRow 0 e s v n xs:=(rfl)
theorem Sep.fresh {w0 w : World} {S : Nat→Prop} {M : List Res} {e s : Nat} (h : Sep w0 S M w) : Sep w0 S (M ++ [row e s (.slice none 0 0) 0 []]) w:=
  h.push (Chg.refl _ _) (A:=fun _=>False) ⟨World.ownsRow_nil _ _ _ _,by funext x;simp [Value.ownBlock]⟩ (fun _ f=>f.elim) (fun _ f=>f.elim)
theorem Sep.app (i : Nat) {P : Program} {t e : TypeId} {z : Value} {s by' : Nat} (hinf : (P.info? e).map (fun i => (i.zero, i.size, i.bytes)) = some (some z, s, by')) (ht : P.underlying t = some (.slice e)) (hzs : z.cells.size = s) (hs : 0 < s)
    {w0 w : World} {S : Nat→Prop} {M : List Res} {v : Value} {n : Nat} {xs : List Value} {src : Value} {m : Nat} {news : List Value} {ty : TypeId} {K : Value→World→Prop} (h : Sep w0 S M w) (hi : M[i]? = some (row e s v n xs)) (hsrc : Row s w src m news)
    (hl : (n + m) * by'≤140737488355328) (h63 : n + m≤maxLen)
    (hK : ∀ a c w',Sep w0 S (M.set i (row e s (.slice a (n + m) c) (n + m) (xs ++ news))) w'→K (.slice a (n + m) c) w') : RunK P (Builtin.append_ #[t,t] ty #[v,src]) w K:=by
  obtain ⟨A,⟨h1,rfl⟩,_,h3⟩ :=h.at hi
  refine append_rule hinf ht hzs hs h1 hsrc hl h63 fun v' w' ho hg hat=>?_
  have hsh : ∃ a c,v' = .slice a (n + m) c:=by
    rcases ho.2 with ⟨rfl,hz⟩ | ⟨g,cap,cur,rfl,_⟩
    · exact ⟨none,0,by rw [hz]⟩
    · exact ⟨_,_,rfl⟩
  obtain ⟨a,c,rfl⟩ :=hsh
  refine hK a c w' (h3 _ _ w' ⟨ho,rfl⟩ (fun x hx=>?_) (Chg.ofGrown hg) (fun _ f=>f))
  rcases hat with e | e
  · exact .inl (by rw [← e];exact hx)
  · rw [hx] at e;injection e with e;exact .inr (by omega)
theorem Row.sep {s : Nat} {w0 w : World} {S : Nat→Prop} {M : List Res} {v : Value} {n : Nat} {cs : List Value} (h : Row s w0 v n cs) (hh : Sep w0 S M w) (hS : ∀ k,v.ownBlock = some k→¬ S k) : Row s w v n cs:=by
  obtain ⟨h1,h2,a,c,rfl,h3,h4,h5,h6⟩ :=h
  refine ⟨h1,h2,a,c,rfl,h3,h4,h5,fun hp=>?_⟩
  obtain ⟨b,o,rfl,hcell⟩ :=h6 hp
  refine ⟨b,o,rfl,fun j u hj=>hh.chg.cell (hcell j u hj) ?_⟩
  have:=World.block_lt_of_cell? w0 _ (hcell j u hj)
  exact fun hx=>hx.elim (hS b (by simp [Value.ownBlock])) fun hx=>by dsimp only at this hx;omega
theorem Rd.sep {w0 w : World} {S : Nat→Prop} {M : List Res} {v : Value} {xs : List Int} (h : Rd w0 v xs) (hh : Sep w0 S M w) (hS : ∀ k,v.ownBlock = some k→¬ S k) : Rd w v xs:=by
  obtain ⟨a,c,rfl,h1,h2,h3,h4⟩ :=h
  refine ⟨a,c,rfl,h1,h2,h3,fun hp=>?_⟩
  obtain ⟨b,o,rfl,hc⟩ :=h4 hp
  refine ⟨b,o,rfl,fun j hj=>hh.chg.cell (hc j hj) ?_⟩
  have:=World.block_lt_of_cell? w0 _ (hc j hj)
  exact fun hx=>hx.elim (hS b (by simp [Value.ownBlock])) fun hx=>by dsimp only at this hx;omega
theorem Sep.done {w0 w : World} {M : List Res} (h : Sep w0 (fun _=>False) M w) : Chg (fun _=>False) w0 w:=
  ⟨h.chg.os,h.chg.tape,h.chg.output,h.chg.size,fun k hk _=>h.chg.block k hk fun hx=>hx.elim id fun hx=>by omega⟩
theorem vsD : type_of% (And.intro (And.intro (@Holds_cons) (@Holds_nil)) (And.intro (And.intro (@tupK_mk) (@opsvT_two)) (And.intro (@app_get0) (And.intro (@app_getS) (@app_getN))))):=And.intro (And.intro (@Holds_cons) (@Holds_nil)) (And.intro (And.intro (@tupK_mk) (@opsvT_two)) (And.intro (@app_get0) (And.intro (@app_getS) (@app_getN))))
theorem nfD : type_of% (And.intro (And.intro (@List.cons_append.{0}) (@List.nil_append.{0})) (And.intro (And.intro (@List.set_cons_zero.{0}) (@List.set_cons_succ.{0})) (And.intro (@List.eraseIdx_cons_zero.{0}) (@List.eraseIdx_cons_succ.{0})))):=And.intro (And.intro (@List.cons_append.{0}) (@List.nil_append.{0})) (And.intro (And.intro (@List.set_cons_zero.{0}) (@List.set_cons_succ.{0})) (And.intro (@List.eraseIdx_cons_zero.{0}) (@List.eraseIdx_cons_succ.{0})))
end Go.Proofs.YtnhgjgoglmadnaaGreat
namespace Go.Proofs.YtnhgjgoglmadnaaGreat
open Go.ChangeShapes Go.WideShapes Go.ChangeAt Go.RowKit
set_option linter.unusedVariables false
theorem own : ownKnob Tryz.prog.godebug = none:=by kernel_rfl
end Go.Proofs.YtnhgjgoglmadnaaGreat
namespace Go.Proofs.YtnhgjgoglmadnaaGreat
open Go.RowKit
set_option maxRecDepth 100000
set_option linter.unusedSimpArgs false
set_option linter.unusedVariables false
theorem owns_shape {w : World} {e : TypeId} {s : Nat} {v : Value} {n : Nat} {xs : List Value} (h : w.ownsRow 0 e s v n xs) : ∃ a c,v = .slice a n c:=by
  rcases h.2 with ⟨rfl,hz⟩ | ⟨g,cap,cur,rfl,_⟩
  · exact ⟨none,0,by rw [hz]⟩
  · exact ⟨_,_,rfl⟩
theorem Wr.put {t p : Nat} {w w1 w2 : World} {v v' : Value} {xs ys : List Int} {bad : Bool} (h : Wr t w p v xs bad) (ht : t ≠ 5) (hown : Own w1 v' ys) (hg : w.grownBy w1 v.ownBlock)
    (hat : v'.ownBlock = v.ownBlock∨v'.ownBlock = some w.heap.size) (hp : Put w1 w2 p [v',.bool bad] t) : Wr t w2 p v' ys bad∧WrStep p w v w2 v':=by
  have hne:=h.own.ne h.blk ht
  have hc : Chg (fun k=>v.ownBlock = some k) w w1:=Chg.ofGrown hg
  have hb1 : w1.heap[p]? = some (.cells #[v,.bool bad] t (0,0)):=hc.at h.blk hne
  refine ⟨⟨hp.blk,hown.chg hp.chg fun k hk e=>hown.ne hb1 ht (e▸hk)⟩,?_,fun k hk=>?_⟩
  · exact ((hc.mono fun x hx=>Or.inr hx).trans hp.chg fun x hx=>.inl (.inl hx))
  · rcases hat with e | e
    · exact .inl (e▸hk)
    · rw [e] at hk;injection hk with hk;exact .inr (by omega)
theorem Wr.bk {t p : Nat} {w : World} {v : Value} {xs : List Int} {bad : Bool} (h : Wr t w p v xs bad) : blkOf w p = some ([v,.bool bad],t):=by simpa using blkOf_of h.blk
theorem app {w : World} {v src : Value} {xs ys : List Int} {ty : TypeId} {K : Value → World → Prop} (own : Own w v xs) (hr : Rd w src ys) (hl : xs.length + ys.length ≤ 100000000)
    (hK : ∀ a c w',Own w' (.slice a (xs.length + ys.length) c) (xs ++ ys)→w.grownBy w' v.ownBlock→((Value.slice a (xs.length + ys.length) c).ownBlock = v.ownBlock∨(Value.slice a (xs.length + ys.length) c).ownBlock = some w.heap.size)→K (.slice a (xs.length + ys.length) c) w') :
    RunK Tryz.prog (Builtin.append_ #[35,35] ty #[v,src]) w K:=by
  refine append_rule Tryz.info5 Tryz.underlying35 rfl (by decide) own hr.row (by omega) (by simp only [maxLen];omega) ?_
  intro v1 w1 h1 g1 a1
  obtain ⟨a,c,rfl⟩ :=owns_shape h1
  exact hK a c w1 (by unfold Own;rw [u8s_append,List.length_append];exact h1) g1 a1
def W8.raw (s : W8) (xs : List Int) : W8:=⟨s.l ++ xs,s.bad⟩
theorem raw (p : Nat) (v : Value) (s : W8) (src : Value) (ys : List Int) (w : World) (hw : WrS 75 w p v s) (hr : Rd w src ys) (hlen : s.l.length ≤ 1000000) (hlen' : ys.length ≤ 10000000) :
    Calls Tryz.prog 39 [.pointer (some ⟨p,0,none⟩),src].toArray w (RetK (WrQ 75 p w v (s.raw ys))):=by
  refine walk Tryz.func39 rfl (by kernel_rfl) (by rw [Tryz.nt39];simp) ?_
  refine Zv1 hw.c0 ?_
  refine app hw.own hr (by omega) ?_
  intro a c w1 h1 g1 a1
  have hb1 : blkOf w1 p = some ([v,.bool s.bad],75):=(Chg.ofGrown g1).blkOf hw.bk (hw.own.ne hw.blk (by decide))
  refine Zv1 hb1 ?_
  intro w2 p2
  obtain ⟨h2,k2⟩ :=hw.put (by decide) h1 g1 a1 p2
  exact ⟨rfl,_,h2,k2⟩
structure Copy (w w' : World) (r : Value) (xs : List Int) : Prop where
  chg : Chg (fun _=>False) w w'
  own : Own w' r xs
  new : ∀ k,r.ownBlock = some k→w.heap.size≤k
theorem clone (v : Value) (xs : List Int) (w : World) (h : Rd w v xs) (hl : xs.length ≤ 10000000) :
    Calls Tryz.prog 83 [v].toArray w (RetK fun r w'=>Copy w w' r xs∧(v = .slice none 0 0→r = .slice none 0 0)):=by
  have h0:=h
  obtain ⟨a,c,rfl,h1,h2,h3,h4⟩ :=h
  refine walk Tryz.func83 rfl (by kernel_rfl) (by rw [Tryz.nt83];simp) ?_
  cases a with
  | none=>
    obtain rfl:=h3 rfl
    have hz : xs = []:=List.eq_nil_of_length_eq_zero (by omega)
    subst hz
    refine Zv ?_
    exact ⟨⟨Chg.refl _ _,Own.nil w,fun k hk=>by simp [Value.ownBlock] at hk⟩,fun _=>trivial⟩
  | some a=>
    refine Zv ?_
    intro w1 b hb
    have hr1:=h0.chg hb.chg (fun _ _=>id)
    have ho : Own w1 (.slice (some ⟨b,0,none⟩) 0 0) []:=hb.owns (by simp) (by simp [maxLen])
    refine app ho hr1 (by simp;omega) ?_
    intro a1 c1 w2 h5 g5 a5
    refine Zv ?_
    refine ⟨⟨?_,by simpa using h5,fun k hk=>?_⟩,fun e=>by cases e⟩
    · exact hb.chg.trans (Chg.ofGrown g5) (fun x hx=>.inr (by simp [Value.ownBlock] at hx;have:=hb.eq;omega)) |>.mono fun x hx=>hx
    · have:=hb.eq;have:=hb.size
      rcases a5 with e | e<;>simp only [List.length_nil,Nat.zero_add] at e hk<;>rw [e] at hk<;>simp [Value.ownBlock] at hk<;>omega
theorem bytes (p : Nat) (v : Value) (s : W8) (w : World) (hw : WrS 75 w p v s) (hl : s.l.length ≤ 1000000) :
    Calls Tryz.prog 40 [.pointer (some ⟨p,0,none⟩)].toArray w (RetK fun r w'=>∃ v',r = .tuple #[v',.int .i64 (if s.bad then 2 else 0)]∧Copy w w' v' (if s.bad then [] else s.l)):=by
  refine walk Tryz.func40 rfl (by kernel_rfl) (by rw [Tryz.nt40];simp) ?_
  cases hb : s.bad with
  | true=>
    have h1:=hw.c1
    rw [hb] at h1
    refine Zv1 h1 ?_
    exact ⟨_,rfl,Chg.refl _ _,Own.nil w,fun k hk=>by simp [Value.ownBlock] at hk⟩
  | false=>
    have h1:=hw.c1
    rw [hb] at h1
    refine Zv1 (J h1 hw.c0) ?_
    refine callsK_use (clone v s.l w hw.own.rd (by omega)) ?_
    rintro r w1 ⟨hc,_⟩
    refine Zv ?_
    exact ⟨_,rfl,by simpa using hc⟩
theorem Rd.cut {w : World} {a : Option Addr} {n c : Nat} {xs : List Int} (h : Rd w (.slice a n c) xs) {l m : Nat} (hl : l ≤ m) (hm : m ≤ n) :
    Rd w (.slice (cutA a c l 1) (m - l) (c - l)) ((xs.take m).drop l):=by
  obtain ⟨a',c',e,h1,h2,h3,h4⟩ :=h
  injection e with e1 e2 e3
  subst e1 e2 e3
  have hlen : ((xs.take m).drop l).length = m - l:=by simp;omega
  refine ⟨cutA a c l 1,c - l,by rw [hlen],by rw [hlen];omega,by omega,fun hn=>?_,fun hp=>?_⟩
  · unfold cutA at hn
    split at hn
    · omega
    · cases a with
      | none=>have:=h3 rfl;omega
      | some a=>cases hn
  · rw [hlen] at hp
    obtain ⟨b,o,rfl,hc⟩ :=h4 (by omega)
    refine ⟨b,o + l,by simp [cutA,show ¬ c = l by omega,add_off],fun j hj=>?_⟩
    rw [hlen] at hj
    rw [Nat.add_assoc,hc (l + j) (by omega)]
    simp [List.getD,List.getElem?_drop,List.getElem?_take,show l + j < m by omega]
theorem cutA_block {a : Option Addr} {n c n' c' l : Nat} {k : Nat} (h : (Value.slice (cutA a c l 1) n' c').ownBlock = some k) : (Value.slice a n c).ownBlock = some k:=by
  unfold cutA at h
  split at h
  · cases a with
    | none=>simp [Value.ownBlock] at h
    | some a=>exact h
  · cases a with
    | none=>simp [Value.ownBlock] at h
    | some a=>
      simp only [Option.map_some,Value.ownBlock] at h ⊢
      rw [← h];unfold Addr.add;split<;>rfl
structure R8 where
  l : List Int
  bad : Bool
theorem Rd.lt {w : World} {v : Value} {xs : List Int} (h : Rd w v xs) (hp : 0 < xs.length) : ∀ k,v.ownBlock = some k→k < w.heap.size:=by
  obtain ⟨a,c,rfl,h1,h2,h3,h4⟩ :=h
  obtain ⟨b,o,rfl,hc⟩ :=h4 hp
  intro k hk
  simp [Value.ownBlock] at hk
  subst hk
  exact World.block_lt_of_cell? w _ (hc 0 hp)
theorem Rd.chg' {S : Nat→Prop} {w w' : World} {v : Value} {xs : List Int} (h : Rd w v xs) (hc : Chg S w w') (hn : 0 < xs.length→∀ k,v.ownBlock = some k→¬ S k) : Rd w' v xs:=by
  obtain ⟨a,c,rfl,h1,h2,h3,h4⟩ :=h
  refine ⟨a,c,rfl,h1,h2,h3,fun hp=>?_⟩
  obtain ⟨b,o,rfl,hcell⟩ :=h4 hp
  exact ⟨b,o,rfl,fun j hj=>hc.cell (hcell j hj) (hn hp b (by simp [Value.ownBlock]))⟩
structure Rdr (t : Nat) (w : World) (p : Nat) (v : Value) (s : R8) : Prop where
  blk : w.heap[p]? = some (.cells #[v,.bool s.bad] t (0,0))
  rd : Rd w v s.l
  ne : 0 < s.l.length→v.ownBlock≠some p
theorem Rdr.lt {t p : Nat} {w : World} {v : Value} {s : R8} (h : Rdr t w p v s) (hp : 0 < s.l.length) : ∀ k,v.ownBlock = some k→k < w.heap.size:=h.rd.lt hp
theorem Rdr.bk {t p : Nat} {w : World} {v : Value} {s : R8} (h : Rdr t w p v s) : blkOf w p = some ([v,.bool s.bad],t):=by simpa using blkOf_of h.blk
theorem Rdr.c0 {t p : Nat} {w : World} {v : Value} {s : R8} (h : Rdr t w p v s) : w.cell? ⟨p,0,none⟩ = some v:=by rw [cell_of_row w p 0 _ _ _ h.blk];rfl
theorem Rdr.c1 {t p : Nat} {w : World} {v : Value} {s : R8} (h : Rdr t w p v s) : w.cell? ⟨p,1,none⟩ = some (.bool s.bad):=by rw [cell_of_row w p 1 _ _ _ h.blk];rfl
theorem Rdr.chg {t p : Nat} {S : Nat→Prop} {w w' : World} {v : Value} {s : R8} (h : Rdr t w p v s) (hc : Chg S w w') (hp : ¬ S p) (hv : 0 < s.l.length→∀ k,v.ownBlock = some k→¬ S k) : Rdr t w' p v s:=
  ⟨hc.at h.blk hp,h.rd.chg' hc hv,h.ne⟩
theorem Rdr.put {t p : Nat} {w w1 w2 : World} {v v' : Value} {s s' : R8} (h : Rdr t w p v s) (hc : Chg (fun _ => False) w w1) (hp : Put w1 w2 p [v', .bool s'.bad] t) (hr : Rd w1 v' s'.l) (hb : ∀ k, v'.ownBlock = some k → v.ownBlock = some k) (hl : s'.l.length ≤ s.l.length) :
    Rdr t w2 p v' s'∧Chg (fun k=>k = p) w w2:=
  ⟨⟨hp.blk,hr.chg' hp.chg fun hpos k hk e=>h.ne (by omega) (hb k hk |>.trans (by rw [e])),fun hpos e=>h.ne (by omega) (hb p e)⟩,(hc.mono (fun _ f=>f.elim)).trans hp.chg fun x hx=>.inl hx⟩
def RdQ (t p : Nat) (w : World) (v : Value) (s' : R8) (w' : World) : Prop:=∃ v',Rdr t w' p v' s'∧Chg (fun k=>k = p) w w'∧∀ k,v'.ownBlock = some k→v.ownBlock = some k
theorem Rdr.q {t p : Nat} {w : World} {v : Value} {s : R8} (h : Rdr t w p v s) : RdQ t p w v s w:=⟨v,h,Chg.refl _ _,fun _=>id⟩
def R8.no (s : R8) (n : Int) : Prop:=s.bad = true∨n < 0∨s.l.length < n
instance (s : R8) (n : Int) : Decidable (s.no n):=by unfold R8.no;infer_instance
def R8.rawV (s : R8) (n : Int) : List Int:=if s.no n then [] else s.l.take n.toNat
def R8.rawS (s : R8) (n : Int) : R8:=if s.no n then ⟨s.l,true⟩ else ⟨s.l.drop n.toNat,s.bad⟩
theorem rraw (p : Nat) (v : Value) (s : R8) (n : Int) (w : World) (hw : Rdr 151 w p v s) (hl : s.l.length ≤ 10000000) :
    Calls Tryz.prog 60 [.pointer (some ⟨p,0,none⟩),.int .i64 n].toArray w (RetK fun r w'=>RdQ 151 p w v (s.rawS n) w'∧Own w' r (s.rawV n)∧∀ k,r.ownBlock = some k→w.heap.size≤k):=by
  obtain ⟨a,c,rfl,h1,h2,h3,h4⟩ :=hw.rd
  have hc1:=hw.c1
  refine walk Tryz.func60 rfl (by kernel_rfl) (by rw [Tryz.nt60];simp) ?_
  by_cases hb : s.bad = true
  · rw [hb] at hc1
    refine Zv1 hc1 ?_
    have e : s.no n:=.inl hb
    simp only [R8.rawS,R8.rawV,e,if_true]
    refine ⟨?_,Own.nil w,fun k hk=>by simp [Value.ownBlock] at hk⟩
    have : (⟨s.l,true⟩ : R8) = s:=by rw [← hb]
    rw [this]
    exact hw.q
  rw [Bool.not_eq_true] at hb
  rw [hb] at hc1
  have hno : s.no n↔(n < 0∨s.l.length < n):=by simp [R8.no,hb]
  have hbk:=hw.bk
  by_cases hn : n < 0
  · have e : s.no n:=hno.2 (.inl hn)
    refine Zv1 (J hc1 (J (decide_eq_true hn) hbk)) ?_
    intro w1 p1
    simp only [R8.rawS,R8.rawV,e,if_true]
    obtain ⟨hq,hc⟩ :=hw.put (s':=⟨s.l,true⟩) (Chg.refl _ _) p1 hw.rd (fun _=>id) (Nat.le_refl _)
    exact ⟨⟨_,hq,hc,fun _=>id⟩,Own.nil w1,fun k hk=>by simp [Value.ownBlock] at hk⟩
  by_cases hg : (s.l.length : Int) < n
  · have e : s.no n:=hno.2 (.inr hg)
    refine Zv1 (J hc1 (J (decide_eq_false hn) (J (decide_eq_true hg) (J hw.c0 hbk)))) ?_
    intro w1 p1
    simp only [R8.rawS,R8.rawV,e,if_true]
    obtain ⟨hq,hc⟩ :=hw.put (s':=⟨s.l,true⟩) (Chg.refl _ _) p1 hw.rd (fun _=>id) (Nat.le_refl _)
    exact ⟨⟨_,hq,hc,fun _=>id⟩,Own.nil w1,fun k hk=>by simp [Value.ownBlock] at hk⟩
  · have e : ¬ s.no n:=fun h=>(hno.1 h).elim hn hg
    obtain ⟨m,rfl⟩ :=Int.eq_ofNat_of_zero_le (Int.not_lt.1 hn)
    refine Zv1 (J hc1 (J (decide_eq_false hn) (J (decide_eq_false hg) hw.c0))) ?_
    refine ⟨⟨by omega,by omega⟩,?_⟩
    have hcut:=hw.rd.cut (Nat.zero_le m) (show m≤s.l.length by omega)
    simp only [Nat.sub_zero,List.drop_zero] at hcut
    refine callsK_use (clone _ _ w hcut (by simp;omega)) ?_
    rintro r w1 ⟨hcp,_⟩
    have hw1 : Rdr 151 w1 p (.slice a s.l.length c) s:=hw.chg hcp.chg id (fun _ _ _=>id)
    refine Zv1 hw1.c0 ?_
    refine ⟨⟨by omega,by omega⟩,?_⟩
    refine Zv1 hw1.bk ?_
    intro w2 p2
    have hcut2:=hw1.rd.cut (l:=m) (m:=s.l.length) (by omega) (Nat.le_refl _)
    rw [List.take_of_length_le (Nat.le_refl _)] at hcut2
    simp only [R8.rawS,R8.rawV,e,if_false]
    have hlow : ∀ k,r.ownBlock = some k→¬ k = p:=fun k hk e=>by have:=hcp.new k hk;have:=lt_of_block hw.blk;omega
    obtain ⟨hq,hc⟩ :=hw1.put (s':=⟨s.l.drop m,s.bad⟩) (Chg.refl _ _) p2 hcut2 (fun k hk=>cutA_block hk) (by simp)
    refine ⟨⟨_,by simpa using hq,hcp.chg.seq hc,fun k hk=>cutA_block hk⟩,?_,hcp.new⟩
    simp only [Int.toNat_natCast]
    exact hcp.own.chg p2.chg hlow
def rstep (a x : Int) : Int:=IntKind.i64.wrap (BitVec.ofInt IntKind.i64.bits (IntKind.i64.wrap (a * 2 ^ min 8 IntKind.i64.bits)) ||| BitVec.ofInt IntKind.i64.bits (IntKind.i64.wrap x)).toNat
def rval (xs : List Int) : Int:=xs.foldl rstep 0
def R8.sz (s : R8) (n : Int) : R8:=if n < 1∨7 < n then ⟨s.l,true⟩ else s
def R8.numV (s : R8) (n : Int) : Int:=rval ((s.sz n).rawV n)
def R8.numS (s : R8) (n : Int) : R8:=(s.sz n).rawS n
theorem rnum (p : Nat) (v : Value) (s : R8) (n : Int) (w : World) (hw : Rdr 151 w p v s) (hl : s.l.length ≤ 10000000) :
    Calls Tryz.prog 42 [.pointer (some ⟨p,0,none⟩),.int .i64 n].toArray w (RetK fun r w'=>r = .int .i64 (s.numV n)∧RdQ 151 p w v (s.numS n) w'):=by
  refine walk Tryz.func42 rfl (by kernel_rfl) (by rw [Tryz.nt42];simp) ?_
  have hcs : n < 1∨(¬ n < 1∧7 < n)∨(¬ n < 1∧¬ 7 < n):=by omega
  rcases hcs with h1 | ⟨h1,h2⟩ | ⟨h1,h2⟩
  case' inl=>
    refine Zv1 (J (decide_eq_true h1) hw.bk) ?_
    intro w1 p1
    obtain ⟨hw1,hc⟩ :=hw.put (s':=⟨s.l,true⟩) (Chg.refl _ _) p1 hw.rd (fun _=>id) (Nat.le_refl _)
    have es : s.sz n = ⟨s.l,true⟩ :=by simp [R8.sz,h1]
  case' inr.inl=>
    refine Zv1 (J (decide_eq_false h1) (J (decide_eq_true h2) hw.bk)) ?_
    intro w1 p1
    obtain ⟨hw1,hc⟩ :=hw.put (s':=⟨s.l,true⟩) (Chg.refl _ _) p1 hw.rd (fun _=>id) (Nat.le_refl _)
    have es : s.sz n = ⟨s.l,true⟩ :=by simp [R8.sz,h1,h2]
  case' inr.inr=>
    refine Zv1 (J (decide_eq_false h1) (decide_eq_false h2)) ?_
    have hc:=Chg.refl (fun k=>k = p) w
    have hw1:=hw
    have es : s.sz n = s:=by simp [R8.sz,h1,h2]
    revert hc hw1
    generalize w = w1
    intro hc hw1
  all_goals
    rw [← es] at hw1
    have hl1 : (s.sz n).l.length≤10000000:=by rw [es];exact hl
    refine callsK_use (rraw p v (s.sz n) n _ hw1 hl1) ?_
    rintro r w2 ⟨⟨v2,h2,c2,b2⟩,ho,hn⟩
    obtain ⟨a,c,rfl,e1,e2,e3,e4⟩ :=ho.rd
    refine Zv ?_
    have hlen : ((s.sz n).rawV n).length≤maxLen:=by omega
    generalize hys : (s.sz n).rawV n = ys at *
    have hq : RdQ 151 p _ v (s.numS n) w2:=⟨v2,h2,hc.trans c2 (fun x hx=>.inl hx),b2⟩
    have hv : s.numV n = rval ys:=by simp [R8.numV,hys]
    rw [hv]
    clear hw hw1 h2 ho hn c2 b2
    refine walkLoop [20,21] [22,4] (fun m vs w'=>w' = w2∧∃ i,i≤ys.length∧m = ys.length - i∧vs = [.int .i64 i,.int .i64 ((ys.take i).foldl rstep 0)]) (by kernel_rfl) ?_ ?_
    · refine Zv ?_
      exact ⟨_,0,Nat.zero_le _,rfl,by simp⟩
    · intro ks hk m vs w3 hi
      obtain ⟨rfl,i,hi,rfl,rfl⟩ :=hi
      simp [gets,Env.get,Env.push] at hk
      subst hk
      refine Zv ?_
      refine ifK_dec (fun hlt=>?_) (fun hge=>?_)
      · obtain ⟨b,o,rfl,hcl⟩ :=e4 (by omega)
        have e : IntKind.i64.wrap ((i : Int) + 1) = ((i + 1 : Nat) : Int):=by rw [IntWalk.i64_in _ (by simp only [maxLen] at hlen;omega)];omega
        refine Zv ?_
        refine ⟨⟨by omega,by omega⟩,?_⟩
        refine Zv1 (J (hcl i (by omega)) e) ?_
        refine ⟨_,?_,i + 1,by omega,rfl,?_⟩
        · omega
        · rw [List.take_succ_eq_append_getElem (by omega),List.foldl_append]
          simp [rstep,List.getD,show i < ys.length by omega]
      · refine Zv ?_
        have : i = ys.length:=by omega
        subst this
        exact ⟨by simp [rval],hq⟩
theorem u64wrap (n : Int) : IntKind.u64.wrap n = n % 18446744073709551616:=by simp [IntKind.wrap,IntKind.signed,IntKind.bits]
def R8.done (s : R8) : Bool:=!s.bad && s.l.isEmpty
theorem rdone (p : Nat) (v : Value) (s : R8) (w : World) (hw : Rdr 151 w p v s) :
    Calls Tryz.prog 61 [.pointer (some ⟨p,0,none⟩)].toArray w (RetK fun r w'=>r = .int .i64 (if s.done then 0 else 2)∧w' = w):=by
  obtain ⟨a,c,rfl,h1,h2,h3,h4⟩ :=hw.rd
  have hc1:=hw.c1
  refine walk Tryz.func61 rfl (by kernel_rfl) (by rw [Tryz.nt61];simp) ?_
  cases hb : s.bad with
  | true=>
    rw [hb] at hc1
    refine Zv1 hc1 ?_
    simp [R8.done,hb]
  | false=>
    rw [hb] at hc1
    by_cases hp : (0 : Int) < s.l.length
    · refine Zv1 (J hc1 (J hw.c0 (decide_eq_true hp))) ?_
      have : s.l≠[]:=fun e=>by simp [e] at hp
      simp [R8.done,this]
    · refine Zv1 (J hc1 (J hw.c0 (decide_eq_false hp))) ?_
      have : s.l = []:=List.eq_nil_of_length_eq_zero (by omega)
      simp [R8.done,this,hb]
def R8.left (s : R8) : Int:=if s.bad then 0 else s.l.length
theorem rleft (p : Nat) (v : Value) (s : R8) (w : World) (hw : Rdr 151 w p v s) :
    Calls Tryz.prog 84 [.pointer (some ⟨p,0,none⟩)].toArray w (RetK fun r w'=>r = .int .i64 s.left∧w' = w):=by
  obtain ⟨a,c,rfl,h1,h2,h3,h4⟩ :=hw.rd
  have hc1:=hw.c1
  refine walk Tryz.func84 rfl (by kernel_rfl) (by rw [Tryz.nt84];simp) ?_
  cases hb : s.bad with
  | true=>
    rw [hb] at hc1
    refine Zv1 hc1 ?_
    simp [R8.left,hb]
  | false=>
    rw [hb] at hc1
    refine Zv1 (J hc1 hw.c0) ?_
    simp [R8.left,hb]
theorem read (v : Value) (xs : List Int) (w : World) (h : Rd w v xs) (hl : xs.length ≤ 10000000) :
    Calls Tryz.prog 41 [v].toArray w (RetK fun r w'=>∃ p v',r = .pointer (some ⟨p,0,none⟩)∧Rdr 151 w' p v' ⟨xs,false⟩ ∧Chg (fun _=>False) w w'∧w.heap.size≤p∧∀ k,v'.ownBlock = some k→w.heap.size≤k):=by
  refine walk Tryz.func41 rfl (by kernel_rfl) (by rw [Tryz.nt41];simp) ?_
  refine Zv ?_
  refine callsK_use (clone v xs w h hl) ?_
  rintro r w1 ⟨hc,_⟩
  obtain ⟨a,c,rfl⟩ :=owns_shape hc.own
  refine Zv ?_
  intro w2 p hp
  have hlt : ∀ k,(Value.slice a xs.length c).ownBlock = some k→k < w1.heap.size:=fun k hk=>hc.own.lt hk
  refine ⟨p,_,rfl,⟨hp.blk,hc.own.rd.chg hp.chg (fun _ _=>id),fun _ e=>?_⟩,hc.chg.trans hp.chg (fun _ f=>f.elim),?_,hc.new⟩
  · have:=hlt _ e;have:=hp.eq;omega
  · have:=hp.eq;have:=hc.chg.size;omega
theorem Chg.trans' {w w1 w2 : World} {p b : Nat} (h : Chg (fun k=>k = p) w w1) (k : Chg (fun k=>k = b) w1 w2) (hb : w.heap.size≤b) : Chg (fun k=>k = p) w w2:=h.trans k fun x hx=>.inr (by omega)
theorem RdQ.trans {t p : Nat} {w w1 w2 : World} {v v1 : Value} {s2 : R8} (hc : Chg (fun k=>k = p) w w1) (hb : ∀ k,v1.ownBlock = some k→v.ownBlock = some k) (h : RdQ t p w1 v1 s2 w2) : RdQ t p w v s2 w2:=by
  obtain ⟨v2,h2,c2,b2⟩ :=h
  exact ⟨v2,h2,hc.trans c2 (fun x hx=>.inl hx),fun k hk=>hb k (b2 k hk)⟩
theorem R8.rawS_len (s : R8) (n : Int) : (s.rawS n).l.length≤s.l.length:=by
  unfold R8.rawS
  split
  · exact Nat.le_refl _
  · simp
theorem R8.numS_len (s : R8) (n : Int) : (s.numS n).l.length≤s.l.length:=by
  unfold R8.numS
  have:=(s.sz n).rawS_len n
  have e : (s.sz n).l = s.l:=by unfold R8.sz;split<;>rfl
  rw [e] at this
  exact this
def R8.ptS (s : R8) : R8:=(s.numS 3).numS 3
def R8.ptV (s : R8) : Int×Int:=if s.ptS.bad then (0,0) else (s.numV 3,(s.numS 3).numV 3)
theorem R8.ptS_len (s : R8) : s.ptS.l.length≤s.l.length:=Nat.le_trans ((s.numS 3).numS_len 3) (s.numS_len 3)
theorem rpoint (p : Nat) (v : Value) (s : R8) (w : World) (hw : Rdr 151 w p v s) (hl : s.l.length ≤ 10000000) :
    Calls Tryz.prog 44 [.pointer (some ⟨p,0,none⟩)].toArray w (RetK fun r w'=>r = .agg #[.int .i64 s.ptV.1,.int .i64 s.ptV.2]∧RdQ 151 p w v s.ptS w'):=by
  refine walk Tryz.func44 rfl (by kernel_rfl) (by rw [Tryz.nt44];simp) ?_
  refine Zv ?_
  intro w1 b hb
  have hw1:=hw.chg hb.chg id (fun _ _ _=>id)
  have hlow:=hw.lt
  refine callsK_use (rnum p v s 3 w1 hw1 hl) ?_
  rintro _ w2 ⟨rfl,v2,h2,c2,b2⟩
  refine Zv ?_
  refine callsK_use (rnum p v2 (s.numS 3) 3 w2 h2 (Nat.le_trans (s.numS_len 3) hl)) ?_
  rintro _ w3 ⟨rfl,v3,h3,c3,b3⟩
  have hnb : ¬ b = p:=by have:=hb.eq;have:=lt_of_block hw.blk;omega
  have bk : blkOf w3 b = some (_,_):=c3.blkOf (c2.blkOf hb.blkOf hnb) hnb
  have cc : Chg (fun k=>k = p) w w3:=hb.chg.seq (c2.trans c3 fun x hx=>.inl hx)
  have hbw : w.heap.size≤b:=by have:=hb.eq;omega
  have hc1:=h3.c1
  have es : s.ptS = (s.numS 3).numS 3:=rfl
  rw [← es] at h3 hc1
  cases hbad : s.ptS.bad with
  | true=>
    rw [hbad] at hc1
    refine Zv1 (J hc1 bk) ?_
    intro w4 p4
    refine Zw1 p4.cell ?_
    have h4:=h3.chg p4.chg (fun e=>hnb e.symm) (fun hpos k hk e=>by
      have:=b2 k (b3 k hk)
      have:=hlow (Nat.lt_of_lt_of_le hpos s.ptS_len) k this;omega)
    refine ⟨by simp [R8.ptV,hbad],v3,h4,?_,fun k hk=>b2 k (b3 k hk)⟩
    exact cc.trans' p4.chg hbw
  | false=>
    rw [hbad] at hc1
    refine Zv1 (J hc1 bk) ?_
    intro w4 p4
    refine Zw1 p4.cell ?_
    have h4:=h3.chg p4.chg (fun e=>hnb e.symm) (fun hpos k hk e=>by
      have:=b2 k (b3 k hk)
      have:=hlow (Nat.lt_of_lt_of_le hpos s.ptS_len) k this;omega)
    refine ⟨by simp [R8.ptV,hbad],v3,h4,?_,fun k hk=>b2 k (b3 k hk)⟩
    exact cc.trans' p4.chg hbw
theorem i64w (n : Int) (h0 : -9223372036854775808≤n) (h1 : n≤9223372036854775807) : IntKind.i64.wrap n = n:=IntWalk.i64_in _ (by omega)
theorem rstep_eq {a x : Int} (ha : 0≤a) (hx : 0≤x∧x≤255) (h : a * 256 + x≤9223372036854775807) : rstep a x = a * 256 + x:=by
  obtain ⟨m,rfl⟩ :=Int.eq_ofNat_of_zero_le ha
  obtain ⟨y,rfl⟩ :=Int.eq_ofNat_of_zero_le hx.1
  unfold rstep
  have e : IntKind.i64.bits = 64:=rfl
  have h64 : (2 : Nat) ^ 64 = 18446744073709551616:=by decide
  have e1 : min 8 IntKind.i64.bits = 8:=rfl
  rw [e1,e]
  have p8 : (2 : Int) ^ 8 = 256:=by decide
  rw [p8,i64w ((m : Int) * 256) (by omega) (by omega),i64w (y : Int) (by omega) (by omega)]
  have e2 : ((m : Int) * 256) = ((m * 256 : Nat) : Int):=by omega
  rw [e2,BitVec.ofInt_natCast,BitVec.ofInt_natCast,BitVec.toNat_or,BitVec.toNat_ofNat,BitVec.toNat_ofNat,h64,Nat.mod_eq_of_lt (show m * 256 < 18446744073709551616 by omega),Nat.mod_eq_of_lt (show y < 18446744073709551616 by omega)]
  have e3 : m * 256 ||| y = m * 256 + y:=by
    have:=Nat.two_pow_add_eq_or_of_lt (i:=8) (b:=y) (by omega) m
    rw [Nat.mul_comm] at this
    exact this.symm
  rw [e3,i64w _ (by omega) (by omega)]
  omega
theorem be_byt (n : Int) (s : Nat) : Byt (be n s):=fun x hx=>by
  simp only [be,List.mem_map] at hx
  obtain ⟨i,_,rfl⟩ :=hx
  omega
theorem be_part (n : Int) (s : Nat) (h0 : 0≤n) (h1 : n≤9223372036854775807) (hfit : n / 2 ^ (8 * s) = 0) : ∀ i,i≤s→((be n s).take i).foldl rstep 0 = n / 2 ^ (8 * (s - i))
  | 0,_=>by simp [hfit]
  | i + 1,hi=>by
    rw [be_take n s i (by omega),List.foldl_append,be_part n s h0 h1 hfit i (by omega)]
    simp only [List.foldl_cons,List.foldl_nil]
    have e1 : 8 * (s - i) = 8 * (s - 1 - i) + 8:=by omega
    have e2 : 8 * (s - (i + 1)) = 8 * (s - 1 - i):=by omega
    rw [e1,e2,Int.pow_add,← Int.ediv_ediv_of_nonneg (Int.le_of_lt (Int.pow_pos (by decide)))]
    have p8 : (2 : Int) ^ 8 = 256:=by decide
    rw [p8]
    generalize hq : n / 2 ^ (8 * (s - 1 - i)) = q
    have hq0 : 0≤q:=by rw [← hq];exact Int.ediv_nonneg h0 (Int.le_of_lt (Int.pow_pos (by decide)))
    have hq1 : q≤n:=by rw [← hq];exact Int.ediv_le_self _ h0
    rw [rstep_eq (by omega) (by omega) (by omega)]
    omega
theorem rval_be (n : Int) (s : Nat) (h0 : 0≤n) (h1 : n≤9223372036854775807) (hfit : n / 2 ^ (8 * s) = 0) : rval (be n s) = n:=by
  have:=be_part n s h0 h1 hfit s (Nat.le_refl _)
  rw [List.take_of_length_le (by rw [be_length];exact Nat.le_refl _)] at this
  unfold rval
  rw [this]
  simp
theorem Wr.fresh {w w1 : World} {b : Nat} {t : TypeId} (h : New w w1 b [.slice none 0 0,.bool false] t) : WrS t w1 b (.slice none 0 0) ⟨[],false⟩ :=⟨h.blk,Own.nil w1⟩
def Up (N : Nat) (v : Value) : Prop:=∀ k,v.ownBlock = some k→N≤k
structure Fr (N : Nat) (w w' : World) : Prop where
  le : N≤w.heap.size
  chg : Chg (fun k=>N≤k) w w'
theorem Fr.refl (w : World) : Fr w.heap.size w w:=⟨Nat.le_refl _,Chg.refl _ _⟩
theorem Fr.go {N : Nat} {S : Nat→Prop} {w w1 w2 : World} (f : Fr N w w1) (h : Chg S w1 w2) (hs : ∀ x,S x→N≤x) : Fr N w w2:=⟨f.le,f.chg.trans h fun x hx=>.inl (hs x hx)⟩
theorem Fr.at {N : Nat} {w w1 : World} (f : Fr N w w1) : N≤w1.heap.size:=Nat.le_trans f.le f.chg.size
theorem Fr.new {N : Nat} {w w1 w2 : World} {b : Nat} {cs : List Value} {t : TypeId} (f : Fr N w w1) (h : New w1 w2 b cs t) : Fr N w w2:=f.go h.chg fun _ x=>x.elim
theorem Fr.newUp {N : Nat} {w w1 w2 : World} {b : Nat} {cs : List Value} {t : TypeId} (f : Fr N w w1) (h : New w1 w2 b cs t) : N≤b:=by have:=f.at;have:=h.eq;omega
theorem Fr.nil {N : Nat} {w w1 w2 : World} (f : Fr N w w1) (h : Chg (fun _=>False) w1 w2) : Fr N w w2:=f.go h fun _ x=>x.elim
theorem Fr.one {N p : Nat} {w w1 w2 : World} (f : Fr N w w1) (h : Chg (fun k=>k = p) w1 w2) (hp : N≤p) : Fr N w w2:=f.go h fun _ e=>e▸hp
theorem Fr.done {w w1 : World} (f : Fr w.heap.size w w1) : Chg (fun _=>False) w w1:=⟨f.chg.os,f.chg.tape,f.chg.output,f.chg.size,fun k hk _=>f.chg.block k hk (by omega)⟩
theorem Up.nil (N : Nat) : Up N (.slice none 0 0):=fun k hk=>by simp [Value.ownBlock] at hk
theorem Rd.nil (w : World) : Rd w (.slice none 0 0) []:=(Own.nil w).rd
end Go.Proofs.YtnhgjgoglmadnaaGreat
