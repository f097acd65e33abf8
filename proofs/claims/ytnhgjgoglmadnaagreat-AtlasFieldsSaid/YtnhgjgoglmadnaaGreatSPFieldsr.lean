/- Joined texts of this claim (part 18), printed by a program of this work. The last part holds the claimed theorem: the law answers true at every input of its row. -/
import Derived.Test.YtnhgjgoglmadnaaGreatSPFieldsq
namespace Go.Proofs.YtnhgjgoglmadnaaGreat
open Go.RowKit
set_option linter.unusedVariables false
theorem Has.cast {M : List Res} {F G : Nat→Prop} {w : World} (h : Has M F w) (e : ∀ x,F x↔G x) : Has M G w:=by
  have : F = G:=funext fun x=>propext (e x)
  rw [← this];exact h
theorem Sep.untwo (i j : Nat) {w0 w : World} {S : Nat→Prop} {M : List Res} {r q : Res} (h : Sep w0 S M w) (hi : M[i]? = some (Go.Proofs.YtnhgjgoglmadnaaGreat.two r q)) (hj : M[j]? = some Go.Proofs.YtnhgjgoglmadnaaGreat.emp) (hij : i≠j) : Sep w0 S ((M.set i r).set j q) w:=by
  have hil : i < M.length:=(List.getElem?_eq_some_iff.1 hi).1
  have hjl : j < M.length:=(List.getElem?_eq_some_iff.1 hj).1
  obtain ⟨X,⟨B,C,h1,h2,h3,rfl⟩,hX,g⟩ :=h.has.take hi
  have hmem:=List.mem_of_getElem? hi
  have g1:=g.cast (G:=fun x=>((S x∨w0.heap.size≤x)∧¬ B x)∧¬ C x) fun x=>⟨fun ⟨a,b⟩ =>⟨⟨a,fun k=>b (.inl k)⟩,fun k=>b (.inr k)⟩,fun ⟨⟨a,b⟩,c⟩ =>⟨a,fun k=>k.elim b c⟩⟩
  have hj' : (M.set i Go.Proofs.YtnhgjgoglmadnaaGreat.emp)[j]? = some Go.Proofs.YtnhgjgoglmadnaaGreat.emp:=by rw [List.getElem?_set_ne hij];exact hj
  obtain ⟨A1,a1,a2,k1⟩ :=Has.give g1 hj' (fun x hx=>⟨hX x (.inr hx),fun hB=>h3 x hB hx⟩)
  have a1 : A1 = fun _=>False:=a1
  subst a1
  have k2 := k1 q (by have e : (fun x => False ∨ C x) = C := funext fun x => by simp
                      rw [e];exact h2)
  have hi' : ((M.set i Go.Proofs.YtnhgjgoglmadnaaGreat.emp).set j q)[i]? = some Go.Proofs.YtnhgjgoglmadnaaGreat.emp:=by rw [List.getElem?_set_ne (Ne.symm hij)];simp [hil]
  obtain ⟨A2,a1,a2,k3⟩ :=Has.give k2 hi' (fun x hx=>hX x (.inl hx))
  have a1 : A2 = fun _=>False:=a1
  subst a1
  have k4 := k3 r (by have e : (fun x => False ∨ B x) = B := funext fun x => by simp
                      rw [e];exact h1)
  have e : ((M.set i Go.Proofs.YtnhgjgoglmadnaaGreat.emp).set j q).set i r = (M.set i r).set j q:=by
    rw [List.set_comm _ _ (Ne.symm hij),List.set_set]
  rw [e] at k4
  refine ⟨h.chg,k4,fun p hp=>?_⟩
  rcases mem_set hp with hp | rfl
  · rcases mem_set hp with hp | rfl
    · exact h.rd p hp
    · exact fun x hx=>h.rd _ hmem x (.inl hx)
  · exact fun x hx=>h.rd _ hmem x (.inr hx)
theorem Sep.open2 {w0 w : World} {S : Nat→Prop} {r q : Res} (h : Sep w0 S [Go.Proofs.YtnhgjgoglmadnaaGreat.two r q] w) : Sep w0 S [r,q] w:=by
  have:=h.emp
  exact Sep.untwo 0 1 this rfl rfl (by decide)
theorem Sep.shut2 {w0 w : World} {S : Nat→Prop} {r q : Res} {N : List Res} (h : Sep w0 S (r :: q :: N) w) : Sep w0 S (Go.Proofs.YtnhgjgoglmadnaaGreat.two r q :: N) w:=
  (h.two 0 1 rfl rfl).erase 1
theorem Sep.call2 (i j : Nat) {P : Program} {f : FuncId} {args : Array Value} {w0 w : World} {S : Nat → Prop} {M : List Res} {r q : Res} {Q : Value → Res → Res → List Res → Prop} {K : Value → World → Prop} (h : Sep w0 S M w) (hi : M[i]? = some r) (hj : M[j]? = some q) (hij : i ≠ j)
    (hc : ∀ A,(∀ x,A x→S x∨w0.heap.size≤x)→Sep w A [r,q] w→Calls P f args w (RetK fun v w'=>∃ r' q' N,Sep w A (r' :: q' :: N) w'∧(∀ x,¬ r'.rd x)∧(∀ x,¬ q'.rd x)∧(∀ p ∈ N,∀ x,¬ p.rd x)∧Q v r' q' N))
    (hk : ∀ v r' q' N w1,Q v r' q' N→Sep w0 S ((M.set i r').set j q' ++ N) w1→K v w1) : callsK P f args w K:=by
  have hil : i < M.length:=(List.getElem?_eq_some_iff.1 hi).1
  have hjl : j < M.length:=(List.getElem?_eq_some_iff.1 hj).1
  have hi' : (M.set j Go.Proofs.YtnhgjgoglmadnaaGreat.emp)[i]? = some r:=by rw [List.getElem?_set_ne (Ne.symm hij)];exact hi
  refine Sep.call1 i (Q:=fun v t N=>∃ r' q',t = Go.Proofs.YtnhgjgoglmadnaaGreat.two r' q'∧Q v r' q' N) (h.two i j hi' hj) (by simp [hil]) (fun A hA k=>(hc A hA k.open2).mono fun e w' ⟨v,er,r',q',N,k1,k2,k3,k4,k5⟩ =>?_) ?_
  · exact ⟨v,er,_,N,k1.shut2,fun x hx=>(hx.elim (k2 x) (k3 x)).elim,k4,r',q',rfl,k5⟩
  · rintro v _ N w1 ⟨r',q',rfl,hQ⟩ k
    refine hk v r' q' N w1 hQ ?_
    rw [List.set_set] at k
    have k':=k.untwo i j (r:=r') (q:=q') (by rw [List.getElem?_append_left (by simpa using hil)];simp [hil]) (by rw [List.getElem?_append_left (by simpa using hjl),List.getElem?_set_ne hij];simp [hjl]) hij
    have e : ((((M.set j Go.Proofs.YtnhgjgoglmadnaaGreat.emp).set i (Go.Proofs.YtnhgjgoglmadnaaGreat.two r' q')) ++ N).set i r').set j q' = (M.set i r').set j q' ++ N:=by
      rw [List.set_append_left _ _ (by simpa using hil),List.set_set,List.set_append_left _ _ (by simpa using hjl),List.set_comm _ _ (Ne.symm hij),List.set_set,List.set_comm _ _ hij]
    rw [e] at k'
    exact k'
end Go.Proofs.YtnhgjgoglmadnaaGreat
