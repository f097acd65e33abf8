/- Joined texts of this claim (part 10), printed by a program of this work. The last part holds the claimed theorem: the law answers true at every input of its row. -/
import Derived.Test.YtnhgjgoglmadnaaGreatSPFieldsi
namespace Go.Proofs.YtnhgjgoglmadnaaGreat
open Go.RowKit
set_option linter.unusedVariables false
theorem owns_same {w w' : World} {e s : Nat} {v : Value} {n : Nat} {xs : List Value} (h : w.ownsRow 0 e s v n xs) (hc : ∀ k,v.ownBlock = some k→w'.heap[k]? = w.heap[k]?) : w'.ownsRow 0 e s v n xs:=by
  refine ⟨h.1,?_⟩
  rcases h.2 with hz | ⟨g,cap,cur,rfl,hb,hg,rest⟩
  · exact .inl hz
  · exact .inr ⟨g,cap,cur,rfl,hb,(hc g (by simp [Value.ownBlock])).trans hg,rest⟩
theorem Rd.same {w w' : World} {v : Value} {xs : List Int} (h : Rd w v xs) (hc : 0 < xs.length→∀ k,v.ownBlock = some k→k < w.heap.size→w'.heap[k]? = w.heap[k]?) : Rd w' v xs:=by
  obtain ⟨a,c,rfl,h1,h2,h3,h4⟩ :=h
  refine ⟨a,c,rfl,h1,h2,h3,fun hp=>?_⟩
  obtain ⟨b,o,rfl,hcell⟩ :=h4 hp
  refine ⟨b,o,rfl,fun j hj=>(World.cell?_of_block (w:=w) (hc hp b (by simp [Value.ownBlock]) ?_)).trans (hcell j hj)⟩
  exact World.block_lt_of_cell? w _ (hcell j hj)
def byt (v : Value) (xs : List Int) : Res where
  on w A:=Own w v xs∧A = fun x=>v.ownBlock = some x
  rd _:=False
  fact w:=Rd w v xs
  lt:=fun ⟨h,e⟩ x hx=>by subst e;exact h.lt hx
  chg:=fun {w w' A} ⟨h,e⟩ hs hc=>⟨owns_same h fun k hk=>hc k (h.lt hk) (.inl (by rw [e];exact hk)),e⟩
  ok:=fun h=>h.1.rd
theorem byt_fact (v : Value) (xs : List Int) (w : World) : (byt v xs).fact w = Rd w v xs:=(rfl)
def wr (t p : Nat) (s : W8) (k : Nat) : Res where
  on w A:=s.l.length≤k∧t≠5∧∃ v,WrS t w p v s∧A = fun x=>x = p∨v.ownBlock = some x
  rd _:=False
  fact _:=s.l.length≤k
  lt:=fun ⟨_,_,v,h,e⟩ x hx=>by
    subst e
    rcases hx with rfl | hx
    · exact h.lt
    · exact h.own.lt hx
  chg:=fun {w w' A} ⟨h1,h2,v,h,e⟩ hs hc=>⟨h1,h2,v,⟨(hc p h.lt (.inl (by rw [e];exact .inl rfl))).trans h.blk,owns_same h.own fun k hk=>hc k (h.own.lt hk) (.inl (by rw [e];exact .inr hk))⟩,e⟩
  ok:=fun h=>h.1
theorem wr_fact (t p : Nat) (s : W8) (k : Nat) (w : World) : (wr t p s k).fact w = (s.l.length≤k):=(rfl)
def rdr (t p : Nat) (s : R8) (Z : Nat→Prop) : Res where
  on w A:=s.l.length≤10000000∧(∀ x,A x→x < w.heap.size)∧A p∧∃ v,Rdr t w p v s∧(0 < s.l.length→∀ k,v.ownBlock = some k→A k∨Z k)
  rd:=Z
  fact _:=s.l.length≤10000000
  lt:=fun ⟨_,h,_⟩ =>h
  chg:=fun {w w' A} ⟨h1,h2,h3,v,h,h4⟩ hs hc=>⟨h1,fun x hx=>Nat.lt_of_lt_of_le (h2 x hx) hs,h3,v,
    ⟨(hc p (h2 p h3) (.inl h3)).trans h.blk,h.rd.same fun hp k hk hl=>hc k hl (h4 hp k hk),h.ne⟩,h4⟩
  ok:=fun h=>h.1
theorem rdr_fact (t p : Nat) (s : R8) (Z : Nat→Prop) (w : World) : (rdr t p s Z).fact w = (s.l.length≤10000000):=(rfl)
section
variable {w0 w : World} {S : Nat→Prop} {M : List Res} {K : Value→World→Prop}
theorem Sep.wrNew (i : Nat) {b t : Nat} (h : Sep w0 S M w) (hi : M[i]? = some (blk b t [.slice none 0 0,.bool false])) (ht : t≠5) : Sep w0 S (M.set i (wr t b ⟨[],false⟩ 0)) w:=
  h.conv i hi (fun A ⟨h1,e⟩ =>⟨Nat.le_refl _,ht,_,⟨h1,Own.nil w⟩,by rw [e];funext x;simp [Value.ownBlock]⟩) (fun _ f=>f)
theorem Sep.wrAt {i t p k : Nat} {s : W8} (h : Sep w0 S M w) (hi : M[i]? = some (wr t p s k)) :
    s.l.length≤k∧t≠5∧∃ v,WrS t w p v s∧∀ s' k' v' w',WrS t w' p v' s'→WrStep p w v w' v'→s'.l.length≤k'→Sep w0 S (M.set i (wr t p s' k')) w':=by
  obtain ⟨A,⟨h1,h2,v,h3,rfl⟩,_,h4⟩ :=h.at hi
  exact ⟨h1,h2,v,h3,fun s' k' v' w' g1 g2 g3=>h4 _ _ w' ⟨g3,h2,v',g1,rfl⟩ (fun x hx=>hx.elim (fun e=>.inl (.inl e)) fun hx=>(g2.new x hx).elim (fun h=>.inl (.inr h)) .inr) g2.chg (fun _ f=>f)⟩
theorem Sep.num (i : Nat) {p k : Nat} {s : W8} {n size : Int} (h : Sep w0 S M w) (hi : M[i]? = some (wr 75 p s k)) (hl : k ≤ 1000000) (hn : -9223372036854775808 ≤ n) (hn1 : n ≤ 9223372036854775807)
    (hk : ∀ w1,Sep w0 S (M.set i (wr 75 p (s.num n size) (k + 8))) w1→K (.pointer (some ⟨p,0,none⟩)) w1) : callsK Tryz.prog 19 [.pointer (some ⟨p,0,none⟩),.int .i64 n,.int .i64 size].toArray w K:=by
  obtain ⟨h1,h2,v,h3,h4⟩ :=h.wrAt hi
  refine callsK_use (Go.Proofs.YtnhgjgoglmadnaaGreat.num p v s n size w h3 (by omega) hn hn1) ?_
  rintro _ w1 ⟨rfl,v1,g1,g2⟩
  exact hk w1 (h4 _ _ _ _ g1 g2 (by have:=s.num_len n size;omega))
theorem Sep.point (i : Nat) {p k : Nat} {s : W8} {x y : Int} (h : Sep w0 S M w) (hi : M[i]? = some (wr 75 p s k)) (hl : k ≤ 900000) (hx : -9223372036854775808 ≤ x) (hx1 : x ≤ 9223372036854775807) (hy : -9223372036854775808 ≤ y) (hy1 : y ≤ 9223372036854775807)
    (hk : ∀ w1,Sep w0 S (M.set i (wr 75 p (s.pt x y) (k + 16))) w1→K (.pointer (some ⟨p,0,none⟩)) w1) : callsK Tryz.prog 22 [.pointer (some ⟨p,0,none⟩),.agg #[.int .i64 x,.int .i64 y]].toArray w K:=by
  obtain ⟨h1,h2,v,h3,h4⟩ :=h.wrAt hi
  refine callsK_use (Go.Proofs.YtnhgjgoglmadnaaGreat.point p v s x y w h3 (by omega) hx hx1 hy hy1) ?_
  rintro _ w1 ⟨rfl,v1,g1,g2⟩
  exact hk w1 (h4 _ _ _ _ g1 g2 (by have:=s.pt_len x y;omega))
theorem Sep.tri (i : Nat) {p k : Nat} {s : W8} {ax ay bx by' cx cy : Int} (h : Sep w0 S M w) (hi : M[i]? = some (wr 75 p s k)) (hl : k ≤ 800000) (ho : Ok64 [ax, ay, bx, by', cx, cy])
    (hk : ∀ w1,Sep w0 S (M.set i (wr 75 p (s.tri ax ay bx by' cx cy) (k + 48))) w1→K (.pointer (some ⟨p,0,none⟩)) w1) : callsK Tryz.prog 29 [.pointer (some ⟨p,0,none⟩),.agg #[.int .i64 ax,.int .i64 ay,.int .i64 bx,.int .i64 by',.int .i64 cx,.int .i64 cy]].toArray w K:=by
  obtain ⟨h1,h2,v,h3,h4⟩ :=h.wrAt hi
  refine callsK_use (Go.Proofs.YtnhgjgoglmadnaaGreat.tri p v s ax ay bx by' cx cy w h3 (by omega) ho) ?_
  rintro _ w1 ⟨rfl,v1,g1,g2⟩
  exact hk w1 (h4 _ _ _ _ g1 g2 (by have:=s.tri_len ax ay bx by' cx cy;omega))
theorem Sep.raw (i : Nat) {p k : Nat} {s : W8} {src : Value} (ys : List Int) (h : Sep w0 S M w) (hi : M[i]? = some (wr 75 p s k)) (hl : k ≤ 1000000) (hr : Rd w src ys) (hy : ys.length ≤ 10000000)
    (hk : ∀ w1,Sep w0 S (M.set i (wr 75 p (s.raw ys) (k + ys.length))) w1→K (.pointer (some ⟨p,0,none⟩)) w1) : callsK Tryz.prog 39 [.pointer (some ⟨p,0,none⟩),src].toArray w K:=by
  obtain ⟨h1,h2,v,h3,h4⟩ :=h.wrAt hi
  refine callsK_use (Go.Proofs.YtnhgjgoglmadnaaGreat.raw p v s src ys w h3 hr (by omega) hy) ?_
  rintro _ w1 ⟨rfl,v1,g1,g2⟩
  exact hk w1 (h4 _ _ _ _ g1 g2 (by simp [W8.raw];omega))
theorem Copy.push {w w' : World} {r : Value} {xs : List Int} (h : Sep w0 S M w) (c : Copy w w' r xs) : Sep w0 S (M ++ [byt r xs]) w':=
  h.push c.chg (A:=fun x=>r.ownBlock = some x) ⟨c.own,rfl⟩ (fun x hx=>c.new x hx) (fun _ f=>f.elim)
theorem Sep.bytes (i : Nat) {p k : Nat} {s : W8} (h : Sep w0 S M w) (hi : M[i]? = some (wr 75 p s k)) (hl : k ≤ 1000000)
    (hk : ∀ a c w1,Sep w0 S (M ++ [byt (.slice a (if s.bad then [] else s.l).length c) (if s.bad then [] else s.l)]) w1→K (.tuple #[.slice a (if s.bad then [] else s.l).length c,.int .i64 (if s.bad then 2 else 0)]) w1) : callsK Tryz.prog 40 [.pointer (some ⟨p,0,none⟩)].toArray w K:=by
  obtain ⟨h1,h2,v,h3,h4⟩ :=h.wrAt hi
  refine callsK_use (Go.Proofs.YtnhgjgoglmadnaaGreat.bytes p v s w h3 (by omega)) ?_
  rintro _ w1 ⟨v1,rfl,c1⟩
  obtain ⟨a,c,rfl⟩ :=owns_shape c1.own
  exact hk a c w1 (c1.push h)
theorem Sep.rdAt {i t p : Nat} {s : R8} {Z : Nat → Prop} (h : Sep w0 S M w) (hi : M[i]? = some (rdr t p s Z)) :
    s.l.length≤10000000∧∃ v,Rdr t w p v s∧∀ s' w',RdQ t p w v s' w'→s'.l.length≤s.l.length→Sep w0 S (M.set i (rdr t p s' Z)) w':=by
  obtain ⟨A,⟨h1,h2,h3,v,h4,h5⟩,_,h6⟩ :=h.at hi
  refine ⟨h1,v,h4,fun s' w' ⟨v',g1,g2,g3⟩ hl=>h6 _ A w' ⟨by omega,fun x hx=>Nat.lt_of_lt_of_le (h2 x hx) g2.size,h3,v',g1,fun hp k hk=>h5 (by omega) k (g3 k hk)⟩ (fun x hx=>.inl hx) (g2.mono fun x e=>?_) (fun _ f=>f)⟩
  subst e;exact h3
theorem Sep.rdNum (i : Nat) {p : Nat} {s : R8} {Z : Nat → Prop} {n : Int} (h : Sep w0 S M w) (hi : M[i]? = some (rdr 151 p s Z))
    (hk : ∀ w1,Sep w0 S (M.set i (rdr 151 p (s.numS n) Z)) w1→K (.int .i64 (s.numV n)) w1) : callsK Tryz.prog 42 [.pointer (some ⟨p,0,none⟩),.int .i64 n].toArray w K:=by
  obtain ⟨h1,v,h2,h3⟩ :=h.rdAt hi
  refine callsK_use (Go.Proofs.YtnhgjgoglmadnaaGreat.rnum p v s n w h2 h1) ?_
  rintro _ w1 ⟨rfl,q⟩
  exact hk w1 (h3 _ _ q (s.numS_len n))
theorem Sep.rdPoint (i : Nat) {p : Nat} {s : R8} {Z : Nat → Prop} (h : Sep w0 S M w) (hi : M[i]? = some (rdr 151 p s Z))
    (hk : ∀ w1,Sep w0 S (M.set i (rdr 151 p s.ptS Z)) w1→K (.agg #[.int .i64 s.ptV.1,.int .i64 s.ptV.2]) w1) : callsK Tryz.prog 44 [.pointer (some ⟨p,0,none⟩)].toArray w K:=by
  obtain ⟨h1,v,h2,h3⟩ :=h.rdAt hi
  refine callsK_use (Go.Proofs.YtnhgjgoglmadnaaGreat.rpoint p v s w h2 h1) ?_
  rintro _ w1 ⟨rfl,q⟩
  exact hk w1 (h3 _ _ q s.ptS_len)
theorem R8.triS_len (s : R8) : s.triS.l.length≤s.l.length:=by unfold R8.triS;split;exact s.tS3_len;split;exact s.tS3_len;exact s.tS3_len
theorem Sep.rdTri (i : Nat) {p : Nat} {s : R8} {Z : Nat → Prop} (h : Sep w0 S M w) (hi : M[i]? = some (rdr 151 p s Z))
    (hk : ∀ w1,Sep w0 S (M.set i (rdr 151 p s.triS Z)) w1→K (.agg s.triV.cells.toArray) w1) : callsK Tryz.prog 51 [.pointer (some ⟨p,0,none⟩)].toArray w K:=by
  obtain ⟨h1,v,h2,h3⟩ :=h.rdAt hi
  refine callsK_use (Go.Proofs.YtnhgjgoglmadnaaGreat.rtri p v s w h2 h1) ?_
  rintro _ w1 ⟨rfl,q⟩
  exact hk w1 (h3 _ _ q s.triS_len)
theorem Sep.rdQ_own {i t p : Nat} {s s' : R8} {Z : Nat → Prop} {r : Value} {xs : List Int} {w' : World} (h : Sep w0 S M w) (hi : M[i]? = some (rdr t p s Z)) (hl : s'.l.length ≤ s.l.length)
    (hq : ∀ v,Rdr t w p v s→RdQ t p w v s' w') (ho : Own w' r xs) (hn : ∀ k,r.ownBlock = some k→w.heap.size≤k) : Sep w0 S (M.set i (rdr t p s' Z) ++ [byt r xs]) w':=by
  obtain ⟨A,⟨h1,h2,h3,v,h4,h5⟩,_,_,h6⟩ :=h.embed1 hi
  obtain ⟨v',g1,g2,g3⟩ :=hq v h4
  refine h6 _ [byt r xs] w' ⟨g2.mono fun x e=>?_,⟨A,⟨by omega,fun x hx=>Nat.lt_of_lt_of_le (h2 x hx) g2.size,h3,v',g1,fun hp k hk=>h5 (by omega) k (g3 k hk)⟩,fun x hx=>.inl hx,⟨fun x=>r.ownBlock = some x,⟨ho,rfl⟩,fun x hx=>⟨.inr (hn x hx),fun hA=>by have:=h2 x hA;have:=hn x hx;omega⟩,trivial⟩⟩,fun q hq x hx=>?_⟩ (fun _ f=>f) (fun q hq x hx=>?_)
  · subst e;exact .inl h3
  · simp only [List.mem_cons,List.not_mem_nil,or_false] at hq
    rcases hq with rfl | rfl
    · exact ‹∀ x,(rdr t p s Z).rd x→¬ (A x∨w.heap.size≤x)› x hx
    · exact hx.elim
  · simp only [List.mem_cons,List.not_mem_nil,or_false] at hq
    subst hq;exact hx.elim
theorem Sep.rdRaw (i : Nat) {p : Nat} {s : R8} {Z : Nat → Prop} {n : Int} (h : Sep w0 S M w) (hi : M[i]? = some (rdr 151 p s Z))
    (hk : ∀ a c w1,Sep w0 S (M.set i (rdr 151 p (s.rawS n) Z) ++ [byt (.slice a (s.rawV n).length c) (s.rawV n)]) w1→K (.slice a (s.rawV n).length c) w1) : callsK Tryz.prog 60 [.pointer (some ⟨p,0,none⟩),.int .i64 n].toArray w K:=by
  obtain ⟨h1,v,h2,h3⟩ :=h.rdAt hi
  refine Calls.mono (Go.Proofs.YtnhgjgoglmadnaaGreat.rraw p v s n w h2 h1) ?_
  rintro e w1 ⟨r,rfl,q,ho,hn⟩
  obtain ⟨a,c,rfl⟩ :=owns_shape ho
  refine ⟨_,rfl,hk a c w1 (h.rdQ_own hi (s.rawS_len n) (fun v' h2'=>?_) ho hn)⟩
  have e : v' = v:=by have a:=h2.c0;have b:=h2'.c0;rw [a] at b;injection b with b;exact b.symm
  rw [e];exact q
theorem Sep.rdDone (i : Nat) {p : Nat} {s : R8} {Z : Nat→Prop} (h : Sep w0 S M w) (hi : M[i]? = some (rdr 151 p s Z)) (hk : K (.int .i64 (if s.done then 0 else 2)) w) : callsK Tryz.prog 61 [.pointer (some ⟨p,0,none⟩)].toArray w K:=by
  obtain ⟨h1,v,h2,h3⟩ :=h.rdAt hi
  exact callsK_pure (Go.Proofs.YtnhgjgoglmadnaaGreat.rdone p v s w h2) hk
theorem Sep.rdLeft (i : Nat) {p : Nat} {s : R8} {Z : Nat→Prop} (h : Sep w0 S M w) (hi : M[i]? = some (rdr 151 p s Z)) (hk : K (.int .i64 s.left) w) : callsK Tryz.prog 84 [.pointer (some ⟨p,0,none⟩)].toArray w K:=by
  obtain ⟨h1,v,h2,h3⟩ :=h.rdAt hi
  exact callsK_pure (Go.Proofs.YtnhgjgoglmadnaaGreat.rleft p v s w h2) hk
theorem Sep.read {v : Value} (xs : List Int) (h : Sep w0 S M w) (hr : Rd w v xs) (hl : xs.length ≤ 10000000)
    (hk : ∀ p w1,Sep w0 S (M ++ [rdr 151 p ⟨xs,false⟩ (fun _=>False)]) w1→K (.pointer (some ⟨p,0,none⟩)) w1) : callsK Tryz.prog 41 [v].toArray w K:=by
  refine callsK_use (Go.Proofs.YtnhgjgoglmadnaaGreat.read v xs w hr hl) ?_
  rintro _ w1 ⟨p,v1,rfl,g1,g2,g3,g4⟩
  have hp:=lt_of_block g1.blk
  refine hk p w1 (h.push g2 (A:=fun x=>x = p∨(0 < xs.length∧v1.ownBlock = some x)) ⟨hl,?_,.inl rfl,v1,g1,fun hp k hk=>.inl (.inr ⟨hp,hk⟩)⟩ ?_ (fun _ f=>f.elim))
  · rintro x (rfl | ⟨hx,hk⟩)
    · exact hp
    · exact g1.lt hx x hk
  · rintro x (rfl | ⟨hx,hk⟩)
    · exact g3
    · exact g4 x hk
end
theorem nfF : type_of% (And.intro (And.intro (@Facts_cons) (And.intro (@Facts_nil) (@blk_fact))) (And.intro (And.intro (@row_fact) (@byt_fact)) (And.intro (@wr_fact) (@rdr_fact)))):=And.intro (And.intro (@Facts_cons) (And.intro (@Facts_nil) (@blk_fact))) (And.intro (And.intro (@row_fact) (@byt_fact)) (And.intro (@wr_fact) (@rdr_fact)))
theorem Zd {w0 w : World} {S : Nat→Prop} {M M' : List Res} (h : Sep w0 S M w) (e : M = M':=by first | (conv=>lhs;simp only [nfD]) | rfl) : Sep w0 S M' w:=e▸h
theorem Zf2 {w0 w : World} {S : Nat→Prop} {M : List Res} {P : Prop} (h : Sep w0 S M w) (e : Facts M w = P:=by first | (conv=>lhs;simp only [nfF,emp_fact,rds_fact,frm_fact,tab_fact]) | rfl) : P:=e▸h.facts
theorem Zf3 {w0 w : World} {S : Nat→Prop} {M : List Res} {P : Prop} (h : Sep w0 S M w) (e : Facts M w = P:=by first | (conv=>lhs;simp only [nfF,emp_fact,rds_fact,frm_fact,tab_fact,chn_fact]) | rfl) : P:=e▸h.facts
theorem Zf4 {w0 w : World} {S : Nat→Prop} {M : List Res} {P : Prop} (h : Sep w0 S M w) (e : Facts M w = P:=by first | (conv=>lhs;simp only [nfF,emp_fact,rds_fact,frm_fact,tab_fact,chn_fact,mapX_fact,two_fact]) | rfl) : P:=e▸h.facts
theorem Zf5 {w0 w : World} {S : Nat→Prop} {M : List Res} {P : Prop} (h : Sep w0 S M w) (e : Facts M w = P:=by first | (conv=>lhs;simp only [nfF,emp_fact,rds_fact,frm_fact,tab_fact,mpx_fact,rng_fact]) | rfl) : P:=e▸h.facts
theorem Zf6 {w0 w : World} {S : Nat→Prop} {M : List Res} {P : Prop} (h : Sep w0 S M w) (e : Facts M w = P:=by first | (conv=>lhs;simp only [nfF,emp_fact,rds_fact,frm_fact,tab_fact,mpx_fact,rng_fact,msh_fact,wls_fact]) | rfl) : P:=e▸h.facts
theorem Zf7 {w0 w : World} {S : Nat→Prop} {M : List Res} {P : Prop} (h : Sep w0 S M w) (e : Facts M w = P:=by first | (conv=>lhs;simp only [nfF,emp_fact,rds_fact,frm_fact,tab_fact,mpx_fact,rng_fact,msh_fact,wls_fact,row_fact]) | rfl) : P:=e▸h.facts
theorem Zs {G G' : Prop} (g : G') (e : G = G':=by first | (conv=>lhs;simp -dsimp only [↓vcA,vcB,vcD,↓pureT_lenS,↓iteT,↓iteF,cond_true,cond_false,eq_self,argE,Env.get,Env.push,ev,evs,evo,retV,Value.cells,Value.oneCell',setR,overR,fillL,zl,places,allSizes,heldC,ne_eq,Int.reduceLE,Int.reduceLT,Int.reduceEq,Int.reduceNe,Int.reduceToNat,Int.cast_ofNat_Int,Nat.reduceMul,Nat.reduceLeDiff,reduceIte,Nat.reduceEqDiff,Nat.reduceAdd,↓reduceIte,Tryz.vcT,F,h.cell0,gets,vsD,if_true,if_false,Bool.false_eq_true,Bool.not_false,Bool.not_true]) | rfl) : G:=e▸g
theorem Zs1 {G G' Q : Prop} (x : Q) (g : G') (e : Q→G = G':=by intro X1;first | (conv=>lhs;simp -dsimp only [↓vcA,vcB,vcD,↓pureT_lenS,↓iteT,↓iteF,cond_true,cond_false,eq_self,argE,Env.get,Env.push,ev,evs,evo,retV,Value.cells,Value.oneCell',setR,overR,fillL,zl,places,allSizes,heldC,ne_eq,Int.reduceLE,Int.reduceLT,Int.reduceEq,Int.reduceNe,Int.reduceToNat,Int.cast_ofNat_Int,Nat.reduceMul,Nat.reduceLeDiff,reduceIte,Nat.reduceEqDiff,Nat.reduceAdd,↓reduceIte,Tryz.vcT,F,h.cell0,gets,vsD,if_true,if_false,Bool.false_eq_true,Bool.not_false,Bool.not_true,X1]) | rfl) : G:=e x▸g
theorem Zc {G G' : Prop} (g : G') (e : G = G':=by first | (conv=>lhs;simp -dsimp only [↓vcA,vcB,vcD,↓pureT_lenS,↓iteT,↓iteF,cond_true,cond_false,eq_self,argE,Env.get,Env.push,ev,evs,evo,retV,Value.cells,Value.oneCell',setR,overR,fillL,zl,places,allSizes,heldC,ne_eq,Int.reduceLE,Int.reduceLT,Int.reduceEq,Int.reduceNe,Int.reduceToNat,Int.cast_ofNat_Int,Nat.reduceMul,Nat.reduceLeDiff,reduceIte,Nat.reduceEqDiff,Nat.reduceAdd,↓reduceIte,Tryz.vcT,F,h.cell0,gets,vsD,if_true,if_false,Bool.false_eq_true,cellsAt,Bool.not_false,Bool.not_true]) | rfl) : G:=e▸g
theorem Zc1 {G G' Q : Prop} (x : Q) (g : G') (e : Q→G = G':=by intro X1;first | (conv=>lhs;simp -dsimp only [↓vcA,vcB,vcD,↓pureT_lenS,↓iteT,↓iteF,cond_true,cond_false,eq_self,argE,Env.get,Env.push,ev,evs,evo,retV,Value.cells,Value.oneCell',setR,overR,fillL,zl,places,allSizes,heldC,ne_eq,Int.reduceLE,Int.reduceLT,Int.reduceEq,Int.reduceNe,Int.reduceToNat,Int.cast_ofNat_Int,Nat.reduceMul,Nat.reduceLeDiff,reduceIte,Nat.reduceEqDiff,Nat.reduceAdd,↓reduceIte,Tryz.vcT,F,h.cell0,gets,vsD,if_true,if_false,Bool.false_eq_true,cellsAt,Bool.not_false,Bool.not_true,X1]) | rfl) : G:=e x▸g
theorem rval_rng : ∀ (n : Nat) (xs : List Int),xs.length = n→n≤7→Byt xs→0≤xs.foldl rstep 0∧xs.foldl rstep 0 < 256 ^ n
  | 0,xs,h,_,_=>by
    have : xs = []:=List.eq_nil_of_length_eq_zero h
    subst this;simp
  | n + 1,xs,h,h7,hb=>by
    have hne : xs≠[]:=by intro e;subst e;simp at h
    obtain ⟨ys,y,rfl⟩ : ∃ ys y,xs = ys ++ [y]:=⟨xs.dropLast,xs.getLast hne,(List.dropLast_concat_getLast hne).symm⟩
    simp at h
    obtain ⟨k1,k2⟩ :=rval_rng n ys h (by omega) fun x hx=>hb x (by simp [hx])
    have hy:=hb y (by simp)
    rw [List.foldl_append]
    simp only [List.foldl_cons,List.foldl_nil]
    have hp : (256 : Int) ^ (n + 1) = 256 ^ n * 256:=Int.pow_succ _ _
    have hle : (256 : Int) ^ n≤281474976710656:=by
      have hn : n = 0∨n = 1∨n = 2∨n = 3∨n = 4∨n = 5∨n = 6:=by omega
      rcases hn with rfl | rfl | rfl | rfl | rfl | rfl | rfl<;>decide
    rw [rstep_eq k1 hy (by omega),hp]
    omega
theorem numV_rng (s : R8) (k : Nat) (h1 : 1≤k) (h7 : k≤7) (hb : Byt s.l) : 0≤s.numV k∧s.numV k < 256 ^ k:=by
  by_cases hno : s.bad = true∨(k : Int) < 1∨7 < (k : Int)∨(s.l.length : Int) < k
  · obtain ⟨e,_⟩ :=s.num_no k hno
    rw [e]
    exact ⟨Int.le_refl _,Int.pow_pos (by decide)⟩
  · have hbd : s.bad = false:=by cases h : s.bad<;>simp [h] at hno ⊢
    obtain ⟨e,_⟩ :=s.num_yes k hbd h1 h7 (by omega)
    rw [e]
    exact rval_rng k _ (by simp;omega) h7 fun x hx=>hb x (List.mem_of_mem_take hx)
theorem num1_rng (s : R8) (hb : Byt s.l) : 0≤s.numV 1∧s.numV 1≤255:=by
  have:=numV_rng s 1 (by omega) (by omega) hb
  have e : (256 : Int) ^ 1 = 256:=by decide
  rw [e] at this;have e2 : ((1 : Nat) : Int) = 1:=rfl
  rw [e2] at this;omega
theorem num2_rng (s : R8) (hb : Byt s.l) : 0≤s.numV 2∧s.numV 2≤65535:=by
  have:=numV_rng s 2 (by omega) (by omega) hb
  have e : (256 : Int) ^ 2 = 65536:=by decide
  rw [e] at this;have e2 : ((2 : Nat) : Int) = 2:=rfl
  rw [e2] at this;omega
theorem num3_rng (s : R8) (hb : Byt s.l) : 0≤s.numV 3∧s.numV 3 < 16777216:=by
  have:=numV_rng s 3 (by omega) (by omega) hb
  have e : (256 : Int) ^ 3 = 16777216:=by decide
  rw [e] at this;have e2 : ((3 : Nat) : Int) = 3:=rfl
  rw [e2] at this;omega
theorem num4_rng (s : R8) (hb : Byt s.l) : 0≤s.numV 4∧s.numV 4 < 4294967296:=by
  have:=numV_rng s 4 (by omega) (by omega) hb
  have e : (256 : Int) ^ 4 = 4294967296:=by decide
  rw [e] at this;have e2 : ((4 : Nat) : Int) = 4:=rfl
  rw [e2] at this;omega
theorem numS_byt (s : R8) (n : Int) (hb : Byt s.l) : Byt (s.numS n).l:=by
  unfold R8.numS R8.rawS
  have e : (s.sz n).l = s.l:=by unfold R8.sz;split<;>rfl
  split
  · rw [e];exact hb
  · rw [e];exact fun x hx=>hb x (List.mem_of_mem_drop hx)
theorem rawS_byt (s : R8) (n : Int) (hb : Byt s.l) : Byt (s.rawS n).l∧Byt (s.rawV n):=by
  unfold R8.rawS R8.rawV
  split
  · exact ⟨hb,Byt.nil⟩
  · exact ⟨fun x hx=>hb x (List.mem_of_mem_drop hx),fun x hx=>hb x (List.mem_of_mem_take hx)⟩
theorem ptS_byt (s : R8) (hb : Byt s.l) : Byt s.ptS.l:=numS_byt _ 3 (numS_byt s 3 hb)
theorem ptV_rng (s : R8) (hb : Byt s.l) : (0≤s.ptV.1∧s.ptV.1 < 16777216)∧0≤s.ptV.2∧s.ptV.2 < 16777216:=by
  unfold R8.ptV
  split
  · exact ⟨⟨by decide,by decide⟩,by decide,by decide⟩
  · exact ⟨num3_rng s hb,num3_rng _ (numS_byt s 3 hb)⟩
theorem tS3_byt (s : R8) (hb : Byt s.l) : Byt s.tS3.l:=ptS_byt _ (ptS_byt _ (ptS_byt s hb))
theorem triS_byt (s : R8) (hb : Byt s.l) : Byt s.triS.l:=by
  unfold R8.triS;split
  · exact tS3_byt s hb
  · split<;>exact tS3_byt s hb
def T3.rng (t : T3) : Prop:=((0≤t.ax∧t.ax < 16777216)∧0≤t.ay∧t.ay < 16777216)∧((0≤t.bx∧t.bx < 16777216)∧0≤t.by'∧t.by' < 16777216)∧(0≤t.cx∧t.cx < 16777216)∧0≤t.cy∧t.cy < 16777216
theorem triV_rng (s : R8) (hb : Byt s.l) : s.triV.rng:=by
  have z : T3.zero.rng:=by simp [T3.rng,T3.zero]
  unfold R8.triV
  split
  · exact z
  · split
    · exact ⟨ptV_rng s hb,ptV_rng _ (ptS_byt s hb),ptV_rng _ (ptS_byt _ (ptS_byt s hb))⟩
    · exact z
theorem R8.left_pos {s : R8} (h : 0 < s.left) : s.bad = false∧s.l≠[]:=by
  unfold R8.left at h
  cases hb : s.bad with
  | true=>simp [hb] at h
  | false=>refine ⟨rfl,fun e=>?_⟩;simp [hb,e] at h
def emp : Res where
  on _ A:=A = fun _=>False
  rd _:=False
  fact _:=True
  lt:=fun h x hx=>by subst h;exact hx.elim
  chg:=fun h _ _=>h
  ok:=fun _=>trivial
theorem emp_fact (w : World) : emp.fact w = True:=(rfl)
theorem Has.take : ∀ {M : List Res} {F : Nat→Prop} {w : World} {j : Nat} {r : Res},Has M F w→M[j]? = some r→∃ B,r.on w B∧(∀ x,B x→F x)∧Has (M.set j emp) (fun x=>F x∧¬ B x) w
  | [],_,_,_,_,_,hj=>by simp at hj
  | q :: M,F,w,0,r,⟨A,h1,h2,h3⟩,hj=>by
    simp at hj;subst hj
    exact ⟨A,h1,h2,fun _=>False,rfl,fun _ f=>f.elim,Has.append.Has.wide h3 fun x hx=>⟨hx,id⟩⟩
  | q :: M,F,w,j + 1,r,⟨A,h1,h2,h3⟩,hj=>by
    simp at hj
    obtain ⟨B,g1,g2,g3⟩ :=Has.take h3 hj
    exact ⟨B,g1,fun x hx=>(g2 x hx).1,A,h1,fun x hx=>⟨h2 x hx,fun hB=>(g2 x hB).2 hx⟩,Has.append.Has.wide g3 fun x hx=>⟨⟨hx.1.1,hx.2⟩,hx.1.2⟩⟩
theorem Has.give : ∀ {M : List Res} {F B : Nat → Prop} {w : World} {i : Nat} {r : Res}, Has M (fun x => F x ∧ ¬ B x) w → M[i]? = some r → (∀ x, B x → F x) →
    ∃ A,r.on w A∧(∀ x,A x→F x∧¬ B x)∧∀ r',r'.on w (fun x=>A x∨B x)→Has (M.set i r') F w
  | [],_,_,_,_,_,_,hi,_=>by simp at hi
  | q :: M,F,B,w,0,r,⟨A,h1,h2,h3⟩,hi,hB=>by
    simp at hi;subst hi
    exact ⟨A,h1,h2,fun r' hr=>⟨_,hr,fun x hx=>hx.elim (fun hx=>(h2 x hx).1) (hB x),Has.append.Has.wide h3 fun x hx=>⟨hx.1.1,fun h=>h.elim hx.2 hx.1.2⟩⟩⟩
  | q :: M,F,B,w,i + 1,r,⟨A,h1,h2,h3⟩,hi,hB=>by
    simp at hi
    have h3' : Has M (fun x=>(F x∧¬ A x)∧¬ B x) w:=Has.append.Has.wide h3 fun x hx=>⟨⟨hx.1.1,hx.2⟩,hx.1.2⟩
    obtain ⟨C,g1,g2,g3⟩ :=Has.give h3' hi (fun x hx=>⟨hB x hx,fun hA=>(h2 x hA).2 hx⟩)
    exact ⟨C,g1,fun x hx=>⟨(g2 x hx).1.1,(g2 x hx).2⟩,fun r' hr=>⟨A,h1,fun x hx=>(h2 x hx).1,g3 r' hr⟩⟩
section
variable {w0 w : World} {S : Nat→Prop} {M : List Res}
theorem Sep.join (i j : Nat) {r q r' : Res} (h : Sep w0 S M w) (hi : (M.set j emp)[i]? = some r) (hj : M[j]? = some q) (hc : ∀ A B, r.on w A → q.on w B → (∀ x, A x → ¬ B x) → r'.on w (fun x => A x ∨ B x)) (hr : ∀ x, r'.rd x → r.rd x ∨ q.rd x) :
    Sep w0 S ((M.set j emp).set i r') w:=by
  obtain ⟨B,g1,g2,g3⟩ :=h.has.take hj
  obtain ⟨A,k1,k2,k3⟩ :=Has.give g3 hi g2
  refine ⟨h.chg,k3 r' (hc A B k1 g1 fun x hx=>(k2 x hx).2),fun p hp=>?_⟩
  have hq:=List.mem_of_getElem? hj
  have hm : ∀ p ∈ M.set j emp,∀ x,p.rd x→¬ (S x∨w0.heap.size≤x):=fun p hp=>by
    rcases mem_set hp with hp | hp
    · exact h.rd p hp
    · subst hp;exact fun x hx=>hx.elim
  rcases mem_set hp with hp | hp
  · exact hm p hp
  · subst hp
    exact fun x hx=>(hr x hx).elim (fun hx=>hm r (List.mem_of_getElem? hi) x hx) (fun hx=>h.rd q hq x hx)
theorem Sep.split (i : Nat) {r : Res} (h : Sep w0 S M w) (hi : M[i]? = some r) : ∃ A,r.on w A∧∀ r' q B C,r'.on w B→q.on w C→(∀ x,B x→A x)→(∀ x,C x→A x∧¬ B x)→(∀ x,r'.rd x→r.rd x)→(∀ x,q.rd x→r.rd x)→Sep w0 S (M.set i r' ++ [q]) w:=by
  obtain ⟨A,h1,h2,_,h3⟩ :=h.embed1 hi
  refine ⟨A,h1,fun r' q B C k1 k2 k3 k4 k5 k6=>h3 r' [q] w ⟨Chg.refl _ _,⟨B,k1,fun x hx=>.inl (k3 x hx),C,k2,fun x hx=>⟨.inl (k4 x hx).1,(k4 x hx).2⟩,trivial⟩,fun p hp x hx=>?_⟩ k5 (fun p hp x hx=>?_)⟩
  · simp only [List.mem_cons,List.not_mem_nil,or_false] at hp
    rcases hp with rfl | rfl
    · exact h2 x (k5 x hx)
    · exact h2 x (k6 x hx)
  · simp only [List.mem_cons,List.not_mem_nil,or_false] at hp
    subst hp;exact k6 x hx
end
def rds (u : Value) (ys : List Int) : Res where
  on w A:=(∀ x,A x→x < w.heap.size)∧Rd w u ys∧(0 < ys.length→∀ k,u.ownBlock = some k→A k)
  rd _:=False
  fact w:=Rd w u ys
  lt:=fun h=>h.1
  chg:=fun {w w' A} ⟨h1,h2,h3⟩ hs hc=>⟨fun x hx=>Nat.lt_of_lt_of_le (h1 x hx) hs,h2.same fun hp k hk hl=>hc k hl (.inl (h3 hp k hk)),h3⟩
  ok:=fun h=>h.2.1
theorem rds_fact (u : Value) (ys : List Int) (w : World) : (rds u ys).fact w = Rd w u ys:=(rfl)
def Frs (w : World) (v : Value) (ls : List (List Int)) : Prop:=∃ us,Row 1 w v us.length us∧us.length = ls.length∧∀ (i : Nat) (u : Value) (l : List Int),us[i]? = some u→ls[i]? = some l→Rd w u l
theorem Frs.shape {w : World} {v : Value} {ls : List (List Int)} (h : Frs w v ls) : ∃ a c,v = .slice a ls.length c:=by
  obtain ⟨us,h1,h2,_⟩ :=h
  obtain ⟨a,c,e,_⟩ :=h1.shape
  exact ⟨a,c,by rw [e,h2]⟩
theorem Frs.len {w : World} {v : Value} {ls : List (List Int)} (h : Frs w v ls) : ls.length≤maxLen:=by
  obtain ⟨us,h1,h2,_⟩ :=h
  obtain ⟨a,c,e,h3,h4,_⟩ :=h1.shape
  omega
theorem Frs.nil (w : World) : Frs w (.slice none 0 0) []:=⟨[],Row.nil 1 w,rfl,fun i u l h=>by simp at h⟩
theorem Frs.at {w : World} {a : Option Addr} {n c : Nat} {ls : List (List Int)} (h : Frs w (.slice a n c) ls) {i : Nat} (hi : i < ls.length) :
    ∃ b o u,a = some ⟨b,o,none⟩ ∧w.cell? ⟨b,o + i,none⟩ = some u∧Rd w u ls[i]:=by
  obtain ⟨us,h1,h2,h3⟩ :=h
  obtain ⟨a',c',e,h4,h5,h6,h7⟩ :=h1.shape
  obtain ⟨b,o,rfl,hc⟩ :=h7 (by omega)
  injection e with e1 e2 e3
  have hu : us[i]? = some us[i]:=List.getElem?_eq_getElem (by omega)
  exact ⟨b,o,us[i],e1,hc i _ hu,h3 i _ _ hu (List.getElem?_eq_getElem hi)⟩
theorem Frs.sep {w0 w : World} {M : List Res} {v : Value} {ls : List (List Int)} (h : Frs w0 v ls) (hh : Sep w0 (fun _=>False) M w) : Frs w v ls:=by
  obtain ⟨us,h1,h2,h3⟩ :=h
  exact ⟨us,h1.sep hh fun _ _=>id,h2,fun i u l hu hl=>(h3 i u l hu hl).sep hh fun _ _=>id⟩
def frm (v : Value) (ls : List (List Int)) : Res where
  on w A:=(∀ x,A x→x < w.heap.size)∧∃ us,w.ownsRow 0 35 1 v us.length us∧(∀ k,v.ownBlock = some k→A k)∧us.length = ls.length∧(∀ u ∈ us,u.oneCell' = true)∧
    ∀ (i : Nat) (u : Value) (l : List Int),us[i]? = some u→ls[i]? = some l→Rd w u l∧(0 < l.length→∀ k,u.ownBlock = some k→A k∧v.ownBlock≠some k)
  rd _:=False
  fact w:=Frs w v ls
  lt:=fun h=>h.1
  chg:=fun {w w' A} ⟨h1,us,h2,h3,h4,h5,h6⟩ hs hc=>⟨fun x hx=>Nat.lt_of_lt_of_le (h1 x hx) hs,us,owns_same h2 fun k hk=>hc k (h1 k (h3 k hk)) (.inl (h3 k hk)),h3,h4,h5,fun i u l hu hl=>
    ⟨(h6 i u l hu hl).1.same fun hp k hk hlt=>hc k hlt (.inl ((h6 i u l hu hl).2 hp k hk).1),(h6 i u l hu hl).2⟩⟩
  ok:=fun ⟨h1,us,h2,h3,h4,h5,h6⟩ =>⟨us,row_of_owns h2 h5,h4,fun i u l hu hl=>(h6 i u l hu hl).1⟩
theorem frm_fact (v : Value) (ls : List (List Int)) (w : World) : (frm v ls).fact w = Frs w v ls:=(rfl)
theorem Has.give2 : ∀ {M : List Res} {F B : Nat → Prop} {w : World} {i : Nat} {r : Res}, Has M (fun x => F x ∧ ¬ B x) w → M[i]? = some r → (∀ x, B x → F x) → (∀ x, B x → x < w.heap.size) → (∀ q ∈ M, ∀ x, q.rd x → ¬ F x) → (∀ x, w.heap.size ≤ x → F x) →
    ∃ A,r.on w A∧(∀ x,A x→F x∧¬ B x)∧∀ r' A' w',r'.on w' A'→(∀ x,A' x→A x∨B x∨w.heap.size≤x)→Chg A w w'→Has (M.set i r') F w'
  | [],_,_,_,_,_,_,hi,_,_,_,_=>by simp at hi
  | q :: M,F,B,w,0,r,⟨A,h1,h2,h3⟩,hi,hB,hBl,hr,hN=>by
    simp at hi;subst hi
    refine ⟨A,h1,h2,fun r' A' w' hr' hA' hc=>⟨A',hr',fun x hx=>(hA' x hx).elim (fun hx=>(h2 x hx).1) fun hx=>hx.elim (hB x) (hN x),?_⟩⟩
    refine Has.other h3 hc.size (fun x hx hl=>⟨hx.1.1,fun h=>(hA' x h).elim hx.2 fun h=>h.elim hx.1.2 fun h=>by omega⟩) (fun x hl hx=>hc.block x hl hx.2) (fun p hp x hl hx=>hc.block x hl fun hA=>hr p (.tail _ hp) x hx (h2 x hA).1)
  | q :: M,F,B,w,i + 1,r,⟨A,h1,h2,h3⟩,hi,hB,hBl,hr,hN=>by
    simp at hi
    have h3' : Has M (fun x=>(F x∧¬ A x)∧¬ B x) w:=Has.append.Has.wide h3 fun x hx=>⟨⟨hx.1.1,hx.2⟩,hx.1.2⟩
    obtain ⟨C,g1,g2,g3⟩ :=Has.give2 h3' hi (fun x hx=>⟨hB x hx,fun hA=>(h2 x hA).2 hx⟩) hBl (fun p hp x hx hF=>hr p (.tail _ hp) x hx hF.1) (fun x hx=>⟨hN x hx,fun hA=>by have:=q.lt h1 x hA;omega⟩)
    refine ⟨C,g1,fun x hx=>⟨(g2 x hx).1.1,(g2 x hx).2⟩,fun r' A' w' hr' hA' hc=>⟨A,q.chg h1 hc.size fun x hl hx=>hc.block x hl fun hC=>?_,fun x hx=>(h2 x hx).1,g3 r' A' w' hr' hA' hc⟩⟩
    rcases hx with hx | hx
    · exact (g2 x hC).1.2 hx
    · exact hr q (.head _) x hx (g2 x hC).1.1
theorem Sep.at2 (i j : Nat) {w0 w : World} {S : Nat → Prop} {M : List Res} {r q : Res} (h : Sep w0 S M w) (hi : (M.set j emp)[i]? = some r) (hj : M[j]? = some q) :
    ∃ A B,r.on w A∧q.on w B∧(∀ x,A x→¬ B x)∧∀ r' A' w',r'.on w' A'→(∀ x,A' x→A x∨B x∨w.heap.size≤x)→Chg A w w'→(∀ x,¬ r'.rd x)→Sep w0 S ((M.set j emp).set i r') w':=by
  obtain ⟨B,g1,g2,g3⟩ :=h.has.take hj
  have hm : ∀ p ∈ M.set j emp,∀ x,p.rd x→¬ (S x∨w0.heap.size≤x):=fun p hp=>by
    rcases mem_set hp with hp | hp
    · exact h.rd p hp
    · subst hp;exact fun x hx=>hx.elim
  obtain ⟨A,k1,k2,k3⟩ :=Has.give2 g3 hi g2 (fun x hx=>q.lt g1 x hx) hm h.up
  refine ⟨A,B,k1,g1,fun x hx=>(k2 x hx).2,fun r' A' w' hr' hA' hc hn=>⟨h.chg.trans hc fun x hx=>(k2 x hx).1 |>.elim (fun h=>.inl (.inl h)) .inr,k3 r' A' w' hr' hA' hc,fun p hp=>?_⟩⟩
  rcases mem_set hp with hp | hp
  · exact hm p hp
  · subst hp;exact fun x hx=>(hn x hx).elim
def cellsI (x : List Int) : List Value:=x.map (Value.int .i64)
def flatT (xs : List (List Int)) : List Value:=xs.flatMap cellsI
theorem cellsI_len (x : List Int) : (cellsI x).length = x.length:=by simp [cellsI]
theorem cellsI_one {x : List Int} {u : Value} (h : u ∈ cellsI x) : u.oneCell' = true:=by
  obtain ⟨y,_,rfl⟩ :=List.mem_map.1 h;rfl
theorem flatT_one {xs : List (List Int)} {u : Value} (h : u ∈ flatT xs) : u.oneCell' = true:=by
  obtain ⟨x,_,hx⟩ :=List.mem_flatMap.1 h
  exact cellsI_one hx
theorem flatT_len {s : Nat} : ∀ {xs : List (List Int)},(∀ x ∈ xs,x.length = s)→(flatT xs).length = xs.length * s
  | [],_=>by simp [flatT]
  | x :: xs,h=>by
    have h1:=h x (by simp)
    have h2:=flatT_len (xs:=xs) fun y hy=>h y (by simp [hy])
    have e : flatT (x :: xs) = cellsI x ++ flatT xs:=rfl
    rw [e,List.length_append,cellsI_len,h1,h2,List.length_cons,Nat.succ_mul];omega
theorem flatT_at {s : Nat} : ∀ {xs : List (List Int)} {i : Nat} (h : i < xs.length),(∀ x ∈ xs,x.length = s)→((flatT xs).drop (i * s)).take s = cellsI xs[i]
  | x :: xs,0,h,hs=>by
    have h1:=hs x (by simp)
    simp only [Nat.zero_mul,List.drop_zero,flatT,List.flatMap_cons,List.getElem_cons_zero]
    rw [List.take_append_of_le_length (by rw [cellsI_len,h1];exact Nat.le_refl _),List.take_of_length_le (by rw [cellsI_len,h1];exact Nat.le_refl _)]
  | x :: xs,i + 1,h,hs=>by
    have h1:=hs x (by simp)
    have e : (i + 1) * s = (cellsI x).length + i * s:=by rw [cellsI_len,h1,Nat.succ_mul];omega
    simp only [flatT,List.flatMap_cons,List.getElem_cons_succ]
    rw [e,← List.drop_drop,List.drop_append_of_le_length (Nat.le_refl _),List.drop_length,List.nil_append]
    exact flatT_at (by simpa using h) fun y hy=>hs y (by simp [hy])
theorem Row.cellsAt {w : World} {s : Nat} {a : Option Addr} {m n c : Nat} {cs : List Value} (h : Row s w (.slice a m c) n cs) {i : Nat} (hi : i < n) (hs : 0 < s) :
    ∃ b o,a = some ⟨b,o,none⟩ ∧cellsAt w b (o + i * s) s = some ((cs.drop (i * s)).take s):=by
  have hlen:=h.len
  obtain ⟨a',c',e,h4,h5,h6,h7⟩ :=h.shape
  injection e with e1 e2 e3
  obtain ⟨b,o,e4,hc⟩ :=h7 (by omega)
  refine ⟨b,o,by rw [e1,e4],?_⟩
  have hle : i * s + s≤cs.length:=by rw [hlen,← Nat.succ_mul];exact Nat.mul_le_mul_right s hi
  have hl : ((cs.drop (i * s)).take s).length = s:=by simp;omega
  have:=cellsAt_of (w:=w) (b:=b) (o:=o + i * s) ((cs.drop (i * s)).take s) (fun j u hj=>by
    have hjl:=(List.getElem?_eq_some_iff.1 hj).1
    rw [hl] at hjl
    rw [List.getElem?_take_of_lt hjl,List.getElem?_drop] at hj
    rw [Nat.add_assoc];exact hc _ _ hj)
  rw [hl] at this
  exact this
structure Tab (s : Nat) (w : World) (v : Value) (xs : List (List Int)) : Prop where
  wid : ∀ x ∈ xs,x.length = s
  row : Row s w v xs.length (flatT xs)
theorem Tab.shape {s : Nat} {w : World} {v : Value} {xs : List (List Int)} (h : Tab s w v xs) : ∃ a c,v = .slice a xs.length c:=by
  obtain ⟨a,c,e,_⟩ :=h.row.shape
  exact ⟨a,c,e⟩
theorem Tab.len {s : Nat} {w : World} {v : Value} {xs : List (List Int)} (h : Tab s w v xs) : xs.length≤maxLen:=by
  obtain ⟨a,c,e,h3,h4,_⟩ :=h.row.shape
  omega
theorem Tab.nil (s : Nat) (w : World) : Tab s w (.slice none 0 0) []:=⟨fun _ h=>(by cases h),Row.nil s w⟩
theorem Tab.at {s : Nat} {w : World} {a : Option Addr} {m c : Nat} {xs : List (List Int)} (h : Tab s w (.slice a m c) xs) {i : Nat} (hi : i < xs.length) (hs : 0 < s) :
    ∃ b o,a = some ⟨b,o,none⟩ ∧cellsAt w b (o + i * s) s = some (cellsI xs[i]):=by
  obtain ⟨b,o,e,hc⟩ :=h.row.cellsAt hi hs
  rw [flatT_at hi h.wid] at hc
  exact ⟨b,o,e,hc⟩
theorem Tab.chg {S : Nat→Prop} {s : Nat} {w w' : World} {v : Value} {xs : List (List Int)} (h : Tab s w v xs) (hc : Chg S w w') (hn : ∀ k,v.ownBlock = some k→¬ S k) : Tab s w' v xs:=⟨h.wid,h.row.chg hc hn⟩
theorem Tab.sep {s : Nat} {w0 w : World} {S : Nat→Prop} {M : List Res} {v : Value} {xs : List (List Int)} (h : Tab s w0 v xs) (hh : Sep w0 S M w) (hS : ∀ k,v.ownBlock = some k→¬ S k) : Tab s w v xs:=⟨h.wid,h.row.sep hh hS⟩
def tab (e s : Nat) (v : Value) (xs : List (List Int)) : Res where
  on w A:=(∀ x ∈ xs,x.length = s)∧w.ownsRow 0 e s v xs.length (flatT xs)∧A = fun x=>v.ownBlock = some x
  rd _:=False
  fact w:=Tab s w v xs
  lt:=fun ⟨_,h,e⟩ x hx=>by subst e;exact (World.ownsRow.lt h x hx).2
  chg:=fun {w w' A} ⟨h0,h,e⟩ hs hc=>⟨h0,owns_same h fun k hk=>hc k (World.ownsRow.lt h k hk).2 (.inl (by rw [e];exact hk)),e⟩
  ok:=fun ⟨h0,h,_⟩ =>⟨h0,row_of_owns h fun u hu=>flatT_one hu⟩
theorem tab_fact (e s : Nat) (v : Value) (xs : List (List Int)) (w : World) : (tab e s v xs).fact w = Tab s w v xs:=(rfl)
theorem Sep.tabNil (e s : Nat) {w0 w : World} {S : Nat→Prop} {M : List Res} (h : Sep w0 S M w) : Sep w0 S (M ++ [tab e s (.slice none 0 0) []]) w:=
  h.push (Chg.refl _ _) (A:=fun _=>False) ⟨fun _ h=>(by cases h),World.ownsRow_nil _ _ _ _,by funext x;simp [Value.ownBlock]⟩ (fun _ f=>f.elim) (fun _ f=>f.elim)
theorem Sep.appTab (i k : Nat) {P : Program} {t e : TypeId} {z : Value} {s by' : Nat} (hinf : (P.info? e).map (fun i => (i.zero, i.size, i.bytes)) = some (some z, s, by')) (ht : P.underlying t = some (.slice e)) (hzs : z.cells.size = s) (hs : 0 < s)
    {w0 w : World} {S : Nat→Prop} {M : List Res} {b : Nat} {v : Value} {xs : List (List Int)} (x : List Int) {ty : TypeId} {K : Value→World→Prop} (h : Sep w0 S M w) (hi : M[i]? = some (tab e s v xs)) (hk : M[k]? = some (blk b e (cellsI x))) (hx : x.length = s)
    (hl : (xs.length + 1) * by'≤140737488355328) (h63 : xs.length + 1≤maxLen)
    (hK : ∀ a c w',Sep w0 S (M.set i (tab e s (.slice a (xs ++ [x]).length c) (xs ++ [x]))) w'→K (.slice a (xs ++ [x]).length c) w') : RunK P (Builtin.append_ #[t,t] ty #[v,.slice (some ⟨b,0,none⟩) 1 1]) w K:=by
  obtain ⟨C,⟨c1,_⟩,_,_⟩ :=h.at hk
  obtain ⟨A,⟨h0,h1,rfl⟩,_,h3⟩ :=h.at hi
  have hrow : Row s w (.slice (some ⟨b,0,none⟩) 1 1) 1 (cellsI x):=⟨by rw [cellsI_len,hx,Nat.one_mul],fun u hu=>cellsI_one hu,_,_,rfl,Nat.le_refl _,by simp [maxLen],fun e=>by (cases e),fun _=>⟨b,0,rfl,fun j u hj=>by rw [cell_of_row w b _ _ _ _ c1,Nat.zero_add];simpa using hj⟩⟩
  refine append_rule hinf ht hzs hs h1 hrow hl h63 fun v' w' ho hg hat=>?_
  have hsh : ∃ a c,v' = .slice a (xs.length + 1) c:=by
    rcases ho.2 with ⟨rfl,hz⟩ | ⟨g,cap,cur,rfl,_⟩
    · exact ⟨none,0,by rw [hz]⟩
    · exact ⟨_,_,rfl⟩
  obtain ⟨a,c,rfl⟩ :=hsh
  have el : (xs ++ [x]).length = xs.length + 1:=by simp
  have ef : flatT (xs ++ [x]) = flatT xs ++ cellsI x:=by simp [flatT]
  have:=hK a c w' (h3 _ _ w' ⟨fun y hy=>(List.mem_append.1 hy).elim (h0 y) fun hy=>by simp at hy;subst hy;exact hx,by rw [el,ef];exact ho,rfl⟩ (fun y hy=>?_) (Chg.ofGrown hg) (fun _ f=>f))
  · rw [el] at this;exact this
  · rw [el] at hy
    rcases hat with e | e
    · exact .inl (by rw [← e];exact hy)
    · rw [hy] at e;injection e with e;exact .inr (by omega)
theorem Sep.wrMono' (i : Nat) {w0 w : World} {S : Nat→Prop} {M : List Res} {t p k : Nat} {s : W8} (k' : Nat) (h : Sep w0 S M w) (hi : M[i]? = some (wr t p s k)) (hk : k≤k') : Sep w0 S (M.set i (wr t p s k')) w:=
  h.conv i hi (fun A ⟨h1,h2,h3⟩ =>⟨Nat.le_trans h1 hk,h2,h3⟩) (fun _ f=>f)
structure Ch where
  t : Int
  d : Bool
  b : List Int
def Chn (w : World) (v : Value) (cs : List Ch) : Prop:=∃ us : List Value,us.length = cs.length∧Row 3 w v cs.length (((cs.zip us).flatMap fun p=>[.int .i64 p.1.t,.bool p.1.d,p.2]) : List Value)∧∀ (i : Nat) (u : Value) (c : Ch),us[i]? = some u→cs[i]? = some c→Rd w u c.b
def cellsC (p : Ch×Value) : List Value:=[.int .i64 p.1.t,.bool p.1.d,p.2]
theorem cellsC_at : ∀ {ps : List (Ch×Value)} {i : Nat} (h : i < ps.length),((ps.flatMap cellsC).drop (i * 3)).take 3 = cellsC ps[i]
  | p :: ps,0,h=>by simp [cellsC]
  | p :: ps,i + 1,h=>by
    have e : (i + 1) * 3 = (cellsC p).length + i * 3:=by simp [cellsC];omega
    simp only [List.flatMap_cons,List.getElem_cons_succ]
    rw [e,← List.drop_drop,List.drop_append_of_le_length (Nat.le_refl _),List.drop_length,List.nil_append]
    exact cellsC_at (by simpa using h)
theorem Chn.shape {w : World} {v : Value} {cs : List Ch} (h : Chn w v cs) : ∃ a c,v = .slice a cs.length c:=by
  obtain ⟨us,_,h1,_⟩ :=h
  obtain ⟨a,c,e,_⟩ :=h1.shape
  exact ⟨a,c,e⟩
theorem Chn.len {w : World} {v : Value} {cs : List Ch} (h : Chn w v cs) : cs.length≤maxLen:=by
  obtain ⟨us,_,h1,_⟩ :=h
  obtain ⟨a,c,e,h3,h4,_⟩ :=h1.shape
  omega
theorem Chn.nil (w : World) : Chn w (.slice none 0 0) []:=⟨[],rfl,Row.nil 3 w,fun i u c h=>by simp at h⟩
theorem Chn.at {w : World} {a : Option Addr} {m c : Nat} {cs : List Ch} (h : Chn w (.slice a m c) cs) {i : Nat} (hi : i < cs.length) :
    ∃ b o u,a = some ⟨b,o,none⟩ ∧cellsAt w b (o + i * 3) 3 = some [.int .i64 cs[i].t,.bool cs[i].d,u]∧Rd w u cs[i].b:=by
  obtain ⟨us,hl,h1,h2⟩ :=h
  obtain ⟨b,o,e,hc⟩ :=h1.cellsAt hi (by decide)
  have hz : i < (cs.zip us).length:=by simp;omega
  have:=cellsC_at hz
  simp only [cellsC] at this
  rw [show (fun p : Ch×Value=>([.int .i64 p.1.t,.bool p.1.d,p.2] : List Value)) = cellsC from rfl] at hc
  rw [cellsC_at hz] at hc
  refine ⟨b,o,us[i]'(by omega),e,?_,h2 i _ _ (List.getElem?_eq_getElem (by omega)) (List.getElem?_eq_getElem hi)⟩
  rw [hc];simp [cellsC]
theorem Chn.sep {w0 w : World} {M : List Res} {v : Value} {cs : List Ch} (h : Chn w0 v cs) (hh : Sep w0 (fun _=>False) M w) : Chn w v cs:=by
  obtain ⟨us,h1,h2,h3⟩ :=h
  exact ⟨us,h1,h2.sep hh fun _ _=>id,fun i u c hu hc=>(h3 i u c hu hc).sep hh fun _ _=>id⟩
set_option maxRecDepth 100000
set_option linter.unusedSimpArgs false
structure S24 where
  dead : Bool
  l : List Int
section
variable {w0 w : World} {S : Nat→Prop} {M : List Res} {K : Value→World→Prop}
end
end Go.Proofs.YtnhgjgoglmadnaaGreat
