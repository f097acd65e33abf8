/- Joined texts of this claim (part 16), printed by a program of this work. The last part holds the claimed theorem: the law answers true at every input of its row. -/
import Derived.Test.YtnhgjgoglmadnaaGreatSPFieldso
set_option maxHeartbeats 4000000
namespace Go.Proofs.YtnhgjgoglmadnaaGreat
open Go.RowKit
set_option linter.unusedVariables false
def Stp (k : Nat) (s s' : W8) : Prop:=(Byt s.l→Byt s'.l)∧s'.l.length≤s.l.length + k∧(s.bad = true→s'.bad = true)
theorem Stp.refl (s : W8) : Stp 0 s s:=⟨id,Nat.le_refl _,id⟩
theorem Stp.trans {j k : Nat} {s t u : W8} (h : Stp j s t) (g : Stp k t u) : Stp (j + k) s u:=⟨fun b=>g.1 (h.1 b),by have:=h.2.1;have:=g.2.1;omega,fun b=>g.2.2 (h.2.2 b)⟩
theorem Stp.mono {j k : Nat} {s t : W8} (h : Stp j s t) (hk : j≤k) : Stp k s t:=⟨h.1,by have:=h.2.1;omega,h.2.2⟩
theorem Stp.num (s : W8) (n k : Int) : Stp 8 s (s.num n k):=by
  unfold W8.num
  split
  · rename_i h
    simp only [fits,decide_eq_true_eq] at h
    exact ⟨fun b=>b.append (be_byt _ _),by simp [be_length];omega,id⟩
  · exact ⟨id,by simp,fun _=>rfl⟩
theorem Stp.pt (s : W8) (x y : Int) : Stp 16 s (s.pt x y):=(Stp.num s x 3).trans (Stp.num _ y 3)
theorem Stp.tri (s : W8) (ax ay bx by' cx cy : Int) : Stp 48 s (s.tri ax ay bx by' cx cy):=((Stp.pt s ax ay).trans (Stp.pt _ bx by')).trans (Stp.pt _ cx cy)
theorem Stp.raw (s : W8) {xs : List Int} (h : Byt xs) : Stp xs.length s (s.raw xs):=⟨fun b=>b.append h,by simp [W8.raw],id⟩
theorem Stp.wP (s : W8) : ∀ x,Stp 16 s (wP s x)
  | [a0,a1]=>(Stp.pt s a0 a1)
  | []=>(Stp.refl s).mono (by omega)
  | [_]=>(Stp.refl s).mono (by omega)
  | _ :: _ :: _ :: _=>(Stp.refl s).mono (by omega)
theorem Stp.wW (s : W8) : ∀ x,Stp 40 s (wW s x)
  | [a0,a1,a2,a3,a4]=>(((Stp.pt s a0 a1).trans (Stp.pt _ a2 a3)).trans (Stp.num _ _ _))
  | []=>(Stp.refl s).mono (by omega)
  | [_]=>(Stp.refl s).mono (by omega)
  | [_,_]=>(Stp.refl s).mono (by omega)
  | [_,_,_]=>(Stp.refl s).mono (by omega)
  | [_,_,_,_]=>(Stp.refl s).mono (by omega)
  | _ :: _ :: _ :: _ :: _ :: _ :: _=>(Stp.refl s).mono (by omega)
theorem Stp.wPa (s : W8) : ∀ x,Stp 16 s (wPa s x)
  | [a0,a1]=>((Stp.num s _ _).trans (Stp.num _ _ _))
  | []=>(Stp.refl s).mono (by omega)
  | [_]=>(Stp.refl s).mono (by omega)
  | _ :: _ :: _ :: _=>(Stp.refl s).mono (by omega)
theorem Stp.wRe (s : W8) : ∀ x,Stp 80 s (wRe s x)
  | [a0,a1,a2,a3,a4,a5,a6,a7,a8,a9]=>(((((Stp.num s _ _).trans (Stp.num _ _ _)).trans (Stp.num _ _ _)).trans (Stp.num _ _ _)).trans (Stp.tri _ a4 a5 a6 a7 a8 a9))
  | []=>(Stp.refl s).mono (by omega)
  | [_]=>(Stp.refl s).mono (by omega)
  | [_,_]=>(Stp.refl s).mono (by omega)
  | [_,_,_]=>(Stp.refl s).mono (by omega)
  | [_,_,_,_]=>(Stp.refl s).mono (by omega)
  | [_,_,_,_,_]=>(Stp.refl s).mono (by omega)
  | [_,_,_,_,_,_]=>(Stp.refl s).mono (by omega)
  | [_,_,_,_,_,_,_]=>(Stp.refl s).mono (by omega)
  | [_,_,_,_,_,_,_,_]=>(Stp.refl s).mono (by omega)
  | [_,_,_,_,_,_,_,_,_]=>(Stp.refl s).mono (by omega)
  | _ :: _ :: _ :: _ :: _ :: _ :: _ :: _ :: _ :: _ :: _ :: _=>(Stp.refl s).mono (by omega)
theorem Stp.wCa (s : W8) : ∀ x,Stp 72 s (wCa s x)
  | [a0,a1,a2,a3,a4,a5,a6,a7,a8]=>(((((((((Stp.num s _ _).trans (Stp.num _ _ _)).trans (Stp.num _ _ _)).trans (Stp.num _ _ _)).trans (Stp.num _ _ _)).trans (Stp.num _ _ _)).trans (Stp.num _ _ _)).trans (Stp.num _ _ _)).trans (Stp.num _ _ _))
  | []=>(Stp.refl s).mono (by omega)
  | [_]=>(Stp.refl s).mono (by omega)
  | [_,_]=>(Stp.refl s).mono (by omega)
  | [_,_,_]=>(Stp.refl s).mono (by omega)
  | [_,_,_,_]=>(Stp.refl s).mono (by omega)
  | [_,_,_,_,_]=>(Stp.refl s).mono (by omega)
  | [_,_,_,_,_,_]=>(Stp.refl s).mono (by omega)
  | [_,_,_,_,_,_,_]=>(Stp.refl s).mono (by omega)
  | [_,_,_,_,_,_,_,_]=>(Stp.refl s).mono (by omega)
  | _ :: _ :: _ :: _ :: _ :: _ :: _ :: _ :: _ :: _ :: _=>(Stp.refl s).mono (by omega)
theorem Stp.wIs (s : W8) : ∀ x,Stp 24 s (wIs s x)
  | [a0,a1,a2]=>(((Stp.num s _ _).trans (Stp.num _ _ _)).trans (Stp.num _ _ _))
  | []=>(Stp.refl s).mono (by omega)
  | [_]=>(Stp.refl s).mono (by omega)
  | [_,_]=>(Stp.refl s).mono (by omega)
  | _ :: _ :: _ :: _ :: _=>(Stp.refl s).mono (by omega)
theorem Stp.wCo (s : W8) : ∀ x,Stp 24 s (wCo s x)
  | [a0,a1,a2]=>(((Stp.num s _ _).trans (Stp.num _ _ _)).trans (Stp.num _ _ _))
  | []=>(Stp.refl s).mono (by omega)
  | [_]=>(Stp.refl s).mono (by omega)
  | [_,_]=>(Stp.refl s).mono (by omega)
  | _ :: _ :: _ :: _ :: _=>(Stp.refl s).mono (by omega)
theorem Stp.list {f : W8→List Int→W8} {k : Nat} (hf : ∀ s x,Stp k s (f s x)) : ∀ (xs : List (List Int)) (s : W8),Stp (xs.length * k) s (xs.foldl f s)
  | [],s=>(Stp.refl s).mono (by omega)
  | x :: xs,s=>((hf s x).trans (Stp.list hf xs (f s x))).mono (by simp only [List.length_cons,Nat.succ_mul];omega)
theorem Stp.encL {f : W8→List Int→W8} {k : Nat} (hf : ∀ s x,Stp k s (f s x)) (xs : List (List Int)) (s : W8) : Stp (8 + xs.length * k) s (Go.Proofs.YtnhgjgoglmadnaaGreat.encL f s xs):=(Stp.num s _ _).trans (Stp.list hf xs _)
theorem Stp.wCh (s : W8) {c : Ch} (h : Byt c.b) : Stp (24 + c.b.length) s (Go.Proofs.YtnhgjgoglmadnaaGreat.wCh s c):=(((Stp.num s _ _).trans (Stp.num _ _ _)).trans (Stp.num _ _ _)).trans (Stp.raw _ h)
theorem Stp.chs : ∀ (cs : List Ch) (s : W8),(∀ c ∈ cs,Byt c.b)→Stp (roomC cs) s (cs.foldl Go.Proofs.YtnhgjgoglmadnaaGreat.wCh s)
  | [],s,_=>Stp.refl s
  | c :: cs,s,h=>(Stp.wCh s (h c (by simp))).trans (Stp.chs cs _ fun x hx=>h x (by simp [hx]))
theorem MapV.enc_stp (m : MapV) (h : ∀ c ∈ m.ch,Byt c.b) : Byt m.enc.l∧m.enc.l.length≤m.room:=by
  have h0 : Stp 56 ⟨[],false⟩ m.nums:=((((((Stp.num _ _ _).trans (Stp.num _ _ _)).trans (Stp.num _ _ _)).trans (Stp.num _ _ _)).trans (Stp.num _ _ _)).trans (Stp.num _ _ _)).trans (Stp.num _ _ _)
  have h1:=h0.trans (Stp.encL Stp.wP m.p m.nums)
  have h2:=h1.trans (Stp.encL Stp.wW m.wa _)
  have h3:=h2.trans (Stp.encL Stp.wPa m.pa _)
  have h4:=h3.trans (Stp.encL Stp.wRe m.re _)
  have h5:=h4.trans (Stp.encL Stp.wCa m.ca _)
  have h6:=h5.trans (Stp.encL Stp.wIs m.is _)
  have h7:=h6.trans (Stp.encL Stp.wCo m.co _)
  have h8:=(h7.trans (Stp.num _ m.ch.length 2)).trans (Stp.chs m.ch _ h)
  refine ⟨h8.1 Byt.nil,Nat.le_trans h8.2.1 ?_⟩
  unfold MapV.room
  simp only [List.length_nil]
  omega
theorem MapV.bytes_byt (m : MapV) (h : ∀ c ∈ m.ch,Byt c.b) : Byt m.bytes:=by
  unfold MapV.bytes;split
  · exact Byt.nil
  · exact (m.enc_stp h).1
set_option maxRecDepth 100000
set_option linter.unusedSimpArgs false
def two (r q : Res) : Res where
  on w A:=∃ B C,r.on w B∧q.on w C∧(∀ x,B x→¬ C x)∧A = fun x=>B x∨C x
  rd x:=r.rd x∨q.rd x
  fact w:=r.fact w∧q.fact w
  lt:=fun ⟨B,C,h1,h2,_,e⟩ x hx=>by subst e;exact hx.elim (r.lt h1 x) (q.lt h2 x)
  chg:=fun {w w' A} ⟨B,C,h1,h2,h3,e⟩ hs hc=>⟨B,C,r.chg h1 hs fun x hx h=>hc x hx (h.elim (fun h=>.inl (by rw [e];exact .inl h)) fun h=>.inr (.inl h)),q.chg h2 hs fun x hx h=>hc x hx (h.elim (fun h=>.inl (by rw [e];exact .inr h)) fun h=>.inr (.inr h)),h3,e⟩
  ok:=fun ⟨B,C,h1,h2,_,_⟩ =>⟨r.ok h1,q.ok h2⟩
theorem two_fact (r q : Res) (w : World) : (two r q).fact w = (r.fact w∧q.fact w):=(rfl)
theorem Sep.two (i j : Nat) {w0 w : World} {S : Nat→Prop} {M : List Res} {r q : Res} (h : Sep w0 S M w) (hi : (M.set j emp)[i]? = some r) (hj : M[j]? = some q) : Sep w0 S ((M.set j emp).set i (Go.Proofs.YtnhgjgoglmadnaaGreat.two r q)) w:=
  h.join i j hi hj (fun A B h1 h2 hd=>⟨A,B,h1,h2,hd,rfl⟩) fun x hx=>hx
theorem Sep.emp {w0 w : World} {S : Nat→Prop} {M : List Res} (h : Sep w0 S M w) : Sep w0 S (M ++ [Go.Proofs.YtnhgjgoglmadnaaGreat.emp]) w:=h.push (Chg.refl _ _) (A:=fun _=>False) rfl (fun _ f=>f.elim) (fun _ f=>f.elim)
def mapX (m : MapV) (s : MapS) : Res:=two (two (two (two (two (two (two (two emp (tab 45 2 s.p m.p)) (tab 47 5 s.wa m.wa)) (tab 69 2 s.pa m.pa)) (tab 51 10 s.re m.re)) (tab 53 9 s.ca m.ca)) (tab 55 3 s.is m.is)) (tab 93 3 s.co m.co)) (chn s.ch m.ch)
theorem mapX_fact (m : MapV) (s : MapS) (w : World) : (mapX m s).fact w = MapR w m s:=by
  simp only [mapX,two_fact,emp_fact,tab_fact,chn_fact,true_and,and_assoc]
  exact propext ⟨fun ⟨a,b,c,d,e,f,g,h⟩ =>⟨a,b,c,d,e,f,g,h⟩,fun ⟨a,b,c,d,e,f,g,h⟩ =>⟨a,b,c,d,e,f,g,h⟩⟩
theorem mapX_rd (m : MapV) (s : MapS) (x : Nat) : ¬ (mapX m s).rd x:=by
  simp [mapX,two,Go.Proofs.YtnhgjgoglmadnaaGreat.emp,tab,chn]
def MapV.zero : MapV:=⟨0,0,0,0,0,0,0,[],[],[],[],[],[],[],[]⟩
def MapS.zero : MapS:=⟨.slice none 0 0,.slice none 0 0,.slice none 0 0,.slice none 0 0,.slice none 0 0,.slice none 0 0,.slice none 0 0,.slice none 0 0⟩
theorem Sep.mapZero {w0 w : World} {S : Nat→Prop} {M : List Res} (h : Sep w0 S M w) : Sep w0 S [mapX MapV.zero MapS.zero] w:=
  ((((((((((((((((h.none.emp.tabNil 45 2).two 0 1 rfl rfl).erase 1).tabNil 47 5).two 0 1 rfl rfl).erase 1).tabNil 69 2).two 0 1 rfl rfl).erase 1).tabNil 51 10).two 0 1 rfl rfl).erase 1).tabNil 53 9).two 0 1 rfl rfl).erase 1).tabNil 55 3).two 0 1 rfl rfl |>.erase 1 |>.tabNil 93 3 |>.two 0 1 rfl rfl |>.erase 1 |>.chnNil |>.two 0 1 rfl rfl |>.erase 1
theorem bytesEq (u v : Value) (xs ys : List Int) (w : World) (h1 : Rd w u xs) (h2 : Rd w v ys) (b1 : Byt xs) (b2 : Byt ys) : Calls Tryz.prog 62 [u,v].toArray w (RetK fun r w'=>r = .bool (decide (xs = ys))∧Chg (fun _=>False) w w'):=by
  refine walk Tryz.func62 rfl (by kernel_rfl) (by rw [Tryz.nt62];simp) ?_
  have es:=strOfNums_eq b1 b2
  refine Zv ?_
  refine str_rule h1 ?_
  refine Zv ?_
  refine str_rule h2 ?_
  refine Zv1 es ?_
  exact Chg.refl _ _
def decOk (b : List Int) : Bool:=(dE ⟨b,false⟩).done && (!(dV ⟨b,false⟩).fails && decide ((dV ⟨b,false⟩).bytes = b))
def dec (b : List Int) : MapV:=if decOk b then dV ⟨b,false⟩ else MapV.zero
theorem decode60 (v : Value) (b : List Int) (w : World) (hr : Rd w v b) (hb : Byt b) (hl : b.length ≤ 99000) :
    Calls Tryz.prog 8 [v].toArray w (RetK fun r w'=>∃ N,Sep w (fun _=>False) N w'∧(∀ q ∈ N,∀ x,¬ q.rd x)∧
      ∃ s,r = .tuple #[.agg ((dec b).cells s).toArray,.int .i64 (if decOk b then 0 else 2)]∧N = [mapX (dec b) s]):=by
  have hr':=hr
  obtain ⟨a,cc,rfl,_⟩ :=hr'
  have hlen : ¬ (1048576 : Int) < b.length:=by omega
  have h:=Sep.nil w
  refine walk Tryz.func8 rfl (by kernel_rfl) (by rw [Tryz.nt8];simp) ?_
  replace h:=Zd h;have F:=Zf4 h
  refine Zv ?_
  refine h.new ?_
  clear h F
  intro w1 b1 h
  replace h:=Zd h;have F:=Zf4 h;refine Zs1 (decide_eq_false hlen) ?_
  refine Sep.read b h (hr.sep h fun _ _=>id) (by omega) ?_
  clear h F
  intro r w2 h
  replace h:=Zd h;have F:=Zf4 h;refine Zs ?_
  refine h.new ?_
  clear h F
  intro w3 c h
  replace h:=Zd h;have F:=Zf4 h;refine Zs ?_
  refine Sep.put 2 h rfl ?_
  clear h F
  intro w3' h
  replace h:=Zd h;have F:=Zf4 h;refine Zs ?_
  refine walkDraw (.h 0 0 (.h 2 1 (.h 4 2 (.h 6 3 (.h 8 4 (.h 10 5 (.h 12 6 (.l 1 (.l 3 (.l 5 (.l 7 (.l 9 (.l 11 (.l 13 (.q 14 (.l 15 .fin)))))))))))))))) [(c,0,.pointer (some ⟨r,0,none⟩)),(c,0,.pointer (some ⟨r,0,none⟩)),(c,0,.pointer (some ⟨r,0,none⟩)),(c,0,.pointer (some ⟨r,0,none⟩)),(c,0,.pointer (some ⟨r,0,none⟩)),(c,0,.pointer (some ⟨r,0,none⟩)),(c,0,.pointer (some ⟨r,0,none⟩))] (by kernel_rfl) (by simp [Holds_nil,Holds_cons,F]) ?_
  refine h.draw ?_
  clear h F
  intro w4 h
  replace h:=Zd h;have F:=Zf4 h;refine Zs ?_
  repeat ((first | refine Sep.new h ?_ | refine Sep.put 0 h rfl ?_ | refine Sep.put 1 h rfl ?_ | refine Sep.put 2 h rfl ?_ | refine Sep.put 3 h rfl ?_ | refine Sep.put 4 h rfl ?_ | refine Sep.put 5 h rfl ?_ | refine Sep.rdNum 1 h rfl ?_);(clear F;(try clear h);intros;rename_i h;replace h:=Zd h;have F:=Zf4 h;refine Zs ?_))
  have h:=h.emp
  generalize hS : (R8.mk b false) = S at *
  have hSb : Byt S.l:=by rw [← hS];exact hb
  change Sep w _ [_,rdr _ r (dN S) _,_,_] _ at h
  refine itemsP h (dN_byt hSb) ?_
  clear h F
  intro aP cP w5 h
  have h:=(h.two 3 4 rfl rfl).erase 4
  replace h:=Zd h;have F:=Zf4 h;refine Zs ?_
  refine Sep.put 0 h rfl ?_
  clear h F
  intro w6 h
  replace h:=Zd h;have F:=Zf4 h;refine Zs ?_
  change Sep w _ [_,rdr _ r (d1 S) _,_,_] _ at h
  refine itemsW h (d1_byt hSb) ?_
  clear h F
  intro aW cW w5 h
  have h:=(h.two 3 4 rfl rfl).erase 4
  replace h:=Zd h;have F:=Zf4 h;refine Zs ?_
  refine Sep.put 0 h rfl ?_
  clear h F
  intro w6 h
  replace h:=Zd h;have F:=Zf4 h;refine Zs ?_
  change Sep w _ [_,rdr _ r (d2 S) _,_,_] _ at h
  refine itemsPa h (d2_byt hSb) ?_
  clear h F
  intro aPa cPa w5 h
  have h:=(h.two 3 4 rfl rfl).erase 4
  replace h:=Zd h;have F:=Zf4 h;refine Zs ?_
  refine Sep.put 0 h rfl ?_
  clear h F
  intro w6 h
  replace h:=Zd h;have F:=Zf4 h;refine Zs ?_
  change Sep w _ [_,rdr _ r (d3 S) _,_,_] _ at h
  refine itemsRe h (d3_byt hSb) ?_
  clear h F
  intro aRe cRe w5 h
  have h:=(h.two 3 4 rfl rfl).erase 4
  replace h:=Zd h;have F:=Zf4 h;refine Zs ?_
  refine Sep.put 0 h rfl ?_
  clear h F
  intro w6 h
  replace h:=Zd h;have F:=Zf4 h;refine Zs ?_
  change Sep w _ [_,rdr _ r (d4 S) _,_,_] _ at h
  refine itemsCa h (d4_byt hSb) ?_
  clear h F
  intro aCa cCa w5 h
  have h:=(h.two 3 4 rfl rfl).erase 4
  replace h:=Zd h;have F:=Zf4 h;refine Zs ?_
  refine Sep.put 0 h rfl ?_
  clear h F
  intro w6 h
  replace h:=Zd h;have F:=Zf4 h;refine Zs ?_
  change Sep w _ [_,rdr _ r (d5 S) _,_,_] _ at h
  refine itemsIs h (d5_byt hSb) ?_
  clear h F
  intro aIs cIs w5 h
  have h:=(h.two 3 4 rfl rfl).erase 4
  replace h:=Zd h;have F:=Zf4 h;refine Zs ?_
  refine Sep.put 0 h rfl ?_
  clear h F
  intro w6 h
  replace h:=Zd h;have F:=Zf4 h;refine Zs ?_
  change Sep w _ [_,rdr _ r (d6 S) _,_,_] _ at h
  refine itemsCo h (d6_byt hSb) ?_
  clear h F
  intro aCo cCo w5 h
  have h:=(h.two 3 4 rfl rfl).erase 4
  replace h:=Zd h;have F:=Zf4 h;refine Zs ?_
  refine Sep.put 0 h rfl ?_
  clear h F
  intro w6 h
  replace h:=Zd h;have F:=Zf4 h;refine Zs ?_
  change Sep w _ [_,rdr _ r (d7 S) _,_,_] _ at h
  refine itemsCh h (d7_byt hSb) ?_
  clear h F
  intro aCh cCh w5 h
  have h:=(h.two 3 4 rfl rfl).erase 4
  replace h:=Zd h;have F:=Zf4 h;refine Zs ?_
  refine Sep.put 0 h rfl ?_
  clear h F
  intro w6 h
  generalize hs : (MapS.mk (.slice aP (itemsV rP sP (dN S)).length cP) (.slice aW (itemsV rW sW (d1 S)).length cW) (.slice aPa (itemsV rPa sPa (d2 S)).length cPa) (.slice aRe (itemsV rRe sRe (d3 S)).length cRe) (.slice aCa (itemsV rCa sCa (d4 S)).length cCa) (.slice aIs (itemsV rIs sIs (d5 S)).length cIs) (.slice aCo (itemsV rCo sCo (d6 S)).length cCo) (.slice aCh (itemsV rCh sCh (d7 S)).length cCh)) = sp
  have h : Sep w (fun _=>False) [blk b1 33 ((dV S).cells sp),rdr 151 r (dE S) (fun _=>False),blk c 102 [.pointer (some ⟨r,0,none⟩)],mapX (dV S) sp] w6:=by
    rw [← hs]
    simp only [mapX,MapV.cells,dV,dE]
    exact h
  replace h:=Zd h;have F:=Zf4 h
  have hc15 : cellsAt w6 b1 0 15 = some ((dV S).cells sp):=cellsAt_of (w:=w6) (b:=b1) (o:=0) ((dV S).cells sp) (fun j u hj=>by rw [Nat.zero_add,F.1.1 j];exact hj)
  clear F
  replace h:=Zd h;have F:=Zf4 h;refine Zs1 hc15 ?_
  refine Sep.callN h (encode58 (dV S) sp w6 F.2.2.2.1 (dV_ok hSb) (Nat.le_trans (dV_room S) (by rw [← hS];dsimp only;omega))) ?_
  clear h F
  intro e N w7 hQ h
  obtain ⟨a7,c7,rfl,rfl⟩ :=hQ
  replace h:=Zd h;have F:=Zf4 h;refine Zs ?_
  have hS' : decOk b = ((dE S).done && (!(dV S).fails && decide ((dV S).bytes = b))):=by rw [← hS];rfl
  have hbb : Byt (dV S).bytes:=(dV S).bytes_byt fun c hc=>(dV_ch hSb c hc).2
  have fin : ∀ {w' : World} {M : List Res}, decOk b = false → Sep w (fun _ => False) M w' → ∃ N, Sep w (fun _ => False) N w' ∧ (∀ q ∈ N, ∀ x, ¬ q.rd x) ∧
      ∃ s,Value.tuple #[.agg #[.int .i64 0,.int .i64 0,.int .i64 0,.int .i64 0,.int .i64 0,.int .i64 0,.int .i64 0,.slice none 0 0,.slice none 0 0,.slice none 0 0,.slice none 0 0,.slice none 0 0,.slice none 0 0,.slice none 0 0,.slice none 0 0],.int .i64 2] = .tuple #[.agg ((dec b).cells s).toArray,.int .i64 (if decOk b then 0 else 2)]∧N = [mapX (dec b) s]:=fun hf h=>by
    have e : dec b = MapV.zero:=by simp [dec,hf]
    rw [e,hf]
    exact ⟨_,h.mapZero,(fun q hq x=>by simp at hq;subst hq;exact mapX_rd _ _ x),MapS.zero,rfl,rfl⟩
  refine Sep.rdDone 1 h rfl ?_
  cases hd : (dE S).done with
  | false=>
    replace h:=Zd h;have F:=Zf4 h;refine Zs1 (J hd (@MapV.cells.eq_1)) ?_
    refine Sep.put 0 h rfl ?_
    clear h F
    intro w8 h
    replace h:=Zd h;have F:=Zf4 h;refine Zc ?_
    exact fin (by rw [hS',hd];rfl) h
  | true=>
  cases hf : (dV S).fails with
  | true=>
    replace h:=Zd h;have F:=Zf4 h;refine Zs1 (J hd (J hf (@MapV.cells.eq_1))) ?_
    refine Sep.put 0 h rfl ?_
    clear h F
    intro w8 h
    replace h:=Zd h;have F:=Zf4 h;refine Zc ?_
    exact fin (by rw [hS',hd,hf];rfl) h
  | false=>
  replace h:=Zd h;have F:=Zf4 h;refine Zs1 (J hd hf) ?_
  refine Sep.callp h (bytesEq _ _ _ _ _ F.2.2.2.2.1 (hr.sep h fun _ _=>id) hbb hb) ?_
  clear h F
  intro w8 h
  by_cases he : (dV S).bytes = b
  case neg=>
    replace h:=Zd h;have F:=Zf4 h;refine Zs1 (J (decide_eq_false he) (@MapV.cells.eq_1)) ?_
    refine Sep.put 0 h rfl ?_
    clear h F
    intro w9 h
    replace h:=Zd h;have F:=Zf4 h;refine Zc ?_
    exact fin (by rw [hS',hd,hf,decide_eq_false he];rfl) h
  have ok : decOk b = true:=by rw [hS',hd,hf,decide_eq_true he];rfl
  have e : dec b = dV S:=by rw [dec,ok,hS];rfl
  replace h:=Zd h;have F:=Zf4 h
  have hc16 : cellsAt w8 b1 0 15 = some ((dV S).cells sp):=cellsAt_of (w:=w8) (b:=b1) (o:=0) ((dV S).cells sp) (fun j u hj=>by rw [Nat.zero_add,F.1.1 j];exact hj)
  clear F
  subst hs
  replace h:=Zd h;have F:=Zf4 h;refine Zs1 (J (decide_eq_true he) (J hc16 (@MapV.cells.eq_1))) ?_
  refine Sep.put 0 h rfl ?_
  clear h F
  intro w9 h
  replace h:=Zd h;have F:=Zf4 h;refine Zc ?_
  rw [e,ok]
  exact ⟨_,(((h.erase 4).erase 0).erase 0).erase 0,(fun q hq x=>by simp at hq;subst hq;exact mapX_rd _ _ x),_,rfl,rfl⟩
end Go.Proofs.YtnhgjgoglmadnaaGreat
