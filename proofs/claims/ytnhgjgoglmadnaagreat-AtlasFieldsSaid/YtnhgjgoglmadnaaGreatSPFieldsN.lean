/- Joined texts of this claim (part 40), printed by a program of this work. The last part holds the claimed theorem: the law answers true at every input of its row. -/
import Derived.Test.YtnhgjgoglmadnaaGreatSPFieldsM
namespace Go.Proofs.YtnhgjgoglmadnaaGreat
open Go.RowKit
set_option linter.unusedVariables false
set_option linter.unusedSimpArgs false
theorem fits1 {n : Int} : fits n 1 = decide (0≤n∧n≤255):=by
  unfold fits;rw [show (8 * 1 : Int).toNat = 8 from rfl];refine decide_eq_decide.2 ?_;omega
theorem fits2 {n : Int} : fits n 2 = decide (0≤n∧n≤65535):=by
  unfold fits;rw [show (8 * 2 : Int).toNat = 16 from rfl];refine decide_eq_decide.2 ?_;omega
theorem fits3 {n : Int} : fits n 3 = decide (0≤n∧n < 16777216):=by
  unfold fits;rw [show (8 * 3 : Int).toNat = 24 from rfl];refine decide_eq_decide.2 ?_;omega
theorem fits4 {n : Int} : fits n 4 = decide (0≤n∧n≤4294967295):=by
  unfold fits;rw [show (8 * 4 : Int).toNat = 32 from rfl];refine decide_eq_decide.2 ?_;omega
def Adds (c : Nat) (s t : W8) : Prop:=t.bad = s.bad∧t.l.length≤s.l.length + c
theorem Adds.trans {c d : Nat} {s t u : W8} (h : Adds c s t) (k : Adds d t u) : Adds (c + d) s u:=⟨k.1.trans h.1,by have:=h.2;have:=k.2;omega⟩
theorem num_adds {s : W8} {n : Int} (k : Nat) (h : fits n k = true) : Adds k s (s.num n k):=by
  unfold W8.num
  rw [if_pos h]
  exact ⟨rfl,by rw [List.length_append,be_length];simp⟩
theorem numBad {s : W8} {n k : Int} (h : fits n k = false) : (s.num n k).bad = true:=by
  unfold W8.num
  rw [if_neg (by rw [h];simp)]
theorem num_up {s : W8} (n k : Int) (h : s.bad = true) : (s.num n k).bad = true:=by
  unfold W8.num
  split
  · exact h
  · rfl
theorem n1 {s : W8} {n : Int} (h : 0≤n∧n≤255) : Adds 1 s (s.num n 1):=num_adds 1 (fits1.trans (decide_eq_true h))
theorem n2 {s : W8} {n : Int} (h : 0≤n∧n≤65535) : Adds 2 s (s.num n 2):=num_adds 2 (fits2.trans (decide_eq_true h))
theorem n3 {s : W8} {n : Int} (h : 0≤n∧n < 16777216) : Adds 3 s (s.num n 3):=num_adds 3 (fits3.trans (decide_eq_true h))
theorem n4 {s : W8} {n : Int} (h : 0≤n∧n≤4294967295) : Adds 4 s (s.num n 4):=num_adds 4 (fits4.trans (decide_eq_true h))
theorem fold_adds {f : W8→List Int→W8} {c : Nat} : ∀ {xs : List (List Int)} {s : W8},(∀ x ∈ xs,∀ s,Adds c s (f s x))→Adds (c * xs.length) s (xs.foldl f s)
  | [],s,_=>⟨rfl,by simp⟩
  | x :: xs,s,h=>by
    have h1:=h x (.head _) s
    have h2:=fold_adds (xs:=xs) (s:=f s x) fun y hy=>h y (.tail _ hy)
    have:=h1.trans h2
    rw [List.length_cons,Nat.mul_succ,Nat.add_comm]
    exact this
theorem encL_adds {f : W8→List Int→W8} {c : Nat} {xs : List (List Int)} {s : W8} (hl : xs.length≤65535) (h : ∀ x ∈ xs,∀ s,Adds c s (f s x)) : Adds (2 + c * xs.length) s (encL f s xs):=(n2 (by omega)).trans (fold_adds h)
theorem fold_up {f : W8→List Int→W8} (hf : ∀ s x,s.bad = true→(f s x).bad = true) : ∀ {xs : List (List Int)} {s : W8},s.bad = true→(xs.foldl f s).bad = true
  | [],s,h=>h
  | x :: xs,s,h=>fold_up hf (xs:=xs) (hf s x h)
theorem encL_up {f : W8→List Int→W8} (hf : ∀ s x,s.bad = true→(f s x).bad = true) {xs : List (List Int)} {s : W8} (h : s.bad = true) : (encL f s xs).bad = true:=fold_up hf (num_up _ _ h)
theorem encL_bad {f : W8→List Int→W8} (hf : ∀ s x,s.bad = true→(f s x).bad = true) {x : List Int} {xs : List (List Int)} {s : W8} (hx : ∀ s,(f s x).bad = true) : (encL f s (x :: xs)).bad = true:=fold_up hf (xs:=xs) (hx _)
theorem upP (s : W8) (x : List Int) (h : s.bad = true) : (wP s x).bad = true:=by
  unfold wP;split
  · exact num_up _ _ (num_up _ _ h)
  · exact h
theorem upW (s : W8) (x : List Int) (h : s.bad = true) : (wW s x).bad = true:=by
  unfold wW;split
  · exact num_up _ _ (num_up _ _ (num_up _ _ (num_up _ _ (num_up _ _ h))))
  · exact h
theorem upPa (s : W8) (x : List Int) (h : s.bad = true) : (wPa s x).bad = true:=by
  unfold wPa;split
  · exact num_up _ _ (num_up _ _ h)
  · exact h
theorem upRe (s : W8) (x : List Int) (h : s.bad = true) : (wRe s x).bad = true:=by
  unfold wRe;split
  · exact num_up _ _ (num_up _ _ (num_up _ _ (num_up _ _ (num_up _ _ (num_up _ _ (num_up _ _ (num_up _ _ (num_up _ _ (num_up _ _ h)))))))))
  · exact h
theorem upCa (s : W8) (x : List Int) (h : s.bad = true) : (wCa s x).bad = true:=by
  unfold wCa;split
  · exact num_up _ _ (num_up _ _ (num_up _ _ (num_up _ _ (num_up _ _ (num_up _ _ (num_up _ _ (num_up _ _ (num_up _ _ h))))))))
  · exact h
theorem upIs (s : W8) (x : List Int) (h : s.bad = true) : (wIs s x).bad = true:=by
  unfold wIs;split
  · exact num_up _ _ (num_up _ _ (num_up _ _ h))
  · exact h
theorem upCo (s : W8) (x : List Int) (h : s.bad = true) : (wCo s x).bad = true:=by
  unfold wCo;split
  · exact num_up _ _ (num_up _ _ (num_up _ _ h))
  · exact h
theorem addP {x : List Int} (h : okPt x) (s : W8) : Adds 6 s (wP s x):=by
  obtain ⟨a,b,rfl,ha,hb⟩ :=h
  exact (n3 ha).trans (n3 hb)
theorem addWa {x : List Int} (h : okW x) (s : W8) : Adds 13 s (wW s x):=by
  obtain ⟨a,b,c,d,k,rfl,ha,hb,hc,hd,hk⟩ :=h
  exact ((((n3 ha).trans (n3 hb)).trans (n3 hc)).trans (n3 hd)).trans (n1 (by omega))
theorem addPa {x : List Int} (h : okPa x) (s : W8) : Adds 2 s (wPa s x):=by
  obtain ⟨a,b,rfl,ha,hb⟩ :=h
  exact (n1 ha).trans (n1 hb)
theorem addRe {x : List Int} (h : okRe x) (s : W8) : Adds 23 s (wRe s x):=by
  obtain ⟨a,b,c,d,t,rfl,ha,hb,hc,hd,⟨v1,v2,v3,_⟩,_⟩ :=h
  unfold Vp T3.A T3.B T3.C at *
  exact (((n1 ha).trans (n2 hb)).trans (n1 hc)).trans (n1 hd) |>.trans ((((((n3 (by omega)).trans (n3 (by omega))).trans (n3 (by omega))).trans (n3 (by omega))).trans (n3 (by omega))).trans (n3 (by omega)))
theorem addCa {x : List Int} (h : okCa x) (s : W8) : Adds 14 s (wCa s x):=by
  obtain ⟨a,b,c,d,e,f,rfl,ha,hb,hc,hd,he,hf⟩ :=h
  exact (((((((n1 ha).trans (n1 (by omega))).trans (n1 hb)).trans (n1 hc)).trans (n2 (by omega))).trans (n1 he)).trans (n4 hf)).trans (n2 (by decide)) |>.trans (n1 (by decide))
theorem addIs {x : List Int} (h : okIs x) (s : W8) : Adds 3 s (wIs s x):=by
  obtain ⟨a,b,rfl,ha,hb⟩ :=h
  exact ((n1 ha).trans (n1 (by omega))).trans (n1 hb)
theorem EncOk.adds {m : MapV} (h : EncOk m) : Adds 97000 ⟨[],false⟩ m.enc:=by
  have a1 : Adds 17 ⟨[],false⟩ m.nums:=((((((n3 h.w).trans (n3 h.h)).trans (n1 h.te)).trans (n2 h.wi)).trans (n2 h.mr)).trans (n2 h.mb)).trans (n4 h.ti)
  have l1:=h.pl;have l2:=h.wl;have l3:=h.pal;have l4:=h.rl;have l5:=h.cl;have l6:=h.il
  have a2:=a1.trans (encL_adds (by omega) fun x hx=>addP (h.p x hx))
  have a3:=a2.trans (encL_adds (by omega) fun x hx=>addWa (h.wa x hx))
  have a4:=a3.trans (encL_adds (by omega) fun x hx=>addPa (h.pa x hx))
  have a5:=a4.trans (encL_adds (by omega) fun x hx=>addRe (h.re x hx))
  have a6:=a5.trans (encL_adds (by omega) fun x hx=>addCa (h.ca x hx))
  have a7:=a6.trans (encL_adds (by omega) fun x hx=>addIs (h.is x hx))
  have a8:=a7.trans (n2 (n:=((0 : Nat) : Int)) (by omega))
  have a9:=a8.trans (n2 (n:=((0 : Nat) : Int)) (by omega))
  unfold MapV.enc
  rw [h.co,h.ch]
  exact ⟨a9.1,Nat.le_trans a9.2 (by simp only [List.length_nil];omega)⟩
theorem EncOk.fails {m : MapV} (h : EncOk m) : m.fails = false:=by
  have a:=h.adds
  have b:=a.2
  unfold MapV.fails
  rw [a.1,decide_eq_false (by have : (([] : List Int).length) = 0:=rfl;dsimp only at b;omega)]
  simp only [Bool.or_self,Bool.or_false]
  rw [Bool.eq_false_iff]
  intro hb
  obtain ⟨x,hx,hb⟩ :=List.any_eq_true.1 hb
  obtain ⟨a,b,c,d,t,rfl,_,_,_,_,ht,hl⟩ :=h.re x hx
  have hv:=ht.valid hl
  unfold badRe T3.row at hb
  change (!t.valid) = true at hb
  rw [hv] at hb;cases hb
theorem EncOk.wid {m : MapV} (h : EncOk m) : m.Wid:=by
  refine ⟨fun x hx=>?_,fun x hx=>?_,fun x hx=>?_,fun x hx=>?_,fun x hx=>?_,fun x hx=>?_,fun x hx=>?_⟩
  · obtain ⟨_,_,rfl,_⟩ :=h.p x hx;rfl
  · obtain ⟨_,_,_,_,_,rfl,_⟩ :=h.wa x hx;rfl
  · obtain ⟨_,_,rfl,_⟩ :=h.pa x hx;rfl
  · obtain ⟨_,_,_,_,_,rfl,_⟩ :=h.re x hx;rfl
  · obtain ⟨_,_,_,_,_,_,rfl,_⟩ :=h.ca x hx;rfl
  · obtain ⟨_,_,rfl,_⟩ :=h.is x hx;rfl
  · rw [h.co] at hx;cases hx
theorem ok64_ca {x : List Int} (h : okCa x) : Ok64 x:=by
  obtain ⟨a,b,c,d,e,f,rfl,ha,hb,hc,hd,he,hf⟩ :=h
  unfold Ok64
  intro y hy
  simp only [List.mem_cons,List.not_mem_nil,or_false] at hy
  rcases hy with rfl | rfl | rfl | rfl | rfl | rfl | rfl | rfl | rfl<;>omega
theorem EncOk.fine {m : MapV} (h : EncOk m) : m.Fine:=⟨h.wid,fun x hx=>ok64_ca (h.ca x hx),h.fails⟩
theorem EncOk.len {m : MapV} (h : EncOk m) : m.bytes.length≤97000:=by
  rw [MapV.bytes_of h.fails]
  have:=h.adds.2
  simpa using this
theorem EncOk.room {m : MapV} (h : EncOk m) : m.room≤800000:=by
  have l1:=h.pl;have l2:=h.wl;have l3:=h.pal;have l4:=h.rl;have l5:=h.cl;have l6:=h.il
  unfold MapV.room
  rw [h.co,h.ch]
  simp only [List.length_nil,roomC];omega
theorem EncOk.byt {m : MapV} (h : EncOk m) : ∀ c ∈ m.ch,Byt c.b:=by rw [h.ch];intro c hc;cases hc
set_option maxRecDepth 100000
def slS (m : MapV) (p1 p2 p3 p4 p5 p6 p7 p8 : Option Addr×Nat) : MapS:=⟨.slice p1.1 m.p.length p1.2,.slice p2.1 m.wa.length p2.2,.slice p3.1 m.pa.length p3.2,.slice p4.1 m.re.length p4.2,.slice p5.1 m.ca.length p5.2,.slice p6.1 m.is.length p6.2,.slice p7.1 m.co.length p7.2,.slice p8.1 m.ch.length p8.2⟩
theorem MapR.form {w : World} {m : MapV} {s : MapS} (R : MapR w m s) : ∃ p1 p2 p3 p4 p5 p6 p7 p8,s = slS m p1 p2 p3 p4 p5 p6 p7 p8:=by
  obtain ⟨sp,swa,spa,sre,sca,sis,sco,sch⟩ :=s
  obtain ⟨a1,c1,e1⟩ :=R.p.shape
  obtain ⟨a2,c2,e2⟩ :=R.wa.shape
  obtain ⟨a3,c3,e3⟩ :=R.pa.shape
  obtain ⟨a4,c4,e4⟩ :=R.re.shape
  obtain ⟨a5,c5,e5⟩ :=R.ca.shape
  obtain ⟨a6,c6,e6⟩ :=R.is.shape
  obtain ⟨a7,c7,e7⟩ :=R.co.shape
  obtain ⟨a8,c8,e8⟩ :=R.ch.shape
  dsimp only at e1 e2 e3 e4 e5 e6 e7 e8
  subst e1 e2 e3 e4 e5 e6 e7 e8
  exact ⟨(a1,c1),(a2,c2),(a3,c3),(a4,c4),(a5,c5),(a6,c6),(a7,c7),(a8,c8),rfl⟩
theorem Sep.town {w0 w : World} {S : Nat → Prop} {M : List Res} {v : Value} {ls : List Int} {K : Value → World → Prop} (h : Sep w0 S M w) (hv : Ints w v ls)
    (hk : ∀ m p1 p2 p3 p4 p5 p6 p7 p8 w1,TownOk m→Sep w0 S (M ++ [mapX m (slS m p1 p2 p3 p4 p5 p6 p7 p8)]) w1→K (.agg (m.cells (slS m p1 p2 p3 p4 p5 p6 p7 p8)).toArray) w1) : callsK Tryz.prog 6 #[v] w K:=by
  refine h.callN (Q:=fun v N=>∃ m s,v = .agg (m.cells s).toArray∧TownOk m∧N = [mapX m s]) ((town6 ls hv).mono fun ex w' ⟨v,er,m,s,ev,hm,k⟩ =>⟨v,er,_,k,fun q hq x hx=>(by simp at hq;subst hq;exact mapX_rd _ _ x hx),m,s,ev,hm,rfl⟩) ?_
  rintro _ _ w1 ⟨m,s,rfl,hm,rfl⟩ h
  have hl : M.length < (M ++ [mapX m s]).length:=by simp
  obtain ⟨A,on,_⟩ :=h.at (i:=M.length) (r:=mapX m s) (by rw [List.getElem?_append_right (Nat.le_refl _),Nat.sub_self];rfl)
  have R : MapR w1 m s:=by have:=(mapX m s).ok on;rwa [mapX_fact] at this
  obtain ⟨p1,p2,p3,p4,p5,p6,p7,p8,rfl⟩ :=R.form
  exact hk m p1 p2 p3 p4 p5 p6 p7 p8 w1 hm h
theorem Sep.enc {w0 w : World} {S : Nat → Prop} {M : List Res} {m : MapV} {s : MapS} {K : Value → World → Prop} (h : Sep w0 S M w) (R : MapR w m s) (O : m.Ok) (hr : m.room ≤ 800000)
    (hk : ∀ a c w1,Sep w0 S (M ++ [byt (.slice a m.bytes.length c) m.bytes]) w1→K (.tuple #[.slice a m.bytes.length c,.int .i64 (if m.fails then 2 else 0)]) w1) : callsK Tryz.prog 7 #[.agg (m.cells s).toArray] w K:=by
  refine Sep.callN h (encode58 m s w R O hr) ?_
  rintro v N w1 ⟨a,c,rfl,rfl⟩ k
  exact hk a c w1 k
theorem Sep.dec {w0 w : World} {S : Nat → Prop} {M : List Res} {m : MapV} {v : Value} {K : Value → World → Prop} (h : Sep w0 S M w) (hr : Rd w v m.bytes) (f : m.Fine) (hb : Byt m.bytes) (hl : m.bytes.length ≤ 99000)
    (hk : ∀ p1 p2 p3 p4 p5 p6 p7 p8 w1,Sep w0 S (M ++ [mapX m (slS m p1 p2 p3 p4 p5 p6 p7 p8)]) w1→K (.tuple #[.agg (m.cells (slS m p1 p2 p3 p4 p5 p6 p7 p8)).toArray,.int .i64 0]) w1) : callsK Tryz.prog 8 #[v] w K:=by
  obtain ⟨d1,d2,_,_⟩ :=f.dec
  refine Sep.callN h (decode60 v m.bytes w hr hb hl) ?_
  rintro _ _ w1 ⟨s,rfl,rfl⟩ h
  rw [d1,d2] at *
  obtain ⟨A,on,_⟩ :=h.at (i:=M.length) (r:=mapX m s) (by rw [List.getElem?_append_right (Nat.le_refl _),Nat.sub_self];rfl)
  have R : MapR w1 m s:=by have:=(mapX m s).ok on;rwa [mapX_fact] at this
  obtain ⟨p1,p2,p3,p4,p5,p6,p7,p8,rfl⟩ :=R.form
  exact hk p1 p2 p3 p4 p5 p6 p7 p8 w1 h
theorem EncOk.ok {m : MapV} (h : EncOk m) : m.Ok:=by
  have a1:=h.w;have a2:=h.h;have a3:=h.te;have a4:=h.wi;have a5:=h.mr;have a6:=h.mb;have a7:=h.ti
  refine ⟨?_,fun x hx=>?_,fun x hx=>?_,fun x hx=>?_,fun x hx=>?_,fun x hx=>ok64_ca (h.ca x hx),fun x hx=>?_,fun x hx=>?_,fun x hx=>?_⟩
  · intro y hy
    simp only [List.mem_cons,List.not_mem_nil,or_false] at hy
    rcases hy with rfl | rfl | rfl | rfl | rfl | rfl | rfl<;>omega
  · obtain ⟨_,_,rfl,_⟩ :=h.p x hx
    intro y hy
    simp only [List.mem_cons,List.not_mem_nil,or_false] at hy
    rcases hy with rfl | rfl<;>omega
  · obtain ⟨_,_,_,_,_,rfl,_⟩ :=h.wa x hx
    intro y hy
    simp only [List.mem_cons,List.not_mem_nil,or_false] at hy
    rcases hy with rfl | rfl | rfl | rfl | rfl<;>omega
  · obtain ⟨_,_,rfl,_⟩ :=h.pa x hx
    intro y hy
    simp only [List.mem_cons,List.not_mem_nil,or_false] at hy
    rcases hy with rfl | rfl<;>omega
  · obtain ⟨_,_,_,_,t,rfl,_,_,_,_,⟨v1,v2,v3,_⟩,_⟩ :=h.re x hx
    unfold Vp T3.A T3.B T3.C at *
    intro y hy
    simp only [T3.row,List.mem_cons,List.not_mem_nil,or_false] at hy
    rcases hy with rfl | rfl | rfl | rfl | rfl | rfl | rfl | rfl | rfl | rfl<;>omega
  · obtain ⟨_,_,rfl,_⟩ :=h.is x hx
    intro y hy
    simp only [List.mem_cons,List.not_mem_nil,or_false] at hy
    rcases hy with rfl | rfl | rfl<;>omega
  · rw [h.co] at hx;cases hx
  · rw [h.ch] at hx;cases hx
theorem EncOk.same {m o : MapV} (h : EncOk m) (k : EncOk o) : m.same o = decide (m.bytes = o.bytes):=by
  by_cases e : m.bytes = o.bytes
  · have d1:=h.fine.dec.2.1
    have d2:=k.fine.dec.2.1
    rw [e,d2] at d1
    rw [decide_eq_true e]
    exact MapV.same_iff.2 d1.symm
  · rw [decide_eq_false e]
    exact MapV.same_no fun q=>e (by rw [q])
theorem flatT_cell {s r : Nat} {v : Int} : ∀ {xs : List (List Int)} {j : Nat} (h : ∀ y ∈ xs,y.length = s) (hj : j < xs.length) (hr : r < s),(flatT xs).set (j * s + r) (.int .i64 v) = flatT (xs.set j (xs[j].set r v))
  | y :: xs,0,h,hj,hr=>by
    have hy:=h y (.head _)
    rw [Nat.zero_mul,Nat.zero_add]
    change (cellsI y ++ flatT xs).set r _ = cellsI (y.set r v) ++ flatT xs
    rw [List.set_append_left _ _ (by rw [cellsI_len];omega)]
    unfold cellsI
    rw [List.map_set]
  | y :: xs,j + 1,h,hj,hr=>by
    have hy:=h y (.head _)
    have e : (j + 1) * s + r = (cellsI y).length + (j * s + r):=by rw [cellsI_len,hy,Nat.succ_mul];omega
    change (cellsI y ++ flatT xs).set _ _ = cellsI y ++ flatT (xs.set j (xs[j]'(Nat.lt_of_succ_lt_succ hj) |>.set r v))
    rw [e,List.set_append_right _ _ (by omega),Nat.add_sub_cancel_left]
    exact congrArg (cellsI y ++ ·) (flatT_cell (fun z hz=>h z (.tail _ hz)) (Nat.lt_of_succ_lt_succ hj) hr)
theorem Sep.tabCell (i : Nat) {e s : Nat} {w0 w : World} {S : Nat → Prop} {M : List Res} {b o n c : Nat} {xs : List (List Int)} (j r : Nat) (v : Int) {K : World → Prop} (h : Sep w0 S M w) (hi : M[i]? = some (tab e s (.slice (some ⟨b, o, Option.none⟩) n c) xs)) (hj : j < xs.length) (hr : r < s) {p : Nat} (hp : p = o + j * s + r)
    (hK : ∀ w1,Sep w0 S (M.set i (tab e s (.slice (some ⟨b,o,Option.none⟩) n c) (xs.set j (xs[j].set r v)))) w1→K w1) : storeK w b p [.int .i64 v] K:=by
  subst hp
  obtain ⟨A,⟨h0,⟨hl,h1⟩,rfl⟩,_,h3⟩ :=h.at hi
  rcases h1 with ⟨e1,_⟩ | ⟨g,cap,cur,e1,_,hg,hnc,hcm,hcs,ht⟩
  · cases e1
  injection e1 with e1 e2 e3
  injection e1 with e1
  injection e1 with e4 e5
  subst e4 e5 e3 e2
  have hb:=blkOf_of hg
  have hle : j * s + s≤xs.length * s:=by rw [← Nat.succ_mul];exact Nat.mul_le_mul_right s hj
  have hle2 : xs.length * s≤c * s:=Nat.mul_le_mul_right s hnc
  unfold storeK
  rw [hb]
  have es : ∀ (l : List Value) (k : Nat),setR l k [.int .i64 v] = l.set k (.int .i64 v):=fun l k=>by rw [setR_cons,setR_nil]
  refine ⟨by simp only [Array.length_toList,hcs,List.size_toArray,List.length_cons,List.length_nil];omega,fun w1 p=>hK w1 (h3 _ _ w1 ⟨fun y hy=>?_,⟨?_,.inr ⟨b,c,_,by rw [List.length_set],Nat.zero_le _,p.blk,by rw [List.length_set];exact hnc,hcm,?_,?_⟩⟩,rfl⟩ (fun y hy=>.inl hy) (p.chg.mono fun k hk=>by subst hk;rfl) (fun _ f=>f))⟩
  · rcases List.mem_or_eq_of_mem_set hy with hy | rfl
    · exact h0 y hy
    · rw [List.length_set];exact h0 _ (List.getElem_mem hj)
  · rw [← flatT_cell h0 hj hr,List.length_set,hl,List.length_set]
  · rw [List.size_toArray,setR_length,Array.length_toList,hcs]
  · rw [List.length_set,es,List.take_set,ht,Nat.zero_add,flatT_cell h0 hj hr]
def openL (m : MapV) (s : MapS) : List Res:=[chn s.ch m.ch,tab 93 3 s.co m.co,tab 55 3 s.is m.is,tab 53 9 s.ca m.ca,tab 51 10 s.re m.re,tab 69 2 s.pa m.pa,tab 47 5 s.wa m.wa,tab 45 2 s.p m.p]
theorem Sep.mapOpen {m : MapV} {s : MapS} {q : Res} {w0 w : World} {S : Nat→Prop} (h : Sep w0 S [mapX m s,q] w) : Sep w0 S (q :: openL m s) w:=by
  unfold mapX at h
  replace h:=h.splitTwo 0 rfl
  simp only [List.set_cons_zero,List.cons_append,List.nil_append] at h
  replace h:=h.splitTwo 0 rfl
  simp only [List.set_cons_zero,List.cons_append,List.nil_append] at h
  replace h:=h.splitTwo 0 rfl
  simp only [List.set_cons_zero,List.cons_append,List.nil_append] at h
  replace h:=h.splitTwo 0 rfl
  simp only [List.set_cons_zero,List.cons_append,List.nil_append] at h
  replace h:=h.splitTwo 0 rfl
  simp only [List.set_cons_zero,List.cons_append,List.nil_append] at h
  replace h:=h.splitTwo 0 rfl
  simp only [List.set_cons_zero,List.cons_append,List.nil_append] at h
  replace h:=h.splitTwo 0 rfl
  simp only [List.set_cons_zero,List.cons_append,List.nil_append] at h
  replace h:=h.splitTwo 0 rfl
  simp only [List.set_cons_zero,List.cons_append,List.nil_append] at h
  exact h.erase 0
theorem Sep.mapShut {m : MapV} {s : MapS} {q : Res} {w0 w : World} {S : Nat→Prop} (h : Sep w0 S (q :: openL m s) w) : Sep w0 S [q,mapX m s] w:=by
  unfold openL at h
  replace h:=h.emp
  simp only [List.cons_append,List.nil_append] at h
  replace h:=h.two 9 8 rfl rfl
  simp only [List.set_cons_zero,List.set_cons_succ] at h
  replace h:=h.two 9 7 rfl rfl
  simp only [List.set_cons_zero,List.set_cons_succ] at h
  replace h:=h.two 9 6 rfl rfl
  simp only [List.set_cons_zero,List.set_cons_succ] at h
  replace h:=h.two 9 5 rfl rfl
  simp only [List.set_cons_zero,List.set_cons_succ] at h
  replace h:=h.two 9 4 rfl rfl
  simp only [List.set_cons_zero,List.set_cons_succ] at h
  replace h:=h.two 9 3 rfl rfl
  simp only [List.set_cons_zero,List.set_cons_succ] at h
  replace h:=h.two 9 2 rfl rfl
  simp only [List.set_cons_zero,List.set_cons_succ] at h
  replace h:=h.two 9 1 rfl rfl
  simp only [List.set_cons_zero,List.set_cons_succ] at h
  exact (((((((h.erase 8).erase 7).erase 6).erase 5).erase 4).erase 3).erase 2).erase 1
theorem ok64_set {x : List Int} {r : Nat} {n : Int} (h : Ok64 x) (hn : -9223372036854775808≤n∧n≤9223372036854775807) : Ok64 (x.set r n):=fun y hy=>(List.mem_or_eq_of_mem_set hy).elim (h y) fun e=>e▸hn
theorem oks_set {xs : List (List Int)} {j r : Nat} {n : Int} (hj : j < xs.length) (h : ∀ x ∈ xs,Ok64 x) (hn : -9223372036854775808≤n∧n≤9223372036854775807) : ∀ x ∈ xs.set j (xs[j].set r n),Ok64 x:=fun x hx=>(List.mem_or_eq_of_mem_set hx).elim (h x) fun e=>e▸ok64_set (h _ (List.getElem_mem hj)) hn
theorem all_set {p : List Int→Prop} {xs : List (List Int)} {j : Nat} {y : List Int} (h : ∀ x ∈ xs,p x) (hy : p y) : ∀ x ∈ xs.set j y,p x:=fun x hx=>(List.mem_or_eq_of_mem_set hx).elim (h x) fun e=>e▸hy
theorem set0 {xs : List (List Int)} (hj : 0 < xs.length) (y : List Int) : ∃ ys,xs.set 0 y = y :: ys:=by
  cases xs with
  | nil=>cases hj
  | cons x xs=>exact ⟨xs,rfl⟩
theorem fails_of {m : MapV} (hc : m.ch = []) (h : (encL wCo (encL wIs (encL wCa (encL wRe (encL wPa (encL wW (encL wP m.nums m.p) m.wa) m.pa) m.re) m.ca) m.is) m.co).bad = true) : m.fails = true:=by
  unfold MapV.fails MapV.enc
  rw [hc]
  have : (encC (encL wCo (encL wIs (encL wCa (encL wRe (encL wPa (encL wW (encL wP m.nums m.p) m.wa) m.pa) m.re) m.ca) m.is) m.co) []).bad = true:=by unfold encC;exact num_up _ _ h
  rw [this];simp
structure Good (m : MapV) (n most : Int) : Prop where
  ok : m.Ok
  room : m.room≤800000
  byt : ∀ c ∈ m.ch,Byt c.b
  yes : 0≤n∧n≤most→EncOk m
  no : ¬ (0≤n∧n≤most)→m.fails = true
theorem good_w {m : MapV} (h : EncOk m) {n : Int} (hn : -9223372036854775808≤n∧n≤9223372036854775807) : Good { m with w:=n } n 16777215:=by
  have O:=h.ok
  refine ⟨⟨?_,O.p,O.wa,O.pa,O.re,O.ca,O.is,O.co,O.ch⟩,h.room,h.byt,fun g=>{ h with w:=by dsimp only;omega },fun g=>fails_of h.ch (encL_up upCo (encL_up upIs (encL_up upCa (encL_up upRe (encL_up upPa (encL_up upW (encL_up upP (num_up _ _ (num_up _ _ (num_up _ _ (num_up _ _ (num_up _ _ (num_up _ _ (numBad (by rw [fits3];exact decide_eq_false (by (try dsimp only);omega))))))))))))))))⟩
  intro y hy
  have:=O.ns y
  simp only [List.mem_cons,List.not_mem_nil,or_false] at hy this
  rcases hy with rfl | rfl | rfl | rfl | rfl | rfl | rfl<;>first | exact hn | exact this (by simp)
theorem good_te {m : MapV} (h : EncOk m) {n : Int} (hn : -9223372036854775808≤n∧n≤9223372036854775807) : Good { m with te:=n } n 255:=by
  have O:=h.ok
  refine ⟨⟨?_,O.p,O.wa,O.pa,O.re,O.ca,O.is,O.co,O.ch⟩,h.room,h.byt,fun g=>{ h with te:=by dsimp only;omega },fun g=>fails_of h.ch (encL_up upCo (encL_up upIs (encL_up upCa (encL_up upRe (encL_up upPa (encL_up upW (encL_up upP (num_up _ _ (num_up _ _ (num_up _ _ (num_up _ _ (numBad (by rw [fits1];exact decide_eq_false (by (try dsimp only);omega))))))))))))))⟩
  intro y hy
  have:=O.ns y
  simp only [List.mem_cons,List.not_mem_nil,or_false] at hy this
  rcases hy with rfl | rfl | rfl | rfl | rfl | rfl | rfl<;>first | exact hn | exact this (by simp)
theorem good_wi {m : MapV} (h : EncOk m) {n : Int} (hn : -9223372036854775808≤n∧n≤9223372036854775807) : Good { m with wi:=n } n 65535:=by
  have O:=h.ok
  refine ⟨⟨?_,O.p,O.wa,O.pa,O.re,O.ca,O.is,O.co,O.ch⟩,h.room,h.byt,fun g=>{ h with wi:=by dsimp only;omega },fun g=>fails_of h.ch (encL_up upCo (encL_up upIs (encL_up upCa (encL_up upRe (encL_up upPa (encL_up upW (encL_up upP (num_up _ _ (num_up _ _ (num_up _ _ (numBad (by rw [fits2];exact decide_eq_false (by (try dsimp only);omega)))))))))))))⟩
  intro y hy
  have:=O.ns y
  simp only [List.mem_cons,List.not_mem_nil,or_false] at hy this
  rcases hy with rfl | rfl | rfl | rfl | rfl | rfl | rfl<;>first | exact hn | exact this (by simp)
theorem good_ti {m : MapV} (h : EncOk m) {n : Int} (hn : -9223372036854775808≤n∧n≤9223372036854775807) : Good { m with ti:=n } n 4294967295:=by
  have O:=h.ok
  refine ⟨⟨?_,O.p,O.wa,O.pa,O.re,O.ca,O.is,O.co,O.ch⟩,h.room,h.byt,fun g=>{ h with ti:=by dsimp only;omega },fun g=>fails_of h.ch (encL_up upCo (encL_up upIs (encL_up upCa (encL_up upRe (encL_up upPa (encL_up upW (encL_up upP (numBad (by rw [fits4];exact decide_eq_false (by (try dsimp only);omega))))))))))⟩
  intro y hy
  have:=O.ns y
  simp only [List.mem_cons,List.not_mem_nil,or_false] at hy this
  rcases hy with rfl | rfl | rfl | rfl | rfl | rfl | rfl<;>first | exact hn | exact this (by simp)
theorem good_p {m : MapV} (h : EncOk m) (hj : 0 < m.p.length) {n : Int} (hn : -9223372036854775808≤n∧n≤9223372036854775807) : Good { m with p:=m.p.set 0 (m.p[0].set 0 n) } n 16777215:=by
  have O:=h.ok
  refine ⟨⟨O.ns,oks_set hj O.p hn,O.wa,O.pa,O.re,O.ca,O.is,O.co,O.ch⟩,by have:=h.room;unfold MapV.room at *;dsimp only;rw [List.length_set];exact this,h.byt,fun g=>?_,fun g=>?_⟩
  · obtain ⟨a,b,e,ha,hb1⟩ :=h.p _ (List.getElem_mem hj)
    exact { h with p:=all_set h.p (by rw [e];exact ⟨n,b,rfl,by omega,hb1⟩),pl:=by rw [List.length_set];exact h.pl }
  · obtain ⟨a,b,e,ha,hb1⟩ :=h.p _ (List.getElem_mem hj)
    obtain ⟨ys,ey⟩ :=set0 hj (m.p[0].set 0 n)
    refine fails_of h.ch ?_
    dsimp only
    rw [ey,e]
    have hb:=fun (s : W8)=>numBad (s:=s) (n:=n) (k:=3) (by rw [fits3];exact decide_eq_false (by omega))
    exact encL_up upCo (encL_up upIs (encL_up upCa (encL_up upRe (encL_up upPa (encL_up upW (encL_bad upP fun s=>(num_up _ _ (hb _))))))))
theorem good_wa {m : MapV} (h : EncOk m) (hj : 0 < m.wa.length) {n : Int} (hn : -9223372036854775808≤n∧n≤9223372036854775807) : Good { m with wa:=m.wa.set 0 (m.wa[0].set 4 n) } n 255:=by
  have O:=h.ok
  refine ⟨⟨O.ns,O.p,oks_set hj O.wa hn,O.pa,O.re,O.ca,O.is,O.co,O.ch⟩,by have:=h.room;unfold MapV.room at *;dsimp only;rw [List.length_set];exact this,h.byt,fun g=>?_,fun g=>?_⟩
  · obtain ⟨a,b,c,d,k,e,ha,hb1,hc,hd,hk⟩ :=h.wa _ (List.getElem_mem hj)
    exact { h with wa:=all_set h.wa (by rw [e];exact ⟨a,b,c,d,n,rfl,ha,hb1,hc,hd,by omega⟩),wl:=by rw [List.length_set];exact h.wl }
  · obtain ⟨a,b,c,d,k,e,ha,hb1,hc,hd,hk⟩ :=h.wa _ (List.getElem_mem hj)
    obtain ⟨ys,ey⟩ :=set0 hj (m.wa[0].set 4 n)
    refine fails_of h.ch ?_
    dsimp only
    rw [ey,e]
    have hb:=fun (s : W8)=>numBad (s:=s) (n:=n) (k:=1) (by rw [fits1];exact decide_eq_false (by omega))
    exact encL_up upCo (encL_up upIs (encL_up upCa (encL_up upRe (encL_up upPa (encL_bad upW fun s=>(hb _))))))
theorem good_re {m : MapV} (h : EncOk m) (hj : 0 < m.re.length) {n : Int} (hn : -9223372036854775808≤n∧n≤9223372036854775807) : Good { m with re:=m.re.set 0 (m.re[0].set 1 n) } n 65535:=by
  have O:=h.ok
  refine ⟨⟨O.ns,O.p,O.wa,O.pa,oks_set hj O.re hn,O.ca,O.is,O.co,O.ch⟩,by have:=h.room;unfold MapV.room at *;dsimp only;rw [List.length_set];exact this,h.byt,fun g=>?_,fun g=>?_⟩
  · obtain ⟨a,b,c,d,t,e,ha,hb1,hc,hd,ht⟩ :=h.re _ (List.getElem_mem hj)
    exact { h with re:=all_set h.re (by rw [e];exact ⟨a,n,c,d,t,rfl,ha,by omega,hc,hd,ht⟩),rl:=by rw [List.length_set];exact h.rl }
  · obtain ⟨a,b,c,d,t,e,ha,hb1,hc,hd,ht⟩ :=h.re _ (List.getElem_mem hj)
    obtain ⟨ys,ey⟩ :=set0 hj (m.re[0].set 1 n)
    refine fails_of h.ch ?_
    dsimp only
    rw [ey,e]
    have hb:=fun (s : W8)=>numBad (s:=s) (n:=n) (k:=2) (by rw [fits2];exact decide_eq_false (by omega))
    exact encL_up upCo (encL_up upIs (encL_up upCa (encL_bad upRe fun s=>(num_up _ _ (num_up _ _ (num_up _ _ (num_up _ _ (num_up _ _ (num_up _ _ (num_up _ _ (num_up _ _ (hb _))))))))))))
theorem good_ca {m : MapV} (h : EncOk m) (hj : 0 < m.ca.length) {n : Int} (hn : -9223372036854775808≤n∧n≤9223372036854775807) : Good { m with ca:=m.ca.set 0 (m.ca[0].set 6 n) } n 4294967295:=by
  have O:=h.ok
  refine ⟨⟨O.ns,O.p,O.wa,O.pa,O.re,oks_set hj O.ca hn,O.is,O.co,O.ch⟩,by have:=h.room;unfold MapV.room at *;dsimp only;rw [List.length_set];exact this,h.byt,fun g=>?_,fun g=>?_⟩
  · obtain ⟨a,b,c,d,g1,f,e,ha,hb1,hc,hd,he,hf⟩ :=h.ca _ (List.getElem_mem hj)
    exact { h with ca:=all_set h.ca (by rw [e];exact ⟨a,b,c,d,g1,n,rfl,ha,hb1,hc,hd,he,by omega⟩),cl:=by rw [List.length_set];exact h.cl }
  · obtain ⟨a,b,c,d,g1,f,e,ha,hb1,hc,hd,he,hf⟩ :=h.ca _ (List.getElem_mem hj)
    obtain ⟨ys,ey⟩ :=set0 hj (m.ca[0].set 6 n)
    refine fails_of h.ch ?_
    dsimp only
    rw [ey,e]
    have hb:=fun (s : W8)=>numBad (s:=s) (n:=n) (k:=4) (by rw [fits4];exact decide_eq_false (by omega))
    exact encL_up upCo (encL_up upIs (encL_bad upCa fun s=>(num_up _ _ (num_up _ _ (hb _)))))
theorem good_is {m : MapV} (h : EncOk m) (hj : 0 < m.is.length) {n : Int} (hn : -9223372036854775808≤n∧n≤9223372036854775807) : Good { m with is:=m.is.set 0 (m.is[0].set 2 n) } n 255:=by
  have O:=h.ok
  refine ⟨⟨O.ns,O.p,O.wa,O.pa,O.re,O.ca,oks_set hj O.is hn,O.co,O.ch⟩,by have:=h.room;unfold MapV.room at *;dsimp only;rw [List.length_set];exact this,h.byt,fun g=>?_,fun g=>?_⟩
  · obtain ⟨a,b,e,ha,hb1⟩ :=h.is _ (List.getElem_mem hj)
    exact { h with is:=all_set h.is (by rw [e];exact ⟨a,n,rfl,ha,by omega⟩),il:=by rw [List.length_set];exact h.il }
  · obtain ⟨a,b,e,ha,hb1⟩ :=h.is _ (List.getElem_mem hj)
    obtain ⟨ys,ey⟩ :=set0 hj (m.is[0].set 2 n)
    refine fails_of h.ch ?_
    dsimp only
    rw [ey,e]
    have hb:=fun (s : W8)=>numBad (s:=s) (n:=n) (k:=1) (by rw [fits1];exact decide_eq_false (by omega))
    exact encL_up upCo (encL_bad upIs fun s=>(hb _))
end Go.Proofs.YtnhgjgoglmadnaaGreat
