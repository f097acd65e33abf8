/- Joined texts of this claim (part 20), printed by a program of this work. The last part holds the claimed theorem: the law answers true at every input of its row. -/
import Derived.Test.YtnhgjgoglmadnaaGreatSPFieldss
namespace Go.Proofs.YtnhgjgoglmadnaaGreat
open Go.RowKit
set_option linter.unusedVariables false
def Bk {α : Type} (s s' : W8) (f : R8→α) (g : R8→R8) (a : α) : Prop:=
  s'.bad = false→s.bad = false∧∃ u,s'.l = s.l ++ u∧0 < u.length∧∀ rest,f ⟨u ++ rest,false⟩ = a∧g ⟨u ++ rest,false⟩ = ⟨rest,false⟩
theorem Bk.and {α β : Type} {s s' s'' : W8} {f : R8→α} {f' : R8→β} {g g' : R8→R8} {a : α} {b : β} (h : Bk s s' f g a) (h' : Bk s' s'' f' g' b) : Bk s s'' (fun r=>(f r,f' (g r))) (fun r=>g' (g r)) (a,b):=fun hb=>by
  obtain ⟨hb',u',e',p',r'⟩ :=h' hb
  obtain ⟨hb0,u,e,p,r⟩ :=h hb'
  refine ⟨hb0,u ++ u',by rw [e',e,List.append_assoc],by simp;omega,fun rest=>?_⟩
  obtain ⟨q1,q2⟩ :=r (u' ++ rest)
  obtain ⟨q3,q4⟩ :=r' rest
  rw [List.append_assoc]
  dsimp only
  rw [q1,q2,q3,q4]
  exact ⟨rfl,rfl⟩
theorem Bk.map {α β : Type} {s s' : W8} {f : R8→α} {g : R8→R8} {a : α} (h : Bk s s' f g a) (p : α→β) : Bk s s' (fun r=>p (f r)) g (p a):=fun hb=>by
  obtain ⟨hb0,u,e,q,r⟩ :=h hb
  exact ⟨hb0,u,e,q,fun rest=>⟨congrArg p (r rest).1,(r rest).2⟩⟩
theorem fits_of {n : Int} {k : Nat} (h : fits n k = true) : 0≤n∧(k < 8→n / 2 ^ (8 * k) = 0):=by
  simp only [fits,decide_eq_true_eq] at h
  refine ⟨h.2.2.1,fun hk=>?_⟩
  have e : (8 * (k : Int)).toNat = 8 * k:=by omega
  have:=h.2.2.2 (by omega)
  rw [e] at this;exact this
theorem fits_le {n : Int} {k : Nat} (h1 : 1≤k) (h7 : k≤7) (h : fits n k = true) : n≤9223372036854775807:=by
  obtain ⟨h0,hk⟩ :=fits_of h
  have hk:=hk (by omega)
  have hc : k = 1∨k = 2∨k = 3∨k = 4∨k = 5∨k = 6∨k = 7:=by omega
  have e1 : (2 : Int) ^ (8 * 1) = 256:=by decide
  have e2 : (2 : Int) ^ (8 * 2) = 65536:=by decide
  have e3 : (2 : Int) ^ (8 * 3) = 16777216:=by decide
  have e4 : (2 : Int) ^ (8 * 4) = 4294967296:=by decide
  have e5 : (2 : Int) ^ (8 * 5) = 1099511627776:=by decide
  have e6 : (2 : Int) ^ (8 * 6) = 281474976710656:=by decide
  have e7 : (2 : Int) ^ (8 * 7) = 72057594037927936:=by decide
  rcases hc with rfl | rfl | rfl | rfl | rfl | rfl | rfl
  · rw [e1] at hk;omega
  · rw [e2] at hk;omega
  · rw [e3] at hk;omega
  · rw [e4] at hk;omega
  · rw [e5] at hk;omega
  · rw [e6] at hk;omega
  · rw [e7] at hk;omega
theorem Bk.num (s : W8) (n : Int) (k : Nat) (h1 : 1≤k) (h7 : k≤7) : Bk s (s.num n k) (fun r=>r.numV k) (fun r=>r.numS k) n:=fun hb=>by
  cases hf : fits n k with
  | false=>simp [W8.num,hf] at hb
  | true=>
    have e : s.num n k = ⟨s.l ++ be n k,s.bad⟩ :=by simp [W8.num,hf]
    rw [e] at hb ⊢
    obtain ⟨h0,hk⟩ :=fits_of hf
    refine ⟨hb,be n k,rfl,by rw [be_length];omega,fun rest=>num_read n k rest h1 h7 h0 (fits_le h1 h7 hf) (hk (by omega))⟩
theorem Bk.n1 (s : W8) {n : Int} : Bk s (s.num n 1) (fun r=>r.numV 1) (fun r=>r.numS 1) n:=Bk.num s n 1 (by omega) (by omega)
theorem Bk.n2 (s : W8) {n : Int} : Bk s (s.num n 2) (fun r=>r.numV 2) (fun r=>r.numS 2) n:=Bk.num s n 2 (by omega) (by omega)
theorem Bk.n3 (s : W8) {n : Int} : Bk s (s.num n 3) (fun r=>r.numV 3) (fun r=>r.numS 3) n:=Bk.num s n 3 (by omega) (by omega)
theorem Bk.n4 (s : W8) {n : Int} : Bk s (s.num n 4) (fun r=>r.numV 4) (fun r=>r.numS 4) n:=Bk.num s n 4 (by omega) (by omega)
theorem Bk.pt (s : W8) {x y : Int} : Bk s (s.pt x y) (fun r=>r.ptV) (fun r=>r.ptS) (x,y):=fun hb=>by
  obtain ⟨h0,u,e,p,r⟩ :=((Bk.n3 s).and (Bk.n3 _)) hb
  refine ⟨h0,u,e,p,fun rest=>?_⟩
  obtain ⟨r1,r2⟩ :=r rest
  have r2' : (R8.mk (u ++ rest) false).ptS = ⟨rest,false⟩ :=r2
  refine ⟨?_,r2'⟩
  unfold R8.ptV
  dsimp only
  rw [r2']
  exact r1
theorem Bk.tri (s : W8) {t : T3} (hv : t.valid = true) : Bk s (s.tri t.ax t.ay t.bx t.by' t.cx t.cy) (fun r=>r.triV) (fun r=>r.triS) t:=fun hb=>by
  have hbad : s.bad = false:=by
    cases h : s.bad with
    | false=>rfl
    | true=>
      have : ∀ (s : W8) n k,s.bad = true→(s.num n k).bad = true:=fun s n k h=>by unfold W8.num;split<;>simp [h]
      unfold W8.tri W8.pt at hb
      rw [this _ _ _ (this _ _ _ (this _ _ _ (this _ _ _ (this _ _ _ (this _ _ _ h)))))] at hb
      cases hb
  obtain ⟨l,b⟩ :=s
  dsimp only at hbad
  subst hbad
  rw [tri_write l hv]
  exact ⟨rfl,t.bytes,rfl,by simp [T3.bytes,ptB_len],fun rest=>tri_read rest hv⟩
theorem Bk.len (s : W8) (b : List Int) : Bk s ((s.num b.length 2).raw b) (fun r=>(r.numS 2).rawV (r.numV 2)) (fun r=>(r.numS 2).rawS (r.numV 2)) b:=fun hb=>by
  obtain ⟨h0,u,e,p,r⟩ :=Bk.n2 s (n:=b.length) hb
  refine ⟨h0,u ++ b,by simp [W8.raw,e],by simp;omega,fun rest=>?_⟩
  obtain ⟨r1,r2⟩ :=r (b ++ rest)
  dsimp only at r1 r2 ⊢
  rw [List.append_assoc,r1,r2]
  exact raw_read b rest
theorem Bk.items {α : Type} {wf : W8 → α → W8} {f : R8 → α} {g : R8 → R8} {f' : R8 → α} {g' : R8 → R8} : ∀ (xs : List α) (s : W8), (∀ x ∈ xs, ∀ s, Bk s (wf s x) f g x) → (∀ x ∈ xs, ∀ s, Bk s (wf s x) f' g' x) →
    (xs.foldl wf s).bad = false→s.bad = false∧∃ u,(xs.foldl wf s).l = s.l ++ u∧∀ rest,itemsF f g xs.length ⟨u ++ rest,false⟩ = (xs,⟨rest,false⟩)∧itemsB f' g' xs.length ⟨u ++ rest,false⟩ = (xs,⟨rest,false⟩)
  | [],s,_,_,hb=>⟨hb,[],by simp,fun rest=>⟨rfl,rfl⟩⟩
  | x :: xs,s,h,h',hb=>by
    obtain ⟨b1,u1,e1,r1⟩ :=Bk.items xs (wf s x) (fun y hy=>h y (.tail _ hy)) (fun y hy=>h' y (.tail _ hy)) hb
    obtain ⟨b0,u0,e0,p0,r0⟩ :=h x (.head _) s b1
    obtain ⟨_,u0',e0',_,r0'⟩ :=h' x (.head _) s b1
    have eu : u0' = u0:=List.append_cancel_left (by rw [← e0',e0])
    subst eu
    refine ⟨b0,u0' ++ u1,by rw [List.foldl_cons,e1,e0,List.append_assoc],fun rest=>?_⟩
    obtain ⟨q1,q2⟩ :=r0 (u1 ++ rest)
    obtain ⟨q1',q2'⟩ :=r0' (u1 ++ rest)
    obtain ⟨q3,q4⟩ :=r1 rest
    rw [List.append_assoc]
    have hl : 0 < (R8.mk (u0' ++ (u1 ++ rest)) false).left:=by simp [R8.left];omega
    refine ⟨?_,?_⟩
    · rw [List.length_cons,itemsF,if_pos hl,q1,q2,q3]
    · rw [List.length_cons,itemsB,if_neg (by simp),q1',q2',q4]
theorem Bk.list {α : Type} {wf : W8 → α → W8} {f : R8 → α} {g : R8 → R8} (xs : List α) (s : W8) (h : ∀ x ∈ xs, ∀ s, Bk s (wf s x) f g x) :
    Bk s (xs.foldl wf (s.num xs.length 2)) (fun r=>itemsV f g r) (fun r=>itemsS f g r) xs:=fun hb=>by
  obtain ⟨b1,u1,e1,r1⟩ :=Bk.items xs _ h h hb
  obtain ⟨b0,u0,e0,p0,r0⟩ :=Bk.n2 s (n:=xs.length) b1
  refine ⟨b0,u0 ++ u1,by rw [e1,e0,List.append_assoc],by simp;omega,fun rest=>?_⟩
  obtain ⟨q1,q2⟩ :=r0 (u1 ++ rest)
  obtain ⟨q3,_⟩ :=r1 rest
  dsimp only at q1 q2
  simp only [itemsV,itemsS]
  rw [List.append_assoc,q1,q2,Int.toNat_natCast,q3]
  exact ⟨rfl,rfl⟩
theorem Bk.listB {α : Type} {wf : W8 → α → W8} {f : R8 → α} {g : R8 → R8} (xs : List α) (s : W8) (h : ∀ x ∈ xs, ∀ s, Bk s (wf s x) f g x) :
    Bk s (xs.foldl wf (s.num xs.length 2)) (fun r=>BV f g r) (fun r=>BS f g r) xs:=fun hb=>by
  obtain ⟨b1,u1,e1,r1⟩ :=Bk.items xs _ h h hb
  obtain ⟨b0,u0,e0,p0,r0⟩ :=Bk.n2 s (n:=xs.length) b1
  refine ⟨b0,u0 ++ u1,by rw [e1,e0,List.append_assoc],by simp;omega,fun rest=>?_⟩
  obtain ⟨q1,q2⟩ :=r0 (u1 ++ rest)
  obtain ⟨_,q3⟩ :=r1 rest
  dsimp only at q1 q2
  simp only [BV,BS]
  rw [List.append_assoc,q1,q2,Int.toNat_natCast,q3]
  exact ⟨rfl,rfl⟩
def Fw (g : R8→R8) (W : R8→W8→W8) : Prop:=∀ r,Byt r.l→Byt (g r).l∧((g r).bad = false→r.bad = false∧∃ u,r.l = u ++ (g r).l∧∀ s : W8,W r s = ⟨s.l ++ u,s.bad⟩)
theorem Fw.and {g g' : R8→R8} {W W' : R8→W8→W8} (h : Fw g W) (h' : Fw g' W') : Fw (fun r=>g' (g r)) (fun r s=>W' (g r) (W r s)):=fun r hb=>by
  obtain ⟨b1,k1⟩ :=h r hb
  obtain ⟨b2,k2⟩ :=h' (g r) b1
  refine ⟨b2,fun hg=>?_⟩
  obtain ⟨c2,u2,e2,w2⟩ :=k2 hg
  obtain ⟨c1,u1,e1,w1⟩ :=k1 c2
  refine ⟨c1,u1 ++ u2,?_,fun s=>?_⟩
  · rw [e1,List.append_assoc,← e2]
  · dsimp only;rw [w1,w2,List.append_assoc]
theorem be_succ (n : Int) (s : Nat) : be n (s + 1) = be (n / 256) s ++ [n % 256]:=by
  unfold be
  rw [List.range_succ,List.map_append]
  congr 1
  · refine List.map_congr_left fun i hi=>?_
    have hi:=List.mem_range.1 hi
    have e1 : 8 * (s + 1 - 1 - i) = 8 + 8 * (s - 1 - i):=by omega
    rw [e1,Int.pow_add,← Int.ediv_ediv_of_nonneg (by decide)]
    rfl
  · simp
theorem be_rval : ∀ (k : Nat) (xs : List Int),xs.length = k→k≤7→Byt xs→be (rval xs) k = xs
  | 0,xs,h,_,_=>by
    have : xs = []:=List.eq_nil_of_length_eq_zero h
    subst this;rfl
  | k + 1,xs,h,h7,hb=>by
    have hne : xs≠[]:=by intro e;subst e;simp at h
    obtain ⟨ys,y,rfl⟩ : ∃ ys y,xs = ys ++ [y]:=⟨xs.dropLast,xs.getLast hne,(List.dropLast_concat_getLast hne).symm⟩
    simp at h
    have hby : Byt ys:=fun x hx=>hb x (by simp [hx])
    obtain ⟨k1,k2⟩ :=rval_rng k ys h (by omega) hby
    have ih:=be_rval k ys h (by omega) hby
    have hy:=hb y (by simp)
    have hle : (256 : Int) ^ k≤281474976710656:=by
      have hn : k = 0∨k = 1∨k = 2∨k = 3∨k = 4∨k = 5∨k = 6:=by omega
      rcases hn with rfl | rfl | rfl | rfl | rfl | rfl | rfl<;>decide
    have e : rval (ys ++ [y]) = rval ys * 256 + y:=by
      unfold rval
      rw [List.foldl_append]
      simp only [List.foldl_cons,List.foldl_nil]
      exact rstep_eq k1 hy (by omega)
    rw [e,be_succ]
    unfold rval at *
    have e1 : (ys.foldl rstep 0 * 256 + y) / 256 = ys.foldl rstep 0:=by omega
    have e2 : (ys.foldl rstep 0 * 256 + y) % 256 = y:=by omega
    rw [e1,e2,ih]
theorem Fw.num (k : Nat) (h1 : 1≤k) (h7 : k≤7) : Fw (fun r=>r.numS k) (fun r s=>s.num (r.numV k) k):=fun r hb=>by
  refine ⟨numS_byt r k hb,fun hg=>?_⟩
  obtain ⟨c,e⟩ :=num_ok k h1 h7 hg
  obtain ⟨e1,e2⟩ :=r.num_yes k c h1 h7 (by omega)
  have hbt : Byt (r.l.take k):=fun x hx=>hb x (List.mem_of_mem_take hx)
  have hlt : (r.l.take k).length = k:=by simp;omega
  refine ⟨c,r.l.take k,by dsimp only;rw [e2];simp,fun s=>?_⟩
  dsimp only
  rw [e1]
  obtain ⟨g1,g2⟩ :=rval_rng k _ hlt h7 hbt
  have hf : fits (rval (r.l.take k)) k = true:=by
    simp only [fits,decide_eq_true_eq]
    refine ⟨by omega,by omega,g1,fun _=>?_⟩
    have e : (8 * (k : Int)).toNat = 8 * k:=by omega
    have e256 : (256 : Int) ^ k = 2 ^ (8 * k):=by rw [Int.pow_mul];rfl
    rw [e,← e256]
    exact Int.ediv_eq_zero_of_lt g1 g2
  have ek : (k : Int).toNat = k:=by omega
  simp only [W8.num,hf,if_true,ek]
  rw [be_rval k _ hlt h7 hbt]
theorem Fw.n1 : Fw (fun r=>r.numS 1) (fun r s=>s.num (r.numV 1) 1):=Fw.num 1 (by omega) (by omega)
theorem Fw.n2 : Fw (fun r=>r.numS 2) (fun r s=>s.num (r.numV 2) 2):=Fw.num 2 (by omega) (by omega)
theorem Fw.n3 : Fw (fun r=>r.numS 3) (fun r s=>s.num (r.numV 3) 3):=Fw.num 3 (by omega) (by omega)
theorem Fw.n4 : Fw (fun r=>r.numS 4) (fun r s=>s.num (r.numV 4) 4):=Fw.num 4 (by omega) (by omega)
theorem Fw.conv {g : R8→R8} {W W' : R8→W8→W8} (h : Fw g W) (he : ∀ r s,(g r).bad = false→W' r s = W r s) : Fw g W':=fun r hb=>by
  obtain ⟨b1,k1⟩ :=h r hb
  refine ⟨b1,fun hg=>?_⟩
  obtain ⟨c1,u1,e1,w1⟩ :=k1 hg
  exact ⟨c1,u1,e1,fun s=>by rw [he r s hg,w1]⟩
theorem Fw.pt : Fw (fun r=>r.ptS) (fun r s=>s.pt r.ptV.1 r.ptV.2):=
  Fw.conv (Fw.n3.and Fw.n3) fun r s hg=>by
    have hg' : r.ptS.bad = false:=hg
    unfold R8.ptV W8.pt
    rw [hg']
    simp
theorem Fw.tri : Fw (fun r=>r.triS) (fun r s=>s.tri r.triV.ax r.triV.ay r.triV.bx r.triV.by' r.triV.cx r.triV.cy):=fun r hb=>by
  refine ⟨triS_byt r hb,fun hg=>?_⟩
  obtain ⟨⟨c,_⟩,e1,e2⟩ :=tri_ok hg
  have h3:=((Fw.pt.and Fw.pt).and Fw.pt) r hb
  have hg' : r.tS3.bad = false:=by rw [← e1];exact hg
  obtain ⟨_,u,e,w⟩ :=h3.2 hg'
  have ev : r.triV = r.tT:=by unfold R8.triV;rw [hg',e2];rfl
  refine ⟨c,u,by dsimp only;rw [e1];exact e,fun s=>?_⟩
  dsimp only
  rw [ev]
  exact w s
theorem Fw.len : Fw (fun r=>(r.numS 2).rawS (r.numV 2)) (fun r s=>(s.num ((r.numS 2).rawV (r.numV 2)).length 2).raw ((r.numS 2).rawV (r.numV 2))):=fun r hb=>by
  have h2:=Fw.n2 r hb
  refine ⟨(rawS_byt _ _ h2.1).1,fun hg=>?_⟩
  obtain ⟨c1,_,e,h0,hl⟩ :=raw_ok hg
  obtain ⟨c,u,e',w⟩ :=h2.2 c1
  refine ⟨c,u ++ (r.numS 2).rawV (r.numV 2),by dsimp only at e e' ⊢;rw [List.append_assoc,e,e'],fun s=>?_⟩
  have en : (((r.numS 2).rawV (r.numV 2)).length : Int) = r.numV 2:=by omega
  dsimp only at w ⊢
  rw [en,w s]
  simp [W8.raw]
theorem Fw.items {α : Type} {f : R8 → α} {g : R8 → R8} {wf : W8 → α → W8} {P : α → Prop} (h : Fw g (fun r s => wf s (f r))) (hP : ∀ r, (g r).bad = false → P (f r)) : ∀ (n : Nat) (r : R8), Byt r.l → Byt (itemsB f g n r).2.l ∧
    ((itemsB f g n r).2.bad = false→r.bad = false∧(itemsB f g n r).1.length = n∧(∀ x ∈ (itemsB f g n r).1,P x)∧∃ u,r.l = u ++ (itemsB f g n r).2.l∧∀ s : W8,(itemsB f g n r).1.foldl wf s = ⟨s.l ++ u,s.bad⟩)
  | 0,r,hb=>⟨hb,fun hg=>⟨hg,rfl,fun x hx=>(by cases hx),[],rfl,fun s=>by simp [itemsB]⟩⟩
  | n + 1,r,hb=>by
    cases hr : r.bad with
    | true=>
      have e : itemsB f g (n + 1) r = ([],r):=by rw [itemsB,if_pos hr]
      rw [e]
      exact ⟨hb,fun hg=>by dsimp only at hg;rw [hr] at hg;cases hg⟩
    | false=>
      have e : itemsB f g (n + 1) r = (f r :: (itemsB f g n (g r)).1,(itemsB f g n (g r)).2):=by rw [itemsB,if_neg (by rw [hr];simp)]
      obtain ⟨b1,k1⟩ :=h r hb
      obtain ⟨b2,k2⟩ :=Fw.items h hP n (g r) b1
      rw [e]
      refine ⟨b2,fun hg=>?_⟩
      obtain ⟨c2,l2,p2,u2,e2,w2⟩ :=k2 hg
      obtain ⟨c1,u1,e1,w1⟩ :=k1 c2
      refine ⟨rfl,by simp [l2],fun x hx=>?_,u1 ++ u2,?_,fun s=>?_⟩
      · rcases List.mem_cons.1 hx with rfl | hx
        · exact hP r c2
        · exact p2 x hx
      · dsimp only;rw [e1,List.append_assoc,← e2]
      · dsimp only at w1
        rw [List.foldl_cons,w1,w2,List.append_assoc]
theorem Fw.list {α : Type} {f : R8→α} {g : R8→R8} {wf : W8→α→W8} (h : Fw g (fun r s=>wf s (f r))) : Fw (fun r=>BS f g r) (fun r s=>(BV f g r).foldl wf (s.num (BV f g r).length 2)):=fun r hb=>by
  have h2:=Fw.n2 r hb
  obtain ⟨b2,k2⟩ :=Fw.items (P:=fun _=>True) h (fun _ _=>trivial) (r.numV 2).toNat (r.numS 2) h2.1
  refine ⟨b2,fun hg=>?_⟩
  obtain ⟨c1,l1,_,u1,e1,w1⟩ :=k2 hg
  obtain ⟨c,u,e,w⟩ :=h2.2 c1
  refine ⟨c,u ++ u1,by dsimp only [BS] at *;rw [List.append_assoc,← e1,← e],fun s=>?_⟩
  have hn:=(num2_rng r hb).1
  have el : ((BV f g r).length : Int) = r.numV 2:=by unfold BV;rw [l1];omega
  dsimp only at w ⊢
  rw [el,w s]
  unfold BV
  rw [w1,List.append_assoc]
theorem Fw.all {α : Type} {f : R8→α} {g : R8→R8} {wf : W8→α→W8} {P : α→Prop} (h : Fw g (fun r s=>wf s (f r))) (hP : ∀ r,(g r).bad = false→P (f r)) (r : R8) (hb : Byt r.l) (hg : (BS f g r).bad = false) : ∀ x ∈ BV f g r,P x:=
  ((Fw.items h hP (r.numV 2).toNat (r.numS 2) (numS_byt r 2 hb)).2 hg).2.2.1
set_option maxRecDepth 100000
set_option linter.unusedSimpArgs false
instance : DecidableEq Ch:=fun a b=>decidable_of_iff (a.t = b.t∧a.d = b.d∧a.b = b.b) ⟨fun ⟨h1,h2,h3⟩ =>by cases a;cases b;simp_all,fun e=>by subst e;exact ⟨rfl,rfl,rfl⟩⟩
theorem same117 (x y : Ch) (u v : Value) (w : World) (hu : Rd w u x.b) (hv : Rd w v y.b) (bx : Byt x.b) (by_ : Byt y.b) :
    Calls Tryz.prog 65 [.agg #[.int .i64 x.t,.bool x.d,u],.agg #[.int .i64 y.t,.bool y.d,v]].toArray w (RetK fun r w'=>r = .bool (decide (x = y))∧Chg (fun _=>False) w w'):=by
  have hu':=hu
  have hv':=hv
  obtain ⟨au,cu,rfl,_⟩ :=hu'
  obtain ⟨av,cv,rfl,_⟩ :=hv'
  have h:=Sep.nil w
  refine walk Tryz.func65 rfl (by kernel_rfl) (by rw [Tryz.nt65];simp) ?_
  replace h:=Zd h;have F:=Zf4 h
  refine Zv ?_
  refine h.new ?_
  clear h F
  intro w1 b1 h
  refine h.new ?_
  clear h
  intro w2 b2 h
  have e : decide (x = y) = (decide (x.t = y.t) && (x.d == y.d && decide (x.b = y.b))):=by
    cases x;cases y;simp [Bool.decide_and,Bool.beq_eq_decide_eq]
  by_cases h1 : x.t = y.t
  case neg=>
    replace h:=Zd h;have F:=Zf4 h;refine Zc1 (decide_eq_false h1) ?_
    exact ⟨by rw [e,decide_eq_false h1];rfl,h.done⟩
  by_cases h2 : x.d = y.d
  case neg=>
    have h2' : (x.d == y.d) = false:=by simpa using h2
    replace h:=Zd h;have F:=Zf4 h;refine Zc1 (J (decide_eq_true h1) h2') ?_
    exact ⟨by rw [e,h2',decide_eq_true h1];rfl,h.done⟩
  have h2' : (x.d == y.d) = true:=by simpa using h2
  replace h:=Zd h;have F:=Zf4 h;refine Zc1 (J (decide_eq_true h1) h2') ?_
  refine Sep.callp h (bytesEq _ _ _ _ _ (hu.sep h fun _ _=>id) (hv.sep h fun _ _=>id) bx by_) ?_
  clear h F
  intro w3 h
  replace h:=Zd h;have F:=Zf4 h;refine Zs ?_
  exact ⟨by rw [e,decide_eq_true h1,h2'];rfl,h.done⟩
theorem eqCh (u v : Value) (xs ys : List Ch) (w : World) (hx : Chn w u xs) (hy : Chn w v ys) (bx : ∀ c ∈ xs, Byt c.b) (by_ : ∀ c ∈ ys, Byt c.b) :
    Calls Tryz.prog 64 [u,v,.func (.func 65) #[] #[]].toArray w (RetK fun r w'=>r = .bool (decide (xs = ys))∧Chg (fun _=>False) w w'):=by
  obtain ⟨a,cc,rfl⟩ :=hx.shape
  obtain ⟨a',cc',rfl⟩ :=hy.shape
  have hl:=hx.len
  have hl':=hy.len
  simp only [maxLen] at hl hl'
  have h:=Sep.nil w
  refine walk Tryz.func64 rfl (by kernel_rfl) (by rw [Tryz.nt64];simp) ?_
  replace h:=Zd h;have F:=Zf4 h
  refine Zv ?_
  by_cases hlen : (xs.length : Int) = ys.length
  case neg=>
    have e : decide (xs = ys) = false:=decide_eq_false fun e=>hlen (by rw [e])
    replace h:=Zd h;have F:=Zf4 h;refine Zs1 (J (decide_eq_false hlen) (decide_eq_true (show ¬ (xs.length : Int) = ys.length from hlen))) ?_
    exact ⟨by rw [e],h.done⟩
  replace h:=Zd h;have F:=Zf4 h;refine Zs1 (J (decide_eq_true hlen) (decide_eq_false (show ¬ ¬ (xs.length : Int) = ys.length from fun f=>f hlen))) ?_
  refine walkLoop [1,2,15,16] [17] (fun m vs w'=>∃ i,i≤xs.length∧m = xs.length - i∧vs = [.int .i64 i]∧xs.take i = ys.take i∧Sep w (fun _=>False) [] w') (by kernel_rfl) ?_ ?_
  · refine Zv ?_
    exact ⟨_,0,Nat.zero_le _,rfl,rfl,by simp,h⟩
  intro ks hk m vs w2 hi
  clear h F
  obtain ⟨i,hi,rfl,rfl,htk,h⟩ :=hi
  replace hk:=Zk hk;subst hk
  by_cases hlt : (i : Int) < xs.length
  case neg=>
    have hil : i = xs.length:=by omega
    have e : decide (xs = ys) = true:=decide_eq_true (by
      have h1 : xs.take i = xs:=List.take_of_length_le (by omega)
      have h2 : ys.take i = ys:=List.take_of_length_le (by omega)
      rw [h1,h2] at htk;exact htk)
    replace h:=Zd h;have F:=Zf4 h;refine Zs1 (decide_eq_false hlt) ?_
    exact ⟨by rw [e],h.done⟩
  have hil : i < xs.length:=by omega
  have hil' : i < ys.length:=by omega
  obtain ⟨b,o,ux,rfl,hcx,rx⟩ :=hx.at hil
  obtain ⟨b',o',uy,rfl,hcy,ry⟩ :=hy.at hil'
  have htk2 : xs[i] = ys[i]→xs.take (i + 1) = ys.take (i + 1):=fun e=>take_succ_eq htk hil hil' e
  have hne : xs[i]≠ys[i]→decide (xs = ys) = false:=fun e=>decide_eq_false fun f=>e (by subst f;rfl)
  have bxi:=bx _ (List.getElem_mem hil)
  have byi:=by_ _ (List.getElem_mem hil')
  generalize xs[i] = x at *
  generalize ys[i] = y at *
  have rx':=rx
  have ry':=ry
  obtain ⟨au,cu,rfl,_⟩ :=rx'
  obtain ⟨av,cv,rfl,_⟩ :=ry'
  have hcw : ∀ {b o : Nat} {cs : List Value} {n : Nat},cellsAt w b o n = some cs→∀ {w' : World} {M : List Res},Sep w (fun _=>False) M w'→cellsAt w' b o n = some cs:=fun {b o cs n} hc {w' M} hs=>by
    obtain ⟨hl,hat⟩ :=cellsAt_elim hc
    have:=cellsAt_of (w:=w') (b:=b) (o:=o) cs (fun j u hj=>by
      have:=hat j u hj
      rw [hs.cell0 (by rw [this];rfl) id,this])
    rw [hl] at this;exact this
  have ei : IntKind.i64.wrap ((i : Int) + 1) = ((i + 1 : Nat) : Int):=by rw [i64w _ (by omega) (by omega)];omega
  have h0i : (0 : Int)≤i:=by omega
  have hlt' : (i : Int) < ys.length:=by omega
  replace h:=Zd h;have F:=Zf4 h;refine Zs1 (decide_eq_true hlt) ?_
  refine ⟨⟨h0i,hlt⟩,?_⟩
  have hq:=hcw hcx h
  replace h:=Zd h;have F:=Zf4 h;refine Zs1 hq ?_
  refine h.new ?_
  clear h F
  intro w3 b3 h
  replace h:=Zd h;have F:=Zf4 h;refine Zs ?_
  refine Sep.put 0 h rfl ?_
  clear h F
  intro w4 h
  replace h:=Zd h;have F:=Zf4 h;refine Zs ?_
  refine ⟨⟨h0i,hlt'⟩,?_⟩
  have hq2:=hcw hcy h
  replace h:=Zd h;have F:=Zf4 h;refine Zs1 hq2 ?_
  refine h.new ?_
  clear h F
  intro w5 b5 h
  replace h:=Zd h;have F:=Zf4 h;refine Zs ?_
  refine Sep.put 1 h rfl ?_
  clear h F
  intro w6 h
  replace h:=Zd h;have F:=Zf4 h;refine Zc ?_
  refine Sep.callp h (same117 x y _ _ w6 (rx.sep h fun _ _=>id) (ry.sep h fun _ _=>id) bxi byi) ?_
  clear h F
  intro w7 h
  by_cases he : x = y
  case pos=>
    replace h:=Zd h;have F:=Zf4 h;refine Zs1 (J (decide_eq_true he) ei) ?_
    refine ⟨_,?_,i + 1,by omega,rfl,rfl,htk2 he,(h.erase 1).erase 0⟩
    omega
  case neg=>
    replace h:=Zd h;have F:=Zf4 h;refine Zs1 (decide_eq_false he) ?_
    exact ⟨by rw [hne he],h.done⟩
theorem eqItems_int {P : Program} {d c : Nat} {e : TypeId} {xs ys : Array Value} {i : Nat} {is : List Nat} {a b : Int} {w : World} {k : IntKind} (hu : P.underlying e = some (.int k)) (ha : xs[i * c]? = some (.int .i64 a)) (hb : ys[i * c]? = some (.int .i64 b)) {r : Bool}
    (h : (Op.eqItems (d + 1) e c xs ys is).run P w = .ok r w) : (Op.eqItems (d + 1) e c xs ys (i :: is)).run P w = .ok (decide (a = b) && r) w:=by
  have hp : P.plainKey e = true:=by simp [Program.plainKey,hu]
  simp only [Op.eqItems,Sem.run_bind,run_part_plain w hp ha,run_part_plain w hp hb,Result.andThen_ok,run_equalIn_int w d e .i64 k a b hu]
  by_cases e : a = b
  · simp [e,h]
  · simp [e]
theorem eqItems_nil {P : Program} {d c : Nat} {e : TypeId} {xs ys : Array Value} {w : World} : (Op.eqItems d e c xs ys []).run P w = .ok true w:=by simp [Op.eqItems]
theorem same115 (m : MapV) (s : MapS) (w : World) : Calls Tryz.prog 63 [.agg (m.cells s).toArray].toArray w (RetK fun r w'=>r = .agg #[.int .i64 m.w,.int .i64 m.h,.int .i64 m.te,.int .i64 m.wi,.int .i64 m.mr,.int .i64 m.mb,.int .i64 m.ti]∧Chg (fun _=>False) w w'):=by
  have h:=Sep.nil w
  refine walk Tryz.func63 rfl (by kernel_rfl) (by rw [Tryz.nt63];simp) ?_
  replace h:=Zd h;have F:=Zf4 h
  refine Zv1 (@MapV.cells.eq_1) ?_
  refine h.new ?_
  clear h F
  intro w1 b1 h
  refine h.new ?_
  clear h
  intro w2 b2 h
  replace h:=Zd h;have F:=Zf4 h;refine Zc ?_
  refine Sep.put 1 h rfl ?_
  clear h F
  intro w3 h
  replace h:=Zd h;have F:=Zf4 h;refine Zc ?_
  exact h.done
theorem seqArr {d : Nat} (a0 a1 a2 a3 a4 a5 a6 c0 c1 c2 c3 c4 c5 c6 : Int) (w : World) : (Op.equalIn (d + 2) 125 (.agg #[.int .i64 a0,.int .i64 a1,.int .i64 a2,.int .i64 a3,.int .i64 a4,.int .i64 a5,.int .i64 a6]) (.agg #[.int .i64 c0,.int .i64 c1,.int .i64 c2,.int .i64 c3,.int .i64 c4,.int .i64 c5,.int .i64 c6])).run Tryz.prog w = .ok (decide ([a0,a1,a2,a3,a4,a5,a6] = [c0,c1,c2,c3,c4,c5,c6])) w:=by
  obtain ⟨i,hi⟩ :=info_of_underlying (show Tryz.prog.underlying 3 = some (.int .i64) by kernel_rfl)
  have hc : Tryz.prog.cellsOf 3 = 1:=by kernel_rfl
  have hr : List.range 7 = [0,1,2,3,4,5,6]:=rfl
  rw [run_equalIn_array w (d + 1) _ _ (show Tryz.prog.underlying 125 = some (.array 7 3) by kernel_rfl) hi,hc,hr]
  have h : (Op.eqItems (d + 1) 3 1 #[.int .i64 a0,.int .i64 a1,.int .i64 a2,.int .i64 a3,.int .i64 a4,.int .i64 a5,.int .i64 a6] #[.int .i64 c0,.int .i64 c1,.int .i64 c2,.int .i64 c3,.int .i64 c4,.int .i64 c5,.int .i64 c6] [0,1,2,3,4,5,6]).run Tryz.prog w = _:=(eqItems_int (show Tryz.prog.underlying 3 = some (.int .i64) by kernel_rfl) rfl rfl (eqItems_int (show Tryz.prog.underlying 3 = some (.int .i64) by kernel_rfl) rfl rfl (eqItems_int (show Tryz.prog.underlying 3 = some (.int .i64) by kernel_rfl) rfl rfl (eqItems_int (show Tryz.prog.underlying 3 = some (.int .i64) by kernel_rfl) rfl rfl (eqItems_int (show Tryz.prog.underlying 3 = some (.int .i64) by kernel_rfl) rfl rfl (eqItems_int (show Tryz.prog.underlying 3 = some (.int .i64) by kernel_rfl) rfl rfl (eqItems_int (show Tryz.prog.underlying 3 = some (.int .i64) by kernel_rfl) rfl rfl eqItems_nil)))))))
  rw [h]
  simp [Bool.decide_and,Bool.and_assoc]
theorem i64wrap (n : Int) : IntKind.i64.wrap n = (n + 9223372036854775808) % 18446744073709551616 - 9223372036854775808:=by
  simp only [IntKind.wrap,IntKind.signed,IntKind.bits]
  have e1 : (2 : Int) ^ 64 = 18446744073709551616:=by decide
  have e2 : (2 : Int) ^ (64 - 1) = 9223372036854775808:=by decide
  simp only [e1,e2];first | omega | (simp;omega)
theorem wrap_back {a : Int} (h : -9223372036854775808≤a∧a≤9223372036854775807) : IntKind.i64.wrap (IntKind.i64.wrap (a + 1) - 1) = a:=by
  rw [i64wrap,i64wrap];omega
theorem Bk.and' {α β : Type} {s s' s'' : W8} {f : R8→α} {f' : R8→β} {g g' g'' : R8→R8} {a : α} {b : β} (h : Bk s s' f g a) (h' : Bk s' s'' f' g' b) (hg : ∀ r,g'' r = g' (g r)) : Bk s s'' (fun r=>(f r,f' (g r))) g'' (a,b):=by
  have e : g'' = fun r=>g' (g r):=funext hg
  rw [e];exact h.and h'
theorem Bk.map' {α β : Type} {s s' : W8} {f : R8→α} {f' : R8→β} {g : R8→R8} {a : α} {b : β} (h : Bk s s' f g a) (p : α→β) (hf : ∀ r,f' r = p (f r)) (hb : b = p a) : Bk s s' f' g b:=by
  have e : f' = fun r=>p (f r):=funext hf
  rw [e,hb];exact h.map p
theorem Fw.and' {g g' g'' : R8→R8} {W W' W'' : R8→W8→W8} (h : Fw g W) (h' : Fw g' W') (hg : ∀ r,g'' r = g' (g r)) (hW : ∀ r s,W'' r s = W' (g r) (W r s)) : Fw g'' W'':=by
  have e : g'' = fun r=>g' (g r):=funext hg
  have e' : W'' = fun r s=>W' (g r) (W r s):=funext fun r=>funext (hW r)
  rw [e,e'];exact h.and h'
theorem Bk.P (s : W8) {x : List Int} (hl : x.length = 2) : Bk s (wP s x) rP sP x:=by
  match x,hl with
  | [a0,a1],_=>
    exact (Bk.pt s).map fun p=>[p.1,p.2]
theorem Bk.W (s : W8) {x : List Int} (hl : x.length = 5) : Bk s (wW s x) rW sW x:=by
  match x,hl with
  | [a0,a1,a2,a3,a4],_=>
    exact (((Bk.pt s).and (Bk.pt _)).and (Bk.n1 _)).map fun p=>[p.1.1.1,p.1.1.2,p.1.2.1,p.1.2.2,p.2]
theorem Bk.Pa (s : W8) {x : List Int} (hl : x.length = 2) : Bk s (wPa s x) rPa sPa x:=by
  match x,hl with
  | [a0,a1],_=>
    exact ((Bk.n1 s).and (Bk.n1 _)).map fun p=>[p.1,p.2]
theorem Bk.Re (s : W8) {x : List Int} (hl : x.length = 10) (hv : badRe x = false) : Bk s (wRe s x) rRe sRe x:=by
  match x,hl with
  | [a0,a1,a2,a3,a4,a5,a6,a7,a8,a9],_=>
    have hv' : T3.valid ⟨a4,a5,a6,a7,a8,a9⟩ = true:=by simpa [badRe] using hv
    exact (((((Bk.n1 s).and (Bk.n2 _)).and (Bk.n1 _)).and (Bk.n1 _)).and (Bk.tri _ hv')).map fun p=>[p.1.1.1.1,p.1.1.1.2,p.1.1.2,p.1.2,p.2.ax,p.2.ay,p.2.bx,p.2.by',p.2.cx,p.2.cy]
theorem Bk.Ca (s : W8) {x : List Int} (hl : x.length = 9) (ho : Ok64 x) : Bk s (wCa s x) rCa sCa x:=by
  match x,hl with
  | [a0,a1,a2,a3,a4,a5,a6,a7,a8],_=>
    simp only [Ok64,List.forall_mem_cons,List.not_mem_nil,false_implies,implies_true,and_true] at ho
    obtain ⟨h0,h1,h2,h3,h4,h5,h6,h7,h8⟩ :=ho
    have k:=(((((((((Bk.n1 s (n:=a0)).and (Bk.n1 _ (n:=a1))).and (Bk.n1 _ (n:=a2))).and (Bk.n1 _ (n:=a3))).and (Bk.n2 _ (n:=a4))).and (Bk.n1 _ (n:=a5))).and (Bk.n4 _ (n:=a6))).and (Bk.n2 _ (n:=IntKind.i64.wrap (a7 + 1)))).and (Bk.n1 _ (n:=a8))).map fun p=>[p.1.1.1.1.1.1.1.1,p.1.1.1.1.1.1.1.2,p.1.1.1.1.1.1.2,p.1.1.1.1.1.2,p.1.1.1.1.2,p.1.1.1.2,p.1.1.2,IntKind.i64.wrap (p.1.2 - 1),p.2]
    dsimp only at k
    rw [wrap_back h7] at k
    exact k
theorem Bk.Is (s : W8) {x : List Int} (hl : x.length = 3) : Bk s (wIs s x) rIs sIs x:=by
  match x,hl with
  | [a0,a1,a2],_=>
    exact (((Bk.n1 s).and (Bk.n1 _)).and (Bk.n1 _)).map fun p=>[p.1.1,p.1.2,p.2]
theorem Bk.Co (s : W8) {x : List Int} (hl : x.length = 3) : Bk s (wCo s x) rCo sCo x:=by
  match x,hl with
  | [a0,a1,a2],_=>
    exact (((Bk.n1 s).and (Bk.n2 _)).and (Bk.n2 _)).map fun p=>[p.1.1,p.1.2,p.2]
theorem bit_one (d : Bool) : decide (bit d = 1) = d:=by cases d<;>rfl
theorem bit_le (d : Bool) : bit d≤1:=by cases d<;>decide
theorem Bk.chn (s : W8) {c : Ch} : Bk s (wCh s c) rCh sCh c:=by
  have k:=(((Bk.n1 s (n:=c.t)).and (Bk.n1 _ (n:=bit c.d))).and (Bk.len _ c.b)).map fun p=>Ch.mk p.1.1 (decide (p.1.2 = 1)) p.2
  dsimp only at k
  rw [bit_one] at k
  exact k
theorem Bk.chnB (s : W8) {c : Ch} : Bk s (wCh s c) rChB sChB c:=fun hb=>by
  obtain ⟨b1,u1,e1,p1,r1⟩ :=Bk.len (((s.num c.t 1).num (bit c.d) 1)) c.b hb
  obtain ⟨b0,u0,e0,p0,r0⟩ :=((Bk.n1 s (n:=c.t)).and (Bk.n1 _ (n:=bit c.d))) b1
  refine ⟨b0,u0 ++ u1,?_,by simp;omega,fun rest=>?_⟩
  · rw [show (wCh s c).l = _ from e1,e0,List.append_assoc]
  obtain ⟨q1,q2⟩ :=r0 (u1 ++ rest)
  obtain ⟨q3,q4⟩ :=r1 rest
  simp only [Prod.mk.injEq] at q1
  have em : chMark ⟨u0 ++ (u1 ++ rest),false⟩ = ⟨u1 ++ rest,false⟩ :=by
    unfold chMark
    rw [if_neg (by rw [q1.2];have:=bit_le c.d;omega)]
    exact q2
  rw [List.append_assoc]
  unfold rChB sChB
  rw [em,q1.1,q1.2,bit_one]
  dsimp only at q3 q4
  exact ⟨by rw [q3],q4⟩
structure MapV.Wid (m : MapV) : Prop where
  p : ∀ x ∈ m.p,x.length = 2
  wa : ∀ x ∈ m.wa,x.length = 5
  pa : ∀ x ∈ m.pa,x.length = 2
  re : ∀ x ∈ m.re,x.length = 10
  ca : ∀ x ∈ m.ca,x.length = 9
  is : ∀ x ∈ m.is,x.length = 3
  co : ∀ x ∈ m.co,x.length = 3
theorem MapR.wid {w : World} {m : MapV} {s : MapS} (R : MapR w m s) : m.Wid:=⟨R.p.wid,R.wa.wid,R.pa.wid,R.re.wid,R.ca.wid,R.is.wid,R.co.wid⟩
section
variable {m : MapV} (O : ∀ x ∈ m.ca,Ok64 x) (D : m.Wid) (hv : m.re.any badRe = false)
include O D hv
theorem enc_bk : Bk ⟨[],false⟩ m.enc dV dE m:=by
  have n0:=(((((((Bk.n3 ⟨[],false⟩ (n:=m.w)).and (Bk.n3 _ (n:=m.h))).and (Bk.n1 _ (n:=m.te))).and (Bk.n2 _ (n:=m.wi))).and (Bk.n2 _ (n:=m.mr))).and (Bk.n2 _ (n:=m.mb))).and' (Bk.n4 _ (n:=m.ti)) (g'':=dN) (fun r=>by rw [dN]))
  have k1:=Bk.list (f:=rP) (g:=sP) m.p m.nums (fun x hx s=>Bk.P s (D.p x hx) )
  have k2:=Bk.list (f:=rW) (g:=sW) m.wa (encL wP m.nums m.p) (fun x hx s=>Bk.W s (D.wa x hx) )
  have k3:=Bk.list (f:=rPa) (g:=sPa) m.pa (encL wW (encL wP m.nums m.p) m.wa) (fun x hx s=>Bk.Pa s (D.pa x hx) )
  have k4:=Bk.list (f:=rRe) (g:=sRe) m.re (encL wPa (encL wW (encL wP m.nums m.p) m.wa) m.pa) (fun x hx s=>Bk.Re s (D.re x hx)  (by simpa using fun h=>List.any_eq_false.1 hv x hx h))
  have k5:=Bk.list (f:=rCa) (g:=sCa) m.ca (encL wRe (encL wPa (encL wW (encL wP m.nums m.p) m.wa) m.pa) m.re) (fun x hx s=>Bk.Ca s (D.ca x hx) (O x hx))
  have k6:=Bk.list (f:=rIs) (g:=sIs) m.is (encL wCa (encL wRe (encL wPa (encL wW (encL wP m.nums m.p) m.wa) m.pa) m.re) m.ca) (fun x hx s=>Bk.Is s (D.is x hx) )
  have k7:=Bk.list (f:=rCo) (g:=sCo) m.co (encL wIs (encL wCa (encL wRe (encL wPa (encL wW (encL wP m.nums m.p) m.wa) m.pa) m.re) m.ca) m.is) (fun x hx s=>Bk.Co s (D.co x hx) )
  have k8:=Bk.list (f:=rCh) (g:=sCh) m.ch (encL wCo (encL wIs (encL wCa (encL wRe (encL wPa (encL wW (encL wP m.nums m.p) m.wa) m.pa) m.re) m.ca) m.is) m.co) (fun x hx s=>Bk.chn s)
  have c1:=n0.and' k1 (g'':=d1) (fun r=>by rw [d1])
  have c2:=c1.and' k2 (g'':=d2) (fun r=>by rw [d2])
  have c3:=c2.and' k3 (g'':=d3) (fun r=>by rw [d3])
  have c4:=c3.and' k4 (g'':=d4) (fun r=>by rw [d4])
  have c5:=c4.and' k5 (g'':=d5) (fun r=>by rw [d5])
  have c6:=c5.and' k6 (g'':=d6) (fun r=>by rw [d6])
  have c7:=c6.and' k7 (g'':=d7) (fun r=>by rw [d7])
  have c8:=c7.and' k8 (g'':=dE) (fun r=>by rw [dE])
  exact c8.map' (fun p=>MapV.mk p.1.1.1.1.1.1.1.1.1.1.1.1.1.1 p.1.1.1.1.1.1.1.1.1.1.1.1.1.2 p.1.1.1.1.1.1.1.1.1.1.1.1.2 p.1.1.1.1.1.1.1.1.1.1.1.2 p.1.1.1.1.1.1.1.1.1.1.2 p.1.1.1.1.1.1.1.1.1.2 p.1.1.1.1.1.1.1.1.2 p.1.1.1.1.1.1.1.2 p.1.1.1.1.1.1.2 p.1.1.1.1.1.2 p.1.1.1.1.2 p.1.1.1.2 p.1.1.2 p.1.2 p.2) (fun r=>by rw [dV]) rfl
theorem enc_bkB : Bk ⟨[],false⟩ m.enc eV eE m:=by
  have n0:=(((((((Bk.n3 ⟨[],false⟩ (n:=m.w)).and (Bk.n3 _ (n:=m.h))).and (Bk.n1 _ (n:=m.te))).and (Bk.n2 _ (n:=m.wi))).and (Bk.n2 _ (n:=m.mr))).and (Bk.n2 _ (n:=m.mb))).and' (Bk.n4 _ (n:=m.ti)) (g'':=dN) (fun r=>by rw [dN]))
  have k1:=Bk.listB (f:=rP) (g:=sP) m.p m.nums (fun x hx s=>Bk.P s (D.p x hx) )
  have k2:=Bk.listB (f:=rW) (g:=sW) m.wa (encL wP m.nums m.p) (fun x hx s=>Bk.W s (D.wa x hx) )
  have k3:=Bk.listB (f:=rPa) (g:=sPa) m.pa (encL wW (encL wP m.nums m.p) m.wa) (fun x hx s=>Bk.Pa s (D.pa x hx) )
  have k4:=Bk.listB (f:=rRe) (g:=sRe) m.re (encL wPa (encL wW (encL wP m.nums m.p) m.wa) m.pa) (fun x hx s=>Bk.Re s (D.re x hx)  (by simpa using fun h=>List.any_eq_false.1 hv x hx h))
  have k5:=Bk.listB (f:=rCa) (g:=sCa) m.ca (encL wRe (encL wPa (encL wW (encL wP m.nums m.p) m.wa) m.pa) m.re) (fun x hx s=>Bk.Ca s (D.ca x hx) (O x hx))
  have k6:=Bk.listB (f:=rIs) (g:=sIs) m.is (encL wCa (encL wRe (encL wPa (encL wW (encL wP m.nums m.p) m.wa) m.pa) m.re) m.ca) (fun x hx s=>Bk.Is s (D.is x hx) )
  have k7:=Bk.listB (f:=rCo) (g:=sCo) m.co (encL wIs (encL wCa (encL wRe (encL wPa (encL wW (encL wP m.nums m.p) m.wa) m.pa) m.re) m.ca) m.is) (fun x hx s=>Bk.Co s (D.co x hx) )
  have k8:=Bk.listB (f:=rChB) (g:=sChB) m.ch (encL wCo (encL wIs (encL wCa (encL wRe (encL wPa (encL wW (encL wP m.nums m.p) m.wa) m.pa) m.re) m.ca) m.is) m.co) (fun x hx s=>Bk.chnB s)
  have c1:=n0.and' k1 (g'':=e1) (fun r=>by rw [e1])
  have c2:=c1.and' k2 (g'':=e2) (fun r=>by rw [e2])
  have c3:=c2.and' k3 (g'':=e3) (fun r=>by rw [e3])
  have c4:=c3.and' k4 (g'':=e4) (fun r=>by rw [e4])
  have c5:=c4.and' k5 (g'':=e5) (fun r=>by rw [e5])
  have c6:=c5.and' k6 (g'':=e6) (fun r=>by rw [e6])
  have c7:=c6.and' k7 (g'':=e7) (fun r=>by rw [e7])
  have c8:=c7.and' k8 (g'':=eE) (fun r=>by rw [eE])
  exact c8.map' (fun p=>MapV.mk p.1.1.1.1.1.1.1.1.1.1.1.1.1.1 p.1.1.1.1.1.1.1.1.1.1.1.1.1.2 p.1.1.1.1.1.1.1.1.1.1.1.1.2 p.1.1.1.1.1.1.1.1.1.1.1.2 p.1.1.1.1.1.1.1.1.1.1.2 p.1.1.1.1.1.1.1.1.1.2 p.1.1.1.1.1.1.1.1.2 p.1.1.1.1.1.1.1.2 p.1.1.1.1.1.1.2 p.1.1.1.1.1.2 p.1.1.1.1.2 p.1.1.1.2 p.1.1.2 p.1.2 p.2) (fun r=>by rw [eV]) rfl
end
theorem Fw.P : Fw sP (fun r s=>wP s (rP r)):=Fw.pt
theorem Fw.W : Fw sW (fun r s=>wW s (rW r)):=(Fw.pt.and Fw.pt).and Fw.n1
theorem Fw.Pa : Fw sPa (fun r s=>wPa s (rPa r)):=Fw.n1.and Fw.n1
theorem Fw.Re : Fw sRe (fun r s=>wRe s (rRe r)):=(((Fw.n1.and Fw.n2).and Fw.n1).and Fw.n1).and Fw.tri
theorem Fw.Is : Fw sIs (fun r s=>wIs s (rIs r)):=(Fw.n1.and Fw.n1).and Fw.n1
theorem Fw.Co : Fw sCo (fun r s=>wCo s (rCo r)):=(Fw.n1.and Fw.n2).and Fw.n2
theorem Fw.Ca : Fw sCa (fun r s=>wCa s (rCa r)):=fun r hb=>by
  have k:=((((((((Fw.n1.and Fw.n1).and Fw.n1).and Fw.n1).and Fw.n2).and Fw.n1).and Fw.n4).and Fw.n2).and Fw.n1) r hb
  refine ⟨k.1,fun hg=>?_⟩
  obtain ⟨c,u,e,w⟩ :=k.2 hg
  refine ⟨c,u,e,fun s=>?_⟩
  have b6:=numS_byt _ 4 (numS_byt _ 1 (numS_byt _ 2 (numS_byt _ 1 (numS_byt _ 1 (numS_byt _ 1 (numS_byt _ 1 hb))))))
  have h7:=num2_rng _ b6
  have:=w s
  dsimp only at this ⊢
  unfold wCa rCa
  dsimp only
  rw [← this]
  have e7 : ∀ n : Int,0≤n∧n≤65535→IntKind.i64.wrap (IntKind.i64.wrap (n - 1) + 1) = n:=fun n hn=>by rw [i64wrap,i64wrap];omega
  rw [e7 _ h7]
theorem Fw.chn : Fw sChB (fun r s=>wCh s (rChB r)):=fun r hb=>by
  have b1:=numS_byt r 1 hb
  have b2:=numS_byt _ 1 b1
  have bm:=chMark_byt hb
  obtain ⟨c1,k1⟩ :=Fw.len (chMark r) bm
  refine ⟨c1,fun hg=>?_⟩
  obtain ⟨d1,u1,e1,w1⟩ :=k1 hg
  have hm : ¬ 1 < (r.numS 1).numV 1:=fun h=>by
    unfold chMark at d1;rw [if_pos h] at d1;cases d1
  have em : chMark r = (r.numS 1).numS 1:=by unfold chMark;rw [if_neg hm]
  rw [em] at d1 e1
  obtain ⟨_,k0⟩ :=(Fw.n1.and Fw.n1) r hb
  obtain ⟨d0,u0,e0,w0⟩ :=k0 d1
  refine ⟨d0,u0 ++ u1,?_,fun s=>?_⟩
  · unfold sChB;rw [em];dsimp only at e0 e1;rw [e0,e1,List.append_assoc]
  have hn:=num1_rng _ b1
  have ebit : bit (decide ((r.numS 1).numV 1 = 1)) = (r.numS 1).numV 1:=by
    by_cases h1 : (r.numS 1).numV 1 = 1
    · rw [h1];rfl
    · have : (r.numS 1).numV 1 = 0:=by omega
      rw [this];rfl
  have k2:=w1 ((s.num (r.numV 1) 1).num ((r.numS 1).numV 1) 1)
  have k3:=w0 s
  dsimp only at k2 k3 ⊢
  unfold wCh rChB
  dsimp only
  rw [ebit,k2,k3,List.append_assoc]
theorem Fw.nums : Fw dN (fun r s=>((((((s.num (r.numV 3) 3).num ((r.numS 3).numV 3) 3).num (((r.numS 3).numS 3).numV 1) 1).num ((((r.numS 3).numS 3).numS 1).numV 2) 2).num (((((r.numS 3).numS 3).numS 1).numS 2).numV 2) 2).num ((((((r.numS 3).numS 3).numS 1).numS 2).numS 2).numV 2) 2).num (((((((r.numS 3).numS 3).numS 1).numS 2).numS 2).numS 2).numV 4) 4):=
  (((((Fw.n3.and Fw.n3).and Fw.n1).and Fw.n2).and Fw.n2).and Fw.n2).and Fw.n4
def E0 (r : R8) (s : W8) : W8:=(((((((s.num (r.numV 3) 3).num ((r.numS 3).numV 3) 3).num (((r.numS 3).numS 3).numV 1) 1).num ((((r.numS 3).numS 3).numS 1).numV 2) 2).num (((((r.numS 3).numS 3).numS 1).numS 2).numV 2) 2).num ((((((r.numS 3).numS 3).numS 1).numS 2).numS 2).numV 2) 2).num (((((((r.numS 3).numS 3).numS 1).numS 2).numS 2).numS 2).numV 4) 4)
def E1 (r : R8) (s : W8) : W8:=encL wP (E0 r s) (BV rP sP (dN r))
def E2 (r : R8) (s : W8) : W8:=encL wW (E1 r s) (BV rW sW (e1 r))
structure MapV.Fine (m : MapV) : Prop where
  wid : m.Wid
  ca : ∀ x ∈ m.ca,Ok64 x
  ok : m.fails = false
theorem MapV.fails_no {m : MapV} (h : m.fails = false) : m.re.any badRe = false∧m.enc.bad = false∧m.enc.l.length≤1048576:=by
  simp only [MapV.fails,Bool.or_eq_false_iff,decide_eq_false_iff_not] at h
  exact ⟨h.1,h.2.1,by omega⟩
theorem MapV.bytes_of {m : MapV} (h : m.fails = false) : m.bytes = m.enc.l:=by simp [MapV.bytes,h]
theorem MapV.Fine.read {m : MapV} (h : m.Fine) (rest : List Int) : (dV ⟨m.bytes ++ rest,false⟩ = m∧dE ⟨m.bytes ++ rest,false⟩ = ⟨rest,false⟩)∧eV ⟨m.bytes ++ rest,false⟩ = m∧eE ⟨m.bytes ++ rest,false⟩ = ⟨rest,false⟩ :=by
  obtain ⟨h1,h2,_⟩ :=m.fails_no h.ok
  obtain ⟨_,u,e,_,r⟩ :=enc_bk h.ca h.wid h1 h2
  obtain ⟨_,u',e',_,r'⟩ :=enc_bkB h.ca h.wid h1 h2
  rw [MapV.bytes_of h.ok]
  rw [List.nil_append] at e e'
  refine ⟨?_,?_⟩
  · rw [e];exact r rest
  · rw [e'];exact r' rest
theorem MapV.Fine.dec {m : MapV} (h : m.Fine) : decOk m.bytes = true∧Go.Proofs.YtnhgjgoglmadnaaGreat.dec m.bytes = m∧decROk m.bytes = true∧decR m.bytes = m:=by
  obtain ⟨⟨a,b⟩,c,d⟩ :=h.read []
  rw [List.append_nil] at a b c d
  have h1 : decOk m.bytes = true:=by
    unfold decOk
    rw [a,b,h.ok]
    simp [R8.done]
  have h2 : decROk m.bytes = true:=by unfold decROk;rw [d];rfl
  refine ⟨h1,?_,h2,?_⟩
  · unfold Go.Proofs.YtnhgjgoglmadnaaGreat.dec;rw [h1,if_pos rfl,a]
  · unfold decR;rw [h2,if_pos rfl,c]
theorem itemsF_wid {f : R8→List Int} {g : R8→R8} {n : Nat} (hf : ∀ s,(f s).length = n) : ∀ k s,∀ x ∈ (itemsF f g k s).1,x.length = n
  | 0,s,x,hx=>by cases hx
  | k + 1,s,x,hx=>by
    unfold itemsF at hx
    split at hx
    · rcases List.mem_cons.1 hx with rfl | hx
      · exact hf s
      · exact itemsF_wid hf k _ x hx
    · cases hx
theorem rP_len (s : R8) : (rP s).length = 2:=by simp [rP]
theorem rW_len (s : R8) : (rW s).length = 5:=by simp [rW]
theorem rPa_len (s : R8) : (rPa s).length = 2:=by simp [rPa]
theorem rRe_len (s : R8) : (rRe s).length = 10:=by simp [rRe]
theorem rCa_len (s : R8) : (rCa s).length = 9:=by simp [rCa]
theorem rIs_len (s : R8) : (rIs s).length = 3:=by simp [rIs]
theorem rCo_len (s : R8) : (rCo s).length = 3:=by simp [rCo]
theorem itemsV_wid {f : R8→List Int} {g : R8→R8} {n : Nat} (hf : ∀ s,(f s).length = n) (s : R8) : ∀ x ∈ itemsV f g s,x.length = n:=by
  unfold itemsV;exact itemsF_wid hf _ _
theorem dV_wid (s : R8) : (dV s).Wid:=by
  rw [dV]
  constructor<;>dsimp only
  · exact itemsV_wid (f:=rP) (g:=sP) rP_len (dN s)
  · exact itemsV_wid (f:=rW) (g:=sW) rW_len (d1 s)
  · exact itemsV_wid (f:=rPa) (g:=sPa) rPa_len (d2 s)
  · exact itemsV_wid (f:=rRe) (g:=sRe) rRe_len (d3 s)
  · exact itemsV_wid (f:=rCa) (g:=sCa) rCa_len (d4 s)
  · exact itemsV_wid (f:=rIs) (g:=sIs) rIs_len (d5 s)
  · exact itemsV_wid (f:=rCo) (g:=sCo) rCo_len (d6 s)
theorem decOk_fine {b : List Int} (hb : Byt b) (h : decOk b = true) : (dV ⟨b,false⟩).Fine∧(dV ⟨b,false⟩).bytes = b:=by
  simp only [decOk,Bool.and_eq_true,Bool.not_eq_true',decide_eq_true_eq] at h
  exact ⟨⟨dV_wid _,(dV_ok (s:=⟨b,false⟩) hb).ca,h.2.1⟩,h.2.2⟩
theorem MapV.Fine.cut {m : MapV} (h : m.Fine) (hb : Byt m.bytes) {k : Nat} (hk : k < m.bytes.length) : decOk (m.bytes.take k) = false:=by
  cases hd : decOk (m.bytes.take k) with
  | false=>rfl
  | true=>
    obtain ⟨f,e⟩ :=decOk_fine (fun x hx=>hb x (List.mem_of_mem_take hx)) hd
    obtain ⟨⟨_,a⟩,_⟩ :=f.read (m.bytes.drop k)
    rw [e,List.take_append_drop] at a
    obtain ⟨⟨_,c⟩,_⟩ :=h.read []
    rw [List.append_nil,a] at c
    have c:=congrArg R8.l c
    dsimp only at c
    have:=congrArg List.length c
    simp at this;omega
end Go.Proofs.YtnhgjgoglmadnaaGreat
