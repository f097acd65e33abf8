/- Joined texts of this claim (part 36), printed by a program of this work. The last part holds the claimed theorem: the law answers true at every input of its row. -/
import Derived.Test.YtnhgjgoglmadnaaGreatSPFieldsI
namespace Go.Proofs.YtnhgjgoglmadnaaGreat
open Go.RowKit
set_option linter.unusedVariables false
set_option linter.unusedSectionVars false
set_option linter.unusedSimpArgs false
abbrev P2:=Int×Int
def tw (a b c : P2) : Int:=(b.1 - a.1) * (c.2 - a.2) - (b.2 - a.2) * (c.1 - a.1)
structure H3 where
  x : Int
  y : Int
  z : Int
def hv (a b : P2) (q : H3) : Int:=(b.1 - a.1) * (q.y - a.2 * q.z) - (b.2 - a.2) * (q.x - a.1 * q.z)
def Vp (p : P2) : Prop:=0≤p.1∧p.1 < 16777216∧0≤p.2∧p.2 < 16777216
theorem hv_swap (a b : P2) (q : H3) : hv b a q = -hv a b q:=by unfold hv;grind
theorem tw_rot (a b c : P2) : tw b c a = tw a b c:=by unfold tw;grind
theorem tw_self (a b : P2) : tw a b a = 0∧tw a b b = 0∧tw a a b = 0:=by unfold tw;grind
theorem hv_bary (a b c p : P2) (q : H3) : tw b c p * hv p a q + tw c a p * hv p b q + tw a b p * hv p c q = 0:=by unfold hv tw;grind
theorem hv_in (a b c p : P2) (q : H3) : tw a b p * hv b c q = hv p a q * tw b c b + hv a b q * tw b c p + hv b p q * tw b c a:=by unfold hv tw;grind
theorem hv_in' (a b c p : P2) (q : H3) : tw a b p * hv c a q = hv p a q * tw c a b + hv a b q * tw c a p + hv b p q * tw c a a:=by unfold hv tw;grind
def Gen (q : H3) : Prop:=0 < q.z∧∀ a b : P2,Vp a→Vp b→a≠b→hv a b q≠0
def near (q : H3) : H3:=⟨4503599627370496 * q.x + 67108864,4503599627370496 * q.y + 1,4503599627370496 * q.z⟩
theorem hv_near (a b : P2) (q : H3) : hv a b (near q) = 4503599627370496 * hv a b q + ((b.1 - a.1) - 67108864 * (b.2 - a.2)):=by unfold hv near;grind
theorem near_gen (q : H3) (hz : 0 < q.z) : Gen (near q):=by
  refine ⟨by show 0 < 4503599627370496 * q.z;omega,fun a b ha hb hne h=>?_⟩
  rw [hv_near] at h
  unfold Vp at ha hb
  apply hne
  have h1 : b.2 - a.2 = 0:=by omega
  have h2 : b.1 - a.1 = 0:=by omega
  exact Prod.ext (by omega) (by omega)
theorem near_pos {a b : P2} {q : H3} (ha : Vp a) (hb : Vp b) (h : 0 < hv a b q) : 0 < hv a b (near q):=by
  rw [hv_near];unfold Vp at ha hb;omega
theorem mul_bnd {a b m : Int} (ha : -m≤a∧a≤m) (hb : -m≤b∧b≤m) (hm : 0≤m) : -(m * m)≤a * b∧a * b≤m * m:=by
  have key : ∀ {a b : Int},0≤a→a≤m→0≤b→b≤m→0≤a * b∧a * b≤m * m:=fun ha ha' hb hb'=>⟨Int.mul_nonneg ha hb,Int.mul_le_mul ha' hb' hb hm⟩
  have hmm : 0≤m * m:=Int.mul_nonneg hm hm
  rcases Int.le_total 0 a with h1 | h1<;>rcases Int.le_total 0 b with h2 | h2
  · have:=key h1 ha.2 h2 hb.2;omega
  · have:=key (a:=a) (b:=-b) h1 ha.2 (by omega) (by omega);rw [Int.mul_neg] at this;omega
  · have:=key (a:=-a) (b:=b) (by omega) (by omega) h2 hb.2;rw [Int.neg_mul] at this;omega
  · have:=key (a:=-a) (b:=-b) (by omega) (by omega) (by omega) (by omega);rw [Int.neg_mul_neg] at this;omega
theorem tw_bnd {a b c : P2} (ha : Vp a) (hb : Vp b) (hc : Vp c) : -562949953421312≤tw a b c∧tw a b c≤562949953421312:=by
  unfold Vp at ha hb hc
  unfold tw
  have h1:=mul_bnd (a:=b.1 - a.1) (b:=c.2 - a.2) (m:=16777216) (by omega) (by omega) (by omega)
  have h2:=mul_bnd (a:=b.2 - a.2) (b:=c.1 - a.1) (m:=16777216) (by omega) (by omega) (by omega)
  omega
def Inn (a b c : P2) (q : H3) : Prop:=0 < hv a b q∧0 < hv b c q∧0 < hv c a q
theorem overlap {a b c d : P2} (ha : Vp a) (hb : Vp b) (hc : Vp c) (hd : Vp d) (h1 : 0 < tw a b c) (h2 : 0 < tw a b d) : ∃ q,Gen q∧Inn a b c q∧Inn a b d q:=by
  -- many parts of a and b,one of c and one of d: as a sum of two mixes
  let q : H3:=⟨1125899906842624 * (a.1 + b.1) + c.1 + d.1,1125899906842624 * (a.2 + b.2) + c.2 + d.2,2251799813685250⟩
  have e : ∀ x y : P2,hv x y q = 1125899906842624 * (tw x y a + tw x y b) + tw x y c + tw x y d:=fun x y=>by
    simp only [q];unfold hv tw;grind
  have t:=fun {x y z : P2} (hx : Vp x) (hy : Vp y) (hz : Vp z)=>tw_bnd hx hy hz
  have r1:=tw_rot a b c
  have r2:=tw_rot b c a
  have r3:=tw_rot a b d
  have r4:=tw_rot b d a
  have s:=fun x y=>tw_self x y
  refine ⟨near q,near_gen q (by show (0:Int) < 2251799813685250;omega),⟨near_pos ha hb ?_,near_pos hb hc ?_,near_pos hc ha ?_⟩,near_pos ha hb ?_,near_pos hb hd ?_,near_pos hd ha ?_⟩
  · rw [e];have:=s a b;omega
  · rw [e];have:=s b c;have:=t hb hc hd;omega
  · rw [e];have:=s c a;have:=t hc ha hd;omega
  · rw [e];have:=s a b;omega
  · rw [e];have:=s b d;have:=t hb hd hc;omega
  · rw [e];have:=s d a;have:=t hd ha hc;omega
theorem mp {a b : Int} (h : 0 < a * b) (ha : 0 < a) : 0 < b:=by
  rcases Int.lt_trichotomy b 0 with g | g | g
  · have:=Int.mul_neg_of_pos_of_neg ha g;omega
  · subst g;simp at h
  · exact g
theorem mnn {a b : Int} (ha : 0≤a) (hb : 0 < b) : 0≤a * b:=Int.mul_nonneg ha (by omega)
theorem mpp {a b : Int} (ha : 0 < a) (hb : 0 < b) : 0 < a * b:=Int.mul_pos ha hb
theorem mnp {a b : Int} (ha : 0≤a) (hb : b < 0) : a * b≤0:=Int.mul_nonpos_of_nonneg_of_nonpos ha (by omega)
theorem mpn {a b : Int} (ha : 0 < a) (hb : b < 0) : a * b < 0:=Int.mul_neg_of_pos_of_neg ha hb
theorem Inn_rot {a b c : P2} {q : H3} : Inn b c a q↔Inn a b c q:=by unfold Inn;exact ⟨fun ⟨x,y,z⟩ =>⟨z,x,y⟩,fun ⟨x,y,z⟩ =>⟨y,z,x⟩⟩
def Pc (a b p : P2) (q : H3) : Prop:=0 < tw a b p∧Inn a b p q
theorem pc_in {a b c p : P2} {q : H3} (h0 : 0 < tw a b c) (h2 : 0≤tw b c p) (h3 : 0≤tw c a p) (h : Pc a b p q) : Inn a b c q:=by
  obtain ⟨g0,g1,g2,g3⟩ :=h
  have r1:=tw_rot a b c
  have r2:=tw_rot b c a
  have s:=fun x y=>tw_self x y
  refine ⟨g1,?_,?_⟩
  · have e:=hv_in a b c p q
    rw [(s b c).1] at e
    refine mp (a:=tw a b p) ?_ g0
    rw [e,r1]
    have:=mnn h2 g1
    have:=mpp g2 h0
    rw [Int.mul_comm] at this
    have k:=Int.mul_comm (hv a b q) (tw b c p)
    have k2:=Int.mul_comm (hv b p q) (tw a b c)
    omega
  · have e:=hv_in' a b c p q
    rw [(s c a).2.1] at e
    refine mp (a:=tw a b p) ?_ g0
    have r3 : tw c a b = tw a b c:=by rw [r2,r1]
    rw [e,r3]
    have:=mnn h3 g1
    have:=mpp g3 h0
    have k:=Int.mul_comm (hv a b q) (tw c a p)
    have k2:=Int.mul_comm (hv p a q) (tw a b c)
    omega
theorem pc_one {a b c p : P2} {q : H3} (va : Vp a) (vb : Vp b) (vc : Vp c) (vp : Vp p) (na : p ≠ a) (nb : p ≠ b) (nc : p ≠ c) (hg : Gen q) (h0 : 0 < tw a b c) (h1 : 0 ≤ tw a b p) (h2 : 0 ≤ tw b c p) (h3 : 0 ≤ tw c a p) (h : Inn a b c q) :
    (Pc a b p q∧¬ Pc b c p q∧¬ Pc c a p q)∨(¬ Pc a b p q∧Pc b c p q∧¬ Pc c a p q)∨(¬ Pc a b p q∧¬ Pc b c p q∧Pc c a p q):=by
  obtain ⟨g1,g2,g3⟩ :=h
  have u:=hg.2 p a vp va na
  have v:=hg.2 p b vp vb nb
  have w:=hg.2 p c vp vc nc
  have e:=hv_bary a b c p q
  have su:=hv_swap p a q
  have sv:=hv_swap p b q
  have sw:=hv_swap p c q
  have sum : tw a b p + tw b c p + tw c a p = tw a b c:=by unfold tw;grind
  unfold Pc Inn
  have eu : hv p a q * tw a b c = tw a b p * hv c a q - tw c a p * hv a b q:=by unfold hv tw;grind
  have ev : hv p b q * tw a b c = tw b c p * hv a b q - tw a b p * hv b c q:=by unfold hv tw;grind
  have ew : hv p c q * tw a b c = tw c a p * hv b c q - tw b c p * hv c a q:=by unfold hv tw;grind
  have pu : 0 < hv p a q→0 < tw a b p:=fun g=>by
    refine mp (a:=hv c a q) ?_ g3
    have:=mpp g h0;have:=mnn h3 g1
    rw [Int.mul_comm];omega
  have nu : hv p a q < 0→0 < tw c a p:=fun g=>by
    refine mp (a:=hv a b q) ?_ g1
    have:=mpn h0 g;rw [Int.mul_comm] at this;have:=mnn h1 g3
    rw [Int.mul_comm];omega
  have pv : 0 < hv p b q→0 < tw b c p:=fun g=>by
    refine mp (a:=hv a b q) ?_ g1
    have:=mpp g h0;have:=mnn h1 g2
    rw [Int.mul_comm];omega
  have nv : hv p b q < 0→0 < tw a b p:=fun g=>by
    refine mp (a:=hv b c q) ?_ g2
    have:=mpn h0 g;rw [Int.mul_comm] at this;have:=mnn h2 g1
    rw [Int.mul_comm];omega
  have pw : 0 < hv p c q→0 < tw c a p:=fun g=>by
    refine mp (a:=hv b c q) ?_ g2
    have:=mpp g h0;have:=mnn h2 g3
    rw [Int.mul_comm];omega
  have nw : hv p c q < 0→0 < tw b c p:=fun g=>by
    refine mp (a:=hv c a q) ?_ g3
    have:=mpn h0 g;rw [Int.mul_comm] at this;have:=mnn h3 g2
    rw [Int.mul_comm];omega
  rcases Int.lt_or_gt_of_ne u with u | u<;>rcases Int.lt_or_gt_of_ne v with v | v<;>rcases Int.lt_or_gt_of_ne w with w | w
  · exfalso
    have:=mpn (nw w) u;have:=mnp h3 v;have:=mnp h1 w;omega
  · exact .inr (.inr ⟨fun k=>by have:=k.2.2.2;omega,fun k=>by have:=k.2.2.1;omega,nu u,g3,by omega,w⟩)
  · exact .inr (.inl ⟨fun k=>by have:=k.2.2.2;omega,⟨nw w,g2,by omega,v⟩,fun k=>by have:=k.2.2.2;omega⟩)
  · exact .inr (.inr ⟨fun k=>by have:=k.2.2.2;omega,fun k=>by have:=k.2.2.1;omega,nu u,g3,by omega,w⟩)
  · exact .inl ⟨⟨pu u,g1,by omega,u⟩,fun k=>by have:=k.2.2.2;omega,fun k=>by have:=k.2.2.1;omega⟩
  · exact .inl ⟨⟨pu u,g1,by omega,u⟩,fun k=>by have:=k.2.2.2;omega,fun k=>by have:=k.2.2.1;omega⟩
  · exact .inr (.inl ⟨fun k=>by have:=k.2.2.1;omega,⟨nw w,g2,by omega,v⟩,fun k=>by have:=k.2.2.2;omega⟩)
  · exfalso
    have:=mpp (pu u) w;have:=mnn h3 v;have:=mnn h2 u;omega
theorem hv_interp (a b c x y : P2) (q : H3) : tw a b c * hv x y q = hv b c q * tw x y a + hv c a q * tw x y b + hv a b q * tw x y c:=by unfold hv tw;grind
theorem tri_bary (a b c p : P2) : tw a b c * p.1 = tw b c p * a.1 + tw c a p * b.1 + tw a b p * c.1∧tw a b c * p.2 = tw b c p * a.2 + tw c a p * b.2 + tw a b p * c.2:=by unfold tw;grind
theorem in_quad {a b c d : P2} {q : H3} (h1 : 0 < tw a b c) (h2 : 0 < tw b a d) (h3 : 0 < tw a d c) (h4 : 0 < tw d b c) (h : Inn a b c q) : 0 < hv a d q∧0 < hv d b q:=by
  obtain ⟨g1,g2,g3⟩ :=h
  have s:=fun x y=>tw_self x y
  constructor
  · refine mp (a:=tw a b c) ?_ h1
    rw [hv_interp,(s a d).1,← tw_rot a d b,← tw_rot d b a]
    have:=mpp g3 h2;have:=mpp g1 h3;omega
  · refine mp (a:=tw a b c) ?_ h1
    rw [hv_interp,(s d b).2.1,← tw_rot d b a]
    have:=mpp g2 h2;have:=mpp g1 h4;omega
theorem flip_in {a b c d : P2} {q : H3} (va : Vp a) (vb : Vp b) (vc : Vp c) (vd : Vp d) (hg : Gen q) (hab : a ≠ b) (hcd : c ≠ d) (h1 : 0 < tw a b c) (h2 : 0 < tw b a d) (h3 : 0 < tw a d c) (h4 : 0 < tw d b c) :
    ((Inn a b c q∨Inn b a d q)↔(Inn a d c q∨Inn d b c q))∧¬ (Inn a b c q∧Inn b a d q)∧¬ (Inn a d c q∧Inn d b c q):=by
  have e1:=hg.2 a b va vb hab
  have e2:=hg.2 c d vc vd hcd
  have r1:=hv_swap a b q
  have r2:=hv_swap c d q
  have t:=fun x y z=>tw_rot x y z
  have t1:=t a b c;have t2:=t b c a;have t3:=t b a d;have t4:=t a d b;have t5:=t a d c;have t6:=t d c a;have t7:=t d b c;have t8:=t b c d
  have f1 : Inn a b c q→0 < hv a d q∧0 < hv d b q:=in_quad h1 h2 h3 h4
  have f2 : Inn b a d q→0 < hv b c q∧0 < hv c a q:=in_quad h2 h1 (by omega) (by omega)
  have f3 : Inn d c a q→0 < hv d b q∧0 < hv b c q:=in_quad (by omega) (by omega) (by omega) (by omega)
  have f4 : Inn c d b q→0 < hv c a q∧0 < hv a d q:=in_quad (by omega) (by omega) (by omega) (by omega)
  have i3 : Inn a d c q↔Inn d c a q:=Inn_rot.symm
  have i4 : Inn d b c q↔Inn c d b q:=Inn_rot
  refine ⟨⟨fun g=>?_,fun g=>?_⟩,fun ⟨x,y⟩ =>?_,fun ⟨x,y⟩ =>?_⟩
  · have : 0 < hv a d q ∧ 0 < hv d b q ∧ 0 < hv b c q ∧ 0 < hv c a q := by
      rcases g with g | g
      · exact ⟨(f1 g).1,(f1 g).2,g.2.1,g.2.2⟩
      · exact ⟨g.2.1,g.2.2,(f2 g).1,(f2 g).2⟩
    rcases Int.lt_or_gt_of_ne e2 with e | e
    · exact .inl ⟨this.1,by omega,this.2.2.2⟩
    · exact .inr ⟨this.2.1,this.2.2.1,e⟩
  · have : 0 < hv a d q ∧ 0 < hv d b q ∧ 0 < hv b c q ∧ 0 < hv c a q := by
      rcases g with g | g
      · have k:=f3 (i3.1 g);exact ⟨g.1,k.1,k.2,g.2.2⟩
      · have k:=f4 (i4.1 g);exact ⟨k.2,g.1,g.2.1,k.1⟩
    rcases Int.lt_or_gt_of_ne e1 with e | e
    · exact .inr ⟨by omega,this.1,this.2.1⟩
    · exact .inl ⟨e,this.2.2.1,this.2.2.2⟩
  · have:=x.1;have:=y.1;omega
  · have:=x.2.1;have:=y.2.2;omega
def Into (a b p d : P2) : Prop:=0 < tw a b p∨(tw a b p = 0∧0 < (b.1 - a.1) * d.2 - (b.2 - a.2) * d.1)
theorem near_in {a b p d : P2} (va : Vp a) (vb : Vp b) (hd : -67108864≤d.1∧d.1≤67108864∧-67108864≤d.2∧d.2≤67108864) (h : Into a b p d) : 0 < hv a b (near ⟨36028797018963968 * p.1 + d.1,36028797018963968 * p.2 + d.2,36028797018963968⟩):=by
  refine near_pos va vb ?_
  have e : hv a b ⟨36028797018963968 * p.1 + d.1,36028797018963968 * p.2 + d.2,36028797018963968⟩ = 36028797018963968 * tw a b p + ((b.1 - a.1) * d.2 - (b.2 - a.2) * d.1):=by unfold hv tw;grind
  rw [e]
  unfold Vp at va vb
  have m1:=mul_bnd (a:=b.1 - a.1) (b:=d.2) (m:=67108864) (by omega) (by omega) (by omega)
  have m2:=mul_bnd (a:=b.2 - a.2) (b:=d.1) (m:=67108864) (by omega) (by omega) (by omega)
  rcases h with h | ⟨h,g⟩ <;>omega
theorem near_gen2 (p d : P2) : Gen (near ⟨36028797018963968 * p.1 + d.1,36028797018963968 * p.2 + d.2,36028797018963968⟩):=near_gen _ (by show (0 : Int) < 36028797018963968;omega)
def cr (u d : P2) : Int:=u.1 * d.2 - u.2 * d.1
def dt (u d : P2) : Int:=u.1 * d.1 + u.2 * d.2
def sb (b a : P2) : P2:=(b.1 - a.1,b.2 - a.2)
def ClP (a b c p : P2) : Prop:=0≤tw a b p∧0≤tw b c p∧0≤tw c a p
def Opn (a b c p d : P2) : Prop:=Into a b p d∧Into b c p d∧Into c a p d
theorem two_zero {a b c p : P2} (h0 : 0 < tw a b c) (h1 : tw a b p = 0) (h2 : tw b c p = 0) : p = b:=by
  have sum : tw a b p + tw b c p + tw c a p = tw a b c:=by unfold tw;grind
  have h3 : tw c a p = tw a b c:=by omega
  have k:=tri_bary a b c p
  rw [h1,h2,h3] at k
  obtain ⟨k1,k2⟩ :=k
  have k1 : tw a b c * p.1 = tw a b c * b.1:=by rw [k1];omega
  have k2 : tw a b c * p.2 = tw a b c * b.2:=by rw [k2];omega
  exact Prod.ext (Int.eq_of_mul_eq_mul_left (by omega) k1) (Int.eq_of_mul_eq_mul_left (by omega) k2)
theorem cl_cases {a b c p : P2} (h0 : 0 < tw a b c) (na : p ≠ a) (nb : p ≠ b) (nc : p ≠ c) (h : ClP a b c p) :
    (0 < tw a b p∧0 < tw b c p∧0 < tw c a p)∨(tw a b p = 0∧0 < tw b c p∧0 < tw c a p)∨(0 < tw a b p∧tw b c p = 0∧0 < tw c a p)∨(0 < tw a b p∧0 < tw b c p∧tw c a p = 0):=by
  obtain ⟨h1,h2,h3⟩ :=h
  have r1:=tw_rot a b c
  have r2:=tw_rot b c a
  have z1 : ¬ (tw a b p = 0∧tw b c p = 0):=fun g=>nb (two_zero h0 g.1 g.2)
  have z2 : ¬ (tw b c p = 0∧tw c a p = 0):=fun g=>nc (two_zero (by omega) g.1 g.2)
  have z3 : ¬ (tw c a p = 0∧tw a b p = 0):=fun g=>na (two_zero (by omega) g.1 g.2)
  omega
theorem cl_dir {a b c p : P2} (va : Vp a) (vb : Vp b) (vc : Vp c) (h0 : 0 < tw a b c) (na : p ≠ a) (nb : p ≠ b) (nc : p ≠ c) (h : ClP a b c p) :
    ∃ u : P2,-16777216≤u.1∧u.1≤16777216∧-16777216≤u.2∧u.2≤16777216∧0 < dt u u∧(∀ d,0 < cr u d→Opn a b c p d)∧
      (((0 < tw a b p∧0 < tw b c p∧0 < tw c a p)∧∀ d,Opn a b c p d)∨(u = sb b a∧tw a b p = 0)∨(u = sb c b∧tw b c p = 0)∨(u = sb a c∧tw c a p = 0)):=by
  have sq : ∀ {x y : P2},x≠y→0 < dt (sb y x) (sb y x):=fun {x y} hxy=>by
    unfold dt sb
    have pos : ∀ n : Int,0≤n * n:=fun n=>by
      rcases Int.le_total 0 n with g | g
      · exact Int.mul_nonneg g g
      · exact Int.mul_nonneg_of_nonpos_of_nonpos g g
    have p1:=pos (y.1 - x.1)
    have p2:=pos (y.2 - x.2)
    rcases Int.lt_or_eq_of_le p1 with g | g
    · dsimp only;omega
    · rcases Int.lt_or_eq_of_le p2 with g' | g'
      · dsimp only;omega
      · have e1:=Int.mul_eq_zero.1 g.symm
        have e2:=Int.mul_eq_zero.1 g'.symm
        exact absurd (Prod.ext (by omega) (by omega)) hxy
  have nab : a≠b:=fun e=>by subst e;have:=(tw_self a c).2.2;omega
  have nbc : b≠c:=fun e=>by subst e;have:=(tw_self a b).2.1;omega
  have nca : c≠a:=fun e=>by subst e;have:=(tw_self c b).1;omega
  unfold Vp at va vb vc
  rcases cl_cases h0 na nb nc h with ⟨g1,g2,g3⟩ | ⟨g1,g2,g3⟩ | ⟨g1,g2,g3⟩ | ⟨g1,g2,g3⟩
  · exact ⟨(1,0),by decide,by decide,by decide,by decide,by decide,fun d _=>⟨.inl g1,.inl g2,.inl g3⟩,.inl ⟨⟨g1,g2,g3⟩,fun d=>⟨.inl g1,.inl g2,.inl g3⟩⟩⟩
  · exact ⟨sb b a,by simp only [sb];omega,by simp only [sb];omega,by simp only [sb];omega,by simp only [sb];omega,sq nab,fun d hd=>⟨.inr ⟨g1,hd⟩,.inl g2,.inl g3⟩,.inr (.inl ⟨rfl,g1⟩)⟩
  · exact ⟨sb c b,by simp only [sb];omega,by simp only [sb];omega,by simp only [sb];omega,by simp only [sb];omega,sq nbc,fun d hd=>⟨.inl g1,.inr ⟨g2,hd⟩,.inl g3⟩,.inr (.inr (.inl ⟨rfl,g2⟩))⟩
  · exact ⟨sb a c,by simp only [sb];omega,by simp only [sb];omega,by simp only [sb];omega,by simp only [sb];omega,sq nca,fun d hd=>⟨.inl g1,.inl g2,.inr ⟨g3,hd⟩⟩,.inr (.inr (.inr ⟨rfl,g3⟩))⟩
theorem opn_in {a b c p d : P2} (va : Vp a) (vb : Vp b) (vc : Vp c) (hd : -67108864 ≤ d.1 ∧ d.1 ≤ 67108864 ∧ -67108864 ≤ d.2 ∧ d.2 ≤ 67108864) (h : Opn a b c p d) :
    Inn a b c (near ⟨36028797018963968 * p.1 + d.1,36028797018963968 * p.2 + d.2,36028797018963968⟩):=⟨near_in va vb hd h.1,near_in vb vc hd h.2.1,near_in vc va hd h.2.2⟩
theorem two_at {a b c x y z p : P2} (va : Vp a) (vb : Vp b) (vc : Vp c) (vx : Vp x) (vy : Vp y) (vz : Vp z) (h0 : 0 < tw a b c) (k0 : 0 < tw x y z) (na : p ≠ a) (nb : p ≠ b) (nc : p ≠ c) (nx : p ≠ x) (ny : p ≠ y) (nz : p ≠ z) (h : ClP a b c p) (k : ClP x y z p)
    (hno : ∀ q,Gen q→¬ (Inn a b c q∧Inn x y z q)) : ∃ u v : P2,((u = sb b a∧tw a b p = 0)∨(u = sb c b∧tw b c p = 0)∨(u = sb a c∧tw c a p = 0))∧((v = sb y x∧tw x y p = 0)∨(v = sb z y∧tw y z p = 0)∨(v = sb x z∧tw z x p = 0))∧cr u v = 0∧dt u v < 0∧0 < dt u u:=by
  obtain ⟨u,u1,u2,u3,u4,us,hu,hu'⟩ :=cl_dir va vb vc h0 na nb nc h
  obtain ⟨v,v1,v2,v3,v4,vs,hv',hv''⟩ :=cl_dir vx vy vz k0 nx ny nz k
  have no : ∀ d : P2,-67108864≤d.1∧d.1≤67108864∧-67108864≤d.2∧d.2≤67108864→Opn a b c p d→Opn x y z p d→False:=fun d hd g1 g2=>
    hno _ (near_gen2 p d) ⟨opn_in va vb vc hd g1,opn_in vx vy vz hd g2⟩
  have ru : 0 < cr u (-u.2,u.1):=by unfold cr;unfold dt at us;dsimp only;rw [Int.mul_neg];omega
  have rv : 0 < cr v (-v.2,v.1):=by unfold cr;unfold dt at vs;dsimp only;rw [Int.mul_neg];omega
  rcases hu' with ⟨_,hu'⟩ | hu'
  · exact (no _ (by dsimp only;omega) (hu' _) (hv' _ rv)).elim
  rcases hv'' with ⟨_,hv''⟩ | hv''
  · exact (no _ (by dsimp only;omega) (hu _ ru) (hv'' _)).elim
  have c0 : cr u v = 0:=by
    rcases Int.lt_trichotomy (cr u v) 0 with g | g | g
    · refine (no (sb u v) (by simp only [sb];omega) (hu _ ?_) (hv' _ ?_)).elim
      · unfold cr sb at *;dsimp only;grind
      · unfold cr sb at *;dsimp only;grind
    · exact g
    · refine (no (sb v u) (by simp only [sb];omega) (hu _ ?_) (hv' _ ?_)).elim
      · unfold cr sb at *;dsimp only;grind
      · unfold cr sb at *;dsimp only;grind
  refine ⟨u,v,hu',hv'',c0,?_,us⟩
  have id : dt u u * dt v v = cr u v * cr u v + dt u v * dt u v:=by unfold dt cr;grind
  have pp:=mpp us vs
  rcases Int.lt_trichotomy (dt u v) 0 with g | g | g
  · exact g
  · rw [id,c0,g] at pp;simp at pp
  · refine (no (-u.2,u.1) (by dsimp only;omega) (hu _ ru) (hv' _ ?_)).elim
    unfold cr;unfold dt at g;dsimp only;rw [Int.mul_neg,Int.mul_comm v.1,Int.mul_comm v.2];omega
theorem not_three {u v w : P2} (hu : 0 < dt u u) (h1 : cr u v = 0) (h2 : dt u v < 0) (h3 : cr u w = 0) (h4 : dt u w < 0) (h5 : dt v w < 0) : False:=by
  have id : dt u u * dt v w = dt u v * dt u w + cr u v * cr u w:=by unfold dt cr;grind
  have:=Int.mul_pos_of_neg_of_neg h2 h4
  have:=mpn hu h5
  rw [id,h1] at this
  omega
def T3.A (t : T3) : P2:=(t.ax,t.ay)
def T3.B (t : T3) : P2:=(t.bx,t.by')
def T3.C (t : T3) : P2:=(t.cx,t.cy)
def kl (a b : P2) : List Int:=[a.1,a.2,b.1,b.2]
theorem kl_inj {a b c d : P2} (h : kl a b = kl c d) : a = c∧b = d:=by
  simp only [kl,List.cons.injEq,and_true] at h
  exact ⟨Prod.ext h.1 h.2.1,Prod.ext h.2.2.1 h.2.2.2⟩
theorem T3.key0 (t : T3) : t.key 0 = kl t.A t.B:=rfl
theorem T3.key1 (t : T3) : t.key 1 = kl t.B t.C:=rfl
theorem T3.key2 (t : T3) : t.key 2 = kl t.C t.A:=rfl
def T3.keys (t : T3) : List (List Int):=[t.key 0,t.key 1,t.key 2]
def T3.Ok (t : T3) : Prop:=Vp t.A∧Vp t.B∧Vp t.C∧0 < tw t.A t.B t.C
theorem T3.Ok.ne {t : T3} (h : t.Ok) : t.A≠t.B∧t.B≠t.C∧t.C≠t.A:=by
  obtain ⟨_,_,_,h⟩ :=h
  refine ⟨fun e=>?_,fun e=>?_,fun e=>?_⟩
  · rw [e,(tw_self _ _).2.2] at h;omega
  · rw [e,(tw_self _ _).2.1] at h;omega
  · rw [e,(tw_self _ _).1] at h;omega
theorem T3.Ok.kne {t : T3} (h : t.Ok) : t.keys.Nodup:=by
  obtain ⟨h1,h2,h3⟩ :=h.ne
  unfold T3.keys
  rw [t.key0,t.key1,t.key2]
  simp only [List.nodup_cons,List.mem_cons,List.not_mem_nil,or_false,not_or,not_false_eq_true,List.nodup_nil,and_true]
  exact ⟨⟨fun e=>h1 (kl_inj e).1,fun e=>h3 (kl_inj e).1.symm⟩,fun e=>h2 (kl_inj e).1⟩
structure Rep (E : MeshE) (T : List T3) : Prop where
  nodup : (E.map (·.1)).Nodup
  mem : ∀ k t,(k,t) ∈ E↔t ∈ T∧k ∈ t.keys
  tnd : T.Nodup
theorem look_mem {E : MeshE} (hn : (E.map (·.1)).Nodup) {k : List Int} {t : T3} : lookE E k = some t↔(k,t) ∈ E:=by
  induction E with
  | nil=>simp [lookE]
  | cons p E ih=>
    obtain ⟨k',t'⟩ :=p
    simp only [List.map_cons,List.nodup_cons] at hn
    have ih:=ih hn.2
    unfold lookE at *
    by_cases hk : k' = k
    · subst hk
      simp only [List.find?_cons,beq_self_eq_true,Option.map_some,Option.some.injEq,List.mem_cons,Prod.mk.injEq,true_and]
      constructor
      · intro h;exact .inl h.symm
      · rintro (h | h)
        · exact h.symm
        · exact absurd (List.mem_map.2 ⟨_,h,rfl⟩) hn.1
    · have : (k' == k) = false:=by simpa using hk
      simp only [List.find?_cons,this,List.mem_cons,Prod.mk.injEq]
      rw [ih]
      constructor
      · intro h;exact .inr h
      · rintro (⟨h,_⟩ | h)
        · exact absurd h.symm hk
        · exact h
theorem hasK_iff {E : MeshE} {k : List Int} : hasK E k = true↔k ∈ E.map (·.1):=by
  unfold hasK lookE
  simp [List.find?_isSome]
theorem del_map {k : List Int} : ∀ {E : MeshE},(E.map (·.1)).Nodup→∀ p,p ∈ delE E k↔p ∈ E∧p.1≠k
  | [],_,p=>by simp [delE]
  | q :: E,hn,p=>by
    simp only [List.map_cons,List.nodup_cons] at hn
    have ih:=del_map (k:=k) hn.2 p
    unfold delE
    by_cases hq : q.1 = k
    · rw [if_pos hq]
      constructor
      · intro h
        exact ⟨.tail _ h,fun e=>hn.1 (by rw [hq,← e];exact List.mem_map.2 ⟨p,h,rfl⟩)⟩
      · rintro ⟨h,he⟩
        rcases List.mem_cons.1 h with rfl | h
        · exact absurd hq he
        · exact h
    · rw [if_neg hq,List.mem_cons,ih,List.mem_cons]
      constructor
      · rintro (rfl | h)
        · exact ⟨.inl rfl,hq⟩
        · exact ⟨.inr h.1,h.2⟩
      · rintro ⟨rfl | h,he⟩
        · exact .inl rfl
        · exact .inr ⟨h,he⟩
theorem del_sub {k : List Int} : ∀ {E : MeshE},(delE E k).Sublist E
  | []=>.slnil
  | q :: E=>by
    unfold delE
    split
    · exact List.sublist_cons_self ..
    · exact del_sub.cons_cons q
theorem del_nodup {E : MeshE} {k : List Int} (h : (E.map (·.1)).Nodup) : ((delE E k).map (·.1)).Nodup:=h.sublist (del_sub.map _)
theorem set_new {k : List Int} {v : T3} : ∀ {E : MeshE},k ∉ E.map (·.1)→setE E k v = E ++ [(k,v)]
  | [],_=>rfl
  | q :: E,h=>by
    simp only [List.map_cons,List.mem_cons,not_or] at h
    unfold setE
    rw [if_neg (fun e=>h.1 e.symm),set_new h.2];rfl
theorem rep_take {E : MeshE} {T : List T3} (h : Rep E T) {t : T3} (ht : t ∈ T) : Rep (takeE E t) (T.erase t):=by
  have n0:=del_nodup (k:=t.key 0) h.nodup
  have n1:=del_nodup (k:=t.key 1) n0
  have n2:=del_nodup (k:=t.key 2) n1
  have hm : ∀ p,p ∈ takeE E t↔p ∈ E∧p.1 ∉ t.keys:=fun p=>by
    unfold takeE T3.keys
    rw [del_map n1,del_map n0,del_map h.nodup]
    simp only [List.mem_cons,List.not_mem_nil,or_false,not_or]
    constructor
    · rintro ⟨⟨⟨a,b⟩,c⟩,d⟩;exact ⟨a,b,c,d⟩
    · rintro ⟨a,b,c,d⟩;exact ⟨⟨⟨a,b⟩,c⟩,d⟩
  refine ⟨n2,fun k u=>?_,h.tnd.erase t⟩
  rw [hm,h.mem,List.Nodup.mem_erase_iff h.tnd]
  constructor
  · rintro ⟨⟨hu,hk⟩,hnk⟩
    exact ⟨⟨fun e=>hnk (e▸hk),hu⟩,hk⟩
  · rintro ⟨⟨hne,hu⟩,hk⟩
    refine ⟨⟨hu,hk⟩,fun hk'=>hne ?_⟩
    have h1:=(look_mem h.nodup).2 ((h.mem k u).2 ⟨hu,hk⟩)
    have h2:=(look_mem h.nodup).2 ((h.mem k t).2 ⟨ht,hk'⟩)
    rw [h1] at h2
    exact Option.some.inj h2
theorem rep_put {E : MeshE} {T : List T3} (h : Rep E T) {t : T3} (hk : t.keys.Nodup) (ho : putOk E t = true) : Rep (putE E t) (t :: T)∧t ∉ T:=by
  have hno : ∀ k ∈ t.keys,k ∉ E.map (·.1):=fun k hk' hm=>by
    have:=hasK_iff.2 hm
    unfold putOk at ho
    simp only [Bool.and_eq_true,Bool.not_eq_true'] at ho
    simp only [T3.keys,List.mem_cons,List.not_mem_nil,or_false] at hk'
    rcases hk' with rfl | rfl | rfl
    · rw [this] at ho;exact absurd ho.1 (by simp)
    · rw [this] at ho;exact absurd ho.2.1 (by simp)
    · rw [this] at ho;exact absurd ho.2.2 (by simp)
  have hk':=hk
  simp only [T3.keys,List.nodup_cons,List.mem_cons,List.not_mem_nil,or_false,not_or,not_false_eq_true,List.nodup_nil,and_true] at hk'
  obtain ⟨⟨k01,k02⟩,k12⟩ :=hk'
  have a0:=hno (t.key 0) (by simp [T3.keys])
  have a1:=hno (t.key 1) (by simp [T3.keys])
  have a2:=hno (t.key 2) (by simp [T3.keys])
  have b1 : t.key 1 ∉ (E ++ [(t.key 0,t)]).map (·.1):=fun hm=>by
    rw [List.map_append] at hm
    rcases List.mem_append.1 hm with hm | hm
    · exact a1 hm
    · have : t.key 1 = t.key 0:=by simpa using hm
      exact k01 this.symm
  have b2 : t.key 2 ∉ (E ++ [(t.key 0,t)] ++ [(t.key 1,t)]).map (·.1):=fun hm=>by
    rw [List.map_append,List.map_append] at hm
    rcases List.mem_append.1 hm with hm | hm
    · rcases List.mem_append.1 hm with hm | hm
      · exact a2 hm
      · have : t.key 2 = t.key 0:=by simpa using hm
        exact k02 this.symm
    · have : t.key 2 = t.key 1:=by simpa using hm
      exact k12 this.symm
  have e : putE E t = E ++ [(t.key 0,t)] ++ [(t.key 1,t)] ++ [(t.key 2,t)]:=by
    unfold putE
    rw [if_pos ho,set_new a0,set_new b1,set_new b2]
  have ht : t ∉ T:=fun ht=>a0 (List.mem_map.2 ⟨_,(h.mem (t.key 0) t).2 ⟨ht,by simp [T3.keys]⟩,rfl⟩)
  refine ⟨⟨?_,fun k u=>?_,List.nodup_cons.2 ⟨ht,h.tnd⟩⟩,ht⟩
  · rw [e]
    have : (E ++ [(t.key 0,t)] ++ [(t.key 1,t)] ++ [(t.key 2,t)]).map (·.1) = E.map (·.1) ++ t.keys:=by simp [T3.keys]
    rw [this]
    exact List.nodup_append.2 ⟨h.nodup,hk,fun a ha b hb e=>hno b hb (e▸ha)⟩
  · rw [e]
    have : (k,u) ∈ E ++ [(t.key 0,t)] ++ [(t.key 1,t)] ++ [(t.key 2,t)]↔(k,u) ∈ E∨(u = t∧k ∈ t.keys):=by
      simp only [List.mem_append,List.mem_cons,List.not_mem_nil,or_false,Prod.mk.injEq,T3.keys]
      constructor
      · rintro (((h | ⟨h,h'⟩) | ⟨h,h'⟩) | ⟨h,h'⟩)
        · exact .inl h
        · exact .inr ⟨h',.inl h⟩
        · exact .inr ⟨h',.inr (.inl h)⟩
        · exact .inr ⟨h',.inr (.inr h)⟩
      · rintro (h | ⟨h',h | h | h⟩)
        · exact .inl (.inl (.inl h))
        · exact .inl (.inl (.inr ⟨h,h'⟩))
        · exact .inl (.inr ⟨h,h'⟩)
        · exact .inr ⟨h,h'⟩
    rw [this,h.mem,List.mem_cons]
    constructor
    · rintro (⟨a,b⟩ | ⟨rfl,b⟩)
      · exact ⟨.inr a,b⟩
      · exact ⟨.inl rfl,b⟩
    · rintro ⟨rfl | a,b⟩
      · exact .inr ⟨rfl,b⟩
      · exact .inl ⟨a,b⟩
def T3.In (t : T3) (q : H3) : Prop:=Inn t.A t.B t.C q
def Rt (s t : T3) : Prop:=s = t∨s = t.turn∨s = t.turn.turn
def mkT (a b c : P2) : T3:=⟨a.1,a.2,b.1,b.2,c.1,c.2⟩
theorem Rt.cases {s : T3} {a b c : P2} (h : Rt s (mkT a b c)) : (s.A = a∧s.B = b∧s.C = c)∨(s.A = b∧s.B = c∧s.C = a)∨(s.A = c∧s.B = a∧s.C = b):=by
  rcases h with rfl | rfl | rfl
  · exact .inl ⟨rfl,rfl,rfl⟩
  · exact .inr (.inl ⟨rfl,rfl,rfl⟩)
  · exact .inr (.inr ⟨rfl,rfl,rfl⟩)
theorem Rt.In {s : T3} {a b c : P2} (h : Rt s (mkT a b c)) (q : H3) : s.In q↔Inn a b c q:=by
  unfold T3.In
  rcases h.cases with ⟨h1,h2,h3⟩ | ⟨h1,h2,h3⟩ | ⟨h1,h2,h3⟩ <;>rw [h1,h2,h3]
  · exact Inn_rot
  · rw [← Inn_rot,← Inn_rot]
theorem Rt.ok {s : T3} {a b c : P2} (h : Rt s (mkT a b c)) (ha : Vp a) (hb : Vp b) (hc : Vp c) (h0 : 0 < tw a b c) : s.Ok:=by
  have r1:=tw_rot a b c
  have r2:=tw_rot b c a
  unfold T3.Ok
  rcases h.cases with ⟨h1,h2,h3⟩ | ⟨h1,h2,h3⟩ | ⟨h1,h2,h3⟩ <;>rw [h1,h2,h3]
  · exact ⟨ha,hb,hc,h0⟩
  · exact ⟨hb,hc,ha,by omega⟩
  · exact ⟨hc,ha,hb,by omega⟩
theorem Rt.keys {s : T3} {a b c : P2} (h : Rt s (mkT a b c)) (k : List Int) : k ∈ s.keys↔k = kl a b∨k = kl b c∨k = kl c a:=by
  unfold T3.keys
  rw [s.key0,s.key1,s.key2]
  simp only [List.mem_cons,List.not_mem_nil,or_false]
  rcases h.cases with ⟨h1,h2,h3⟩ | ⟨h1,h2,h3⟩ | ⟨h1,h2,h3⟩ <;>rw [h1,h2,h3]
  · exact ⟨fun h=>by rcases h with h | h | h<;>simp [h],fun h=>by rcases h with h | h | h<;>simp [h]⟩
  · exact ⟨fun h=>by rcases h with h | h | h<;>simp [h],fun h=>by rcases h with h | h | h<;>simp [h]⟩
theorem T3.keys_iff (t : T3) (k : List Int) : k ∈ t.keys↔k = kl t.A t.B∨k = kl t.B t.C∨k = kl t.C t.A:=Rt.keys (s:=t) (a:=t.A) (b:=t.B) (c:=t.C) (.inl rfl) k
structure Msh (T : List T3) : Prop where
  ok : ∀ t ∈ T,t.Ok
  one : ∀ q,Gen q→∀ t ∈ T,∀ s ∈ T,t.In q→s.In q→t = s
theorem Rep.edge {E : MeshE} {T : List T3} (h : Rep E T) {s t : T3} (hs : s ∈ T) (ht : t ∈ T) {k : List Int} (h1 : k ∈ s.keys) (h2 : k ∈ t.keys) : s = t:=by
  have a:=(look_mem h.nodup).2 ((h.mem k s).2 ⟨hs,h1⟩)
  have b:=(look_mem h.nodup).2 ((h.mem k t).2 ⟨ht,h2⟩)
  rw [a] at b;exact Option.some.inj b
theorem sel_mem {f : List Int→T3→Bool} {E : MeshE} {T : List T3} (h : Rep E T) {t : T3} : t ∈ sel f E↔t ∈ T∧∃ k ∈ t.keys,f k t = true:=by
  unfold sel
  simp only [List.mem_map,List.mem_filter,Prod.exists]
  constructor
  · rintro ⟨k,u,⟨h1,h2⟩,rfl⟩
    obtain ⟨a,b⟩ :=(h.mem k u).1 h1
    exact ⟨a,k,b,h2⟩
  · rintro ⟨a,k,b,h2⟩
    exact ⟨k,t,⟨(h.mem k t).2 ⟨a,b⟩,h2⟩,rfl⟩
theorem sel_nodup {f : List Int→T3→Bool} (hf : ∀ t : T3,t.Ok→∀ k ∈ t.keys,∀ k' ∈ t.keys,f k t = true→f k' t = true→k = k') {E : MeshE} {T : List T3} (h : Rep E T) (hok : ∀ t ∈ T,t.Ok) : (sel f E).Nodup:=by
  unfold sel
  have hn : E.Nodup:=by
    have:=h.nodup
    rw [List.nodup_iff_pairwise_ne] at this ⊢
    rw [List.pairwise_map] at this
    exact this.imp fun hne e=>hne (by rw [e])
  have hf':=hn.filter (fun p=>f p.1 p.2)
  replace hf' : List.Pairwise (fun a b=>a≠b) _:=hf'
  rw [List.nodup_iff_pairwise_ne,List.pairwise_map]
  refine hf'.imp_of_mem ?_
  rintro ⟨k,t⟩ ⟨k',t'⟩ h1 h2 hne e
  dsimp only at e
  subst e
  apply hne
  obtain ⟨m1,g1⟩ :=List.mem_filter.1 h1
  obtain ⟨m2,g2⟩ :=List.mem_filter.1 h2
  obtain ⟨a,b⟩ :=(h.mem k t).1 m1
  obtain ⟨_,d⟩ :=(h.mem k' t).1 m2
  rw [hf t (hok t a) k b k' d g1 g2]
theorem fTris_kl (a b : P2) (t : T3) : fTris (kl a b) t = true↔a = t.A:=by
  unfold fTris kl T3.A
  simp only [List.getD_cons_zero,List.getD_cons_succ,decide_eq_true_eq,List.cons.injEq,and_true]
  exact ⟨fun h=>Prod.ext h.1 h.2,fun h=>by rw [h];exact ⟨rfl,rfl⟩⟩
theorem fTris_key {t : T3} (h : t.Ok) {k : List Int} (hk : k ∈ t.keys) : fTris k t = true↔k = kl t.A t.B:=by
  obtain ⟨n1,n2,n3⟩ :=h.ne
  rcases (t.keys_iff k).1 hk with rfl | rfl | rfl
  · rw [fTris_kl];simp
  · rw [fTris_kl];exact ⟨fun e=>absurd e.symm n1,fun e=>absurd (kl_inj e).1.symm n1⟩
  · rw [fTris_kl];exact ⟨fun e=>absurd e n3,fun e=>absurd (kl_inj e).1 n3⟩
theorem sel_tris {E : MeshE} {T : List T3} (h : Rep E T) (hok : ∀ t ∈ T,t.Ok) : (sel fTris E).Perm T:=by
  refine (List.perm_ext_iff_of_nodup (sel_nodup (fun t ht k hk k' hk' g1 g2=>?_) h hok) h.tnd).2 fun t=>?_
  · rw [(fTris_key ht hk).1 g1,(fTris_key ht hk').1 g2]
  · rw [sel_mem h]
    exact ⟨fun e=>e.1,fun e=>⟨e,kl t.A t.B,(t.keys_iff _).2 (.inl rfl),(fTris_kl _ _ _).2 rfl⟩⟩
def Dj (u v : T3) : Prop:=∀ k,k ∈ u.keys→k ∉ v.keys
theorem Dj.symm {u v : T3} (h : Dj u v) : Dj v u:=fun k h1 h2=>h k h2 h1
theorem putOk_iff {E : MeshE} {T : List T3} (h : Rep E T) {u : T3} : putOk E u = true↔∀ t ∈ T,Dj u t:=by
  have hk : ∀ k,hasK E k = true↔∃ t ∈ T,k ∈ t.keys:=fun k=>by
    rw [hasK_iff,List.mem_map]
    constructor
    · rintro ⟨⟨k',t⟩,hm,rfl⟩;exact ⟨t,(h.mem _ _).1 hm⟩
    · rintro ⟨t,hm⟩;exact ⟨(k,t),(h.mem _ _).2 hm,rfl⟩
  have hn : ∀ k,(!hasK E k) = true↔∀ t ∈ T,k ∉ t.keys:=fun k=>by
    rw [Bool.not_eq_true',← Bool.not_eq_true,hk]
    exact ⟨fun h t ht hm=>h ⟨t,ht,hm⟩,fun h ⟨t,ht,hm⟩ =>h t ht hm⟩
  unfold putOk
  rw [Bool.and_eq_true,Bool.and_eq_true,hn,hn,hn]
  constructor
  · rintro ⟨h0,h1,h2⟩ t ht k hk
    simp only [T3.keys,List.mem_cons,List.not_mem_nil,or_false] at hk
    rcases hk with rfl | rfl | rfl
    · exact h0 t ht
    · exact h1 t ht
    · exact h2 t ht
  · intro g
    exact ⟨fun t ht=>g t ht _ (by simp [T3.keys]),fun t ht=>g t ht _ (by simp [T3.keys]),fun t ht=>g t ht _ (by simp [T3.keys])⟩
theorem fold_put : ∀ {P : List T3} {E : MeshE} {T : List T3},Rep E T→(∀ u ∈ P,u.keys.Nodup)→P.Pairwise Dj→(∀ u ∈ P,∀ t ∈ T,Dj u t)→Rep (P.foldl putE E) (P.reverse ++ T)
  | [],_,_,h,_,_,_=>h
  | u :: P,E,T,h,hk,hp,hd=>by
    obtain ⟨p1,p2⟩ :=List.pairwise_cons.1 hp
    have h1:=(rep_put h (hk u (.head _)) ((putOk_iff h).2 (hd u (.head _)))).1
    have:=fold_put (P:=P) h1 (fun v hv=>hk v (.tail _ hv)) p2 (fun v hv t ht=>by
      rcases List.mem_cons.1 ht with rfl | ht
      · exact (p1 v hv).symm
      · exact hd v (.tail _ hv) t ht)
    simpa using this
theorem fold_take : ∀ {P : List T3} {E : MeshE} {T : List T3},Rep E T→P.Nodup→(∀ t ∈ P,t ∈ T)→∃ U,Rep (P.foldl takeE E) U∧(∀ t,t ∈ U↔t ∈ T∧t ∉ P)∧U.length + P.length = T.length
  | [],_,T,h,_,_=>⟨T,h,fun t=>by simp,by simp⟩
  | u :: P,E,T,h,hn,hm=>by
    obtain ⟨n1,n2⟩ :=List.nodup_cons.1 hn
    have hu:=hm u (.head _)
    obtain ⟨U,h1,h2,h3⟩ :=fold_take (P:=P) (rep_take h hu) n2 (fun t ht=>(List.Nodup.mem_erase_iff h.tnd).2 ⟨fun e=>n1 (e▸ht),hm t (.tail _ ht)⟩)
    refine ⟨U,h1,fun t=>?_,?_⟩
    · rw [h2,List.Nodup.mem_erase_iff h.tnd,List.mem_cons,not_or]
      constructor
      · rintro ⟨⟨a,b⟩,c⟩;exact ⟨b,a,c⟩
      · rintro ⟨b,a,c⟩;exact ⟨⟨a,b⟩,c⟩
    · rw [List.length_erase_of_mem hu] at h3
      have : 0 < T.length:=List.length_pos_of_mem hu
      simp only [List.length_cons];omega
def T3.Cl (t : T3) (p : P2) : Prop:=ClP t.A t.B t.C p
def T3.Nv (t : T3) (p : P2) : Prop:=p≠t.A∧p≠t.B∧p≠t.C
section
variable (pc : P2→P2→P2→T3)
instance (a b p : P2) : Decidable (0 < tw a b p):=inferInstance
def cutL (t : T3) (p : P2) : List T3:=(if 0 < tw t.A t.B p then [pc t.A t.B p] else []) ++ ((if 0 < tw t.B t.C p then [pc t.B t.C p] else []) ++ (if 0 < tw t.C t.A p then [pc t.C t.A p] else []))
theorem cutL_mem {t u : T3} {p : P2} : u ∈ cutL pc t p↔(0 < tw t.A t.B p∧u = pc t.A t.B p)∨(0 < tw t.B t.C p∧u = pc t.B t.C p)∨(0 < tw t.C t.A p∧u = pc t.C t.A p):=by
  unfold cutL
  simp only [List.mem_append]
  have e : ∀ {P : Prop} [Decidable P] {x : T3},u ∈ (if P then [x] else [])↔P∧u = x:=fun {P _ x}=>by
    by_cases h : P<;>simp [h]
  rw [e,e,e]
variable {pc}
variable (hpc : ∀ a b p,Rt (pc a b p) (mkT a b p))
include hpc
theorem cutL_In {t : T3} (ht : t.Ok) {p : P2} (vp : Vp p) (hn : t.Nv p) (hc : t.Cl p) {q : H3} (hg : Gen q) : t.In q↔∃ u ∈ cutL pc t p,u.In q:=by
  obtain ⟨va,vb,vc,h0⟩ :=ht
  obtain ⟨na,nb,nc⟩ :=hn
  obtain ⟨c1,c2,c3⟩ :=hc
  have r1:=tw_rot t.A t.B t.C
  have r2:=tw_rot t.B t.C t.A
  constructor
  · intro h
    rcases pc_one va vb vc vp na nb nc hg h0 c1 c2 c3 h with h | h | h
    · exact ⟨_,(cutL_mem pc).2 (.inl ⟨h.1.1,rfl⟩),((hpc ..).In q).2 h.1.2⟩
    · exact ⟨_,(cutL_mem pc).2 (.inr (.inl ⟨h.2.1.1,rfl⟩)),((hpc ..).In q).2 h.2.1.2⟩
    · exact ⟨_,(cutL_mem pc).2 (.inr (.inr ⟨h.2.2.1,rfl⟩)),((hpc ..).In q).2 h.2.2.2⟩
  · rintro ⟨u,hu,hq⟩
    rcases (cutL_mem pc).1 hu with ⟨k,rfl⟩ | ⟨k,rfl⟩ | ⟨k,rfl⟩
    · exact pc_in h0 c2 c3 ⟨k,((hpc ..).In q).1 hq⟩
    · exact Inn_rot.1 (pc_in (by omega) c3 c1 ⟨k,((hpc ..).In q).1 hq⟩)
    · exact Inn_rot.1 (Inn_rot.1 (pc_in (by omega) c1 c2 ⟨k,((hpc ..).In q).1 hq⟩))
theorem cutL_one {t : T3} (ht : t.Ok) {p : P2} (vp : Vp p) (hn : t.Nv p) (hc : t.Cl p) {q : H3} (hg : Gen q) {u v : T3} (hu : u ∈ cutL pc t p) (hv : v ∈ cutL pc t p) (h1 : u.In q) (h2 : v.In q) : u = v:=by
  have hq:=(cutL_In hpc ht vp hn hc hg).2 ⟨u,hu,h1⟩
  obtain ⟨va,vb,vc,h0⟩ :=ht
  obtain ⟨na,nb,nc⟩ :=hn
  obtain ⟨c1,c2,c3⟩ :=hc
  have P : ∀ a b,0 < tw a b p→(pc a b p).In q→Pc a b p q:=fun a b k h=>⟨k,((hpc ..).In q).1 h⟩
  rcases pc_one va vb vc vp na nb nc hg h0 c1 c2 c3 hq with ⟨a,b,c⟩ | ⟨a,b,c⟩ | ⟨a,b,c⟩ <;>
    rcases (cutL_mem pc).1 hu with ⟨k,rfl⟩ | ⟨k,rfl⟩ | ⟨k,rfl⟩ <;>rcases (cutL_mem pc).1 hv with ⟨m,rfl⟩ | ⟨m,rfl⟩ | ⟨m,rfl⟩ <;>first | rfl | exact absurd (P _ _ k h1) (by assumption) | exact absurd (P _ _ m h2) (by assumption)
theorem cutL_ok {t : T3} (ht : t.Ok) {p : P2} (vp : Vp p) {u : T3} (hu : u ∈ cutL pc t p) : u.Ok:=by
  obtain ⟨va,vb,vc,h0⟩ :=ht
  rcases (cutL_mem pc).1 hu with ⟨k,rfl⟩ | ⟨k,rfl⟩ | ⟨k,rfl⟩
  · exact (hpc ..).ok va vb vp k
  · exact (hpc ..).ok vb vc vp k
  · exact (hpc ..).ok vc va vp k
theorem cutL_keys {t u : T3} {p : P2} (hu : u ∈ cutL pc t p) : ∃ a b,kl a b ∈ t.keys∧0 < tw a b p∧∀ k,k ∈ u.keys↔k = kl a b∨k = kl b p∨k = kl p a:=by
  rcases (cutL_mem pc).1 hu with ⟨k,rfl⟩ | ⟨k,rfl⟩ | ⟨k,rfl⟩
  · exact ⟨_,_,(t.keys_iff _).2 (.inl rfl),k,(hpc ..).keys⟩
  · exact ⟨_,_,(t.keys_iff _).2 (.inr (.inl rfl)),k,(hpc ..).keys⟩
  · exact ⟨_,_,(t.keys_iff _).2 (.inr (.inr rfl)),k,(hpc ..).keys⟩
end
section
variable {pc : P2→P2→P2→T3} (hpc : ∀ a b p,Rt (pc a b p) (mkT a b p))
include hpc
def FrP (T : List T3) (p : P2) : Prop:=∀ t ∈ T,t.Nv p
omit hpc in
theorem kl_corner {t : T3} {a b : P2} (h : kl a b ∈ t.keys) : (a = t.A∨a = t.B∨a = t.C)∧(b = t.A∨b = t.B∨b = t.C):=by
  rcases (t.keys_iff _).1 h with h | h | h<;>obtain ⟨rfl,rfl⟩ :=kl_inj h<;>simp
omit hpc in
theorem kl_uniq {t : T3} (ht : t.Ok) {a b c : P2} : (kl a b ∈ t.keys→kl a c ∈ t.keys→b = c)∧(kl b a ∈ t.keys→kl c a ∈ t.keys→b = c):=by
  obtain ⟨n1,n2,n3⟩ :=ht.ne
  constructor
  · intro h1 h2
    rcases (t.keys_iff _).1 h1 with h1 | h1 | h1<;>rcases (t.keys_iff _).1 h2 with h2 | h2 | h2<;>obtain ⟨e1,e2⟩ :=kl_inj h1<;>obtain ⟨e3,e4⟩ :=kl_inj h2
    · rw [e2,e4]
    · exact absurd (e1.symm.trans e3) n1
    · exact absurd (e3.symm.trans e1) n3
    · exact absurd (e3.symm.trans e1) n1
    · rw [e2,e4]
    · exact absurd (e1.symm.trans e3) n2
    · exact absurd (e1.symm.trans e3) n3
    · exact absurd (e3.symm.trans e1) n2
    · rw [e2,e4]
  · intro h1 h2
    rcases (t.keys_iff _).1 h1 with h1 | h1 | h1<;>rcases (t.keys_iff _).1 h2 with h2 | h2 | h2<;>obtain ⟨e1,e2⟩ :=kl_inj h1<;>obtain ⟨e3,e4⟩ :=kl_inj h2
    · rw [e1,e3]
    · exact absurd (e2.symm.trans e4) n2
    · exact absurd (e4.symm.trans e2) n1
    · exact absurd (e4.symm.trans e2) n2
    · rw [e1,e3]
    · exact absurd (e2.symm.trans e4) n3
    · exact absurd (e2.symm.trans e4) n1
    · exact absurd (e4.symm.trans e2) n3
    · rw [e1,e3]
omit hpc in
theorem kl_vp {t : T3} (ht : t.Ok) {a b : P2} (h : kl a b ∈ t.keys) : Vp a∧Vp b:=by
  obtain ⟨va,vb,vc,_⟩ :=ht
  rcases (t.keys_iff _).1 h with h | h | h<;>obtain ⟨rfl,rfl⟩ :=kl_inj h
  · exact ⟨va,vb⟩
  · exact ⟨vb,vc⟩
  · exact ⟨vc,va⟩
theorem cutL_at {t u : T3} {p : P2} (hu : u ∈ cutL pc t p) : ∃ a b,kl a b ∈ t.keys∧0 < tw a b p∧u = pc a b p:=by
  rcases (cutL_mem pc).1 hu with ⟨k,e⟩ | ⟨k,e⟩ | ⟨k,e⟩
  · exact ⟨_,_,(t.keys_iff _).2 (.inl rfl),k,e⟩
  · exact ⟨_,_,(t.keys_iff _).2 (.inr (.inl rfl)),k,e⟩
  · exact ⟨_,_,(t.keys_iff _).2 (.inr (.inr rfl)),k,e⟩
theorem pieces_dj {E : MeshE} {T : List T3} (h : Rep E T) (hM : Msh T) {p : P2} (vp : Vp p) (hf : FrP T p) {s t : T3} (hs : s ∈ T) (ht : t ∈ T) (cs : s.Cl p) (ct : t.Cl p) {a b c d : P2} (h1 : kl a b ∈ s.keys) (h2 : kl c d ∈ t.keys) (g1 : 0 < tw a b p) (g2 : 0 < tw c d p) (hne : ¬ (a = c∧b = d)) : Dj (pc a b p) (pc c d p):=by
  have np : ∀ {t : T3},t ∈ T→∀ {a b : P2},kl a b ∈ t.keys→a≠p∧b≠p:=fun {t} ht {a b} hk=>by
    obtain ⟨n1,n2,n3⟩ :=hf t ht
    obtain ⟨c1,c2⟩ :=kl_corner hk
    exact ⟨by rcases c1 with rfl | rfl | rfl<;>intro e<;>simp_all,by rcases c2 with rfl | rfl | rfl<;>intro e<;>simp_all⟩
  obtain ⟨va,vb⟩ :=kl_vp (hM.ok s hs) h1
  obtain ⟨vc,vd⟩ :=kl_vp (hM.ok t ht) h2
  obtain ⟨na,nb⟩ :=np hs h1
  obtain ⟨nc,nd⟩ :=np ht h2
  have inT : ∀ {t : T3},t ∈ T→t.Cl p→∀ {a b : P2},kl a b ∈ t.keys→0 < tw a b p→∀ {q},Gen q→Inn a b p q→t.In q:=fun {t} ht ct {a b} hk g {q} hq hi=>by
    refine (cutL_In hpc (hM.ok t ht) vp (hf t ht) ct hq).2 ⟨pc a b p,?_,((hpc ..).In q).2 hi⟩
    rcases (t.keys_iff _).1 hk with e | e | e<;>obtain ⟨rfl,rfl⟩ :=kl_inj e
    · exact (cutL_mem pc).2 (.inl ⟨g,rfl⟩)
    · exact (cutL_mem pc).2 (.inr (.inl ⟨g,rfl⟩))
    · exact (cutL_mem pc).2 (.inr (.inr ⟨g,rfl⟩))
  have r1:=tw_rot a b p
  have r2:=tw_rot b p a
  have r3:=tw_rot c d p
  have r4:=tw_rot d p c
  intro k k1 k2
  rcases ((hpc a b p).keys k).1 k1 with rfl | rfl | rfl<;>rcases ((hpc c d p).keys _).1 k2 with e | e | e<;>obtain ⟨e1,e2⟩ :=kl_inj e
  · exact hne ⟨e1,e2⟩
  · exact nb e2
  · exact na e1
  · exact nd e2.symm
  · subst e1
    -- both leave b for p
    obtain ⟨q,hq,i1,i2⟩ :=overlap vb vp va vc (show 0 < tw b p a by omega) (show 0 < tw b p c by omega)
    have e:=hM.one q hq s hs t ht (inT hs cs h1 g1 hq (Inn_rot.1 i1)) (inT ht ct h2 g2 hq (Inn_rot.1 i2))
    subst e
    exact hne ⟨(kl_uniq (hM.ok s hs)).2 h1 h2,rfl⟩
  · exact nb e1
  · exact nc e1.symm
  · exact nd e1.symm
  · subst e2
    obtain ⟨q,hq,i1,i2⟩ :=overlap vp va vb vd (show 0 < tw p a b by omega) (show 0 < tw p a d by omega)
    have e:=hM.one q hq s hs t ht (inT hs cs h1 g1 hq (Inn_rot.1 (Inn_rot.1 i1))) (inT ht ct h2 g2 hq (Inn_rot.1 (Inn_rot.1 i2)))
    subst e
    exact hne ⟨rfl,(kl_uniq (hM.ok s hs)).1 h1 h2⟩
end
def Zer (t : T3) (p u : P2) : Prop:=(u = sb t.B t.A∧tw t.A t.B p = 0)∨(u = sb t.C t.B∧tw t.B t.C p = 0)∨(u = sb t.A t.C∧tw t.C t.A p = 0)
theorem zd_uniq {t : T3} (ht : t.Ok) {p : P2} (hn : t.Nv p) (hc : t.Cl p) {u v : P2} (h1 : Zer t p u) (h2 : Zer t p v) : u = v:=by
  have k:=cl_cases ht.2.2.2 hn.1 hn.2.1 hn.2.2 hc
  rcases h1 with ⟨rfl,a⟩ | ⟨rfl,a⟩ | ⟨rfl,a⟩ <;>rcases h2 with ⟨rfl,b⟩ | ⟨rfl,b⟩ | ⟨rfl,b⟩ <;>first | rfl | (exfalso;omega)
theorem two_tri {T : List T3} (hM : Msh T) {p : P2} (hf : FrP T p) {s t : T3} (hs : s ∈ T) (ht : t ∈ T) (cs : s.Cl p) (ct : t.Cl p) (hne : s≠t) : ∃ u v,Zer s p u∧Zer t p v∧cr u v = 0∧dt u v < 0∧0 < dt u u:=by
  obtain ⟨a1,a2,a3,a4⟩ :=hM.ok s hs
  obtain ⟨b1,b2,b3,b4⟩ :=hM.ok t ht
  obtain ⟨n1,n2,n3⟩ :=hf s hs
  obtain ⟨m1,m2,m3⟩ :=hf t ht
  obtain ⟨u,v,h1,h2,h3,h4,h5⟩ :=two_at a1 a2 a3 b1 b2 b3 a4 b4 n1 n2 n3 m1 m2 m3 cs ct (fun q hq ⟨i,j⟩ =>hne (hM.one q hq s hs t ht i j))
  exact ⟨u,v,h1,h2,h3,h4,h5⟩
theorem no_three {T : List T3} (hM : Msh T) {p : P2} (hf : FrP T p) {r s t : T3} (hr : r ∈ T) (hs : s ∈ T) (ht : t ∈ T) (cr' : r.Cl p) (cs : s.Cl p) (ct : t.Cl p) (h1 : r≠s) (h2 : r≠t) (h3 : s≠t) : False:=by
  obtain ⟨u,v,a1,a2,a3,a4,a5⟩ :=two_tri hM hf hr hs cr' cs h1
  obtain ⟨u',w,b1,b2,b3,b4,b5⟩ :=two_tri hM hf hr ht cr' ct h2
  obtain ⟨v',w',c1,c2,c3,c4,c5⟩ :=two_tri hM hf hs ht cs ct h3
  have e1:=zd_uniq (hM.ok r hr) (hf r hr) cr' a1 b1
  have e2:=zd_uniq (hM.ok s hs) (hf s hs) cs a2 c1
  have e3:=zd_uniq (hM.ok t ht) (hf t ht) ct b2 c2
  subst e1 e2 e3
  exact not_three a5 a3 a4 b3 b4 c4
section
variable {pc : P2→P2→P2→T3}
theorem cutL_len {t : T3} (ht : t.Ok) {p : P2} (hn : t.Nv p) (hc : t.Cl p) : 2≤(cutL pc t p).length∧(cutL pc t p).length≤3∧(∀ u,Zer t p u→(cutL pc t p).length = 2):=by
  have k:=cl_cases ht.2.2.2 hn.1 hn.2.1 hn.2.2 hc
  have e : ∀ {P : Prop} [Decidable P] {x : T3},((if P then [x] else []) : List T3).length = if P then 1 else 0:=fun {P _ x}=>by by_cases h : P<;>simp [h]
  unfold cutL
  rw [List.length_append,List.length_append,e,e,e]
  refine ⟨?_,?_,fun u hu=>?_⟩
  · rcases k with ⟨a,b,c⟩ | ⟨a,b,c⟩ | ⟨a,b,c⟩ | ⟨a,b,c⟩ <;>simp [a,b,c]
  · split<;>split<;>split<;>omega
  · rcases k with ⟨a,b,c⟩ | ⟨a,b,c⟩ | ⟨a,b,c⟩ | ⟨a,b,c⟩
    · exfalso;rcases hu with ⟨_,h⟩ | ⟨_,h⟩ | ⟨_,h⟩ <;>omega
    · simp [a,b,c]
    · simp [a,b,c]
    · simp [a,b,c]
variable (hpc : ∀ a b p,Rt (pc a b p) (mkT a b p))
include hpc
theorem add_point {E : MeshE} {T : List T3} (h : Rep E T) (hM : Msh T) {p : P2} (vp : Vp p) (hf : FrP T p) {L : List T3} (hL : L.Nodup) (hm : ∀ t, t ∈ L ↔ t ∈ T ∧ t.Cl p) {P : List T3} (hP : P.Perm (L.flatMap fun t => cutL pc t p)) :
    ∃ T',Rep (P.foldl putE (L.foldl takeE E)) T'∧Msh T'∧(∀ u ∈ T',u ∈ T∨∃ t ∈ L,u ∈ cutL pc t p)∧T'.length≤T.length + 2∧T.length≤T'.length:=by
  obtain ⟨U,hU,mU,lU⟩ :=fold_take h hL (fun t ht=>((hm t).1 ht).1)
  have memP : ∀ u,u ∈ P↔∃ t ∈ L,u ∈ cutL pc t p:=fun u=>by rw [hP.mem_iff,List.mem_flatMap]
  have okP : ∀ u ∈ P,u.Ok:=fun u hu=>by
    obtain ⟨t,ht,hu⟩ :=(memP u).1 hu
    exact cutL_ok hpc (hM.ok t ((hm t).1 ht).1) vp hu
  have pw : P.Pairwise Dj:=by
    refine (hP.pairwise_iff fun h=>h.symm).2 ?_
    rw [List.pairwise_flatMap]
    constructor
    · intro t ht
      obtain ⟨tT,tC⟩ :=(hm t).1 ht
      obtain ⟨n1,n2,n3⟩ :=(hM.ok t tT).ne
      have dj:=fun {a b c d : P2} (h1 : kl a b ∈ t.keys) (h2 : kl c d ∈ t.keys) (g1 : 0 < tw a b p) (g2 : 0 < tw c d p) (hne : ¬ (a = c∧b = d))=>pieces_dj hpc h hM vp hf tT tT tC tC h1 h2 g1 g2 hne
      have k1 : kl t.A t.B ∈ t.keys:=(t.keys_iff _).2 (.inl rfl)
      have k2 : kl t.B t.C ∈ t.keys:=(t.keys_iff _).2 (.inr (.inl rfl))
      have k3 : kl t.C t.A ∈ t.keys:=(t.keys_iff _).2 (.inr (.inr rfl))
      unfold cutL
      by_cases g1 : 0 < tw t.A t.B p<;>by_cases g2 : 0 < tw t.B t.C p<;>by_cases g3 : 0 < tw t.C t.A p<;>simp only [g1,g2,g3,if_true,if_false,List.nil_append,List.append_nil,List.cons_append,List.pairwise_cons,List.mem_cons,List.not_mem_nil,or_false,forall_eq_or_imp,forall_eq,List.Pairwise.nil,and_true,false_implies,implies_true]
      · exact ⟨⟨dj k1 k2 g1 g2 fun e=>n1 e.1,dj k1 k3 g1 g3 fun e=>n3 e.1.symm⟩,dj k2 k3 g2 g3 fun e=>n2 e.1⟩
      · exact dj k1 k2 g1 g2 fun e=>n1 e.1
      · exact dj k1 k3 g1 g3 fun e=>n3 e.1.symm
      · exact dj k2 k3 g2 g3 fun e=>n2 e.1
    · refine List.Pairwise.imp_of_mem ?_ (List.nodup_iff_pairwise_ne.1 hL)
      intro s t hs ht hne u hu v hv
      obtain ⟨sT,sC⟩ :=(hm s).1 hs
      obtain ⟨tT,tC⟩ :=(hm t).1 ht
      obtain ⟨a,b,k1,g1,rfl⟩ :=cutL_at hpc hu
      obtain ⟨c,d,k2,g2,rfl⟩ :=cutL_at hpc hv
      exact pieces_dj hpc h hM vp hf sT tT sC tC k1 k2 g1 g2 fun ⟨e1,e2⟩ =>hne (h.edge sT tT k1 (by rw [e1,e2];exact k2))
  have dU : ∀ u ∈ P,∀ t ∈ U,Dj u t:=fun u hu v hv k h1 h2=>by
    obtain ⟨t,ht,hu⟩ :=(memP u).1 hu
    obtain ⟨vT,vL⟩ :=(mU v).1 hv
    obtain ⟨a,b,k1,g1,hk⟩ :=cutL_keys hpc hu
    have nv:=hf v vT
    rcases (hk k).1 h1 with rfl | rfl | rfl
    · exact vL (h.edge ((hm t).1 ht).1 vT k1 h2▸ht)
    · rcases (kl_corner h2).2 with e | e | e
      · exact nv.1 e
      · exact nv.2.1 e
      · exact nv.2.2 e
    · rcases (kl_corner h2).1 with e | e | e
      · exact nv.1 e
      · exact nv.2.1 e
      · exact nv.2.2 e
  have hR:=fold_put hU (fun u hu=>(okP u hu).kne) pw dU
  -- whence a triangle came
  have par : ∀ u ∈ P.reverse ++ U,∀ q,Gen q→u.In q→∃ t ∈ T,t.In q∧((t ∉ L∧u = t)∨(t ∈ L∧u ∈ cutL pc t p)):=fun u hu q hq hi=>by
    rcases List.mem_append.1 hu with hu | hu
    · obtain ⟨t,ht,hu⟩ :=(memP u).1 (List.mem_reverse.1 hu)
      obtain ⟨tT,tC⟩ :=(hm t).1 ht
      exact ⟨t,tT,(cutL_In hpc (hM.ok t tT) vp (hf t tT) tC hq).2 ⟨u,hu,hi⟩,.inr ⟨ht,hu⟩⟩
    · obtain ⟨uT,uL⟩ :=(mU u).1 hu
      exact ⟨u,uT,hi,.inl ⟨uL,rfl⟩⟩
  refine ⟨_,hR,⟨fun u hu=>?_,fun q hq u hu v hv h1 h2=>?_⟩,fun u hu=>(List.mem_append.1 hu).elim (fun h=>.inr ((memP u).1 (List.mem_reverse.1 h))) (fun h=>.inl ((mU u).1 h).1),?_⟩
  · rcases List.mem_append.1 hu with hu | hu
    · exact okP u (List.mem_reverse.1 hu)
    · exact hM.ok u ((mU u).1 hu).1
  · obtain ⟨s,sT,sq,hs⟩ :=par u hu q hq h1
    obtain ⟨t,tT,tq,ht⟩ :=par v hv q hq h2
    have e:=hM.one q hq s sT t tT sq tq
    subst e
    rcases hs with ⟨a,rfl⟩ | ⟨a,b⟩ <;>rcases ht with ⟨c,rfl⟩ | ⟨c,d⟩
    · rfl
    · exact absurd c a
    · exact absurd a c
    · exact cutL_one hpc (hM.ok s sT) vp (hf s sT) ((hm s).1 a).2 hq b d h1 h2
  · have hlen : ∀ M : List T3, (∀ t ∈ M, t ∈ L) → 2 * M.length ≤ (M.flatMap fun t => cutL pc t p).length := fun M => by
      induction M with
      | nil=>intro _;simp
      | cons t M ih=>
        intro hM'
        obtain ⟨tT,tC⟩ :=(hm t).1 (hM' t (.head _))
        have:=(cutL_len (pc:=pc) (hM.ok t tT) (hf t tT) tC).1
        have:=ih fun s hs=>hM' s (.tail _ hs)
        simp only [List.flatMap_cons,List.length_append,List.length_cons];omega
    have l1:=hlen L fun _ h=>h
    have lP:=hP.length_eq
    rw [List.length_append,List.length_reverse]
    refine ⟨?_,by omega⟩
    -- at most two
    match L,hL,hm,lP,l1,lU with
    | [],_,_,lP,_,lU=>have : P.length = 0:=lP;have : U.length + 0 = T.length:=lU;omega
    | [t],_,hm,lP,_,lU=>
      obtain ⟨tT,tC⟩ :=(hm t).1 (.head _)
      have:=(cutL_len (pc:=pc) (hM.ok t tT) (hf t tT) tC).2.1
      simp at lP lU;omega
    | [s,t],hL,hm,lP,_,lU=>
      obtain ⟨sT,sC⟩ :=(hm s).1 (.head _)
      obtain ⟨tT,tC⟩ :=(hm t).1 (.tail _ (.head _))
      have hne : s≠t:=fun e=>by subst e;simp at hL
      obtain ⟨u,v,z1,z2,_⟩ :=two_tri hM hf sT tT sC tC hne
      have:=(cutL_len (pc:=pc) (hM.ok s sT) (hf s sT) sC).2.2 u z1
      have:=(cutL_len (pc:=pc) (hM.ok t tT) (hf t tT) tC).2.2 v z2
      simp at lP lU;omega
    | r :: s :: t :: L,hL,hm,_,_,_=>
      exfalso
      obtain ⟨rT,rC⟩ :=(hm r).1 (.head _)
      obtain ⟨sT,sC⟩ :=(hm s).1 (.tail _ (.head _))
      obtain ⟨tT,tC⟩ :=(hm t).1 (.tail _ (.tail _ (.head _)))
      simp only [List.nodup_cons,List.mem_cons,not_or] at hL
      exact no_three hM hf rT sT tT rC sC tC hL.1.1 hL.1.2.1 hL.2.1.1
end
theorem flip_rep {E : MeshE} {T : List T3} (h : Rep E T) (hM : Msh T) {a b c d : P2} {s t x y : T3} (hs : s ∈ T) (ht : t ∈ T) (rs : Rt s (mkT a b c)) (rt : Rt t (mkT b a d)) (rx : Rt x (mkT a d c)) (ry : Rt y (mkT d b c))
    (o1 : 0 < tw a d c) (o2 : 0 < tw d b c) (h1 : ∀ u ∈ T,kl d c ∈ u.keys→u = s∨u = t) (h2 : ∀ u ∈ T,kl c d ∈ u.keys→u = s∨u = t) :
    ∃ R,T.Perm (s :: t :: R)∧Rep (putE (putE (takeE (takeE E s) t) x) y) (y :: x :: R)∧Msh (y :: x :: R)∧0 < tw a b c∧0 < tw b a d∧Vp a∧Vp b∧Vp c∧Vp d:=by
  have es : 0 < tw a b c∧Vp a∧Vp b∧Vp c:=by
    have hk:=hM.ok s hs
    have r1:=tw_rot a b c
    have r2:=tw_rot b c a
    obtain ⟨k1,k2,k3,k4⟩ :=hk
    rcases rs.cases with ⟨e1,e2,e3⟩ | ⟨e1,e2,e3⟩ | ⟨e1,e2,e3⟩ <;>rw [e1,e2,e3] at k4<;>rw [e1] at k1<;>rw [e2] at k2<;>rw [e3] at k3
    · exact ⟨k4,k1,k2,k3⟩
    · exact ⟨by omega,k3,k1,k2⟩
    · exact ⟨by omega,k2,k3,k1⟩
  have et : 0 < tw b a d∧Vp b∧Vp a∧Vp d:=by
    have hk:=hM.ok t ht
    have r1:=tw_rot b a d
    have r2:=tw_rot a d b
    obtain ⟨k1,k2,k3,k4⟩ :=hk
    rcases rt.cases with ⟨e1,e2,e3⟩ | ⟨e1,e2,e3⟩ | ⟨e1,e2,e3⟩ <;>rw [e1,e2,e3] at k4<;>rw [e1] at k1<;>rw [e2] at k2<;>rw [e3] at k3
    · exact ⟨k4,k1,k2,k3⟩
    · exact ⟨by omega,k3,k1,k2⟩
    · exact ⟨by omega,k2,k3,k1⟩
  obtain ⟨g1,va,vb,vc⟩ :=es
  obtain ⟨g2,_,_,vd⟩ :=et
  have ne:=fun {p q r : P2} (g : 0 < tw p q r)=>show p≠q∧q≠r∧r≠p from ⟨fun e=>by rw [e,(tw_self _ _).2.2] at g;omega,fun e=>by rw [e,(tw_self _ _).2.1] at g;omega,fun e=>by rw [e,(tw_self _ _).1] at g;omega⟩
  obtain ⟨nab,nbc,nca⟩ :=ne g1
  obtain ⟨nba,nad,ndb⟩ :=ne g2
  obtain ⟨_,ndc,_⟩ :=ne o1
  have hst : s≠t:=fun e=>by
    subst e
    have k1 : kl a b ∈ s.keys:=(rs.keys _).2 (.inl rfl)
    rcases (rt.keys _).1 k1 with k | k | k<;>obtain ⟨e1,e2⟩ :=kl_inj k
    · exact nab e1
    · exact ndb e2.symm
    · exact nad e1
  have ht' : t ∈ T.erase s:=(List.Nodup.mem_erase_iff h.tnd).2 ⟨fun e=>hst e.symm,ht⟩
  have r1:=rep_take h hs
  have r2:=rep_take r1 ht'
  have pm : T.Perm (s :: t :: (T.erase s).erase t):=(List.perm_cons_erase hs).trans ((List.perm_cons_erase ht').cons _)
  generalize (T.erase s).erase t = R at *
  have hR : ∀ u ∈ R,u ∈ T∧u≠s∧u≠t:=fun u hu=>by
    have hn:=pm.nodup_iff.1 h.tnd
    simp only [List.nodup_cons,List.mem_cons,not_or] at hn
    exact ⟨pm.mem_iff.2 (.tail _ (.tail _ hu)),fun e=>hn.1.2 (e▸hu),fun e=>hn.2.1 (e▸hu)⟩
  have far' : ∀ u ∈ R,∀ k,k ∈ s.keys∨k ∈ t.keys→k ∉ u.keys:=fun u hu k hk hk'=>by
    obtain ⟨i1,i2,i3⟩ :=hR u hu
    rcases hk with hk | hk
    · exact i2 (h.edge i1 hs hk' hk)
    · exact i3 (h.edge i1 ht hk' hk)
  have dx : ∀ u ∈ R,Dj x u:=fun u hu k hk=>by
    obtain ⟨i1,i2,i3⟩ :=hR u hu
    rcases (rx.keys _).1 hk with rfl | rfl | rfl
    · exact far' u hu _ (.inr ((rt.keys _).2 (.inr (.inl rfl))))
    · exact fun hk'=>(h1 u i1 hk').elim i2 i3
    · exact far' u hu _ (.inl ((rs.keys _).2 (.inr (.inr rfl))))
  have dy : ∀ u ∈ x :: R,Dj y u:=fun u hu k hk=>by
    rcases List.mem_cons.1 hu with rfl | hu
    · intro hk'
      rcases (ry.keys _).1 hk with rfl | rfl | rfl<;>rcases (rx.keys _).1 hk' with k | k | k<;>obtain ⟨e1,e2⟩ :=kl_inj k
      · exact nad e1.symm
      · exact nbc e2
      · exact nba e2
      · exact nba e1
      · exact ndb e1.symm
      · exact nbc e1
      · exact nca e1
      · exact ndc e2
      · exact nad e2.symm
    obtain ⟨i1,i2,i3⟩ :=hR u hu
    rcases (ry.keys _).1 hk with rfl | rfl | rfl
    · exact far' u hu _ (.inr ((rt.keys _).2 (.inr (.inr rfl))))
    · exact far' u hu _ (.inl ((rs.keys _).2 (.inr (.inl rfl))))
    · exact fun hk'=>(h2 u i1 hk').elim i2 i3
  have ox:=rx.ok va vd vc o1
  have oy:=ry.ok vd vb vc o2
  have q1:=(rep_put r2 ox.kne ((putOk_iff r2).2 dx)).1
  have q2:=(rep_put q1 oy.kne ((putOk_iff q1).2 dy)).1
  refine ⟨R,pm,q2,⟨fun u hu=>?_,fun q hq=>?_⟩,g1,g2,va,vb,vc,vd⟩
  · rcases List.mem_cons.1 hu with rfl | hu
    · exact oy
    rcases List.mem_cons.1 hu with rfl | hu
    · exact ox
    exact hM.ok u (hR u hu).1
  obtain ⟨f1,f2,f3⟩ :=flip_in va vb vc vd hq nab ndc.symm g1 g2 o1 o2
  have old : ∀ u ∈ R,u.In q→¬ (x.In q∨y.In q):=fun u hu hi hxy=>by
    obtain ⟨i1,i2,i3⟩ :=hR u hu
    rw [rx.In,ry.In] at hxy
    rcases f1.2 hxy with k | k
    · exact i2 (hM.one q hq u i1 s hs hi ((rs.In q).2 k))
    · exact i3 (hM.one q hq u i1 t ht hi ((rt.In q).2 k))
  intro u hu v hv iu iv
  simp only [List.mem_cons] at hu hv
  rcases hu with hu | hu | hu<;>rcases hv with hv | hv | hv
  · exact hu.trans hv.symm
  · exact absurd ⟨(rx.In q).1 (hv▸iv),(ry.In q).1 (hu▸iu)⟩ f3
  · exact absurd (.inr (hu▸iu)) (old v hv iv)
  · exact absurd ⟨(rx.In q).1 (hu▸iu),(ry.In q).1 (hv▸iv)⟩ f3
  · exact hu.trans hv.symm
  · exact absurd (.inl (hu▸iu)) (old v hv iv)
  · exact absurd (.inr (hv▸iv)) (old u hu iu)
  · exact absurd (.inl (hv▸iv)) (old u hu iu)
  · exact hM.one q hq u (hR u hu).1 v (hR v hv).1 iu iv
def volT (h : P2→Int) (t : T3) : Int:=tw t.A t.B t.C * (h t.A + h t.B + h t.C)
def vol (h : P2→Int) (T : List T3) : Int:=(T.map (volT h)).sum
theorem sum_perm {L M : List Int} (hp : L.Perm M) : L.sum = M.sum:=by
  induction hp with
  | nil=>rfl
  | cons x _ ih=>rw [List.sum_cons,List.sum_cons,ih]
  | swap x y _=>simp only [List.sum_cons];omega
  | trans _ _ h1 h2=>rw [h1,h2]
theorem vol_perm (h : P2→Int) {T U : List T3} (hp : T.Perm U) : vol h T = vol h U:=sum_perm (hp.map _)
theorem volT_rt (h : P2→Int) {s : T3} {a b c : P2} (r : Rt s (mkT a b c)) : volT h s = tw a b c * (h a + h b + h c):=by
  unfold volT
  have r1:=tw_rot a b c
  have r2:=tw_rot b c a
  rcases r.cases with ⟨e1,e2,e3⟩ | ⟨e1,e2,e3⟩ | ⟨e1,e2,e3⟩ <;>rw [e1,e2,e3]
  · rw [r1];congr 1;omega
  · rw [r2,r1];congr 1;omega
def dl (h : P2→Int) (a b c d : P2) : Int:=tw d b c * h a + tw a d c * h b + tw a b d * h c - tw a b c * h d
theorem flip_vol (h : P2→Int) (a b c d : P2) : tw a b c * (h a + h b + h c) + tw b a d * (h b + h a + h d) = tw a d c * (h a + h d + h c) + tw d b c * (h d + h b + h c) + dl h a b c d:=by unfold dl tw;grind
theorem heights (K : Int) (hK : 0 < K) (m : Nat) : ∃ e : Nat→Int,(∀ i,0 < e i)∧(∀ i j,i < j→j < m→K * e j≤e i)∧∃ N : Int,∀ i,e i≤N:=by
  refine ⟨fun i=>K ^ (m - i),fun i=>Int.pow_pos hK,fun i j hij hj=>?_,K ^ m,fun i=>?_⟩
  · have e1 : m - i = (m - j) + (j - i - 1) + 1:=by omega
    dsimp only
    rw [e1,Int.pow_succ,Int.pow_add,Int.mul_comm]
    have p1 : 0 < K ^ (m - j):=Int.pow_pos hK
    have p2 : 0 < K ^ (j - i - 1):=Int.pow_pos hK
    refine Int.mul_le_mul_of_nonneg_right ?_ (by omega)
    have:=Int.mul_le_mul_of_nonneg_left (show (1 : Int)≤K ^ (j - i - 1) by omega) (show 0≤K ^ (m - j) by omega)
    omega
  · have e1 : K ^ m = K ^ (m - i) * K ^ (m - (m - i)):=by rw [← Int.pow_add];congr 1;omega
    have p1 : 0 < K ^ (m - i):=Int.pow_pos hK
    have p2 : 0 < K ^ (m - (m - i)):=Int.pow_pos hK
    dsimp only
    rw [e1]
    have:=Int.mul_le_mul_of_nonneg_left (show (1 : Int)≤K ^ (m - (m - i)) by omega) (show 0≤K ^ (m - i) by omega)
    omega
def idx (p : P2) : Nat:=(p.1 * 16777216 + p.2).toNat
def sqP (p : P2) : Int:=p.1 * p.1 + p.2 * p.2
theorem outweigh {x a b c K ex ea eb ec : Int} (hx : 1 ≤ x) (hea : 0 < ea) (heb : 0 < eb) (hec : 0 < ec) (ha : K * ea ≤ ex) (hb : K * eb ≤ ex) (hc : K * ec ≤ ex) (hK : 3 * 562949953421313 ≤ K)
    (b1 : -562949953421312≤a∧a≤562949953421312) (b2 : -562949953421312≤b∧b≤562949953421312) (b3 : -562949953421312≤c∧c≤562949953421312) : 0 < x * ex + a * ea + b * eb + c * ec:=by
  have k1 : ∀ {z e : Int},0 < e→K * e≤ex→(-562949953421312≤z∧z≤562949953421312)→3 * (z * e) + ex≥3 * e:=fun {z e} he hk hz=>by
    have h1 : (-562949953421312) * e≤z * e:=Int.mul_le_mul_of_nonneg_right hz.1 (by omega)
    have h2 : 3 * 562949953421313 * e≤K * e:=Int.mul_le_mul_of_nonneg_right hK (by omega)
    omega
  have h1:=k1 hea ha b1
  have h2:=k1 heb hb b2
  have h3:=k1 hec hc b3
  have hex : 0 < ex:=by
    have : 0 < K * ea:=Int.mul_pos (by omega) hea
    omega
  have h4 : 1 * ex≤x * ex:=Int.mul_le_mul_of_nonneg_right hx (by omega)
  omega
def ltP (p q : P2) : Prop:=p.1 < q.1∨p.1 = q.1∧p.2 < q.2
theorem idx_lt {p q : P2} (hp : Vp p) (hq : Vp q) (h : ltP p q) : idx p < idx q:=by
  unfold Vp at hp hq;unfold ltP at h;unfold idx;omega
theorem idx_bd {p : P2} (hp : Vp p) : idx p < 281474976710656:=by unfold Vp at hp;unfold idx;omega
theorem dl_lin (N : Int) (g : P2→Int) (a b c d : P2) : dl (fun p=>N * (sqP p + 1) - g p) a b c d = N * dl sqP a b c d - dl g a b c d:=by unfold dl tw;grind
def Tie (a b c d : P2) : Prop:=(ltP d a∧ltP d b∧ltP d c)∨(ltP a d∧ltP a b∧ltP a c∧tw d b c < 0)∨(ltP b d∧ltP b a∧ltP b c∧tw a d c < 0)∨(ltP c d∧ltP c a∧ltP c b∧tw a b d < 0)
theorem height : ∃ h : P2→Int,(∀ p,0≤sqP p→0≤h p)∧∀ a b c d,Vp a→Vp b→Vp c→Vp d→0 < tw a b c→(0 < dl sqP a b c d∨(dl sqP a b c d = 0∧Tie a b c d))→0 < dl h a b c d:=by
  obtain ⟨e,e0,eK,N,eN⟩ :=heights (3 * 562949953421313) (by omega) 281474976710656
  have hN : 0 < N:=by have:=e0 0;have:=eN 0;omega
  refine ⟨fun p=>2251799813685249 * N * (sqP p + 1) - e (idx p),fun p hp=>?_,fun a b c d va vb vc vd h0 h=>?_⟩
  · have h1 : 2251799813685249 * N * 1≤2251799813685249 * N * (sqP p + 1):=Int.mul_le_mul_of_nonneg_left (by omega) (by omega)
    have:=eN (idx p)
    dsimp only;omega
  rw [dl_lin]
  have t1:=tw_bnd vd vb vc
  have t2:=tw_bnd va vd vc
  have t3:=tw_bnd va vb vd
  have t4:=tw_bnd va vb vc
  have pa:=e0 (idx a);have pb:=e0 (idx b);have pc:=e0 (idx c);have pd:=e0 (idx d)
  rcases h with h | ⟨h,g⟩
  · have h1 : 2251799813685249 * N * 1≤2251799813685249 * N * dl sqP a b c d:=Int.mul_le_mul_of_nonneg_left (by omega) (by omega)
    have up : ∀ {z y : Int},(-562949953421312≤z∧z≤562949953421312)→0 < y→y≤N→z * y≤562949953421312 * N∧-(562949953421312 * N)≤z * y:=fun {z y} hz hy hy'=>by
      have k1 : z * y≤562949953421312 * y:=Int.mul_le_mul_of_nonneg_right hz.2 (by omega)
      have k2 : (-562949953421312) * y≤z * y:=Int.mul_le_mul_of_nonneg_right hz.1 (by omega)
      omega
    have:=up t1 pa (eN _);have:=up t2 pb (eN _);have:=up t3 pc (eN _);have:=up t4 pd (eN _)
    unfold dl at *
    dsimp only
    omega
  · rw [h]
    have k:=fun {p q : P2} (vp : Vp p) (vq : Vp q) (l : ltP p q)=>eK (idx p) (idx q) (idx_lt vp vq l) (idx_bd vq)
    unfold dl
    dsimp only
    rcases g with ⟨l1,l2,l3⟩ | ⟨l1,l2,l3,l4⟩ | ⟨l1,l2,l3,l4⟩ | ⟨l1,l2,l3,l4⟩
    · have:=outweigh (x:=tw a b c) (a:=-tw d b c) (b:=-tw a d c) (c:=-tw a b d) (by omega) pa pb pc (k vd va l1) (k vd vb l2) (k vd vc l3) (by omega) (by omega) (by omega) (by omega)
      simp only [Int.neg_mul] at this;omega
    · have:=outweigh (x:=-tw d b c) (a:=tw a b c) (b:=-tw a d c) (c:=-tw a b d) (by omega) pd pb pc (k va vd l1) (k va vb l2) (k va vc l3) (by omega) (by omega) (by omega) (by omega)
      simp only [Int.neg_mul] at this;omega
    · have:=outweigh (x:=-tw a d c) (a:=tw a b c) (b:=-tw d b c) (c:=-tw a b d) (by omega) pd pa pc (k vb vd l1) (k vb va l2) (k vb vc l3) (by omega) (by omega) (by omega) (by omega)
      simp only [Int.neg_mul] at this;omega
    · have:=outweigh (x:=-tw a b d) (a:=tw a b c) (b:=-tw d b c) (c:=-tw a d c) (by omega) pd pa pb (k vc vd l1) (k vc va l2) (k vc vb l3) (by omega) (by omega) (by omega) (by omega)
      simp only [Int.neg_mul] at this;omega
theorem vpt_Vp (p : P2) : vpt p.1 p.2 = true↔Vp p:=vpt_iff p.1 p.2
theorem or_pos {a b c : P2} : 0 < orientI a.1 a.2 b.1 b.2 c.1 c.2↔Vp a∧Vp b∧Vp c∧0 < tw a b c:=by
  unfold orientI tw
  rw [← vpt_Vp a,← vpt_Vp b,← vpt_Vp c]
  by_cases h : (vpt a.1 a.2 && vpt b.1 b.2 && vpt c.1 c.2) = true
  · rw [if_pos h]
    simp only [Bool.and_eq_true] at h
    obtain ⟨⟨h1,h2⟩,h3⟩ :=h
    simp only [h1,h2,h3,true_and]
    unfold cmpI
    split<;>(try split)<;>omega
  · rw [if_neg h]
    simp only [Bool.and_eq_true] at h
    exact ⟨fun g=>by omega,fun ⟨x,y,z,_⟩ =>absurd ⟨⟨x,y⟩,z⟩ h⟩
theorem or_val {a b c : P2} (ha : Vp a) (hb : Vp b) (hc : Vp c) : (0 < orientI a.1 a.2 b.1 b.2 c.1 c.2↔0 < tw a b c)∧(orientI a.1 a.2 b.1 b.2 c.1 c.2 = 0↔tw a b c = 0)∧-1≤orientI a.1 a.2 b.1 b.2 c.1 c.2∧orientI a.1 a.2 b.1 b.2 c.1 c.2≤1:=by
  unfold orientI tw
  rw [(vpt_Vp a).2 ha,(vpt_Vp b).2 hb,(vpt_Vp c).2 hc]
  simp only [Bool.and_self,if_true]
  unfold cmpI
  split<;>(try split)<;>omega
theorem T3.or_eq (t : T3) : t.or = orientI t.A.1 t.A.2 t.B.1 t.B.2 t.C.1 t.C.2:=rfl
theorem T3.rot2 (t : T3) : ¬ t.rot.rot.late∧(t.rot.rot = t∨t.rot.rot = t.turn∨t.rot.rot = t.turn.turn):=by
  by_cases h1 : t.late
  · by_cases h2 : t.turn.late
    · have e : t.rot.rot = t.turn.turn:=by simp [T3.rot,h1,h2]
      rw [e];exact ⟨t.last h1 h2,.inr (.inr rfl)⟩
    · have e : t.rot.rot = t.turn:=by simp [T3.rot,h1,h2]
      rw [e];exact ⟨h2,.inr (.inl rfl)⟩
  · have e : t.rot.rot = t:=by simp [T3.rot,h1]
    rw [e];exact ⟨h1,.inl rfl⟩
theorem mk_rt {t : T3} (h : t.or = 1) : ¬ t.mk'.late∧Rt t.mk' t:=by
  have e : t.mk' = t.rot.rot:=by simp [T3.mk',T3.first,h]
  rw [e];exact t.rot2
theorem T3.Ok.or {t : T3} (h : t.Ok) : t.or = 1:=by
  obtain ⟨a,b,c,d⟩ :=h
  have:=or_val a b c
  rw [T3.or_eq];omega
theorem T3.Ok.valid {t : T3} (h : t.Ok) (hl : ¬ t.late) : t.valid = true:=by
  have e : t.mk' = t:=by simp [T3.mk',T3.first,h.or,T3.rot,hl]
  unfold T3.valid T3.ok
  rw [e,h.or];simp
def pcD (a b p : P2) : T3:=if (mkT a b p).or = 1 then (mkT a b p).mk' else mkT a b p
theorem pcD_rt (a b p : P2) : Rt (pcD a b p) (mkT a b p):=by
  unfold pcD;split
  · next h=>exact (mk_rt h).2
  · exact .inl rfl
theorem pcD_eq {a b p : P2} (ha : Vp a) (hb : Vp b) (hp : Vp p) (h : 0 < tw a b p) : pcD a b p = (mkT a b p).mk'∧¬ (pcD a b p).late:=by
  have ho : (mkT a b p).or = 1:=T3.Ok.or (t:=mkT a b p) ⟨ha,hb,hp,h⟩
  unfold pcD
  rw [if_pos ho];exact ⟨rfl,(mk_rt ho).1⟩
theorem P2.list {a b : P2} : ([a.1,a.2] : List Int) = [b.1,b.2]↔a = b:=by
  simp only [List.cons.injEq,and_true]
  exact ⟨fun h=>Prod.ext h.1 h.2,fun h=>by rw [h];exact ⟨rfl,rfl⟩⟩
theorem far_rt {s : T3} (hs : s.Ok) {a b : P2} (hk : kl a b ∈ s.keys) : ∃ c : P2,farE s a.1 a.2 b.1 b.2 = [c.1,c.2]∧Rt s (mkT a b c):=by
  obtain ⟨n1,n2,n3⟩ :=hs.ne
  have p0 : s.pt 0 = [s.A.1,s.A.2]:=rfl
  have p1 : s.pt 1 = [s.B.1,s.B.2]:=rfl
  have p2 : s.pt 2 = [s.C.1,s.C.2]:=rfl
  unfold farE
  rw [p0,p1,p2]
  simp only [ne_eq,P2.list]
  rcases (s.keys_iff _).1 hk with e | e | e<;>obtain ⟨rfl,rfl⟩ :=kl_inj e
  · refine ⟨s.C,?_,.inl rfl⟩
    rw [if_neg (by simp),if_neg (by simp)]
  · refine ⟨s.A,?_,.inr (.inr rfl)⟩
    rw [if_pos ⟨n1,fun e=>n3 e.symm⟩]
  · refine ⟨s.B,?_,.inr (.inl rfl)⟩
    rw [if_neg (by simp),if_pos ⟨n2,fun e=>n1 e.symm⟩]
theorem row_inj {s t : T3} (h : s.row = t.row) : s = t:=by
  cases s;cases t
  simp only [T3.row,List.cons.injEq,and_true] at h
  simp only [T3.mk.injEq];exact h
theorem other_off {o : Option T3} {s t u : T3} (h : otherE o s t = false) (hu : o = some u) : u = s∨u = t:=by
  subst hu
  unfold otherE at h
  simp only [Option.isSome_some,Bool.true_and,Option.getD_some] at h
  by_cases e1 : u.row = s.row
  · exact .inl (row_inj e1)
  · by_cases e2 : u.row = t.row
    · exact .inr (row_inj e2)
    · rw [decide_eq_false e1,decide_eq_false e2] at h;cases h
theorem flip_done {E : MeshE} {T : List T3} (h : Rep E T) (hM : Msh T) {a b : P2} (h0 : (flipE E a.1 a.2 b.1 b.2).1 = 0) :
    ∃ (c d : P2) (s t x y : T3) (R : List T3),lookE E (kl a b) = some s∧lookE E (kl b a) = some t∧Rt s (mkT a b c)∧Rt t (mkT b a d)∧Rt x (mkT a d c)∧Rt y (mkT d b c)∧¬ x.late∧¬ y.late∧0 < tw a d c∧0 < tw d b c∧0 < tw a b c∧0 < tw b a d∧Vp a∧Vp b∧Vp c∧Vp d∧farE t a.1 a.2 b.1 b.2 = [d.1,d.2]∧
      T.Perm (s :: t :: R)∧Rep (flipE E a.1 a.2 b.1 b.2).2 (y :: x :: R)∧Msh (y :: x :: R):=by
  unfold flipE at h0 ⊢
  have ek : ([a.1,a.2,b.1,b.2] : List Int) = kl a b:=rfl
  have ek2 : ([b.1,b.2,a.1,a.2] : List Int) = kl b a:=rfl
  rw [ek,ek2] at h0 ⊢
  cases e1 : lookE E (kl a b) with
  | none=>rw [e1] at h0;cases h0
  | some s=>
    cases e2 : lookE E (kl b a) with
    | none=>rw [e1,e2] at h0;cases h0
    | some t=>
      rw [e1,e2] at h0
      dsimp only at h0 ⊢
      obtain ⟨hs,ks⟩ :=(h.mem _ _).1 ((look_mem h.nodup).1 e1)
      obtain ⟨ht,kt⟩ :=(h.mem _ _).1 ((look_mem h.nodup).1 e2)
      obtain ⟨c,ec,rs⟩ :=far_rt (hM.ok s hs) ks
      obtain ⟨d,ed',rt⟩ :=far_rt (hM.ok t ht) kt
      have ed : farE t a.1 a.2 b.1 b.2 = [d.1,d.2]:=by
        rw [← ed'];unfold farE;simp only [and_comm]
      rw [ec,ed] at h0 ⊢
      simp only [List.getD_cons_zero,List.getD_cons_succ] at h0 ⊢
      unfold flipC at h0 ⊢
      by_cases c1 : orientI a.1 a.2 d.1 d.2 c.1 c.2≤0∨orientI d.1 d.2 b.1 b.2 c.1 c.2≤0
      · rw [if_pos c1] at h0;cases h0
      rw [if_neg c1] at h0 ⊢
      by_cases c2 : (otherE (lookE E [d.1,d.2,c.1,c.2]) s t || otherE (lookE E [c.1,c.2,d.1,d.2]) s t) = true
      · rw [if_pos c2] at h0;cases h0
      rw [if_neg c2] at h0 ⊢
      have c2':=Bool.eq_false_iff.2 c2
      rw [Bool.or_eq_false_iff] at c2'
      obtain ⟨q1,q2⟩ :=c2'
      have o1:=or_pos.1 (show 0 < orientI a.1 a.2 d.1 d.2 c.1 c.2 by omega)
      have o2:=or_pos.1 (show 0 < orientI d.1 d.2 b.1 b.2 c.1 c.2 by omega)
      have x1:=mk_rt (T3.Ok.or (t:=mkT a d c) o1)
      have x2:=mk_rt (T3.Ok.or (t:=mkT d b c) o2)
      obtain ⟨R,hp,hr,hm,g1,g2,va,vb,vc,vd⟩ :=flip_rep h hM hs ht rs rt x1.2 x2.2 o1.2.2.2 o2.2.2.2
        (fun u hu hk=>other_off q1 ((look_mem h.nodup).2 ((h.mem _ _).2 ⟨hu,hk⟩)))
        (fun u hu hk=>other_off q2 ((look_mem h.nodup).2 ((h.mem _ _).2 ⟨hu,hk⟩)))
      exact ⟨c,d,s,t,_,_,R,rfl,rfl,rs,rt,x1.2,x2.2,x1.1,x2.1,o1.2.2.2,o2.2.2.2,g1,g2,va,vb,vc,vd,ed,hp,hr,hm⟩
theorem det_dl (a b c d : P2) : detI (a.1 - d.1) (a.2 - d.2) (b.1 - d.1) (b.2 - d.2) (c.1 - d.1) (c.2 - d.2) = dl sqP a b c d:=by
  unfold detI dl sqP tw;grind
def lst (p q : P2) : P2:=if cmp2 p.1 p.2 q.1 q.2 < 0 then p else q
def leP (p q : P2) : Prop:=p.1 < q.1∨p.1 = q.1∧p.2≤q.2
theorem leP.trans {p q r : P2} (h1 : leP p q) (h2 : leP q r) : leP p r:=by unfold leP at *;omega
theorem leP.refl (p : P2) : leP p p:=.inr ⟨rfl,Int.le_refl _⟩
theorem lst_le (p q : P2) : (lst p q = p∨lst p q = q)∧leP (lst p q) p∧leP (lst p q) q:=by
  unfold lst
  by_cases h : cmp2 p.1 p.2 q.1 q.2 < 0
  · rw [if_pos h]
    rw [cmp2_neg] at h
    exact ⟨.inl rfl,.refl p,by unfold leP;omega⟩
  · rw [if_neg h]
    rw [cmp2_neg] at h
    exact ⟨.inr rfl,by unfold leP;omega,.refl q⟩
theorem tie_eq (a b c d : P2) : tieI a.1 a.2 b.1 b.2 c.1 c.2 d.1 d.2 = (if [(lst c (lst b (lst a d))).1,(lst c (lst b (lst a d))).2] = [d.1,d.2] then (1 : Int) else if [(lst c (lst b (lst a d))).1,(lst c (lst b (lst a d))).2] = [a.1,a.2] then -orientI d.1 d.2 b.1 b.2 c.1 c.2 else if [(lst c (lst b (lst a d))).1,(lst c (lst b (lst a d))).2] = [b.1,b.2] then -orientI a.1 a.2 d.1 d.2 c.1 c.2 else -orientI a.1 a.2 b.1 b.2 d.1 d.2):=rfl
theorem tie_one {a b c d : P2} (ha : Vp a) (hb : Vp b) (hc : Vp c) (hd : Vp d) (nab : a≠b) (nbc : b≠c) (nca : c≠a) (na : d≠a) (nb : d≠b) (nc : d≠c) (h : tieI a.1 a.2 b.1 b.2 c.1 c.2 d.1 d.2 = 1) : Tie a b c d:=by
  have t1:=or_val hd hb hc
  have t2:=or_val ha hd hc
  have t3:=or_val ha hb hd
  obtain ⟨x1,l1,l2⟩ :=lst_le a d
  obtain ⟨x2,l3,l4⟩ :=lst_le b (lst a d)
  obtain ⟨x3,l5,l6⟩ :=lst_le c (lst b (lst a d))
  rw [tie_eq] at h
  have la:=(l6.trans l4).trans l1
  have ld:=(l6.trans l4).trans l2
  have lb:=l6.trans l3
  have lc:=l5
  have hx : lst c (lst b (lst a d)) = a∨lst c (lst b (lst a d)) = b∨lst c (lst b (lst a d)) = c∨lst c (lst b (lst a d)) = d:=by
    rcases x3 with e | e
    · exact .inr (.inr (.inl e))
    · rcases x2 with e2 | e2
      · exact .inr (.inl (e.trans e2))
      · rcases x1 with e1 | e1
        · exact .inl ((e.trans e2).trans e1)
        · exact .inr (.inr (.inr ((e.trans e2).trans e1)))
  clear l1 l2 l3 l4 l5 l6 x1 x2 x3
  generalize lst c (lst b (lst a d)) = x at *
  have lt : ∀ {p q : P2},p≠q→leP p q→ltP p q:=fun {p q} hne hl=>by
    unfold leP at hl;unfold ltP
    rcases Int.lt_trichotomy p.2 q.2 with g | g | g
    · omega
    · rcases hl with k | ⟨k,_⟩
      · exact .inl k
      · exact absurd (Prod.ext k g) hne
    · omega
  simp only [P2.list] at h
  unfold Tie
  split at h
  · next e=>subst e;exact .inl ⟨lt na la,lt nb lb,lt nc lc⟩
  · split at h
    · next e=>subst e;exact .inr (.inl ⟨lt na.symm ld,lt nab lb,lt nca.symm lc,by omega⟩)
    · split at h
      · next e=>subst e;exact .inr (.inr (.inl ⟨lt nb.symm ld,lt nab.symm la,lt nbc lc,by omega⟩))
      · have e : x = c := by
          rcases hx with e | e | e | e
          · contradiction
          · contradiction
          · exact e
          · contradiction
        subst e;exact .inr (.inr (.inr ⟨lt nc.symm ld,lt nca la,lt nbc.symm lb,by omega⟩))
theorem circ_one {a b c d : P2} (ha : Vp a) (hb : Vp b) (hc : Vp c) (hd : Vp d) (h0 : 0 < tw a b c) (h : circI a.1 a.2 b.1 b.2 c.1 c.2 d.1 d.2 = 1) : 0 < dl sqP a b c d∨(dl sqP a b c d = 0∧Tie a b c d):=by
  have ho:=or_val ha hb hc
  unfold circI at h
  rw [if_neg (by omega),if_neg (by omega)] at h
  unfold circP at h
  split at h
  · cases h
  · next hne=>
    rw [det_dl] at h
    simp only [(vpt_Vp d).2 hd,Bool.not_true,Bool.false_or,Bool.or_eq_true,decide_eq_true_eq,P2.list,not_or] at hne
    obtain ⟨na,nb,nc⟩ :=hne
    by_cases hz : cmpI (dl sqP a b c d) 0≠0
    · rw [if_pos hz] at h
      unfold cmpI at h
      split at h
      · cases h
      · split at h
        · left;assumption
        · cases h
    rw [if_neg hz] at h
    right
    refine ⟨?_,?_⟩
    · unfold cmpI at hz
      split at hz
      · omega
      · split at hz
        · omega
        · omega
    exact tie_one ha hb hc hd (fun e=>by rw [e,(tw_self _ _).2.2] at h0;omega) (fun e=>by rw [e,(tw_self _ _).2.1] at h0;omega) (fun e=>by rw [e,(tw_self _ _).1] at h0;omega) na nb nc h
structure Land (n : Nat) (E : MeshE) (T : List T3) : Prop where
  rep : Rep E T
  msh : Msh T
  low : ∀ t ∈ T,¬ t.late
  two : 2≤T.length
  len : T.length≤2 + 2 * n
def LandI (n : Nat) (E : MeshE) : Prop:=∃ T,Land n E T
theorem dl_rot (h : P2→Int) (a b c d : P2) : dl h b c a d = dl h a b c d:=by unfold dl tw;grind
theorem LandI.flip {n : Nat} {E : MeshE} {ax ay bx by' : Int} (hI : LandI n E) (h : (flipE E ax ay bx by').1 = 0) : LandI n (flipE E ax ay bx by').2:=by
  obtain ⟨T,h1,h2,h3,h4,h5⟩ :=hI
  obtain ⟨c,d,s,t,x,y,R,_,_,_,_,_,_,nx,ny,_,_,_,_,_,_,_,_,_,hp,hr,hm⟩ :=flip_done (a:=(ax,ay)) (b:=(bx,by')) h1 h2 h
  have hl:=hp.length_eq
  simp only [List.length_cons] at hl
  refine ⟨_,hr,hm,fun u hu=>?_,by simp only [List.length_cons];omega,by simp only [List.length_cons];omega⟩
  simp only [List.mem_cons] at hu
  rcases hu with rfl | rfl | hu
  · exact ny
  · exact nx
  · exact h3 u (hp.mem_iff.2 (.tail _ (.tail _ hu)))
theorem sqP_nn (p : P2) : 0≤sqP p:=by
  have pos : ∀ n : Int,0≤n * n:=fun n=>by
    rcases Int.le_total 0 n with g | g
    · exact Int.mul_nonneg g g
    · exact Int.mul_nonneg_of_nonpos_of_nonpos g g
  unfold sqP
  have:=pos p.1;have:=pos p.2;omega
theorem vol_nn {h : P2→Int} (hh : ∀ p,0≤h p) : ∀ {T : List T3},(∀ t ∈ T,t.Ok)→0≤vol h T
  | [],_=>Int.le_refl _
  | t :: T,ho=>by
    have h1:=vol_nn hh fun u hu=>ho u (.tail _ hu)
    have h2:=(ho t (.head _)).2.2.2
    have:=hh t.A;have:=hh t.B;have:=hh t.C
    have h3 : 0≤volT h t:=Int.mul_nonneg (by omega) (by omega)
    unfold vol at *
    rw [List.map_cons,List.sum_cons];omega
theorem bad_falls {h : P2 → Int} (hh : ∀ p, 0 ≤ h p) (hc : ∀ a b c d, Vp a → Vp b → Vp c → Vp d → 0 < tw a b c → (0 < dl sqP a b c d ∨ (dl sqP a b c d = 0 ∧ Tie a b c d)) → 0 < dl h a b c d)
    {n : Nat} {E : MeshE} {W : List (List Int)} {ax ay bx by' : Int} (hI : LandI n E) (hb : badE E W ax ay bx by' = true) (h0 : (flipE E ax ay bx by').1 = 0) : (vol h (sel fTris (flipE E ax ay bx by').2)).toNat < (vol h (sel fTris E)).toNat:=by
  obtain ⟨T,h1,h2,h3,h4,h5⟩ :=hI
  obtain ⟨c,d,s,t,x,y,R,e1,e2,rs,rt,rx,ry,nx,ny,o1,o2,o3,o4,va,vb,vc,vd,ed,hp,hr,hm⟩ :=flip_done (a:=(ax,ay)) (b:=(bx,by')) h1 h2 h0
  rw [vol_perm h (sel_tris h1 h2.ok),vol_perm h (sel_tris hr hm.ok),vol_perm h hp]
  have nn:=vol_nn hh hm.ok
  unfold badE at hb
  have ek : ([ax,ay,bx,by'] : List Int) = kl (ax,ay) (bx,by'):=rfl
  have ek2 : ([bx,by',ax,ay] : List Int) = kl (bx,by') (ax,ay):=rfl
  rw [ek,ek2,e1,e2] at hb
  dsimp only at hb
  rw [Bool.and_eq_true,decide_eq_true_eq,decide_eq_true_eq] at hb
  have hb:=hb.2
  rw [show farE t ax ay bx by' = [d.1,d.2] from ed] at hb
  simp only [List.getD_cons_zero,List.getD_cons_succ] at hb
  have os:=h2.ok s (hp.mem_iff.2 (.head _))
  have hd:=hc s.A s.B s.C d os.1 os.2.1 os.2.2.1 vd os.2.2.2 (circ_one (a:=s.A) (b:=s.B) (c:=s.C) os.1 os.2.1 os.2.2.1 vd os.2.2.2 hb)
  have hd' : 0 < dl h (ax,ay) (bx,by') c d:=by
    rcases rs.cases with ⟨q1,q2,q3⟩ | ⟨q1,q2,q3⟩ | ⟨q1,q2,q3⟩ <;>rw [q1,q2,q3] at hd
    · exact hd
    · rwa [dl_rot] at hd
    · rwa [dl_rot,dl_rot] at hd
  have hv:=flip_vol h (ax,ay) (bx,by') c d
  have v1:=volT_rt h rs
  have v2:=volT_rt h rt
  have v3:=volT_rt h rx
  have v4:=volT_rt h ry
  unfold vol at *
  simp only [List.map_cons,List.sum_cons] at *
  omega
theorem rep_len {E : MeshE} {T : List T3} (h : Rep E T) : E.length≤3 * T.length:=by
  have hn : E.Nodup:=by
    have:=h.nodup
    rw [List.nodup_iff_pairwise_ne] at this ⊢
    rw [List.pairwise_map] at this
    exact this.imp fun hne e=>hne (by rw [e])
  have hs : ∀ p ∈ E,p ∈ T.flatMap fun t=>t.keys.map fun k=>(k,t):=fun ⟨k,t⟩ hp=>by
    obtain ⟨a,b⟩ :=(h.mem k t).1 hp
    exact List.mem_flatMap.2 ⟨t,a,List.mem_map.2 ⟨k,b,rfl⟩⟩
  have hl : (T.flatMap fun t=>t.keys.map fun k=>(k,t)).length = 3 * T.length:=by
    clear h hs
    induction T with
    | nil=>rfl
    | cons t T ih=>rw [List.flatMap_cons,List.length_append,ih,List.length_map,List.length_cons];simp only [T3.keys,List.length_cons,List.length_nil];omega
  rw [← hl]
  exact nodup_le hn hs
theorem LandI.len {n : Nat} {E : MeshE} (hI : LandI n E) : E.length≤6 + 6 * n:=by
  obtain ⟨T,h1,h2,h3,h4,h5⟩ :=hI
  have:=rep_len h1;omega
theorem LandI.mono {n : Nat} {E : MeshE} (hI : LandI n E) : LandI (n + 1) E:=by
  obtain ⟨T,h1,h2,h3,h4,h5⟩ :=hI
  exact ⟨T,h1,h2,h3,h4,by omega⟩
theorem LandI.has {n : Nat} {E : MeshE} (hI : LandI n E) : ∀ p ∈ E,hasE E p.2 = true:=by
  obtain ⟨T,h1,h2,h3,h4,h5⟩ :=hI
  rintro ⟨k,t⟩ hp
  obtain ⟨ht,_⟩ :=(h1.mem k t).1 hp
  have e : lookE E [t.ax,t.ay,t.bx,t.by'] = some t:=(look_mem h1.nodup).2 ((h1.mem (kl t.A t.B) t).2 ⟨ht,(t.keys_iff _).2 (.inl rfl)⟩)
  unfold hasE
  rw [e];simp
theorem LandI.any {n : Nat} {E : MeshE} (hI : LandI n E) : 0 < (sel fTris E).length:=by
  obtain ⟨T,h1,h2,h3,h4,h5⟩ :=hI
  rw [(sel_tris h1 h2.ok).length_eq];omega
theorem sortP_pos : ∀ {L : List (List Int)} {O : List (List Int)},0 < O.length∨0 < L.length→0 < (L.foldl insP O).length
  | [],O,h=>by simpa using h
  | x :: L,O,_=>by
    refine sortP_pos (L:=L) (.inl ?_)
    unfold insP
    cases e : plcP O x O.length with
    | zero=>simp [insAt]
    | succ n=>
      rw [insAt]
      have:=plcP_le O x O.length
      split
      · omega
      · rw [List.length_append,List.length_cons];omega
theorem LandI.pts {n : Nat} {E : MeshE} (hI : LandI n E) : 0 < (pointsE E).length:=by
  unfold pointsE sortP
  refine sortP_pos (.inr ?_)
  rw [cornP_len,(sortT_perm _).length_eq]
  have:=hI.any;omega
theorem foldl_flatMap {α β γ : Type} (f : γ→β→γ) (g : α→List β) : ∀ (L : List α) (s : γ),(L.flatMap g).foldl f s = L.foldl (fun s a=>(g a).foldl f s) s
  | [],_=>rfl
  | a :: L,s=>by rw [List.flatMap_cons,List.foldl_append,foldl_flatMap f g L];rfl
theorem flatMap_perm {α β : Type} {f g : α→List β} : ∀ {L : List α},(∀ a ∈ L,(f a).Perm (g a))→(L.flatMap f).Perm (L.flatMap g)
  | [],_=>.refl _
  | a :: L,h=>by
    rw [List.flatMap_cons,List.flatMap_cons]
    exact (h a (.head _)).append (flatMap_perm fun b hb=>h b (.tail _ hb))
theorem piece {t : T3} {p : P2} (vp : Vp p) {a b : P2} (va : Vp a) (vb : Vp b) (h0 : 0≤tw a b p) : (if T3.ok ⟨a.1,a.2,b.1,b.2,p.1,p.2⟩ = true then [T3.mk' ⟨a.1,a.2,b.1,b.2,p.1,p.2⟩] else []) = if 0 < tw a b p then [pcD a b p] else []:=by
  have hv:=or_val va vb vp
  have ho : (T3.mk a.1 a.2 b.1 b.2 p.1 p.2).or = orientI a.1 a.2 b.1 b.2 p.1 p.2:=rfl
  by_cases h : 0 < tw a b p
  · rw [if_pos h,if_pos (by unfold T3.ok;rw [ho];simp;omega),(pcD_eq va vb vp h).1];rfl
  · rw [if_neg h,if_neg (by unfold T3.ok;rw [ho];simp;omega)]
theorem LandI.add {n : Nat} {E : MeshE} {x y : Int} (hI : LandI n E) (h0 : addC E x y = 0) : LandI (n + 1) (addE E x y):=by
  obtain ⟨T,h1,h2,h3,h4,h5⟩ :=hI
  have ha : addE E x y = splitE ((atL E x y).foldl takeE E) (atL E x y) x y:=by unfold addE;rw [if_pos h0]
  rw [ha]
  unfold addC at h0
  by_cases q1 : (atL E x y).length = 0
  · rw [if_pos q1] at h0;cases h0
  rw [if_neg q1] at h0
  by_cases q2 : 0 < (sel (fStar x y) E).length
  · rw [if_pos q2] at h0;cases h0
  have hAt : ∀ t,t ∈ atL E x y↔t ∈ T∧hasPE t x y = true:=fun t=>by
    unfold atL
    rw [(sortT_perm _).mem_iff,sel_mem h1]
    unfold fAt
    constructor
    · rintro ⟨a,k,b,c⟩
      rw [Bool.and_eq_true] at c
      exact ⟨a,c.2⟩
    · rintro ⟨a,b⟩
      exact ⟨a,kl t.A t.B,(t.keys_iff _).2 (.inl rfl),by rw [b];simp [kl,T3.A]⟩
  have vp : Vp (x,y):=by
    obtain ⟨t,ht⟩ :=List.exists_mem_of_length_pos (Nat.pos_of_ne_zero q1)
    have:=((hAt t).1 ht).2
    unfold hasPE at this
    simp only [Bool.and_eq_true] at this
    exact (vpt_Vp (x,y)).1 this.2.1
  have hf : FrP T (x,y):=fun t ht=>by
    have no : ∀ a b : P2,kl a b ∈ t.keys→(x,y)≠a:=fun a b hk e=>by
      subst e
      have : t ∈ sel (fStar x y) E:=(sel_mem h1).2 ⟨ht,_,hk,by simp [fStar,kl]⟩
      have:=List.length_pos_of_mem this
      omega
    exact ⟨no _ _ ((t.keys_iff _).2 (.inl rfl)),no _ _ ((t.keys_iff _).2 (.inr (.inl rfl))),no _ _ ((t.keys_iff _).2 (.inr (.inr rfl)))⟩
  have hm : ∀ t,t ∈ atL E x y↔t ∈ T∧t.Cl (x,y):=fun t=>by
    rw [hAt]
    refine and_congr_right fun ht=>?_
    obtain ⟨va,vb,vc,vo⟩ :=h2.ok t ht
    have w1:=or_val va vb vp
    have w2:=or_val vb vc vp
    have w3:=or_val vc va vp
    unfold hasPE T3.Cl ClP
    rw [(h2.ok t ht).valid (h3 t ht),(vpt_Vp (x,y)).2 vp]
    simp only [Bool.true_and,Bool.and_eq_true,decide_eq_true_eq]
    change (0≤orientI t.A.1 t.A.2 t.B.1 t.B.2 (x,y).1 (x,y).2∧0≤orientI t.B.1 t.B.2 t.C.1 t.C.2 (x,y).1 (x,y).2∧0≤orientI t.C.1 t.C.2 t.A.1 t.A.2 (x,y).1 (x,y).2)↔_
    omega
  have hL : (atL E x y).Nodup:=by
    unfold atL
    refine (sortT_perm _).nodup_iff.2 (sel_nodup (fun t ht k hk k' hk' g1 g2=>?_) h1 h2.ok)
    have f1 : fTris k t = true:=by unfold fAt at g1;rw [Bool.and_eq_true] at g1;exact g1.1
    have f2 : fTris k' t = true:=by unfold fAt at g2;rw [Bool.and_eq_true] at g2;exact g2.1
    rw [(fTris_key ht hk).1 f1,(fTris_key ht hk').1 f2]
  have hcut : ∀ t ∈ atL E x y,(sortT (cutE t x y)).Perm (cutL pcD t (x,y)):=fun t ht=>by
    obtain ⟨tT,tp⟩ :=(hAt t).1 ht
    have tc:=((hm t).1 ht).2
    obtain ⟨va,vb,vc,vo⟩ :=h2.ok t tT
    obtain ⟨n1,n2,n3⟩ :=hf t tT
    have hn : nvE t x y = true:=by
      unfold nvE
      rw [tp]
      simp only [Bool.true_and,Bool.and_eq_true,Bool.not_eq_true',decide_eq_false_iff_not]
      exact ⟨fun e=>n1 (P2.list (a:=(x,y)) (b:=t.A) |>.1 e),fun e=>n2 (P2.list (a:=(x,y)) (b:=t.B) |>.1 e),fun e=>n3 (P2.list (a:=(x,y)) (b:=t.C) |>.1 e)⟩
    refine (sortT_perm _).trans (.of_eq ?_)
    unfold cutE
    rw [if_pos hn]
    have e0:=piece (t:=t) vp va vb tc.1
    have e1:=piece (t:=t) vp vb vc tc.2.1
    have e2:=piece (t:=t) vp vc va tc.2.2
    unfold cutL
    rw [← e0,← e1,← e2]
    change (([] ++ _) ++ _) ++ _ = _
    rw [List.nil_append,List.append_assoc]
    rfl
  obtain ⟨T',r1,r2,r3,r4,r5⟩ :=add_point (pc:=pcD) pcD_rt h1 h2 vp hf hL hm (flatMap_perm hcut)
  refine ⟨T',?_,r2,fun u hu=>?_,by omega,by omega⟩
  · unfold splitE putL
    rw [← foldl_flatMap]
    exact r1
  · rcases r3 u hu with h | ⟨t,ht,hu⟩
    · exact h3 u h
    · obtain ⟨tT,_⟩ :=(hm t).1 ht
      obtain ⟨va,vb,vc,vo⟩ :=h2.ok t tT
      rcases (cutL_mem pcD).1 hu with ⟨k,rfl⟩ | ⟨k,rfl⟩ | ⟨k,rfl⟩
      · exact (pcD_eq va vb vp k).2
      · exact (pcD_eq vb vc vp k).2
      · exact (pcD_eq vc va vp k).2
theorem LandI.sq {x y : Int} (hx : 1≤x∧x < 16777216) (hy : 1≤y∧y < 16777216) : ∃ E,newE [sqX x y,sqY x y] [] = some E∧LandI 0 E:=by
  have hxy : 0 < x * y:=Int.mul_pos (by omega) (by omega)
  have vO : Vp (0,0):=⟨by omega,by omega,by omega,by omega⟩
  have vX : Vp (x,0):=by unfold Vp;dsimp only;omega
  have vD : Vp (x,y):=by unfold Vp;dsimp only;omega
  have vY : Vp (0,y):=by unfold Vp;dsimp only;omega
  have ok1 : T3.Ok ⟨0,0,x,0,x,y⟩ :=⟨vO,vX,vD,by show 0 < (x - 0) * (y - 0) - (0 - 0) * (x - 0);simp;omega⟩
  have ok2 : T3.Ok ⟨0,0,x,y,0,y⟩ :=⟨vO,vD,vY,by show 0 < (x - 0) * (y - 0) - (y - 0) * (0 - 0);simp;omega⟩
  have l1 : ¬ (T3.mk 0 0 x 0 x y).late:=by unfold T3.late later;dsimp only;omega
  have l2 : ¬ (T3.mk 0 0 x y 0 y).late:=by unfold T3.late later;dsimp only;omega
  have e1 : sqX x y = ⟨0,0,x,0,x,y⟩ :=by unfold sqX;simp [T3.mk',T3.first,ok1.or,T3.rot,l1]
  have e2 : sqY x y = ⟨0,0,x,y,0,y⟩ :=by unfold sqY;simp [T3.mk',T3.first,ok2.or,T3.rot,l2]
  have r0 : Rep [] []:=⟨List.nodup_nil,fun k t=>by simp,List.nodup_nil⟩
  have p1:=(putOk_iff r0 (u:=⟨0,0,x,0,x,y⟩)).2 fun t ht=>by cases ht
  have r1:=(rep_put r0 ok1.kne p1).1
  have p2:=(putOk_iff r1 (u:=⟨0,0,x,y,0,y⟩)).2 fun t ht=>by
    simp only [List.mem_cons,List.not_mem_nil,or_false] at ht
    subst ht
    intro k h1 h2
    have hb : ∀ p q : P2,p = q→p.1 = q.1∧p.2 = q.2:=fun p q e=>by rw [e];exact ⟨rfl,rfl⟩
    rcases (T3.keys_iff _ _).1 h1 with rfl | rfl | rfl<;>rcases (T3.keys_iff _ _).1 h2 with k | k | k<;>obtain ⟨g1,g2⟩ :=kl_inj k<;>have g1:=hb _ _ g1<;>have g2:=hb _ _ g2<;>simp only [T3.A,T3.B,T3.C] at g1 g2<;>omega
  have r2:=(rep_put r1 ok2.kne p2).1
  refine ⟨putE (putE [] ⟨0,0,x,0,x,y⟩) ⟨0,0,x,y,0,y⟩,?_,_,r2,⟨fun u hu=>?_,fun q hq=>?_⟩,fun u hu=>?_,Nat.le_refl 2,Nat.le_refl 2⟩
  · rw [e1,e2]
    unfold newE
    rw [ok1.valid l1,p1]
    unfold newE
    rw [ok2.valid l2,if_pos (by decide),p2]
    rfl
  · simp only [List.mem_cons,List.not_mem_nil,or_false] at hu
    rcases hu with rfl | rfl
    · exact ok2
    · exact ok1
  · have no : ¬ ((T3.mk 0 0 x 0 x y).In q ∧ (T3.mk 0 0 x y 0 y).In q) := fun ⟨h1, h2⟩ => by
      have a:=h1.2.2
      have b:=h2.1
      have:=hv_swap (x,y) (0,0) q
      change 0 < hv (x,y) (0,0) q at a
      change 0 < hv (0,0) (x,y) q at b
      omega
    intro u hu v hv' iu iv
    simp only [List.mem_cons,List.not_mem_nil,or_false] at hu hv'
    rcases hu with rfl | rfl<;>rcases hv' with rfl | rfl
    · rfl
    · exact absurd ⟨iv,iu⟩ no
    · exact absurd ⟨iu,iv⟩ no
    · rfl
  · simp only [List.mem_cons,List.not_mem_nil,or_false] at hu
    rcases hu with rfl | rfl
    · exact l2
    · exact l1
theorem landT : ∃ Φ,LandT LandI Φ:=by
  obtain ⟨h,hh,hc⟩ :=height
  refine ⟨fun E=>(vol h (sel fTris E)).toNat,fun n W hn=>⟨fun E hI=>?_,fun E ax ay bx by' hI hb h0=>⟨hI.flip h0,bad_falls (fun p=>hh p (sqP_nn p)) hc hI hb h0⟩⟩,fun n hn=>⟨fun E hI=>?_,fun E ax ay bx by' hI h0=>hI.flip h0⟩,fun n E x y hI h0=>hI.add h0,fun n E hI=>hI.mono,fun n E hI=>hI.len,fun n E hI=>hI.pts,fun x y hx hy=>LandI.sq hx hy⟩
  · have:=hI.len;omega
  · have:=hI.len;omega
end Go.Proofs.YtnhgjgoglmadnaaGreat
