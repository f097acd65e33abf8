/- Joined texts of this claim (part 25), printed by a program of this work. The last part holds the claimed theorem: the law answers true at every input of its row. -/
import Derived.Test.YtnhgjgoglmadnaaGreatSPFieldsx
set_option maxHeartbeats 4000000
namespace Go.Proofs.YtnhgjgoglmadnaaGreat
open Go.RowKit
set_option maxRecDepth 100000
set_option linter.unusedSimpArgs false
set_option linter.unusedVariables false
theorem sq_bound {a b : Int} (ha : -16777216 < a∧a < 16777216) (hb : -16777216 < b∧b < 16777216) : 0≤a * a + b * b∧a * a + b * b≤562949953421312:=by
  have h1:=mul_bound (a:=a) (b:=a) (by omega) (by omega)
  have h2:=mul_bound (a:=b) (b:=b) (by omega) (by omega)
  have h3 : 0≤a * a:=by
    rcases Int.le_total 0 a with h | h
    · exact Int.mul_nonneg h h
    · exact Int.mul_nonneg_of_nonpos_of_nonpos h h
  have h4 : 0≤b * b:=by
    rcases Int.le_total 0 b with h | h
    · exact Int.mul_nonneg h h
    · exact Int.mul_nonneg_of_nonpos_of_nonpos h h
  omega
theorem cr_bound {a b c d : Int} (ha : -16777216 < a∧a < 16777216) (hb : -16777216 < b∧b < 16777216) (hc : -16777216 < c∧c < 16777216) (hd : -16777216 < d∧d < 16777216) : -562949953421312≤a * b - c * d∧a * b - c * d≤562949953421312:=by
  have h1:=mul_bound (a:=a) (b:=b) (by omega) (by omega)
  have h2:=mul_bound (a:=c) (b:=d) (by omega) (by omega)
  omega
theorem big_bound {a b : Int} (ha : 0≤a∧a≤562949953421312) (hb : -562949953421312≤b∧b≤562949953421312) : -316912650057057350374175801344≤a * b∧a * b≤316912650057057350374175801344:=by
  rcases Int.le_total 0 b with h | h
  · have:=mul_le' ha.1 ha.2 h hb.2
    omega
  · have:=mul_le' ha.1 ha.2 (show 0≤-b by omega) (show -b≤562949953421312 by omega)
    rw [Int.mul_neg] at this
    omega
def detI (a b c d e f : Int) : Int:=(a * a + b * b) * (c * f - e * d) + -((c * c + d * d) * (a * f - e * b)) + (e * e + f * f) * (a * d - c * b)
def tieI (ax ay bx by' cx cy dx dy : Int) : Int:=
  let x1:=if cmp2 ax ay dx dy < 0 then (ax,ay) else (dx,dy)
  let x2:=if cmp2 bx by' x1.1 x1.2 < 0 then (bx,by') else x1
  let x3:=if cmp2 cx cy x2.1 x2.2 < 0 then (cx,cy) else x2
  if [x3.1,x3.2] = [dx,dy] then 1 else if [x3.1,x3.2] = [ax,ay] then -orientI dx dy bx by' cx cy else if [x3.1,x3.2] = [bx,by'] then -orientI ax ay dx dy cx cy else -orientI ax ay bx by' dx dy
def circP (ax ay bx by' cx cy dx dy : Int) : Int:=
  if !vpt dx dy || (decide ([dx,dy] = [ax,ay]) || (decide ([dx,dy] = [bx,by']) || decide ([dx,dy] = [cx,cy]))) then 0 else
  if cmpI (detI (ax - dx) (ay - dy) (bx - dx) (by' - dy) (cx - dx) (cy - dy)) 0≠0 then cmpI (detI (ax - dx) (ay - dy) (bx - dx) (by' - dy) (cx - dx) (cy - dy)) 0 else tieI ax ay bx by' cx cy dx dy
def circI (ax ay bx by' cx cy dx dy : Int) : Int:=if orientI ax ay bx by' cx cy = 0 then 0 else if orientI ax ay bx by' cx cy < 0 then -circP ax ay cx cy bx by' dx dy else circP ax ay bx by' cx cy dx dy
theorem orientI_range (ax ay bx by' cx cy : Int) : orientI ax ay bx by' cx cy = -1∨orientI ax ay bx by' cx cy = 0∨orientI ax ay bx by' cx cy = 1:=by
  unfold orientI cmpI
  split
  · split
    · exact .inl rfl
    · split
      · exact .inr (.inr rfl)
      · exact .inr (.inl rfl)
  · exact .inr (.inl rfl)
theorem orientI_neg (ax ay bx by' cx cy : Int) : IntKind.i64.wrap (0 - orientI ax ay bx by' cx cy) = -orientI ax ay bx by' cx cy:=by
  rcases orientI_range ax ay bx by' cx cy with h | h | h<;>rw [h]<;>rfl
theorem orientI_valid {ax ay bx by' cx cy : Int} (h : orientI ax ay bx by' cx cy≠0) : vpt ax ay = true∧vpt bx by' = true∧vpt cx cy = true:=by
  unfold orientI at h
  split at h
  · rename_i g
    simpa [Bool.and_eq_true,and_assoc] using g
  · exact absurd rfl h
theorem cmpI_swap (x y : Int) : cmpI y x = -cmpI x y:=by
  unfold cmpI
  split<;>split<;>(try split)<;>(try split)<;>omega
theorem orientI_swap (ax ay bx by' cx cy : Int) : orientI ax ay cx cy bx by' = -orientI ax ay bx by' cx cy:=by
  unfold orientI
  by_cases g : (vpt ax ay && vpt bx by' && vpt cx cy) = true
  · rw [if_pos g,if_pos (by rw [← g];cases vpt ax ay<;>cases vpt bx by'<;>cases vpt cx cy<;>rfl),← cmpI_swap,Int.mul_comm (cx - ax),Int.mul_comm (cy - ay)]
  · rw [if_neg g,if_neg (by intro k;apply g;rw [← k];cases vpt ax ay<;>cases vpt bx by'<;>cases vpt cx cy<;>rfl)];rfl
theorem cmpI_range (x y : Int) : -1≤cmpI x y∧cmpI x y≤1:=by
  unfold cmpI
  split
  · omega
  · split<;>omega
theorem tieI_range (ax ay bx by' cx cy dx dy : Int) : -1≤tieI ax ay bx by' cx cy dx dy∧tieI ax ay bx by' cx cy dx dy≤1:=by
  unfold tieI
  have a1:=orientI_range dx dy bx by' cx cy
  have a2:=orientI_range ax ay dx dy cx cy
  have a3:=orientI_range ax ay bx by' dx dy
  dsimp only
  generalize (if cmp2 cx cy _ _ < 0 then (cx,cy) else _) = q
  split
  · omega
  · split
    · omega
    · split<;>omega
theorem circP_range (ax ay bx by' cx cy dx dy : Int) : -1≤circP ax ay bx by' cx cy dx dy∧circP ax ay bx by' cx cy dx dy≤1:=by
  unfold circP
  have k:=cmpI_range (detI (ax - dx) (ay - dy) (bx - dx) (by' - dy) (cx - dx) (cy - dy)) 0
  split
  · omega
  · split
    · exact k
    · exact tieI_range ..
theorem circP130 (ax ay bx by' cx cy dx dy : Int) (hp : 0 < orientI ax ay bx by' cx cy) (w : World) : Calls Tryz.prog 130 [.agg #[.int .i64 ax,.int .i64 ay],.agg #[.int .i64 bx,.int .i64 by'],.agg #[.int .i64 cx,.int .i64 cy],.agg #[.int .i64 dx,.int .i64 dy]].toArray w (RetP (.int .i64 (circP ax ay bx by' cx cy dx dy)) w):=by
  have h:=Sep.nil w
  obtain ⟨va,vb,vc⟩ :=orientI_valid (show orientI ax ay bx by' cx cy≠0 by omega)
  refine walk Tryz.func130 rfl (by kernel_rfl) (by rw [Tryz.nt130];simp) ?_
  replace h:=Zd h;have F:=Zf5 h
  refine Zv ?_
  refine h.new ?_
  clear h F
  intro _ b1 h
  replace h:=Zd h;have F:=Zf5 h;refine Zc ?_
  refine h.new ?_
  clear h F
  intro _ b2 h
  replace h:=Zd h;have F:=Zf5 h;refine Zc ?_
  refine h.new ?_
  clear h F
  intro _ b3 h
  replace h:=Zd h;have F:=Zf5 h;refine Zc ?_
  refine h.new ?_
  clear h F
  intro _ b4 h
  replace h:=Zd h;have F:=Zf5 h;refine Zc ?_
  refine Sep.callp h (orient134 ax ay bx by' cx cy _) ?_
  clear h F
  intro _ h
  replace h:=Zd h;have F:=Zf5 h;refine Zc ?_
  have hp0 : ¬ orientI ax ay bx by' cx cy = 0:=by omega
  have hp1 : ¬ orientI ax ay bx by' cx cy < 0:=by omega
  generalize hz : decide (orientI ax ay bx by' cx cy = 0) = z
  obtain rfl : z = false:=hz.symm.trans (decide_eq_false hp0)
  clear hz
  replace h:=Zd h;have F:=Zf5 h;refine Zc ?_
  refine Sep.callp h (valid47 dx dy _) ?_
  clear h F
  intro _ h
  replace h:=Zd h;have F:=Zf5 h;refine Zc ?_
  cases vd : vpt dx dy with
  | false=>
    replace h:=Zd h;have F:=Zf5 h;refine Zc1 vd ?_
    exact ⟨by unfold circP;rw [vd];rfl,h.done⟩
  | true=>
  have vd':=vd
  replace h:=Zd h;have F:=Zf5 h;refine Zc1 vd ?_
  refine binK_eql_agg (by kernel_rfl) (fun w=>seqPt (d:=9998) dx dy ax ay w) ?_
  cases h1d : decide ([dx,dy] = [ax,ay]) with
  | true=>
    have h1:=of_decide_eq_true h1d
    replace h:=Zd h;have F:=Zf5 h;refine Zc1 (decide_eq_true h1) ?_
    exact ⟨by unfold circP;simp [h1],h.done⟩
  | false=>
  have h1:=of_decide_eq_false h1d
  replace h:=Zd h;have F:=Zf5 h;refine Zc1 (decide_eq_false h1) ?_
  refine binK_eql_agg (by kernel_rfl) (fun w=>seqPt (d:=9998) dx dy bx by' w) ?_
  cases h2d : decide ([dx,dy] = [bx,by']) with
  | true=>
    have h2:=of_decide_eq_true h2d
    replace h:=Zd h;have F:=Zf5 h;refine Zc1 (decide_eq_true h2) ?_
    exact ⟨by unfold circP;simp [h2],h.done⟩
  | false=>
  have h2:=of_decide_eq_false h2d
  replace h:=Zd h;have F:=Zf5 h;refine Zc1 (decide_eq_false h2) ?_
  refine binK_eql_agg (by kernel_rfl) (fun w=>seqPt (d:=9998) dx dy cx cy w) ?_
  cases h3d : decide ([dx,dy] = [cx,cy]) with
  | true=>
    have h3:=of_decide_eq_true h3d
    replace h:=Zd h;have F:=Zf5 h;refine Zc1 (decide_eq_true h3) ?_
    exact ⟨by unfold circP;simp [h3],h.done⟩
  | false=>
  have h3:=of_decide_eq_false h3d
  replace h:=Zd h;have F:=Zf5 h;refine Zc1 (decide_eq_false h3) ?_
  generalize hz : decide (orientI ax ay bx by' cx cy < 0) = z
  obtain rfl : z = false:=hz.symm.trans (decide_eq_false hp1)
  clear hz
  replace h:=Zd h;have F:=Zf5 h;refine Zc ?_
  simp only [vpt_iff] at va vb vc vd
  obtain ⟨va1,va2,va3,va4⟩ :=va
  obtain ⟨vb1,vb2,vb3,vb4⟩ :=vb
  obtain ⟨vc1,vc2,vc3,vc4⟩ :=vc
  obtain ⟨vd1,vd2,vd3,vd4⟩ :=vd
  have e1 : IntKind.i64.wrap (ax - dx) = ax - dx:=i64w _ (by omega) (by omega)
  have e2 : IntKind.i64.wrap (ay - dy) = ay - dy:=i64w _ (by omega) (by omega)
  have e3 : IntKind.i64.wrap (bx - dx) = bx - dx:=i64w _ (by omega) (by omega)
  have e4 : IntKind.i64.wrap (by' - dy) = by' - dy:=i64w _ (by omega) (by omega)
  have e5 : IntKind.i64.wrap (cx - dx) = cx - dx:=i64w _ (by omega) (by omega)
  have e6 : IntKind.i64.wrap (cy - dy) = cy - dy:=i64w _ (by omega) (by omega)
  have g1 : -16777216 < ax - dx∧ax - dx < 16777216:=by omega
  have g2 : -16777216 < ay - dy∧ay - dy < 16777216:=by omega
  have g3 : -16777216 < bx - dx∧bx - dx < 16777216:=by omega
  have g4 : -16777216 < by' - dy∧by' - dy < 16777216:=by omega
  have g5 : -16777216 < cx - dx∧cx - dx < 16777216:=by omega
  have g6 : -16777216 < cy - dy∧cy - dy < 16777216:=by omega
  have m7:=mul_bound (a:=(ax - dx)) (b:=(ax - dx)) (by omega) (by omega)
  have e7 : IntKind.i64.wrap ((ax - dx) * (ax - dx)) = (ax - dx) * (ax - dx):=i64w _ (by omega) (by omega)
  have m8:=mul_bound (a:=(ay - dy)) (b:=(ay - dy)) (by omega) (by omega)
  have e8 : IntKind.i64.wrap ((ay - dy) * (ay - dy)) = (ay - dy) * (ay - dy):=i64w _ (by omega) (by omega)
  have e9 : IntKind.i64.wrap ((ax - dx) * (ax - dx) + (ay - dy) * (ay - dy)) = (ax - dx) * (ax - dx) + (ay - dy) * (ay - dy):=i64w _ (by omega) (by omega)
  have m10:=mul_bound (a:=(bx - dx)) (b:=(cy - dy)) (by omega) (by omega)
  have e10 : IntKind.i64.wrap ((bx - dx) * (cy - dy)) = (bx - dx) * (cy - dy):=i64w _ (by omega) (by omega)
  have m11:=mul_bound (a:=(cx - dx)) (b:=(by' - dy)) (by omega) (by omega)
  have e11 : IntKind.i64.wrap ((cx - dx) * (by' - dy)) = (cx - dx) * (by' - dy):=i64w _ (by omega) (by omega)
  have e12 : IntKind.i64.wrap ((bx - dx) * (cy - dy) - (cx - dx) * (by' - dy)) = (bx - dx) * (cy - dy) - (cx - dx) * (by' - dy):=i64w _ (by omega) (by omega)
  have qa:=sq_bound g1 g2
  have ca:=cr_bound g3 g6 g5 g4
  have za:=big_bound qa ca
  have ka:=wmul137 _ _ (show -4611686018427387904≤(ax - dx) * (ax - dx) + (ay - dy) * (ay - dy)∧(ax - dx) * (ax - dx) + (ay - dy) * (ay - dy)≤4611686018427387904 by omega) (show -4611686018427387904≤(bx - dx) * (cy - dy) - (cx - dx) * (by' - dy)∧(bx - dx) * (cy - dy) - (cx - dx) * (by' - dy)≤4611686018427387904 by omega)
  have m13:=mul_bound (a:=(bx - dx)) (b:=(bx - dx)) (by omega) (by omega)
  have e13 : IntKind.i64.wrap ((bx - dx) * (bx - dx)) = (bx - dx) * (bx - dx):=i64w _ (by omega) (by omega)
  have m14:=mul_bound (a:=(by' - dy)) (b:=(by' - dy)) (by omega) (by omega)
  have e14 : IntKind.i64.wrap ((by' - dy) * (by' - dy)) = (by' - dy) * (by' - dy):=i64w _ (by omega) (by omega)
  have e15 : IntKind.i64.wrap ((bx - dx) * (bx - dx) + (by' - dy) * (by' - dy)) = (bx - dx) * (bx - dx) + (by' - dy) * (by' - dy):=i64w _ (by omega) (by omega)
  have m16:=mul_bound (a:=(ax - dx)) (b:=(cy - dy)) (by omega) (by omega)
  have e16 : IntKind.i64.wrap ((ax - dx) * (cy - dy)) = (ax - dx) * (cy - dy):=i64w _ (by omega) (by omega)
  have m17:=mul_bound (a:=(cx - dx)) (b:=(ay - dy)) (by omega) (by omega)
  have e17 : IntKind.i64.wrap ((cx - dx) * (ay - dy)) = (cx - dx) * (ay - dy):=i64w _ (by omega) (by omega)
  have e18 : IntKind.i64.wrap ((ax - dx) * (cy - dy) - (cx - dx) * (ay - dy)) = (ax - dx) * (cy - dy) - (cx - dx) * (ay - dy):=i64w _ (by omega) (by omega)
  have qb:=sq_bound g3 g4
  have cb:=cr_bound g1 g6 g5 g2
  have zb:=big_bound qb cb
  have kb:=wmul137 _ _ (show -4611686018427387904≤(bx - dx) * (bx - dx) + (by' - dy) * (by' - dy)∧(bx - dx) * (bx - dx) + (by' - dy) * (by' - dy)≤4611686018427387904 by omega) (show -4611686018427387904≤(ax - dx) * (cy - dy) - (cx - dx) * (ay - dy)∧(ax - dx) * (cy - dy) - (cx - dx) * (ay - dy)≤4611686018427387904 by omega)
  have m19:=mul_bound (a:=(cx - dx)) (b:=(cx - dx)) (by omega) (by omega)
  have e19 : IntKind.i64.wrap ((cx - dx) * (cx - dx)) = (cx - dx) * (cx - dx):=i64w _ (by omega) (by omega)
  have m20:=mul_bound (a:=(cy - dy)) (b:=(cy - dy)) (by omega) (by omega)
  have e20 : IntKind.i64.wrap ((cy - dy) * (cy - dy)) = (cy - dy) * (cy - dy):=i64w _ (by omega) (by omega)
  have e21 : IntKind.i64.wrap ((cx - dx) * (cx - dx) + (cy - dy) * (cy - dy)) = (cx - dx) * (cx - dx) + (cy - dy) * (cy - dy):=i64w _ (by omega) (by omega)
  have m22:=mul_bound (a:=(ax - dx)) (b:=(by' - dy)) (by omega) (by omega)
  have e22 : IntKind.i64.wrap ((ax - dx) * (by' - dy)) = (ax - dx) * (by' - dy):=i64w _ (by omega) (by omega)
  have m23:=mul_bound (a:=(bx - dx)) (b:=(ay - dy)) (by omega) (by omega)
  have e23 : IntKind.i64.wrap ((bx - dx) * (ay - dy)) = (bx - dx) * (ay - dy):=i64w _ (by omega) (by omega)
  have e24 : IntKind.i64.wrap ((ax - dx) * (by' - dy) - (bx - dx) * (ay - dy)) = (ax - dx) * (by' - dy) - (bx - dx) * (ay - dy):=i64w _ (by omega) (by omega)
  have qc:=sq_bound g5 g6
  have cc:=cr_bound g1 g4 g3 g2
  have zc:=big_bound qc cc
  have kc:=wmul137 _ _ (show -4611686018427387904≤(cx - dx) * (cx - dx) + (cy - dy) * (cy - dy)∧(cx - dx) * (cx - dx) + (cy - dy) * (cy - dy)≤4611686018427387904 by omega) (show -4611686018427387904≤(ax - dx) * (by' - dy) - (bx - dx) * (ay - dy)∧(ax - dx) * (by' - dy) - (bx - dx) * (ay - dy)≤4611686018427387904 by omega)
  have kn:=wneg139 (((bx - dx) * (bx - dx) + (by' - dy) * (by' - dy)) * ((ax - dx) * (cy - dy) - (cx - dx) * (ay - dy))) (by unfold Wd;omega) (by unfold Wd;omega)
  have ks:=wadd138 (((ax - dx) * (ax - dx) + (ay - dy) * (ay - dy)) * ((bx - dx) * (cy - dy) - (cx - dx) * (by' - dy))) (-(((bx - dx) * (bx - dx) + (by' - dy) * (by' - dy)) * ((ax - dx) * (cy - dy) - (cx - dx) * (ay - dy)))) (by unfold Wd;omega) (by unfold Wd;omega) (by unfold Wd;omega)
  have kt:=wadd138 (((ax - dx) * (ax - dx) + (ay - dy) * (ay - dy)) * ((bx - dx) * (cy - dy) - (cx - dx) * (by' - dy)) + -(((bx - dx) * (bx - dx) + (by' - dy) * (by' - dy)) * ((ax - dx) * (cy - dy) - (cx - dx) * (ay - dy)))) (((cx - dx) * (cx - dx) + (cy - dy) * (cy - dy)) * ((ax - dx) * (by' - dy) - (bx - dx) * (ay - dy))) (by unfold Wd;omega) (by unfold Wd;omega) (by unfold Wd;omega)
  have kz:=wsign140 (((ax - dx) * (ax - dx) + (ay - dy) * (ay - dy)) * ((bx - dx) * (cy - dy) - (cx - dx) * (by' - dy)) + -(((bx - dx) * (bx - dx) + (by' - dy) * (by' - dy)) * ((ax - dx) * (cy - dy) - (cx - dx) * (ay - dy))) + ((cx - dx) * (cx - dx) + (cy - dy) * (cy - dy)) * ((ax - dx) * (by' - dy) - (bx - dx) * (ay - dy))) (by unfold Wd;omega)
  have ed : ((ax - dx) * (ax - dx) + (ay - dy) * (ay - dy)) * ((bx - dx) * (cy - dy) - (cx - dx) * (by' - dy)) + -(((bx - dx) * (bx - dx) + (by' - dy) * (by' - dy)) * ((ax - dx) * (cy - dy) - (cx - dx) * (ay - dy))) + ((cx - dx) * (cx - dx) + (cy - dy) * (cy - dy)) * ((ax - dx) * (by' - dy) - (bx - dx) * (ay - dy)) = detI (ax - dx) (ay - dy) (bx - dx) (by' - dy) (cx - dx) (cy - dy):=rfl
  rw [ed] at kz kt
  refine walkDraw (.q 0 (.q 2 (.q 5 (.q 7 (.q 10 (.q 12 (.q 15 (.q 17 (.q 20 (.q 22 (.q 25 (.q 27 (.h 1 0 (.h 3 6 (.q 4 (.q 30 (.h 6 1 (.h 8 7 (.q 9 (.q 31 (.h 11 2 (.h 13 6 (.q 14 (.q 32 (.h 16 3 (.h 18 7 (.q 19 (.q 33 (.h 21 4 (.h 23 6 (.q 24 (.q 34 (.h 26 5 (.h 28 7 (.q 29 (.q 35 .fin)))))))))))))))))))))))))))))))))))) [(b1,0,.int .i64 ax),(b1,1,.int .i64 ay),(b2,0,.int .i64 bx),(b2,1,.int .i64 by'),(b3,0,.int .i64 cx),(b3,1,.int .i64 cy),(b4,0,.int .i64 dx),(b4,1,.int .i64 dy)] (by kernel_rfl) (by simp [Holds_nil,Holds_cons,F]) ?_
  refine h.draw ?_
  clear h F
  intro _ h
  replace h:=Zd h;have F:=Zf5 h;refine Zc1 (J e1 (J e2 (J e3 (J e4 (J e5 (J e6 (J e7 (J e8 (J e9 (J e10 (J e11 (J e12 (J e13 (J e14 (J e15 (J e16 (J e17 (J e18 (J e19 (J e20 (J e21 (J e22 (J e23 e24))))))))))))))))))))))) ?_
  refine Sep.callp h (ka _) ?_
  clear h F
  intro _ h
  replace h:=Zd h;have F:=Zf5 h;refine Zc1 (@wV.eq_1) ?_
  refine h.new ?_
  clear h F
  intro _ b5 h
  replace h:=Zd h;have F:=Zf5 h;refine Zc1 (J e1 (J e2 (J e3 (J e4 (J e5 (J e6 (J e7 (J e8 (J e9 (J e10 (J e11 (J e12 (J e13 (J e14 (J e15 (J e16 (J e17 (J e18 (J e19 (J e20 (J e21 (J e22 (J e23 e24))))))))))))))))))))))) ?_
  refine Sep.put 4 h rfl ?_
  clear h F
  intro _ h
  replace h:=Zd h;have F:=Zf5 h;refine Zc1 (J e1 (J e2 (J e3 (J e4 (J e5 (J e6 (J e7 (J e8 (J e9 (J e10 (J e11 (J e12 (J e13 (J e14 (J e15 (J e16 (J e17 (J e18 (J e19 (J e20 (J e21 (J e22 (J e23 e24))))))))))))))))))))))) ?_
  refine walkDrawE (.q 1 (.q 2 (.q 3 (.q 4 (.q 5 (.q 6 (.q 7 (.q 8 (.q 9 (.q 10 (.q 11 (.q 12 (.q 13 (.q 14 (.h 0 0 (.l 15 (.l 16 (.l 17 .fin)))))))))))))))))) 18 [(b5,0,.int .i64 (((((ax - dx) * (ax - dx) + (ay - dy) * (ay - dy)) * ((bx - dx) * (cy - dy) - (cx - dx) * (by' - dy))) / 18446744073709551616))),(b5,1,.int .u64 ((((ax - dx) * (ax - dx) + (ay - dy) * (ay - dy)) * ((bx - dx) * (cy - dy) - (cx - dx) * (by' - dy))) % 18446744073709551616))] (by kernel_rfl) (by simp [Holds_nil,Holds_cons,F]) ?_
  refine h.draw ?_
  clear h F
  intro _ h
  replace h:=Zd h;have F:=Zf5 h;refine Zc1 (J e1 (J e2 (J e3 (J e4 (J e5 (J e6 (J e7 (J e8 (J e9 (J e10 (J e11 (J e12 (J e13 (J e14 (J e15 (J e16 (J e17 (J e18 (J e19 (J e20 (J e21 (J e22 (J e23 e24))))))))))))))))))))))) ?_
  refine Sep.callp h (kb _) ?_
  clear h F
  intro _ h
  replace h:=Zd h;have F:=Zf5 h;refine Zc1 (@wV.eq_1) ?_
  refine Sep.callp h (kn _) ?_
  clear h F
  intro _ h
  replace h:=Zd h;have F:=Zf5 h;refine Zc1 (@wV.eq_1) ?_
  refine Sep.callp h (ks _) ?_
  clear h F
  intro _ h
  replace h:=Zd h;have F:=Zf5 h;refine Zc1 (@wV.eq_1) ?_
  refine Sep.put 4 h rfl ?_
  clear h F
  intro _ h
  replace h:=Zd h;have F:=Zf5 h;refine Zc1 (J e1 (J e2 (J e3 (J e4 (J e5 (J e6 (J e7 (J e8 (J e9 (J e10 (J e11 (J e12 (J e13 (J e14 (J e15 (J e16 (J e17 (J e18 (J e19 (J e20 (J e21 (J e22 (J e23 e24))))))))))))))))))))))) ?_
  refine walkDrawE (.q 1 (.q 2 (.q 3 (.q 4 (.q 5 (.q 6 (.q 7 (.q 8 (.q 9 (.q 10 (.q 11 (.q 12 (.q 13 (.q 14 (.h 0 0 (.l 15 (.l 16 .fin))))))))))))))))) 17 [(b5,0,.int .i64 (((((ax - dx) * (ax - dx) + (ay - dy) * (ay - dy)) * ((bx - dx) * (cy - dy) - (cx - dx) * (by' - dy)) + -(((bx - dx) * (bx - dx) + (by' - dy) * (by' - dy)) * ((ax - dx) * (cy - dy) - (cx - dx) * (ay - dy)))) / 18446744073709551616))),(b5,1,.int .u64 ((((ax - dx) * (ax - dx) + (ay - dy) * (ay - dy)) * ((bx - dx) * (cy - dy) - (cx - dx) * (by' - dy)) + -(((bx - dx) * (bx - dx) + (by' - dy) * (by' - dy)) * ((ax - dx) * (cy - dy) - (cx - dx) * (ay - dy)))) % 18446744073709551616))] (by kernel_rfl) (by simp [Holds_nil,Holds_cons,F]) ?_
  refine h.draw ?_
  clear h F
  intro _ h
  replace h:=Zd h;have F:=Zf5 h;refine Zc1 (J e1 (J e2 (J e3 (J e4 (J e5 (J e6 (J e7 (J e8 (J e9 (J e10 (J e11 (J e12 (J e13 (J e14 (J e15 (J e16 (J e17 (J e18 (J e19 (J e20 (J e21 (J e22 (J e23 e24))))))))))))))))))))))) ?_
  refine Sep.callp h (kc _) ?_
  clear h F
  intro _ h
  replace h:=Zd h;have F:=Zf5 h;refine Zc1 (@wV.eq_1) ?_
  refine Sep.callp h (kt _) ?_
  clear h F
  intro _ h
  replace h:=Zd h;have F:=Zf5 h;refine Zc1 (@wV.eq_1) ?_
  refine Sep.put 4 h rfl ?_
  clear h F
  intro _ h
  replace h:=Zd h;have F:=Zf5 h;refine Zc1 (@wV.eq_1) ?_
  refine Sep.callp h (kz _) ?_
  clear h F
  intro _ h
  replace h:=Zd h;have F:=Zf5 h;refine Zc ?_
  have c1 : circP ax ay bx by' cx cy dx dy = if cmpI (detI (ax - dx) (ay - dy) (bx - dx) (by' - dy) (cx - dx) (cy - dy)) 0≠0 then cmpI (detI (ax - dx) (ay - dy) (bx - dx) (by' - dy) (cx - dx) (cy - dy)) 0 else tieI ax ay bx by' cx cy dx dy:=by
    unfold circP
    rw [vd',decide_eq_false h1,decide_eq_false h2,decide_eq_false h3]
    rfl
  rw [c1]
  generalize cmpI (detI (ax - dx) (ay - dy) (bx - dx) (by' - dy) (cx - dx) (cy - dy)) 0 = z at *
  cases hz : decide (z = 0) with
  | false=>
    have hz:=of_decide_eq_false hz
    replace h:=Zd h;have F:=Zf5 h;refine Zc ?_
    rw [if_pos hz]
    (first | exact ⟨rfl,h.done⟩ | exact h.done)
  | true=>
  have hz:=of_decide_eq_true hz
  replace h:=Zd h;have F:=Zf5 h;refine Zc ?_
  rw [if_neg (fun g=>g hz)]
  clear kz kt ks kn ka kb kc
  refine h.new ?_
  clear h F
  intro _ b6 h
  replace h:=Zd h;have F:=Zf5 h;refine Zc ?_
  refine Sep.put 5 h rfl ?_
  clear h F
  intro _ h
  replace h:=Zd h;have F:=Zf5 h;refine Zc ?_
  refine Sep.callp h (cmpPoint ax ay dx dy _) ?_
  clear h F
  intro _ h
  replace h:=Zd h;have F:=Zf5 h;refine Zc ?_
  have n1:=orientI_neg dx dy bx by' cx cy
  have n2:=orientI_neg ax ay dx dy cx cy
  have n3:=orientI_neg ax ay bx by' dx dy
  by_cases t1 : cmp2 ax ay dx dy < 0
  · generalize hz : decide (cmp2 ax ay dx dy < 0) = z
    obtain rfl : z = true:=hz.symm.trans (decide_eq_true t1)
    clear hz
    replace h:=Zd h;have F:=Zf5 h;refine Zc ?_
    refine Sep.put 5 h rfl ?_
    clear h F
    intro _ h
    replace h:=Zd h;have F:=Zf5 h;refine Zc ?_
    refine Sep.callp h (cmpPoint bx by' ax ay _) ?_
    clear h F
    intro _ h
    replace h:=Zd h;have F:=Zf5 h;refine Zc ?_
    by_cases t2 : cmp2 bx by' ax ay < 0
    · generalize hz : decide (cmp2 bx by' ax ay < 0) = z
      obtain rfl : z = true:=hz.symm.trans (decide_eq_true t2)
      clear hz
      replace h:=Zd h;have F:=Zf5 h;refine Zc ?_
      refine Sep.put 5 h rfl ?_
      clear h F
      intro _ h
      replace h:=Zd h;have F:=Zf5 h;refine Zc ?_
      refine Sep.callp h (cmpPoint cx cy bx by' _) ?_
      clear h F
      intro _ h
      replace h:=Zd h;have F:=Zf5 h;refine Zc ?_
      by_cases t3 : cmp2 cx cy bx by' < 0
      · generalize hz : decide (cmp2 cx cy bx by' < 0) = z
        obtain rfl : z = true:=hz.symm.trans (decide_eq_true t3)
        clear hz
        replace h:=Zd h;have F:=Zf5 h;refine Zc ?_
        refine Sep.put 5 h rfl ?_
        clear h F
        intro _ h
        replace h:=Zd h;have F:=Zf5 h;refine Zc ?_
        refine binK_eql_agg (by kernel_rfl) (fun w=>seqPt (d:=9998) cx cy dx dy w) ?_
        by_cases s1 : [cx,cy] = [dx,dy]
        · generalize hz : decide ([cx,cy] = [dx,dy]) = z
          obtain rfl : z = true:=hz.symm.trans (decide_eq_true s1)
          clear hz
          replace h:=Zd h;have F:=Zf5 h;refine Zc ?_
          exact ⟨by unfold tieI;simp only [t1,t2,t3,if_true,if_false];rw [if_pos s1],h.done⟩
        generalize hz : decide ([cx,cy] = [dx,dy]) = z
        obtain rfl : z = false:=hz.symm.trans (decide_eq_false s1)
        clear hz
        replace h:=Zd h;have F:=Zf5 h;refine Zc ?_
        refine binK_eql_agg (by kernel_rfl) (fun w=>seqPt (d:=9998) cx cy ax ay w) ?_
        by_cases s2 : [cx,cy] = [ax,ay]
        · generalize hz : decide ([cx,cy] = [ax,ay]) = z
          obtain rfl : z = true:=hz.symm.trans (decide_eq_true s2)
          clear hz
          replace h:=Zd h;have F:=Zf5 h;refine Zc ?_
          refine Sep.callp h (orient134 dx dy bx by' cx cy _) ?_
          clear h F
          intro _ h
          replace h:=Zd h;have F:=Zf5 h;refine Zc1 n1 ?_
          exact ⟨by unfold tieI;simp only [t1,t2,t3,if_true,if_false];rw [if_neg s1,if_pos s2],h.done⟩
        generalize hz : decide ([cx,cy] = [ax,ay]) = z
        obtain rfl : z = false:=hz.symm.trans (decide_eq_false s2)
        clear hz
        replace h:=Zd h;have F:=Zf5 h;refine Zc ?_
        refine binK_eql_agg (by kernel_rfl) (fun w=>seqPt (d:=9998) cx cy bx by' w) ?_
        by_cases s3 : [cx,cy] = [bx,by']
        · generalize hz : decide ([cx,cy] = [bx,by']) = z
          obtain rfl : z = true:=hz.symm.trans (decide_eq_true s3)
          clear hz
          replace h:=Zd h;have F:=Zf5 h;refine Zc ?_
          refine Sep.callp h (orient134 ax ay dx dy cx cy _) ?_
          clear h F
          intro _ h
          replace h:=Zd h;have F:=Zf5 h;refine Zc1 n2 ?_
          exact ⟨by unfold tieI;simp only [t1,t2,t3,if_true,if_false];rw [if_neg s1,if_neg s2,if_pos s3],h.done⟩
        generalize hz : decide ([cx,cy] = [bx,by']) = z
        obtain rfl : z = false:=hz.symm.trans (decide_eq_false s3)
        clear hz
        replace h:=Zd h;have F:=Zf5 h;refine Zc ?_
        refine Sep.callp h (orient134 ax ay bx by' dx dy _) ?_
        clear h F
        intro _ h
        replace h:=Zd h;have F:=Zf5 h;refine Zc1 n3 ?_
        exact ⟨by unfold tieI;simp only [t1,t2,t3,if_true,if_false];rw [if_neg s1,if_neg s2,if_neg s3],h.done⟩
      · generalize hz : decide (cmp2 cx cy bx by' < 0) = z
        obtain rfl : z = false:=hz.symm.trans (decide_eq_false t3)
        clear hz
        replace h:=Zd h;have F:=Zf5 h;refine Zc ?_
        refine binK_eql_agg (by kernel_rfl) (fun w=>seqPt (d:=9998) bx by' dx dy w) ?_
        by_cases s1 : [bx,by'] = [dx,dy]
        · generalize hz : decide ([bx,by'] = [dx,dy]) = z
          obtain rfl : z = true:=hz.symm.trans (decide_eq_true s1)
          clear hz
          replace h:=Zd h;have F:=Zf5 h;refine Zc ?_
          exact ⟨by unfold tieI;simp only [t1,t2,t3,if_true,if_false];rw [if_pos s1],h.done⟩
        generalize hz : decide ([bx,by'] = [dx,dy]) = z
        obtain rfl : z = false:=hz.symm.trans (decide_eq_false s1)
        clear hz
        replace h:=Zd h;have F:=Zf5 h;refine Zc ?_
        refine binK_eql_agg (by kernel_rfl) (fun w=>seqPt (d:=9998) bx by' ax ay w) ?_
        by_cases s2 : [bx,by'] = [ax,ay]
        · generalize hz : decide ([bx,by'] = [ax,ay]) = z
          obtain rfl : z = true:=hz.symm.trans (decide_eq_true s2)
          clear hz
          replace h:=Zd h;have F:=Zf5 h;refine Zc ?_
          refine Sep.callp h (orient134 dx dy bx by' cx cy _) ?_
          clear h F
          intro _ h
          replace h:=Zd h;have F:=Zf5 h;refine Zc1 n1 ?_
          exact ⟨by unfold tieI;simp only [t1,t2,t3,if_true,if_false];rw [if_neg s1,if_pos s2],h.done⟩
        generalize hz : decide ([bx,by'] = [ax,ay]) = z
        obtain rfl : z = false:=hz.symm.trans (decide_eq_false s2)
        clear hz
        replace h:=Zd h;have F:=Zf5 h;refine Zc ?_
        refine binK_eql_agg (by kernel_rfl) (fun w=>seqPt (d:=9998) bx by' bx by' w) ?_
        generalize hz : decide ([bx,by'] = [bx,by']) = z
        obtain rfl : z = true:=hz.symm.trans (decide_eq_true rfl)
        clear hz
        replace h:=Zd h;have F:=Zf5 h;refine Zc ?_
        refine Sep.callp h (orient134 ax ay dx dy cx cy _) ?_
        clear h F
        intro _ h
        replace h:=Zd h;have F:=Zf5 h;refine Zc1 n2 ?_
        exact ⟨by unfold tieI;simp only [t1,t2,t3,if_true,if_false];rw [if_neg s1,if_neg s2],h.done⟩
    · generalize hz : decide (cmp2 bx by' ax ay < 0) = z
      obtain rfl : z = false:=hz.symm.trans (decide_eq_false t2)
      clear hz
      replace h:=Zd h;have F:=Zf5 h;refine Zc ?_
      refine Sep.callp h (cmpPoint cx cy ax ay _) ?_
      clear h F
      intro _ h
      replace h:=Zd h;have F:=Zf5 h;refine Zc ?_
      by_cases t3 : cmp2 cx cy ax ay < 0
      · generalize hz : decide (cmp2 cx cy ax ay < 0) = z
        obtain rfl : z = true:=hz.symm.trans (decide_eq_true t3)
        clear hz
        replace h:=Zd h;have F:=Zf5 h;refine Zc ?_
        refine Sep.put 5 h rfl ?_
        clear h F
        intro _ h
        replace h:=Zd h;have F:=Zf5 h;refine Zc ?_
        refine binK_eql_agg (by kernel_rfl) (fun w=>seqPt (d:=9998) cx cy dx dy w) ?_
        by_cases s1 : [cx,cy] = [dx,dy]
        · generalize hz : decide ([cx,cy] = [dx,dy]) = z
          obtain rfl : z = true:=hz.symm.trans (decide_eq_true s1)
          clear hz
          replace h:=Zd h;have F:=Zf5 h;refine Zc ?_
          exact ⟨by unfold tieI;simp only [t1,t2,t3,if_true,if_false];rw [if_pos s1],h.done⟩
        generalize hz : decide ([cx,cy] = [dx,dy]) = z
        obtain rfl : z = false:=hz.symm.trans (decide_eq_false s1)
        clear hz
        replace h:=Zd h;have F:=Zf5 h;refine Zc ?_
        refine binK_eql_agg (by kernel_rfl) (fun w=>seqPt (d:=9998) cx cy ax ay w) ?_
        by_cases s2 : [cx,cy] = [ax,ay]
        · generalize hz : decide ([cx,cy] = [ax,ay]) = z
          obtain rfl : z = true:=hz.symm.trans (decide_eq_true s2)
          clear hz
          replace h:=Zd h;have F:=Zf5 h;refine Zc ?_
          refine Sep.callp h (orient134 dx dy bx by' cx cy _) ?_
          clear h F
          intro _ h
          replace h:=Zd h;have F:=Zf5 h;refine Zc1 n1 ?_
          exact ⟨by unfold tieI;simp only [t1,t2,t3,if_true,if_false];rw [if_neg s1,if_pos s2],h.done⟩
        generalize hz : decide ([cx,cy] = [ax,ay]) = z
        obtain rfl : z = false:=hz.symm.trans (decide_eq_false s2)
        clear hz
        replace h:=Zd h;have F:=Zf5 h;refine Zc ?_
        refine binK_eql_agg (by kernel_rfl) (fun w=>seqPt (d:=9998) cx cy bx by' w) ?_
        by_cases s3 : [cx,cy] = [bx,by']
        · generalize hz : decide ([cx,cy] = [bx,by']) = z
          obtain rfl : z = true:=hz.symm.trans (decide_eq_true s3)
          clear hz
          replace h:=Zd h;have F:=Zf5 h;refine Zc ?_
          refine Sep.callp h (orient134 ax ay dx dy cx cy _) ?_
          clear h F
          intro _ h
          replace h:=Zd h;have F:=Zf5 h;refine Zc1 n2 ?_
          exact ⟨by unfold tieI;simp only [t1,t2,t3,if_true,if_false];rw [if_neg s1,if_neg s2,if_pos s3],h.done⟩
        generalize hz : decide ([cx,cy] = [bx,by']) = z
        obtain rfl : z = false:=hz.symm.trans (decide_eq_false s3)
        clear hz
        replace h:=Zd h;have F:=Zf5 h;refine Zc ?_
        refine Sep.callp h (orient134 ax ay bx by' dx dy _) ?_
        clear h F
        intro _ h
        replace h:=Zd h;have F:=Zf5 h;refine Zc1 n3 ?_
        exact ⟨by unfold tieI;simp only [t1,t2,t3,if_true,if_false];rw [if_neg s1,if_neg s2,if_neg s3],h.done⟩
      · generalize hz : decide (cmp2 cx cy ax ay < 0) = z
        obtain rfl : z = false:=hz.symm.trans (decide_eq_false t3)
        clear hz
        replace h:=Zd h;have F:=Zf5 h;refine Zc ?_
        refine binK_eql_agg (by kernel_rfl) (fun w=>seqPt (d:=9998) ax ay dx dy w) ?_
        by_cases s1 : [ax,ay] = [dx,dy]
        · generalize hz : decide ([ax,ay] = [dx,dy]) = z
          obtain rfl : z = true:=hz.symm.trans (decide_eq_true s1)
          clear hz
          replace h:=Zd h;have F:=Zf5 h;refine Zc ?_
          exact ⟨by unfold tieI;simp only [t1,t2,t3,if_true,if_false];rw [if_pos s1],h.done⟩
        generalize hz : decide ([ax,ay] = [dx,dy]) = z
        obtain rfl : z = false:=hz.symm.trans (decide_eq_false s1)
        clear hz
        replace h:=Zd h;have F:=Zf5 h;refine Zc ?_
        refine binK_eql_agg (by kernel_rfl) (fun w=>seqPt (d:=9998) ax ay ax ay w) ?_
        generalize hz : decide ([ax,ay] = [ax,ay]) = z
        obtain rfl : z = true:=hz.symm.trans (decide_eq_true rfl)
        clear hz
        replace h:=Zd h;have F:=Zf5 h;refine Zc ?_
        refine Sep.callp h (orient134 dx dy bx by' cx cy _) ?_
        clear h F
        intro _ h
        replace h:=Zd h;have F:=Zf5 h;refine Zc1 n1 ?_
        exact ⟨by unfold tieI;simp only [t1,t2,t3,if_true,if_false];rw [if_neg s1],h.done⟩
  · generalize hz : decide (cmp2 ax ay dx dy < 0) = z
    obtain rfl : z = false:=hz.symm.trans (decide_eq_false t1)
    clear hz
    replace h:=Zd h;have F:=Zf5 h;refine Zc ?_
    refine Sep.callp h (cmpPoint bx by' dx dy _) ?_
    clear h F
    intro _ h
    replace h:=Zd h;have F:=Zf5 h;refine Zc ?_
    by_cases t2 : cmp2 bx by' dx dy < 0
    · generalize hz : decide (cmp2 bx by' dx dy < 0) = z
      obtain rfl : z = true:=hz.symm.trans (decide_eq_true t2)
      clear hz
      replace h:=Zd h;have F:=Zf5 h;refine Zc ?_
      refine Sep.put 5 h rfl ?_
      clear h F
      intro _ h
      replace h:=Zd h;have F:=Zf5 h;refine Zc ?_
      refine Sep.callp h (cmpPoint cx cy bx by' _) ?_
      clear h F
      intro _ h
      replace h:=Zd h;have F:=Zf5 h;refine Zc ?_
      by_cases t3 : cmp2 cx cy bx by' < 0
      · generalize hz : decide (cmp2 cx cy bx by' < 0) = z
        obtain rfl : z = true:=hz.symm.trans (decide_eq_true t3)
        clear hz
        replace h:=Zd h;have F:=Zf5 h;refine Zc ?_
        refine Sep.put 5 h rfl ?_
        clear h F
        intro _ h
        replace h:=Zd h;have F:=Zf5 h;refine Zc ?_
        refine binK_eql_agg (by kernel_rfl) (fun w=>seqPt (d:=9998) cx cy dx dy w) ?_
        by_cases s1 : [cx,cy] = [dx,dy]
        · generalize hz : decide ([cx,cy] = [dx,dy]) = z
          obtain rfl : z = true:=hz.symm.trans (decide_eq_true s1)
          clear hz
          replace h:=Zd h;have F:=Zf5 h;refine Zc ?_
          exact ⟨by unfold tieI;simp only [t1,t2,t3,if_true,if_false];rw [if_pos s1],h.done⟩
        generalize hz : decide ([cx,cy] = [dx,dy]) = z
        obtain rfl : z = false:=hz.symm.trans (decide_eq_false s1)
        clear hz
        replace h:=Zd h;have F:=Zf5 h;refine Zc ?_
        refine binK_eql_agg (by kernel_rfl) (fun w=>seqPt (d:=9998) cx cy ax ay w) ?_
        by_cases s2 : [cx,cy] = [ax,ay]
        · generalize hz : decide ([cx,cy] = [ax,ay]) = z
          obtain rfl : z = true:=hz.symm.trans (decide_eq_true s2)
          clear hz
          replace h:=Zd h;have F:=Zf5 h;refine Zc ?_
          refine Sep.callp h (orient134 dx dy bx by' cx cy _) ?_
          clear h F
          intro _ h
          replace h:=Zd h;have F:=Zf5 h;refine Zc1 n1 ?_
          exact ⟨by unfold tieI;simp only [t1,t2,t3,if_true,if_false];rw [if_neg s1,if_pos s2],h.done⟩
        generalize hz : decide ([cx,cy] = [ax,ay]) = z
        obtain rfl : z = false:=hz.symm.trans (decide_eq_false s2)
        clear hz
        replace h:=Zd h;have F:=Zf5 h;refine Zc ?_
        refine binK_eql_agg (by kernel_rfl) (fun w=>seqPt (d:=9998) cx cy bx by' w) ?_
        by_cases s3 : [cx,cy] = [bx,by']
        · generalize hz : decide ([cx,cy] = [bx,by']) = z
          obtain rfl : z = true:=hz.symm.trans (decide_eq_true s3)
          clear hz
          replace h:=Zd h;have F:=Zf5 h;refine Zc ?_
          refine Sep.callp h (orient134 ax ay dx dy cx cy _) ?_
          clear h F
          intro _ h
          replace h:=Zd h;have F:=Zf5 h;refine Zc1 n2 ?_
          exact ⟨by unfold tieI;simp only [t1,t2,t3,if_true,if_false];rw [if_neg s1,if_neg s2,if_pos s3],h.done⟩
        generalize hz : decide ([cx,cy] = [bx,by']) = z
        obtain rfl : z = false:=hz.symm.trans (decide_eq_false s3)
        clear hz
        replace h:=Zd h;have F:=Zf5 h;refine Zc ?_
        refine Sep.callp h (orient134 ax ay bx by' dx dy _) ?_
        clear h F
        intro _ h
        replace h:=Zd h;have F:=Zf5 h;refine Zc1 n3 ?_
        exact ⟨by unfold tieI;simp only [t1,t2,t3,if_true,if_false];rw [if_neg s1,if_neg s2,if_neg s3],h.done⟩
      · generalize hz : decide (cmp2 cx cy bx by' < 0) = z
        obtain rfl : z = false:=hz.symm.trans (decide_eq_false t3)
        clear hz
        replace h:=Zd h;have F:=Zf5 h;refine Zc ?_
        refine binK_eql_agg (by kernel_rfl) (fun w=>seqPt (d:=9998) bx by' dx dy w) ?_
        by_cases s1 : [bx,by'] = [dx,dy]
        · generalize hz : decide ([bx,by'] = [dx,dy]) = z
          obtain rfl : z = true:=hz.symm.trans (decide_eq_true s1)
          clear hz
          replace h:=Zd h;have F:=Zf5 h;refine Zc ?_
          exact ⟨by unfold tieI;simp only [t1,t2,t3,if_true,if_false];rw [if_pos s1],h.done⟩
        generalize hz : decide ([bx,by'] = [dx,dy]) = z
        obtain rfl : z = false:=hz.symm.trans (decide_eq_false s1)
        clear hz
        replace h:=Zd h;have F:=Zf5 h;refine Zc ?_
        refine binK_eql_agg (by kernel_rfl) (fun w=>seqPt (d:=9998) bx by' ax ay w) ?_
        by_cases s2 : [bx,by'] = [ax,ay]
        · generalize hz : decide ([bx,by'] = [ax,ay]) = z
          obtain rfl : z = true:=hz.symm.trans (decide_eq_true s2)
          clear hz
          replace h:=Zd h;have F:=Zf5 h;refine Zc ?_
          refine Sep.callp h (orient134 dx dy bx by' cx cy _) ?_
          clear h F
          intro _ h
          replace h:=Zd h;have F:=Zf5 h;refine Zc1 n1 ?_
          exact ⟨by unfold tieI;simp only [t1,t2,t3,if_true,if_false];rw [if_neg s1,if_pos s2],h.done⟩
        generalize hz : decide ([bx,by'] = [ax,ay]) = z
        obtain rfl : z = false:=hz.symm.trans (decide_eq_false s2)
        clear hz
        replace h:=Zd h;have F:=Zf5 h;refine Zc ?_
        refine binK_eql_agg (by kernel_rfl) (fun w=>seqPt (d:=9998) bx by' bx by' w) ?_
        generalize hz : decide ([bx,by'] = [bx,by']) = z
        obtain rfl : z = true:=hz.symm.trans (decide_eq_true rfl)
        clear hz
        replace h:=Zd h;have F:=Zf5 h;refine Zc ?_
        refine Sep.callp h (orient134 ax ay dx dy cx cy _) ?_
        clear h F
        intro _ h
        replace h:=Zd h;have F:=Zf5 h;refine Zc1 n2 ?_
        exact ⟨by unfold tieI;simp only [t1,t2,t3,if_true,if_false];rw [if_neg s1,if_neg s2],h.done⟩
    · generalize hz : decide (cmp2 bx by' dx dy < 0) = z
      obtain rfl : z = false:=hz.symm.trans (decide_eq_false t2)
      clear hz
      replace h:=Zd h;have F:=Zf5 h;refine Zc ?_
      refine Sep.callp h (cmpPoint cx cy dx dy _) ?_
      clear h F
      intro _ h
      replace h:=Zd h;have F:=Zf5 h;refine Zc ?_
      by_cases t3 : cmp2 cx cy dx dy < 0
      · generalize hz : decide (cmp2 cx cy dx dy < 0) = z
        obtain rfl : z = true:=hz.symm.trans (decide_eq_true t3)
        clear hz
        replace h:=Zd h;have F:=Zf5 h;refine Zc ?_
        refine Sep.put 5 h rfl ?_
        clear h F
        intro _ h
        replace h:=Zd h;have F:=Zf5 h;refine Zc ?_
        refine binK_eql_agg (by kernel_rfl) (fun w=>seqPt (d:=9998) cx cy dx dy w) ?_
        by_cases s1 : [cx,cy] = [dx,dy]
        · generalize hz : decide ([cx,cy] = [dx,dy]) = z
          obtain rfl : z = true:=hz.symm.trans (decide_eq_true s1)
          clear hz
          replace h:=Zd h;have F:=Zf5 h;refine Zc ?_
          exact ⟨by unfold tieI;simp only [t1,t2,t3,if_true,if_false];rw [if_pos s1],h.done⟩
        generalize hz : decide ([cx,cy] = [dx,dy]) = z
        obtain rfl : z = false:=hz.symm.trans (decide_eq_false s1)
        clear hz
        replace h:=Zd h;have F:=Zf5 h;refine Zc ?_
        refine binK_eql_agg (by kernel_rfl) (fun w=>seqPt (d:=9998) cx cy ax ay w) ?_
        by_cases s2 : [cx,cy] = [ax,ay]
        · generalize hz : decide ([cx,cy] = [ax,ay]) = z
          obtain rfl : z = true:=hz.symm.trans (decide_eq_true s2)
          clear hz
          replace h:=Zd h;have F:=Zf5 h;refine Zc ?_
          refine Sep.callp h (orient134 dx dy bx by' cx cy _) ?_
          clear h F
          intro _ h
          replace h:=Zd h;have F:=Zf5 h;refine Zc1 n1 ?_
          exact ⟨by unfold tieI;simp only [t1,t2,t3,if_true,if_false];rw [if_neg s1,if_pos s2],h.done⟩
        generalize hz : decide ([cx,cy] = [ax,ay]) = z
        obtain rfl : z = false:=hz.symm.trans (decide_eq_false s2)
        clear hz
        replace h:=Zd h;have F:=Zf5 h;refine Zc ?_
        refine binK_eql_agg (by kernel_rfl) (fun w=>seqPt (d:=9998) cx cy bx by' w) ?_
        by_cases s3 : [cx,cy] = [bx,by']
        · generalize hz : decide ([cx,cy] = [bx,by']) = z
          obtain rfl : z = true:=hz.symm.trans (decide_eq_true s3)
          clear hz
          replace h:=Zd h;have F:=Zf5 h;refine Zc ?_
          refine Sep.callp h (orient134 ax ay dx dy cx cy _) ?_
          clear h F
          intro _ h
          replace h:=Zd h;have F:=Zf5 h;refine Zc1 n2 ?_
          exact ⟨by unfold tieI;simp only [t1,t2,t3,if_true,if_false];rw [if_neg s1,if_neg s2,if_pos s3],h.done⟩
        generalize hz : decide ([cx,cy] = [bx,by']) = z
        obtain rfl : z = false:=hz.symm.trans (decide_eq_false s3)
        clear hz
        replace h:=Zd h;have F:=Zf5 h;refine Zc ?_
        refine Sep.callp h (orient134 ax ay bx by' dx dy _) ?_
        clear h F
        intro _ h
        replace h:=Zd h;have F:=Zf5 h;refine Zc1 n3 ?_
        exact ⟨by unfold tieI;simp only [t1,t2,t3,if_true,if_false];rw [if_neg s1,if_neg s2,if_neg s3],h.done⟩
      · generalize hz : decide (cmp2 cx cy dx dy < 0) = z
        obtain rfl : z = false:=hz.symm.trans (decide_eq_false t3)
        clear hz
        replace h:=Zd h;have F:=Zf5 h;refine Zc ?_
        refine binK_eql_agg (by kernel_rfl) (fun w=>seqPt (d:=9998) dx dy dx dy w) ?_
        generalize hz : decide ([dx,dy] = [dx,dy]) = z
        obtain rfl : z = true:=hz.symm.trans (decide_eq_true rfl)
        clear hz
        replace h:=Zd h;have F:=Zf5 h;refine Zc ?_
        exact ⟨by unfold tieI;simp only [t1,t2,t3,if_true,if_false],h.done⟩
theorem circle130 (ax ay bx by' cx cy dx dy : Int) (w : World) : Calls Tryz.prog 130 [.agg #[.int .i64 ax,.int .i64 ay],.agg #[.int .i64 bx,.int .i64 by'],.agg #[.int .i64 cx,.int .i64 cy],.agg #[.int .i64 dx,.int .i64 dy]].toArray w (RetP (.int .i64 (circI ax ay bx by' cx cy dx dy)) w):=by
  by_cases o1 : 0 < orientI ax ay bx by' cx cy
  · have e : circI ax ay bx by' cx cy dx dy = circP ax ay bx by' cx cy dx dy:=by unfold circI;rw [if_neg (by omega),if_neg (by omega)]
    rw [e]
    exact circP130 ax ay bx by' cx cy dx dy o1 w
  have h:=Sep.nil w
  refine walk Tryz.func130 rfl (by kernel_rfl) (by rw [Tryz.nt130];simp) ?_
  replace h:=Zd h;have F:=Zf5 h
  refine Zv ?_
  refine h.new ?_
  clear h F
  intro _ b1 h
  replace h:=Zd h;have F:=Zf5 h;refine Zc ?_
  refine h.new ?_
  clear h F
  intro _ b2 h
  replace h:=Zd h;have F:=Zf5 h;refine Zc ?_
  refine h.new ?_
  clear h F
  intro _ b3 h
  replace h:=Zd h;have F:=Zf5 h;refine Zc ?_
  refine h.new ?_
  clear h F
  intro _ b4 h
  replace h:=Zd h;have F:=Zf5 h;refine Zc ?_
  refine Sep.callp h (orient134 ax ay bx by' cx cy _) ?_
  clear h F
  intro _ h
  replace h:=Zd h;have F:=Zf5 h;refine Zc ?_
  by_cases o2 : orientI ax ay bx by' cx cy = 0
  · generalize hz : decide (orientI ax ay bx by' cx cy = 0) = z
    obtain rfl : z = true:=hz.symm.trans (decide_eq_true o2)
    clear hz
    replace h:=Zd h;have F:=Zf5 h;refine Zc ?_
    exact ⟨by unfold circI;rw [if_pos o2],h.done⟩
  generalize hz : decide (orientI ax ay bx by' cx cy = 0) = z
  obtain rfl : z = false:=hz.symm.trans (decide_eq_false o2)
  clear hz
  replace h:=Zd h;have F:=Zf5 h;refine Zc ?_
  have o3 : orientI ax ay bx by' cx cy < 0:=by omega
  have sw : orientI ax ay cx cy bx by' = -orientI ax ay bx by' cx cy:=orientI_swap ..
  have ci : circI ax ay bx by' cx cy dx dy = -circP ax ay cx cy bx by' dx dy:=by unfold circI;rw [if_neg o2,if_pos o3]
  have kc:=circP130 ax ay cx cy bx by' dx dy (by omega)
  have kr:=circP_range ax ay cx cy bx by' dx dy
  have kn : IntKind.i64.wrap (0 - circP ax ay cx cy bx by' dx dy) = -circP ax ay cx cy bx by' dx dy:=by rw [i64w _ (by omega) (by omega)];omega
  have z0 : (vpt dx dy = false∨[dx,dy] = [ax,ay]∨[dx,dy] = [bx,by']∨[dx,dy] = [cx,cy])→circP ax ay cx cy bx by' dx dy = 0:=fun g=>by
    unfold circP
    rcases g with g | g | g | g<;>simp [g]
  rw [ci]
  refine Sep.callp h (valid47 dx dy _) ?_
  clear h F
  intro _ h
  replace h:=Zd h;have F:=Zf5 h;refine Zc ?_
  cases vd : vpt dx dy with
  | false=>
    replace h:=Zd h;have F:=Zf5 h;refine Zc ?_
    exact ⟨by rw [z0 (.inl vd)];rfl,h.done⟩
  | true=>
  replace h:=Zd h;have F:=Zf5 h;refine Zc ?_
  refine binK_eql_agg (by kernel_rfl) (fun w=>seqPt (d:=9998) dx dy ax ay w) ?_
  cases h1d : decide ([dx,dy] = [ax,ay]) with
  | true=>
    have h1:=of_decide_eq_true h1d
    replace h:=Zd h;have F:=Zf5 h;refine Zc1 (decide_eq_true h1) ?_
    exact ⟨by rw [z0 (.inr (.inl h1))];rfl,h.done⟩
  | false=>
  have h1:=of_decide_eq_false h1d
  replace h:=Zd h;have F:=Zf5 h;refine Zc1 (decide_eq_false h1) ?_
  refine binK_eql_agg (by kernel_rfl) (fun w=>seqPt (d:=9998) dx dy bx by' w) ?_
  cases h2d : decide ([dx,dy] = [bx,by']) with
  | true=>
    have h2:=of_decide_eq_true h2d
    replace h:=Zd h;have F:=Zf5 h;refine Zc1 (decide_eq_true h2) ?_
    exact ⟨by rw [z0 (.inr (.inr (.inl h2)))];rfl,h.done⟩
  | false=>
  have h2:=of_decide_eq_false h2d
  replace h:=Zd h;have F:=Zf5 h;refine Zc1 (decide_eq_false h2) ?_
  refine binK_eql_agg (by kernel_rfl) (fun w=>seqPt (d:=9998) dx dy cx cy w) ?_
  cases h3d : decide ([dx,dy] = [cx,cy]) with
  | true=>
    have h3:=of_decide_eq_true h3d
    replace h:=Zd h;have F:=Zf5 h;refine Zc1 (decide_eq_true h3) ?_
    exact ⟨by rw [z0 (.inr (.inr (.inr h3)))];rfl,h.done⟩
  | false=>
  have h3:=of_decide_eq_false h3d
  replace h:=Zd h;have F:=Zf5 h;refine Zc1 (decide_eq_false h3) ?_
  generalize hz : decide (orientI ax ay bx by' cx cy < 0) = z
  obtain rfl : z = true:=hz.symm.trans (decide_eq_true o3)
  clear hz
  replace h:=Zd h;have F:=Zf5 h;refine Zc ?_
  refine Sep.callp h (kc _) ?_
  clear h F
  intro _ h
  replace h:=Zd h;have F:=Zf5 h;refine Zc1 kn ?_
  (first | exact ⟨rfl,h.done⟩ | exact h.done)
end Go.Proofs.YtnhgjgoglmadnaaGreat
