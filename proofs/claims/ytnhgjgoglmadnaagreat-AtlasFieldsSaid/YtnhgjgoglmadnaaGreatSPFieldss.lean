/- Joined texts of this claim (part 19), printed by a program of this work. The last part holds the claimed theorem: the law answers true at every input of its row. -/
import Derived.Test.YtnhgjgoglmadnaaGreatSPFieldsr
namespace Go.Proofs.YtnhgjgoglmadnaaGreat
open Go.RowKit
set_option maxRecDepth 100000
set_option linter.unusedSimpArgs false
set_option linter.unusedVariables false
theorem seqPt {d : Nat} (a0 a1 c0 c1 : Int) (w : World) : (Op.equalIn (d + 2) 45 (.agg #[.int .i64 a0,.int .i64 a1]) (.agg #[.int .i64 c0,.int .i64 c1])).run Tryz.prog w = .ok (decide ([a0,a1] = [c0,c1])) w:=by
  have e : decide ([a0,a1] = [c0,c1]) = _:=rfl
  have h:=equalIn_sig (P:=Tryz.prog) (d:=d + 1) (t:=45) (xs:=#[.int .i64 a0,.int .i64 a1]) (ys:=#[.int .i64 c0,.int .i64 c1]) (w:=w) (by kernel_rfl) (by kernel_rfl) (l:=[(true,3,0),(true,3,1)]) (by kernel_rfl) (eqF_int (show Tryz.prog.underlying 3 = some (.int .i64) by kernel_rfl) rfl rfl (eqF_int (show Tryz.prog.underlying 3 = some (.int .i64) by kernel_rfl) rfl rfl eqF_nil))
  rw [h]
  simp [Bool.decide_and,Bool.and_assoc]
theorem seqTri {d : Nat} (a0 a1 a2 a3 a4 a5 c0 c1 c2 c3 c4 c5 : Int) (w : World) : (Op.equalIn (d + 3) 49 (.agg #[.int .i64 a0,.int .i64 a1,.int .i64 a2,.int .i64 a3,.int .i64 a4,.int .i64 a5]) (.agg #[.int .i64 c0,.int .i64 c1,.int .i64 c2,.int .i64 c3,.int .i64 c4,.int .i64 c5])).run Tryz.prog w = .ok (decide ([a0,a1,a2,a3,a4,a5] = [c0,c1,c2,c3,c4,c5])) w:=by
  have e : decide ([a0,a1,a2,a3,a4,a5] = [c0,c1,c2,c3,c4,c5]) = _:=rfl
  have h:=equalIn_sig (P:=Tryz.prog) (d:=d + 2) (t:=49) (xs:=#[.int .i64 a0,.int .i64 a1,.int .i64 a2,.int .i64 a3,.int .i64 a4,.int .i64 a5]) (ys:=#[.int .i64 c0,.int .i64 c1,.int .i64 c2,.int .i64 c3,.int .i64 c4,.int .i64 c5]) (w:=w) (by kernel_rfl) (by kernel_rfl) (l:=[(true,45,0),(true,45,2),(true,45,4)]) (by kernel_rfl) (eqF_agg (n:=2) (by kernel_rfl) (by kernel_rfl) (seqPt (d:=d) a0 a1 c0 c1 w) (eqF_agg (n:=2) (by kernel_rfl) (by kernel_rfl) (seqPt (d:=d) a2 a3 c2 c3 w) (eqF_agg (n:=2) (by kernel_rfl) (by kernel_rfl) (seqPt (d:=d) a4 a5 c4 c5 w) eqF_nil)))
  rw [h]
  simp [Bool.decide_and,Bool.and_assoc]
theorem seqW {d : Nat} (a0 a1 a2 a3 a4 c0 c1 c2 c3 c4 : Int) (w : World) : (Op.equalIn (d + 3) 47 (.agg #[.int .i64 a0,.int .i64 a1,.int .i64 a2,.int .i64 a3,.int .i64 a4]) (.agg #[.int .i64 c0,.int .i64 c1,.int .i64 c2,.int .i64 c3,.int .i64 c4])).run Tryz.prog w = .ok (decide ([a0,a1,a2,a3,a4] = [c0,c1,c2,c3,c4])) w:=by
  have e : decide ([a0,a1,a2,a3,a4] = [c0,c1,c2,c3,c4]) = _:=rfl
  have h:=equalIn_sig (P:=Tryz.prog) (d:=d + 2) (t:=47) (xs:=#[.int .i64 a0,.int .i64 a1,.int .i64 a2,.int .i64 a3,.int .i64 a4]) (ys:=#[.int .i64 c0,.int .i64 c1,.int .i64 c2,.int .i64 c3,.int .i64 c4]) (w:=w) (by kernel_rfl) (by kernel_rfl) (l:=[(true,45,0),(true,45,2),(true,3,4)]) (by kernel_rfl) (eqF_agg (n:=2) (by kernel_rfl) (by kernel_rfl) (seqPt (d:=d) a0 a1 c0 c1 w) (eqF_agg (n:=2) (by kernel_rfl) (by kernel_rfl) (seqPt (d:=d) a2 a3 c2 c3 w) (eqF_int (show Tryz.prog.underlying 3 = some (.int .i64) by kernel_rfl) rfl rfl eqF_nil)))
  rw [h]
  simp [Bool.decide_and,Bool.and_assoc]
theorem seqPa {d : Nat} (a0 a1 c0 c1 : Int) (w : World) : (Op.equalIn (d + 2) 69 (.agg #[.int .i64 a0,.int .i64 a1]) (.agg #[.int .i64 c0,.int .i64 c1])).run Tryz.prog w = .ok (decide ([a0,a1] = [c0,c1])) w:=by
  have e : decide ([a0,a1] = [c0,c1]) = _:=rfl
  have h:=equalIn_sig (P:=Tryz.prog) (d:=d + 1) (t:=69) (xs:=#[.int .i64 a0,.int .i64 a1]) (ys:=#[.int .i64 c0,.int .i64 c1]) (w:=w) (by kernel_rfl) (by kernel_rfl) (l:=[(true,3,0),(true,3,1)]) (by kernel_rfl) (eqF_int (show Tryz.prog.underlying 3 = some (.int .i64) by kernel_rfl) rfl rfl (eqF_int (show Tryz.prog.underlying 3 = some (.int .i64) by kernel_rfl) rfl rfl eqF_nil))
  rw [h]
  simp [Bool.decide_and,Bool.and_assoc]
theorem seqRe {d : Nat} (a0 a1 a2 a3 a4 a5 a6 a7 a8 a9 c0 c1 c2 c3 c4 c5 c6 c7 c8 c9 : Int) (w : World) : (Op.equalIn (d + 4) 51 (.agg #[.int .i64 a0,.int .i64 a1,.int .i64 a2,.int .i64 a3,.int .i64 a4,.int .i64 a5,.int .i64 a6,.int .i64 a7,.int .i64 a8,.int .i64 a9]) (.agg #[.int .i64 c0,.int .i64 c1,.int .i64 c2,.int .i64 c3,.int .i64 c4,.int .i64 c5,.int .i64 c6,.int .i64 c7,.int .i64 c8,.int .i64 c9])).run Tryz.prog w = .ok (decide ([a0,a1,a2,a3,a4,a5,a6,a7,a8,a9] = [c0,c1,c2,c3,c4,c5,c6,c7,c8,c9])) w:=by
  have e : decide ([a0,a1,a2,a3,a4,a5,a6,a7,a8,a9] = [c0,c1,c2,c3,c4,c5,c6,c7,c8,c9]) = _:=rfl
  have h:=equalIn_sig (P:=Tryz.prog) (d:=d + 3) (t:=51) (xs:=#[.int .i64 a0,.int .i64 a1,.int .i64 a2,.int .i64 a3,.int .i64 a4,.int .i64 a5,.int .i64 a6,.int .i64 a7,.int .i64 a8,.int .i64 a9]) (ys:=#[.int .i64 c0,.int .i64 c1,.int .i64 c2,.int .i64 c3,.int .i64 c4,.int .i64 c5,.int .i64 c6,.int .i64 c7,.int .i64 c8,.int .i64 c9]) (w:=w) (by kernel_rfl) (by kernel_rfl) (l:=[(true,3,0),(true,3,1),(true,3,2),(true,3,3),(true,49,4)]) (by kernel_rfl) (eqF_int (show Tryz.prog.underlying 3 = some (.int .i64) by kernel_rfl) rfl rfl (eqF_int (show Tryz.prog.underlying 3 = some (.int .i64) by kernel_rfl) rfl rfl (eqF_int (show Tryz.prog.underlying 3 = some (.int .i64) by kernel_rfl) rfl rfl (eqF_int (show Tryz.prog.underlying 3 = some (.int .i64) by kernel_rfl) rfl rfl (eqF_agg (n:=6) (by kernel_rfl) (by kernel_rfl) (seqTri (d:=d) a4 a5 a6 a7 a8 a9 c4 c5 c6 c7 c8 c9 w) eqF_nil)))))
  rw [h]
  simp [Bool.decide_and,Bool.and_assoc]
theorem seqCa {d : Nat} (a0 a1 a2 a3 a4 a5 a6 a7 a8 c0 c1 c2 c3 c4 c5 c6 c7 c8 : Int) (w : World) : (Op.equalIn (d + 2) 53 (.agg #[.int .i64 a0,.int .i64 a1,.int .i64 a2,.int .i64 a3,.int .i64 a4,.int .i64 a5,.int .i64 a6,.int .i64 a7,.int .i64 a8]) (.agg #[.int .i64 c0,.int .i64 c1,.int .i64 c2,.int .i64 c3,.int .i64 c4,.int .i64 c5,.int .i64 c6,.int .i64 c7,.int .i64 c8])).run Tryz.prog w = .ok (decide ([a0,a1,a2,a3,a4,a5,a6,a7,a8] = [c0,c1,c2,c3,c4,c5,c6,c7,c8])) w:=by
  have e : decide ([a0,a1,a2,a3,a4,a5,a6,a7,a8] = [c0,c1,c2,c3,c4,c5,c6,c7,c8]) = _:=rfl
  have h:=equalIn_sig (P:=Tryz.prog) (d:=d + 1) (t:=53) (xs:=#[.int .i64 a0,.int .i64 a1,.int .i64 a2,.int .i64 a3,.int .i64 a4,.int .i64 a5,.int .i64 a6,.int .i64 a7,.int .i64 a8]) (ys:=#[.int .i64 c0,.int .i64 c1,.int .i64 c2,.int .i64 c3,.int .i64 c4,.int .i64 c5,.int .i64 c6,.int .i64 c7,.int .i64 c8]) (w:=w) (by kernel_rfl) (by kernel_rfl) (l:=[(true,3,0),(true,3,1),(true,3,2),(true,3,3),(true,3,4),(true,3,5),(true,3,6),(true,3,7),(true,3,8)]) (by kernel_rfl) (eqF_int (show Tryz.prog.underlying 3 = some (.int .i64) by kernel_rfl) rfl rfl (eqF_int (show Tryz.prog.underlying 3 = some (.int .i64) by kernel_rfl) rfl rfl (eqF_int (show Tryz.prog.underlying 3 = some (.int .i64) by kernel_rfl) rfl rfl (eqF_int (show Tryz.prog.underlying 3 = some (.int .i64) by kernel_rfl) rfl rfl (eqF_int (show Tryz.prog.underlying 3 = some (.int .i64) by kernel_rfl) rfl rfl (eqF_int (show Tryz.prog.underlying 3 = some (.int .i64) by kernel_rfl) rfl rfl (eqF_int (show Tryz.prog.underlying 3 = some (.int .i64) by kernel_rfl) rfl rfl (eqF_int (show Tryz.prog.underlying 3 = some (.int .i64) by kernel_rfl) rfl rfl (eqF_int (show Tryz.prog.underlying 3 = some (.int .i64) by kernel_rfl) rfl rfl eqF_nil)))))))))
  rw [h]
  simp [Bool.decide_and,Bool.and_assoc]
theorem seqIs {d : Nat} (a0 a1 a2 c0 c1 c2 : Int) (w : World) : (Op.equalIn (d + 2) 55 (.agg #[.int .i64 a0,.int .i64 a1,.int .i64 a2]) (.agg #[.int .i64 c0,.int .i64 c1,.int .i64 c2])).run Tryz.prog w = .ok (decide ([a0,a1,a2] = [c0,c1,c2])) w:=by
  have e : decide ([a0,a1,a2] = [c0,c1,c2]) = _:=rfl
  have h:=equalIn_sig (P:=Tryz.prog) (d:=d + 1) (t:=55) (xs:=#[.int .i64 a0,.int .i64 a1,.int .i64 a2]) (ys:=#[.int .i64 c0,.int .i64 c1,.int .i64 c2]) (w:=w) (by kernel_rfl) (by kernel_rfl) (l:=[(true,3,0),(true,3,1),(true,3,2)]) (by kernel_rfl) (eqF_int (show Tryz.prog.underlying 3 = some (.int .i64) by kernel_rfl) rfl rfl (eqF_int (show Tryz.prog.underlying 3 = some (.int .i64) by kernel_rfl) rfl rfl (eqF_int (show Tryz.prog.underlying 3 = some (.int .i64) by kernel_rfl) rfl rfl eqF_nil)))
  rw [h]
  simp [Bool.decide_and,Bool.and_assoc]
theorem seqCo {d : Nat} (a0 a1 a2 c0 c1 c2 : Int) (w : World) : (Op.equalIn (d + 2) 93 (.agg #[.int .i64 a0,.int .i64 a1,.int .i64 a2]) (.agg #[.int .i64 c0,.int .i64 c1,.int .i64 c2])).run Tryz.prog w = .ok (decide ([a0,a1,a2] = [c0,c1,c2])) w:=by
  have e : decide ([a0,a1,a2] = [c0,c1,c2]) = _:=rfl
  have h:=equalIn_sig (P:=Tryz.prog) (d:=d + 1) (t:=93) (xs:=#[.int .i64 a0,.int .i64 a1,.int .i64 a2]) (ys:=#[.int .i64 c0,.int .i64 c1,.int .i64 c2]) (w:=w) (by kernel_rfl) (by kernel_rfl) (l:=[(true,3,0),(true,3,1),(true,3,2)]) (by kernel_rfl) (eqF_int (show Tryz.prog.underlying 3 = some (.int .i64) by kernel_rfl) rfl rfl (eqF_int (show Tryz.prog.underlying 3 = some (.int .i64) by kernel_rfl) rfl rfl (eqF_int (show Tryz.prog.underlying 3 = some (.int .i64) by kernel_rfl) rfl rfl eqF_nil)))
  rw [h]
  simp [Bool.decide_and,Bool.and_assoc]
theorem eqP (u v : Value) (xs ys : List (List Int)) (w : World) (hx : Tab 2 w u xs) (hy : Tab 2 w v ys) :
    Calls Tryz.prog 66 [u,v].toArray w (RetK fun r w'=>r = .bool (decide (xs = ys))∧Chg (fun _=>False) w w'):=by
  obtain ⟨a,cc,rfl⟩ :=hx.shape
  obtain ⟨a',cc',rfl⟩ :=hy.shape
  have hl:=hx.len
  have hl':=hy.len
  simp only [maxLen] at hl hl'
  have h:=Sep.nil w
  refine walk Tryz.func66 rfl (by kernel_rfl) (by rw [Tryz.nt66];simp) ?_
  replace h:=Zd h;have F:=Zf4 h
  refine Zv ?_
  by_cases hlen : (xs.length : Int) = ys.length
  case neg=>
    have e : decide (xs = ys) = false:=decide_eq_false fun e=>hlen (by rw [e])
    replace h:=Zd h;have F:=Zf4 h;refine Zs1 (J (decide_eq_false hlen) (decide_eq_true (show ¬ (xs.length : Int) = ys.length from hlen))) ?_
    exact ⟨by rw [e],h.done⟩
  replace h:=Zd h;have F:=Zf4 h;refine Zs1 (J (decide_eq_true hlen) (decide_eq_false (show ¬ ¬ (xs.length : Int) = ys.length from fun f=>f hlen))) ?_
  refine walkLoop [0,1,12] [13] (fun m vs w'=>∃ i,i≤xs.length∧m = xs.length - i∧vs = [.int .i64 i]∧xs.take i = ys.take i∧Sep w (fun _=>False) [] w') (by kernel_rfl) ?_ ?_
  · refine Zv ?_
    exact ⟨_,0,Nat.zero_le _,rfl,rfl,by simp,h⟩
  intro ks hk m vs w2 hi
  clear h F
  obtain ⟨i,hi,rfl,rfl,htk,h⟩ :=hi
  replace hk:=Zk hk;subst hk
  by_cases hlt : (i : Int) < xs.length
  case neg=>
    have hil : i = xs.length:=by omega
    have e : decide (xs = ys) = true:=decide_eq_true (by
      have h1 : xs.take i = xs:=List.take_of_length_le (by omega)
      have h2 : ys.take i = ys:=List.take_of_length_le (by omega)
      rw [h1,h2] at htk;exact htk)
    replace h:=Zd h;have F:=Zf4 h;refine Zs1 (decide_eq_false hlt) ?_
    exact ⟨by rw [e],h.done⟩
  have hil : i < xs.length:=by omega
  have hil' : i < ys.length:=by omega
  obtain ⟨b,o,rfl,hcx⟩ :=hx.at hil (by decide)
  obtain ⟨b',o',rfl,hcy⟩ :=hy.at hil' (by decide)
  have wx:=hx.wid _ (List.getElem_mem hil)
  have wy:=hy.wid _ (List.getElem_mem hil')
  have htk2 : xs[i] = ys[i]→xs.take (i + 1) = ys.take (i + 1):=fun e=>take_succ_eq htk hil hil' e
  have hne : xs[i]≠ys[i]→decide (xs = ys) = false:=fun e=>decide_eq_false fun f=>e (by subst f;rfl)
  generalize xs[i] = x at *
  generalize ys[i] = y at *
  obtain ⟨a0,a1,rfl⟩ :=len_2 wx
  obtain ⟨c0,c1,rfl⟩ :=len_2 wy
  have k0 : w.cell? ⟨b,o + i * 2,none⟩ = some (.int .i64 a0):=Tab.cell hcx 0 (by simp)
  have m0 : w.cell? ⟨b',o' + i * 2,none⟩ = some (.int .i64 c0):=Tab.cell hcy 0 (by simp)
  have k1 : w.cell? ⟨b,o + i * 2 + 1,none⟩ = some (.int .i64 a1):=Tab.cell hcx 1 (by simp)
  have m1 : w.cell? ⟨b',o' + i * 2 + 1,none⟩ = some (.int .i64 c1):=Tab.cell hcy 1 (by simp)
  have k0:=(h.cell0 (by rw [k0];rfl) id).trans k0
  have m0:=(h.cell0 (by rw [m0];rfl) id).trans m0
  have k1:=(h.cell0 (by rw [k1];rfl) id).trans k1
  have m1:=(h.cell0 (by rw [m1];rfl) id).trans m1
  have ei : IntKind.i64.wrap ((i : Int) + 1) = ((i + 1 : Nat) : Int):=by rw [i64w _ (by omega) (by omega)];omega
  have h0i : (0 : Int)≤i:=by omega
  have hlt' : (i : Int) < ys.length:=by omega
  replace h:=Zd h;have F:=Zf4 h;refine Zs1 (decide_eq_true hlt) ?_
  refine walkDraw (.q 0 (.q 1 (.q 2 (.q 4 (.q 5 (.q 6 (.h 3 0 (.h 7 2 (.q 8 .fin))))))))) [(b,o + i * 2,.int .i64 a0),(b,o + i * 2 + 1,.int .i64 a1),(b',o' + i * 2,.int .i64 c0),(b',o' + i * 2 + 1,.int .i64 c1)] (by kernel_rfl) (by simp [Holds_nil,Holds_cons,k0,m0,k1,m1]) ?_
  refine h.draw ?_
  clear h F
  intro w6 h
  replace h:=Zd h;have F:=Zf4 h;refine Zs ?_
  refine ⟨⟨h0i,hlt⟩,⟨h0i,hlt'⟩,binK_neq_agg (by kernel_rfl) (fun w=>seqPt (d:=9998) a0 a1 c0 c1 w) ?_⟩
  by_cases he : [a0,a1] = [c0,c1]
  case pos=>
    replace h:=Zd h;have F:=Zf4 h;refine Zs1 (J (decide_eq_true he) ei) ?_
    refine ⟨_,?_,i + 1,by omega,rfl,rfl,htk2 he,h⟩
    omega
  case neg=>
    replace h:=Zd h;have F:=Zf4 h;refine Zs1 (decide_eq_false he) ?_
    exact ⟨by rw [hne he],h.done⟩
theorem eqW (u v : Value) (xs ys : List (List Int)) (w : World) (hx : Tab 5 w u xs) (hy : Tab 5 w v ys) :
    Calls Tryz.prog 67 [u,v].toArray w (RetK fun r w'=>r = .bool (decide (xs = ys))∧Chg (fun _=>False) w w'):=by
  obtain ⟨a,cc,rfl⟩ :=hx.shape
  obtain ⟨a',cc',rfl⟩ :=hy.shape
  have hl:=hx.len
  have hl':=hy.len
  simp only [maxLen] at hl hl'
  have h:=Sep.nil w
  refine walk Tryz.func67 rfl (by kernel_rfl) (by rw [Tryz.nt67];simp) ?_
  replace h:=Zd h;have F:=Zf4 h
  refine Zv ?_
  by_cases hlen : (xs.length : Int) = ys.length
  case neg=>
    have e : decide (xs = ys) = false:=decide_eq_false fun e=>hlen (by rw [e])
    replace h:=Zd h;have F:=Zf4 h;refine Zs1 (J (decide_eq_false hlen) (decide_eq_true (show ¬ (xs.length : Int) = ys.length from hlen))) ?_
    exact ⟨by rw [e],h.done⟩
  replace h:=Zd h;have F:=Zf4 h;refine Zs1 (J (decide_eq_true hlen) (decide_eq_false (show ¬ ¬ (xs.length : Int) = ys.length from fun f=>f hlen))) ?_
  refine walkLoop [0,1,12] [13] (fun m vs w'=>∃ i,i≤xs.length∧m = xs.length - i∧vs = [.int .i64 i]∧xs.take i = ys.take i∧Sep w (fun _=>False) [] w') (by kernel_rfl) ?_ ?_
  · refine Zv ?_
    exact ⟨_,0,Nat.zero_le _,rfl,rfl,by simp,h⟩
  intro ks hk m vs w2 hi
  clear h F
  obtain ⟨i,hi,rfl,rfl,htk,h⟩ :=hi
  replace hk:=Zk hk;subst hk
  by_cases hlt : (i : Int) < xs.length
  case neg=>
    have hil : i = xs.length:=by omega
    have e : decide (xs = ys) = true:=decide_eq_true (by
      have h1 : xs.take i = xs:=List.take_of_length_le (by omega)
      have h2 : ys.take i = ys:=List.take_of_length_le (by omega)
      rw [h1,h2] at htk;exact htk)
    replace h:=Zd h;have F:=Zf4 h;refine Zs1 (decide_eq_false hlt) ?_
    exact ⟨by rw [e],h.done⟩
  have hil : i < xs.length:=by omega
  have hil' : i < ys.length:=by omega
  obtain ⟨b,o,rfl,hcx⟩ :=hx.at hil (by decide)
  obtain ⟨b',o',rfl,hcy⟩ :=hy.at hil' (by decide)
  have wx:=hx.wid _ (List.getElem_mem hil)
  have wy:=hy.wid _ (List.getElem_mem hil')
  have htk2 : xs[i] = ys[i]→xs.take (i + 1) = ys.take (i + 1):=fun e=>take_succ_eq htk hil hil' e
  have hne : xs[i]≠ys[i]→decide (xs = ys) = false:=fun e=>decide_eq_false fun f=>e (by subst f;rfl)
  generalize xs[i] = x at *
  generalize ys[i] = y at *
  obtain ⟨a0,a1,a2,a3,a4,rfl⟩ :=len_5 wx
  obtain ⟨c0,c1,c2,c3,c4,rfl⟩ :=len_5 wy
  have k0 : w.cell? ⟨b,o + i * 5,none⟩ = some (.int .i64 a0):=Tab.cell hcx 0 (by simp)
  have m0 : w.cell? ⟨b',o' + i * 5,none⟩ = some (.int .i64 c0):=Tab.cell hcy 0 (by simp)
  have k1 : w.cell? ⟨b,o + i * 5 + 1,none⟩ = some (.int .i64 a1):=Tab.cell hcx 1 (by simp)
  have m1 : w.cell? ⟨b',o' + i * 5 + 1,none⟩ = some (.int .i64 c1):=Tab.cell hcy 1 (by simp)
  have k2 : w.cell? ⟨b,o + i * 5 + 1 + 1,none⟩ = some (.int .i64 a2):=Tab.cell hcx 2 (by simp)
  have m2 : w.cell? ⟨b',o' + i * 5 + 1 + 1,none⟩ = some (.int .i64 c2):=Tab.cell hcy 2 (by simp)
  have k3 : w.cell? ⟨b,o + i * 5 + 1 + 1 + 1,none⟩ = some (.int .i64 a3):=Tab.cell hcx 3 (by simp)
  have m3 : w.cell? ⟨b',o' + i * 5 + 1 + 1 + 1,none⟩ = some (.int .i64 c3):=Tab.cell hcy 3 (by simp)
  have k4 : w.cell? ⟨b,o + i * 5 + 1 + 1 + 1 + 1,none⟩ = some (.int .i64 a4):=Tab.cell hcx 4 (by simp)
  have m4 : w.cell? ⟨b',o' + i * 5 + 1 + 1 + 1 + 1,none⟩ = some (.int .i64 c4):=Tab.cell hcy 4 (by simp)
  have k0:=(h.cell0 (by rw [k0];rfl) id).trans k0
  have m0:=(h.cell0 (by rw [m0];rfl) id).trans m0
  have k1:=(h.cell0 (by rw [k1];rfl) id).trans k1
  have m1:=(h.cell0 (by rw [m1];rfl) id).trans m1
  have k2:=(h.cell0 (by rw [k2];rfl) id).trans k2
  have m2:=(h.cell0 (by rw [m2];rfl) id).trans m2
  have k3:=(h.cell0 (by rw [k3];rfl) id).trans k3
  have m3:=(h.cell0 (by rw [m3];rfl) id).trans m3
  have k4:=(h.cell0 (by rw [k4];rfl) id).trans k4
  have m4:=(h.cell0 (by rw [m4];rfl) id).trans m4
  have ei : IntKind.i64.wrap ((i : Int) + 1) = ((i + 1 : Nat) : Int):=by rw [i64w _ (by omega) (by omega)];omega
  have h0i : (0 : Int)≤i:=by omega
  have hlt' : (i : Int) < ys.length:=by omega
  replace h:=Zd h;have F:=Zf4 h;refine Zs1 (decide_eq_true hlt) ?_
  refine walkDraw (.q 0 (.q 1 (.q 2 (.q 4 (.q 5 (.q 6 (.h 3 0 (.h 7 5 (.q 8 .fin))))))))) [(b,o + i * 5,.int .i64 a0),(b,o + i * 5 + 1,.int .i64 a1),(b,o + i * 5 + 1 + 1,.int .i64 a2),(b,o + i * 5 + 1 + 1 + 1,.int .i64 a3),(b,o + i * 5 + 1 + 1 + 1 + 1,.int .i64 a4),(b',o' + i * 5,.int .i64 c0),(b',o' + i * 5 + 1,.int .i64 c1),(b',o' + i * 5 + 1 + 1,.int .i64 c2),(b',o' + i * 5 + 1 + 1 + 1,.int .i64 c3),(b',o' + i * 5 + 1 + 1 + 1 + 1,.int .i64 c4)] (by kernel_rfl) (by simp [Holds_nil,Holds_cons,k0,m0,k1,m1,k2,m2,k3,m3,k4,m4]) ?_
  refine h.draw ?_
  clear h F
  intro w6 h
  replace h:=Zd h;have F:=Zf4 h;refine Zs ?_
  refine ⟨⟨h0i,hlt⟩,⟨h0i,hlt'⟩,binK_neq_agg (by kernel_rfl) (fun w=>seqW (d:=9997) a0 a1 a2 a3 a4 c0 c1 c2 c3 c4 w) ?_⟩
  by_cases he : [a0,a1,a2,a3,a4] = [c0,c1,c2,c3,c4]
  case pos=>
    replace h:=Zd h;have F:=Zf4 h;refine Zs1 (J (decide_eq_true he) ei) ?_
    refine ⟨_,?_,i + 1,by omega,rfl,rfl,htk2 he,h⟩
    omega
  case neg=>
    replace h:=Zd h;have F:=Zf4 h;refine Zs1 (decide_eq_false he) ?_
    exact ⟨by rw [hne he],h.done⟩
theorem eqPa (u v : Value) (xs ys : List (List Int)) (w : World) (hx : Tab 2 w u xs) (hy : Tab 2 w v ys) :
    Calls Tryz.prog 68 [u,v].toArray w (RetK fun r w'=>r = .bool (decide (xs = ys))∧Chg (fun _=>False) w w'):=by
  obtain ⟨a,cc,rfl⟩ :=hx.shape
  obtain ⟨a',cc',rfl⟩ :=hy.shape
  have hl:=hx.len
  have hl':=hy.len
  simp only [maxLen] at hl hl'
  have h:=Sep.nil w
  refine walk Tryz.func68 rfl (by kernel_rfl) (by rw [Tryz.nt68];simp) ?_
  replace h:=Zd h;have F:=Zf4 h
  refine Zv ?_
  by_cases hlen : (xs.length : Int) = ys.length
  case neg=>
    have e : decide (xs = ys) = false:=decide_eq_false fun e=>hlen (by rw [e])
    replace h:=Zd h;have F:=Zf4 h;refine Zs1 (J (decide_eq_false hlen) (decide_eq_true (show ¬ (xs.length : Int) = ys.length from hlen))) ?_
    exact ⟨by rw [e],h.done⟩
  replace h:=Zd h;have F:=Zf4 h;refine Zs1 (J (decide_eq_true hlen) (decide_eq_false (show ¬ ¬ (xs.length : Int) = ys.length from fun f=>f hlen))) ?_
  refine walkLoop [0,1,12] [13] (fun m vs w'=>∃ i,i≤xs.length∧m = xs.length - i∧vs = [.int .i64 i]∧xs.take i = ys.take i∧Sep w (fun _=>False) [] w') (by kernel_rfl) ?_ ?_
  · refine Zv ?_
    exact ⟨_,0,Nat.zero_le _,rfl,rfl,by simp,h⟩
  intro ks hk m vs w2 hi
  clear h F
  obtain ⟨i,hi,rfl,rfl,htk,h⟩ :=hi
  replace hk:=Zk hk;subst hk
  by_cases hlt : (i : Int) < xs.length
  case neg=>
    have hil : i = xs.length:=by omega
    have e : decide (xs = ys) = true:=decide_eq_true (by
      have h1 : xs.take i = xs:=List.take_of_length_le (by omega)
      have h2 : ys.take i = ys:=List.take_of_length_le (by omega)
      rw [h1,h2] at htk;exact htk)
    replace h:=Zd h;have F:=Zf4 h;refine Zs1 (decide_eq_false hlt) ?_
    exact ⟨by rw [e],h.done⟩
  have hil : i < xs.length:=by omega
  have hil' : i < ys.length:=by omega
  obtain ⟨b,o,rfl,hcx⟩ :=hx.at hil (by decide)
  obtain ⟨b',o',rfl,hcy⟩ :=hy.at hil' (by decide)
  have wx:=hx.wid _ (List.getElem_mem hil)
  have wy:=hy.wid _ (List.getElem_mem hil')
  have htk2 : xs[i] = ys[i]→xs.take (i + 1) = ys.take (i + 1):=fun e=>take_succ_eq htk hil hil' e
  have hne : xs[i]≠ys[i]→decide (xs = ys) = false:=fun e=>decide_eq_false fun f=>e (by subst f;rfl)
  generalize xs[i] = x at *
  generalize ys[i] = y at *
  obtain ⟨a0,a1,rfl⟩ :=len_2 wx
  obtain ⟨c0,c1,rfl⟩ :=len_2 wy
  have k0 : w.cell? ⟨b,o + i * 2,none⟩ = some (.int .i64 a0):=Tab.cell hcx 0 (by simp)
  have m0 : w.cell? ⟨b',o' + i * 2,none⟩ = some (.int .i64 c0):=Tab.cell hcy 0 (by simp)
  have k1 : w.cell? ⟨b,o + i * 2 + 1,none⟩ = some (.int .i64 a1):=Tab.cell hcx 1 (by simp)
  have m1 : w.cell? ⟨b',o' + i * 2 + 1,none⟩ = some (.int .i64 c1):=Tab.cell hcy 1 (by simp)
  have k0:=(h.cell0 (by rw [k0];rfl) id).trans k0
  have m0:=(h.cell0 (by rw [m0];rfl) id).trans m0
  have k1:=(h.cell0 (by rw [k1];rfl) id).trans k1
  have m1:=(h.cell0 (by rw [m1];rfl) id).trans m1
  have ei : IntKind.i64.wrap ((i : Int) + 1) = ((i + 1 : Nat) : Int):=by rw [i64w _ (by omega) (by omega)];omega
  have h0i : (0 : Int)≤i:=by omega
  have hlt' : (i : Int) < ys.length:=by omega
  replace h:=Zd h;have F:=Zf4 h;refine Zs1 (decide_eq_true hlt) ?_
  refine walkDraw (.q 0 (.q 1 (.q 2 (.q 4 (.q 5 (.q 6 (.h 3 0 (.h 7 2 (.q 8 .fin))))))))) [(b,o + i * 2,.int .i64 a0),(b,o + i * 2 + 1,.int .i64 a1),(b',o' + i * 2,.int .i64 c0),(b',o' + i * 2 + 1,.int .i64 c1)] (by kernel_rfl) (by simp [Holds_nil,Holds_cons,k0,m0,k1,m1]) ?_
  refine h.draw ?_
  clear h F
  intro w6 h
  replace h:=Zd h;have F:=Zf4 h;refine Zs ?_
  refine ⟨⟨h0i,hlt⟩,⟨h0i,hlt'⟩,binK_neq_agg (by kernel_rfl) (fun w=>seqPa (d:=9998) a0 a1 c0 c1 w) ?_⟩
  by_cases he : [a0,a1] = [c0,c1]
  case pos=>
    replace h:=Zd h;have F:=Zf4 h;refine Zs1 (J (decide_eq_true he) ei) ?_
    refine ⟨_,?_,i + 1,by omega,rfl,rfl,htk2 he,h⟩
    omega
  case neg=>
    replace h:=Zd h;have F:=Zf4 h;refine Zs1 (decide_eq_false he) ?_
    exact ⟨by rw [hne he],h.done⟩
theorem eqRe (u v : Value) (xs ys : List (List Int)) (w : World) (hx : Tab 10 w u xs) (hy : Tab 10 w v ys) :
    Calls Tryz.prog 69 [u,v].toArray w (RetK fun r w'=>r = .bool (decide (xs = ys))∧Chg (fun _=>False) w w'):=by
  obtain ⟨a,cc,rfl⟩ :=hx.shape
  obtain ⟨a',cc',rfl⟩ :=hy.shape
  have hl:=hx.len
  have hl':=hy.len
  simp only [maxLen] at hl hl'
  have h:=Sep.nil w
  refine walk Tryz.func69 rfl (by kernel_rfl) (by rw [Tryz.nt69];simp) ?_
  replace h:=Zd h;have F:=Zf4 h
  refine Zv ?_
  by_cases hlen : (xs.length : Int) = ys.length
  case neg=>
    have e : decide (xs = ys) = false:=decide_eq_false fun e=>hlen (by rw [e])
    replace h:=Zd h;have F:=Zf4 h;refine Zs1 (J (decide_eq_false hlen) (decide_eq_true (show ¬ (xs.length : Int) = ys.length from hlen))) ?_
    exact ⟨by rw [e],h.done⟩
  replace h:=Zd h;have F:=Zf4 h;refine Zs1 (J (decide_eq_true hlen) (decide_eq_false (show ¬ ¬ (xs.length : Int) = ys.length from fun f=>f hlen))) ?_
  refine walkLoop [0,1,12] [13] (fun m vs w'=>∃ i,i≤xs.length∧m = xs.length - i∧vs = [.int .i64 i]∧xs.take i = ys.take i∧Sep w (fun _=>False) [] w') (by kernel_rfl) ?_ ?_
  · refine Zv ?_
    exact ⟨_,0,Nat.zero_le _,rfl,rfl,by simp,h⟩
  intro ks hk m vs w2 hi
  clear h F
  obtain ⟨i,hi,rfl,rfl,htk,h⟩ :=hi
  replace hk:=Zk hk;subst hk
  by_cases hlt : (i : Int) < xs.length
  case neg=>
    have hil : i = xs.length:=by omega
    have e : decide (xs = ys) = true:=decide_eq_true (by
      have h1 : xs.take i = xs:=List.take_of_length_le (by omega)
      have h2 : ys.take i = ys:=List.take_of_length_le (by omega)
      rw [h1,h2] at htk;exact htk)
    replace h:=Zd h;have F:=Zf4 h;refine Zs1 (decide_eq_false hlt) ?_
    exact ⟨by rw [e],h.done⟩
  have hil : i < xs.length:=by omega
  have hil' : i < ys.length:=by omega
  obtain ⟨b,o,rfl,hcx⟩ :=hx.at hil (by decide)
  obtain ⟨b',o',rfl,hcy⟩ :=hy.at hil' (by decide)
  have wx:=hx.wid _ (List.getElem_mem hil)
  have wy:=hy.wid _ (List.getElem_mem hil')
  have htk2 : xs[i] = ys[i]→xs.take (i + 1) = ys.take (i + 1):=fun e=>take_succ_eq htk hil hil' e
  have hne : xs[i]≠ys[i]→decide (xs = ys) = false:=fun e=>decide_eq_false fun f=>e (by subst f;rfl)
  generalize xs[i] = x at *
  generalize ys[i] = y at *
  obtain ⟨a0,a1,a2,a3,a4,a5,a6,a7,a8,a9,rfl⟩ :=len_10 wx
  obtain ⟨c0,c1,c2,c3,c4,c5,c6,c7,c8,c9,rfl⟩ :=len_10 wy
  have k0 : w.cell? ⟨b,o + i * 10,none⟩ = some (.int .i64 a0):=Tab.cell hcx 0 (by simp)
  have m0 : w.cell? ⟨b',o' + i * 10,none⟩ = some (.int .i64 c0):=Tab.cell hcy 0 (by simp)
  have k1 : w.cell? ⟨b,o + i * 10 + 1,none⟩ = some (.int .i64 a1):=Tab.cell hcx 1 (by simp)
  have m1 : w.cell? ⟨b',o' + i * 10 + 1,none⟩ = some (.int .i64 c1):=Tab.cell hcy 1 (by simp)
  have k2 : w.cell? ⟨b,o + i * 10 + 1 + 1,none⟩ = some (.int .i64 a2):=Tab.cell hcx 2 (by simp)
  have m2 : w.cell? ⟨b',o' + i * 10 + 1 + 1,none⟩ = some (.int .i64 c2):=Tab.cell hcy 2 (by simp)
  have k3 : w.cell? ⟨b,o + i * 10 + 1 + 1 + 1,none⟩ = some (.int .i64 a3):=Tab.cell hcx 3 (by simp)
  have m3 : w.cell? ⟨b',o' + i * 10 + 1 + 1 + 1,none⟩ = some (.int .i64 c3):=Tab.cell hcy 3 (by simp)
  have k4 : w.cell? ⟨b,o + i * 10 + 1 + 1 + 1 + 1,none⟩ = some (.int .i64 a4):=Tab.cell hcx 4 (by simp)
  have m4 : w.cell? ⟨b',o' + i * 10 + 1 + 1 + 1 + 1,none⟩ = some (.int .i64 c4):=Tab.cell hcy 4 (by simp)
  have k5 : w.cell? ⟨b,o + i * 10 + 1 + 1 + 1 + 1 + 1,none⟩ = some (.int .i64 a5):=Tab.cell hcx 5 (by simp)
  have m5 : w.cell? ⟨b',o' + i * 10 + 1 + 1 + 1 + 1 + 1,none⟩ = some (.int .i64 c5):=Tab.cell hcy 5 (by simp)
  have k6 : w.cell? ⟨b,o + i * 10 + 1 + 1 + 1 + 1 + 1 + 1,none⟩ = some (.int .i64 a6):=Tab.cell hcx 6 (by simp)
  have m6 : w.cell? ⟨b',o' + i * 10 + 1 + 1 + 1 + 1 + 1 + 1,none⟩ = some (.int .i64 c6):=Tab.cell hcy 6 (by simp)
  have k7 : w.cell? ⟨b,o + i * 10 + 1 + 1 + 1 + 1 + 1 + 1 + 1,none⟩ = some (.int .i64 a7):=Tab.cell hcx 7 (by simp)
  have m7 : w.cell? ⟨b',o' + i * 10 + 1 + 1 + 1 + 1 + 1 + 1 + 1,none⟩ = some (.int .i64 c7):=Tab.cell hcy 7 (by simp)
  have k8 : w.cell? ⟨b,o + i * 10 + 1 + 1 + 1 + 1 + 1 + 1 + 1 + 1,none⟩ = some (.int .i64 a8):=Tab.cell hcx 8 (by simp)
  have m8 : w.cell? ⟨b',o' + i * 10 + 1 + 1 + 1 + 1 + 1 + 1 + 1 + 1,none⟩ = some (.int .i64 c8):=Tab.cell hcy 8 (by simp)
  have k9 : w.cell? ⟨b,o + i * 10 + 1 + 1 + 1 + 1 + 1 + 1 + 1 + 1 + 1,none⟩ = some (.int .i64 a9):=Tab.cell hcx 9 (by simp)
  have m9 : w.cell? ⟨b',o' + i * 10 + 1 + 1 + 1 + 1 + 1 + 1 + 1 + 1 + 1,none⟩ = some (.int .i64 c9):=Tab.cell hcy 9 (by simp)
  have k0:=(h.cell0 (by rw [k0];rfl) id).trans k0
  have m0:=(h.cell0 (by rw [m0];rfl) id).trans m0
  have k1:=(h.cell0 (by rw [k1];rfl) id).trans k1
  have m1:=(h.cell0 (by rw [m1];rfl) id).trans m1
  have k2:=(h.cell0 (by rw [k2];rfl) id).trans k2
  have m2:=(h.cell0 (by rw [m2];rfl) id).trans m2
  have k3:=(h.cell0 (by rw [k3];rfl) id).trans k3
  have m3:=(h.cell0 (by rw [m3];rfl) id).trans m3
  have k4:=(h.cell0 (by rw [k4];rfl) id).trans k4
  have m4:=(h.cell0 (by rw [m4];rfl) id).trans m4
  have k5:=(h.cell0 (by rw [k5];rfl) id).trans k5
  have m5:=(h.cell0 (by rw [m5];rfl) id).trans m5
  have k6:=(h.cell0 (by rw [k6];rfl) id).trans k6
  have m6:=(h.cell0 (by rw [m6];rfl) id).trans m6
  have k7:=(h.cell0 (by rw [k7];rfl) id).trans k7
  have m7:=(h.cell0 (by rw [m7];rfl) id).trans m7
  have k8:=(h.cell0 (by rw [k8];rfl) id).trans k8
  have m8:=(h.cell0 (by rw [m8];rfl) id).trans m8
  have k9:=(h.cell0 (by rw [k9];rfl) id).trans k9
  have m9:=(h.cell0 (by rw [m9];rfl) id).trans m9
  have ei : IntKind.i64.wrap ((i : Int) + 1) = ((i + 1 : Nat) : Int):=by rw [i64w _ (by omega) (by omega)];omega
  have h0i : (0 : Int)≤i:=by omega
  have hlt' : (i : Int) < ys.length:=by omega
  replace h:=Zd h;have F:=Zf4 h;refine Zs1 (decide_eq_true hlt) ?_
  refine walkDraw (.q 0 (.q 1 (.q 2 (.q 4 (.q 5 (.q 6 (.h 3 0 (.h 7 10 (.q 8 .fin))))))))) [(b,o + i * 10,.int .i64 a0),(b,o + i * 10 + 1,.int .i64 a1),(b,o + i * 10 + 1 + 1,.int .i64 a2),(b,o + i * 10 + 1 + 1 + 1,.int .i64 a3),(b,o + i * 10 + 1 + 1 + 1 + 1,.int .i64 a4),(b,o + i * 10 + 1 + 1 + 1 + 1 + 1,.int .i64 a5),(b,o + i * 10 + 1 + 1 + 1 + 1 + 1 + 1,.int .i64 a6),(b,o + i * 10 + 1 + 1 + 1 + 1 + 1 + 1 + 1,.int .i64 a7),(b,o + i * 10 + 1 + 1 + 1 + 1 + 1 + 1 + 1 + 1,.int .i64 a8),(b,o + i * 10 + 1 + 1 + 1 + 1 + 1 + 1 + 1 + 1 + 1,.int .i64 a9),(b',o' + i * 10,.int .i64 c0),(b',o' + i * 10 + 1,.int .i64 c1),(b',o' + i * 10 + 1 + 1,.int .i64 c2),(b',o' + i * 10 + 1 + 1 + 1,.int .i64 c3),(b',o' + i * 10 + 1 + 1 + 1 + 1,.int .i64 c4),(b',o' + i * 10 + 1 + 1 + 1 + 1 + 1,.int .i64 c5),(b',o' + i * 10 + 1 + 1 + 1 + 1 + 1 + 1,.int .i64 c6),(b',o' + i * 10 + 1 + 1 + 1 + 1 + 1 + 1 + 1,.int .i64 c7),(b',o' + i * 10 + 1 + 1 + 1 + 1 + 1 + 1 + 1 + 1,.int .i64 c8),(b',o' + i * 10 + 1 + 1 + 1 + 1 + 1 + 1 + 1 + 1 + 1,.int .i64 c9)] (by kernel_rfl) (by simp [Holds_nil,Holds_cons,k0,m0,k1,m1,k2,m2,k3,m3,k4,m4,k5,m5,k6,m6,k7,m7,k8,m8,k9,m9]) ?_
  refine h.draw ?_
  clear h F
  intro w6 h
  replace h:=Zd h;have F:=Zf4 h;refine Zs ?_
  refine ⟨⟨h0i,hlt⟩,⟨h0i,hlt'⟩,binK_neq_agg (by kernel_rfl) (fun w=>seqRe (d:=9996) a0 a1 a2 a3 a4 a5 a6 a7 a8 a9 c0 c1 c2 c3 c4 c5 c6 c7 c8 c9 w) ?_⟩
  by_cases he : [a0,a1,a2,a3,a4,a5,a6,a7,a8,a9] = [c0,c1,c2,c3,c4,c5,c6,c7,c8,c9]
  case pos=>
    replace h:=Zd h;have F:=Zf4 h;refine Zs1 (J (decide_eq_true he) ei) ?_
    refine ⟨_,?_,i + 1,by omega,rfl,rfl,htk2 he,h⟩
    omega
  case neg=>
    replace h:=Zd h;have F:=Zf4 h;refine Zs1 (decide_eq_false he) ?_
    exact ⟨by rw [hne he],h.done⟩
theorem eqCa (u v : Value) (xs ys : List (List Int)) (w : World) (hx : Tab 9 w u xs) (hy : Tab 9 w v ys) :
    Calls Tryz.prog 70 [u,v].toArray w (RetK fun r w'=>r = .bool (decide (xs = ys))∧Chg (fun _=>False) w w'):=by
  obtain ⟨a,cc,rfl⟩ :=hx.shape
  obtain ⟨a',cc',rfl⟩ :=hy.shape
  have hl:=hx.len
  have hl':=hy.len
  simp only [maxLen] at hl hl'
  have h:=Sep.nil w
  refine walk Tryz.func70 rfl (by kernel_rfl) (by rw [Tryz.nt70];simp) ?_
  replace h:=Zd h;have F:=Zf4 h
  refine Zv ?_
  by_cases hlen : (xs.length : Int) = ys.length
  case neg=>
    have e : decide (xs = ys) = false:=decide_eq_false fun e=>hlen (by rw [e])
    replace h:=Zd h;have F:=Zf4 h;refine Zs1 (J (decide_eq_false hlen) (decide_eq_true (show ¬ (xs.length : Int) = ys.length from hlen))) ?_
    exact ⟨by rw [e],h.done⟩
  replace h:=Zd h;have F:=Zf4 h;refine Zs1 (J (decide_eq_true hlen) (decide_eq_false (show ¬ ¬ (xs.length : Int) = ys.length from fun f=>f hlen))) ?_
  refine walkLoop [0,1,12] [13] (fun m vs w'=>∃ i,i≤xs.length∧m = xs.length - i∧vs = [.int .i64 i]∧xs.take i = ys.take i∧Sep w (fun _=>False) [] w') (by kernel_rfl) ?_ ?_
  · refine Zv ?_
    exact ⟨_,0,Nat.zero_le _,rfl,rfl,by simp,h⟩
  intro ks hk m vs w2 hi
  clear h F
  obtain ⟨i,hi,rfl,rfl,htk,h⟩ :=hi
  replace hk:=Zk hk;subst hk
  by_cases hlt : (i : Int) < xs.length
  case neg=>
    have hil : i = xs.length:=by omega
    have e : decide (xs = ys) = true:=decide_eq_true (by
      have h1 : xs.take i = xs:=List.take_of_length_le (by omega)
      have h2 : ys.take i = ys:=List.take_of_length_le (by omega)
      rw [h1,h2] at htk;exact htk)
    replace h:=Zd h;have F:=Zf4 h;refine Zs1 (decide_eq_false hlt) ?_
    exact ⟨by rw [e],h.done⟩
  have hil : i < xs.length:=by omega
  have hil' : i < ys.length:=by omega
  obtain ⟨b,o,rfl,hcx⟩ :=hx.at hil (by decide)
  obtain ⟨b',o',rfl,hcy⟩ :=hy.at hil' (by decide)
  have wx:=hx.wid _ (List.getElem_mem hil)
  have wy:=hy.wid _ (List.getElem_mem hil')
  have htk2 : xs[i] = ys[i]→xs.take (i + 1) = ys.take (i + 1):=fun e=>take_succ_eq htk hil hil' e
  have hne : xs[i]≠ys[i]→decide (xs = ys) = false:=fun e=>decide_eq_false fun f=>e (by subst f;rfl)
  generalize xs[i] = x at *
  generalize ys[i] = y at *
  obtain ⟨a0,a1,a2,a3,a4,a5,a6,a7,a8,rfl⟩ :=len_9 wx
  obtain ⟨c0,c1,c2,c3,c4,c5,c6,c7,c8,rfl⟩ :=len_9 wy
  have k0 : w.cell? ⟨b,o + i * 9,none⟩ = some (.int .i64 a0):=Tab.cell hcx 0 (by simp)
  have m0 : w.cell? ⟨b',o' + i * 9,none⟩ = some (.int .i64 c0):=Tab.cell hcy 0 (by simp)
  have k1 : w.cell? ⟨b,o + i * 9 + 1,none⟩ = some (.int .i64 a1):=Tab.cell hcx 1 (by simp)
  have m1 : w.cell? ⟨b',o' + i * 9 + 1,none⟩ = some (.int .i64 c1):=Tab.cell hcy 1 (by simp)
  have k2 : w.cell? ⟨b,o + i * 9 + 1 + 1,none⟩ = some (.int .i64 a2):=Tab.cell hcx 2 (by simp)
  have m2 : w.cell? ⟨b',o' + i * 9 + 1 + 1,none⟩ = some (.int .i64 c2):=Tab.cell hcy 2 (by simp)
  have k3 : w.cell? ⟨b,o + i * 9 + 1 + 1 + 1,none⟩ = some (.int .i64 a3):=Tab.cell hcx 3 (by simp)
  have m3 : w.cell? ⟨b',o' + i * 9 + 1 + 1 + 1,none⟩ = some (.int .i64 c3):=Tab.cell hcy 3 (by simp)
  have k4 : w.cell? ⟨b,o + i * 9 + 1 + 1 + 1 + 1,none⟩ = some (.int .i64 a4):=Tab.cell hcx 4 (by simp)
  have m4 : w.cell? ⟨b',o' + i * 9 + 1 + 1 + 1 + 1,none⟩ = some (.int .i64 c4):=Tab.cell hcy 4 (by simp)
  have k5 : w.cell? ⟨b,o + i * 9 + 1 + 1 + 1 + 1 + 1,none⟩ = some (.int .i64 a5):=Tab.cell hcx 5 (by simp)
  have m5 : w.cell? ⟨b',o' + i * 9 + 1 + 1 + 1 + 1 + 1,none⟩ = some (.int .i64 c5):=Tab.cell hcy 5 (by simp)
  have k6 : w.cell? ⟨b,o + i * 9 + 1 + 1 + 1 + 1 + 1 + 1,none⟩ = some (.int .i64 a6):=Tab.cell hcx 6 (by simp)
  have m6 : w.cell? ⟨b',o' + i * 9 + 1 + 1 + 1 + 1 + 1 + 1,none⟩ = some (.int .i64 c6):=Tab.cell hcy 6 (by simp)
  have k7 : w.cell? ⟨b,o + i * 9 + 1 + 1 + 1 + 1 + 1 + 1 + 1,none⟩ = some (.int .i64 a7):=Tab.cell hcx 7 (by simp)
  have m7 : w.cell? ⟨b',o' + i * 9 + 1 + 1 + 1 + 1 + 1 + 1 + 1,none⟩ = some (.int .i64 c7):=Tab.cell hcy 7 (by simp)
  have k8 : w.cell? ⟨b,o + i * 9 + 1 + 1 + 1 + 1 + 1 + 1 + 1 + 1,none⟩ = some (.int .i64 a8):=Tab.cell hcx 8 (by simp)
  have m8 : w.cell? ⟨b',o' + i * 9 + 1 + 1 + 1 + 1 + 1 + 1 + 1 + 1,none⟩ = some (.int .i64 c8):=Tab.cell hcy 8 (by simp)
  have k0:=(h.cell0 (by rw [k0];rfl) id).trans k0
  have m0:=(h.cell0 (by rw [m0];rfl) id).trans m0
  have k1:=(h.cell0 (by rw [k1];rfl) id).trans k1
  have m1:=(h.cell0 (by rw [m1];rfl) id).trans m1
  have k2:=(h.cell0 (by rw [k2];rfl) id).trans k2
  have m2:=(h.cell0 (by rw [m2];rfl) id).trans m2
  have k3:=(h.cell0 (by rw [k3];rfl) id).trans k3
  have m3:=(h.cell0 (by rw [m3];rfl) id).trans m3
  have k4:=(h.cell0 (by rw [k4];rfl) id).trans k4
  have m4:=(h.cell0 (by rw [m4];rfl) id).trans m4
  have k5:=(h.cell0 (by rw [k5];rfl) id).trans k5
  have m5:=(h.cell0 (by rw [m5];rfl) id).trans m5
  have k6:=(h.cell0 (by rw [k6];rfl) id).trans k6
  have m6:=(h.cell0 (by rw [m6];rfl) id).trans m6
  have k7:=(h.cell0 (by rw [k7];rfl) id).trans k7
  have m7:=(h.cell0 (by rw [m7];rfl) id).trans m7
  have k8:=(h.cell0 (by rw [k8];rfl) id).trans k8
  have m8:=(h.cell0 (by rw [m8];rfl) id).trans m8
  have ei : IntKind.i64.wrap ((i : Int) + 1) = ((i + 1 : Nat) : Int):=by rw [i64w _ (by omega) (by omega)];omega
  have h0i : (0 : Int)≤i:=by omega
  have hlt' : (i : Int) < ys.length:=by omega
  replace h:=Zd h;have F:=Zf4 h;refine Zs1 (decide_eq_true hlt) ?_
  refine walkDraw (.q 0 (.q 1 (.q 2 (.q 4 (.q 5 (.q 6 (.h 3 0 (.h 7 9 (.q 8 .fin))))))))) [(b,o + i * 9,.int .i64 a0),(b,o + i * 9 + 1,.int .i64 a1),(b,o + i * 9 + 1 + 1,.int .i64 a2),(b,o + i * 9 + 1 + 1 + 1,.int .i64 a3),(b,o + i * 9 + 1 + 1 + 1 + 1,.int .i64 a4),(b,o + i * 9 + 1 + 1 + 1 + 1 + 1,.int .i64 a5),(b,o + i * 9 + 1 + 1 + 1 + 1 + 1 + 1,.int .i64 a6),(b,o + i * 9 + 1 + 1 + 1 + 1 + 1 + 1 + 1,.int .i64 a7),(b,o + i * 9 + 1 + 1 + 1 + 1 + 1 + 1 + 1 + 1,.int .i64 a8),(b',o' + i * 9,.int .i64 c0),(b',o' + i * 9 + 1,.int .i64 c1),(b',o' + i * 9 + 1 + 1,.int .i64 c2),(b',o' + i * 9 + 1 + 1 + 1,.int .i64 c3),(b',o' + i * 9 + 1 + 1 + 1 + 1,.int .i64 c4),(b',o' + i * 9 + 1 + 1 + 1 + 1 + 1,.int .i64 c5),(b',o' + i * 9 + 1 + 1 + 1 + 1 + 1 + 1,.int .i64 c6),(b',o' + i * 9 + 1 + 1 + 1 + 1 + 1 + 1 + 1,.int .i64 c7),(b',o' + i * 9 + 1 + 1 + 1 + 1 + 1 + 1 + 1 + 1,.int .i64 c8)] (by kernel_rfl) (by simp [Holds_nil,Holds_cons,k0,m0,k1,m1,k2,m2,k3,m3,k4,m4,k5,m5,k6,m6,k7,m7,k8,m8]) ?_
  refine h.draw ?_
  clear h F
  intro w6 h
  replace h:=Zd h;have F:=Zf4 h;refine Zs ?_
  refine ⟨⟨h0i,hlt⟩,⟨h0i,hlt'⟩,binK_neq_agg (by kernel_rfl) (fun w=>seqCa (d:=9998) a0 a1 a2 a3 a4 a5 a6 a7 a8 c0 c1 c2 c3 c4 c5 c6 c7 c8 w) ?_⟩
  by_cases he : [a0,a1,a2,a3,a4,a5,a6,a7,a8] = [c0,c1,c2,c3,c4,c5,c6,c7,c8]
  case pos=>
    replace h:=Zd h;have F:=Zf4 h;refine Zs1 (J (decide_eq_true he) ei) ?_
    refine ⟨_,?_,i + 1,by omega,rfl,rfl,htk2 he,h⟩
    omega
  case neg=>
    replace h:=Zd h;have F:=Zf4 h;refine Zs1 (decide_eq_false he) ?_
    exact ⟨by rw [hne he],h.done⟩
theorem eqIs (u v : Value) (xs ys : List (List Int)) (w : World) (hx : Tab 3 w u xs) (hy : Tab 3 w v ys) :
    Calls Tryz.prog 71 [u,v].toArray w (RetK fun r w'=>r = .bool (decide (xs = ys))∧Chg (fun _=>False) w w'):=by
  obtain ⟨a,cc,rfl⟩ :=hx.shape
  obtain ⟨a',cc',rfl⟩ :=hy.shape
  have hl:=hx.len
  have hl':=hy.len
  simp only [maxLen] at hl hl'
  have h:=Sep.nil w
  refine walk Tryz.func71 rfl (by kernel_rfl) (by rw [Tryz.nt71];simp) ?_
  replace h:=Zd h;have F:=Zf4 h
  refine Zv ?_
  by_cases hlen : (xs.length : Int) = ys.length
  case neg=>
    have e : decide (xs = ys) = false:=decide_eq_false fun e=>hlen (by rw [e])
    replace h:=Zd h;have F:=Zf4 h;refine Zs1 (J (decide_eq_false hlen) (decide_eq_true (show ¬ (xs.length : Int) = ys.length from hlen))) ?_
    exact ⟨by rw [e],h.done⟩
  replace h:=Zd h;have F:=Zf4 h;refine Zs1 (J (decide_eq_true hlen) (decide_eq_false (show ¬ ¬ (xs.length : Int) = ys.length from fun f=>f hlen))) ?_
  refine walkLoop [0,1,12] [13] (fun m vs w'=>∃ i,i≤xs.length∧m = xs.length - i∧vs = [.int .i64 i]∧xs.take i = ys.take i∧Sep w (fun _=>False) [] w') (by kernel_rfl) ?_ ?_
  · refine Zv ?_
    exact ⟨_,0,Nat.zero_le _,rfl,rfl,by simp,h⟩
  intro ks hk m vs w2 hi
  clear h F
  obtain ⟨i,hi,rfl,rfl,htk,h⟩ :=hi
  replace hk:=Zk hk;subst hk
  by_cases hlt : (i : Int) < xs.length
  case neg=>
    have hil : i = xs.length:=by omega
    have e : decide (xs = ys) = true:=decide_eq_true (by
      have h1 : xs.take i = xs:=List.take_of_length_le (by omega)
      have h2 : ys.take i = ys:=List.take_of_length_le (by omega)
      rw [h1,h2] at htk;exact htk)
    replace h:=Zd h;have F:=Zf4 h;refine Zs1 (decide_eq_false hlt) ?_
    exact ⟨by rw [e],h.done⟩
  have hil : i < xs.length:=by omega
  have hil' : i < ys.length:=by omega
  obtain ⟨b,o,rfl,hcx⟩ :=hx.at hil (by decide)
  obtain ⟨b',o',rfl,hcy⟩ :=hy.at hil' (by decide)
  have wx:=hx.wid _ (List.getElem_mem hil)
  have wy:=hy.wid _ (List.getElem_mem hil')
  have htk2 : xs[i] = ys[i]→xs.take (i + 1) = ys.take (i + 1):=fun e=>take_succ_eq htk hil hil' e
  have hne : xs[i]≠ys[i]→decide (xs = ys) = false:=fun e=>decide_eq_false fun f=>e (by subst f;rfl)
  generalize xs[i] = x at *
  generalize ys[i] = y at *
  obtain ⟨a0,a1,a2,rfl⟩ :=len_3 wx
  obtain ⟨c0,c1,c2,rfl⟩ :=len_3 wy
  have k0 : w.cell? ⟨b,o + i * 3,none⟩ = some (.int .i64 a0):=Tab.cell hcx 0 (by simp)
  have m0 : w.cell? ⟨b',o' + i * 3,none⟩ = some (.int .i64 c0):=Tab.cell hcy 0 (by simp)
  have k1 : w.cell? ⟨b,o + i * 3 + 1,none⟩ = some (.int .i64 a1):=Tab.cell hcx 1 (by simp)
  have m1 : w.cell? ⟨b',o' + i * 3 + 1,none⟩ = some (.int .i64 c1):=Tab.cell hcy 1 (by simp)
  have k2 : w.cell? ⟨b,o + i * 3 + 1 + 1,none⟩ = some (.int .i64 a2):=Tab.cell hcx 2 (by simp)
  have m2 : w.cell? ⟨b',o' + i * 3 + 1 + 1,none⟩ = some (.int .i64 c2):=Tab.cell hcy 2 (by simp)
  have k0:=(h.cell0 (by rw [k0];rfl) id).trans k0
  have m0:=(h.cell0 (by rw [m0];rfl) id).trans m0
  have k1:=(h.cell0 (by rw [k1];rfl) id).trans k1
  have m1:=(h.cell0 (by rw [m1];rfl) id).trans m1
  have k2:=(h.cell0 (by rw [k2];rfl) id).trans k2
  have m2:=(h.cell0 (by rw [m2];rfl) id).trans m2
  have ei : IntKind.i64.wrap ((i : Int) + 1) = ((i + 1 : Nat) : Int):=by rw [i64w _ (by omega) (by omega)];omega
  have h0i : (0 : Int)≤i:=by omega
  have hlt' : (i : Int) < ys.length:=by omega
  replace h:=Zd h;have F:=Zf4 h;refine Zs1 (decide_eq_true hlt) ?_
  refine walkDraw (.q 0 (.q 1 (.q 2 (.q 4 (.q 5 (.q 6 (.h 3 0 (.h 7 3 (.q 8 .fin))))))))) [(b,o + i * 3,.int .i64 a0),(b,o + i * 3 + 1,.int .i64 a1),(b,o + i * 3 + 1 + 1,.int .i64 a2),(b',o' + i * 3,.int .i64 c0),(b',o' + i * 3 + 1,.int .i64 c1),(b',o' + i * 3 + 1 + 1,.int .i64 c2)] (by kernel_rfl) (by simp [Holds_nil,Holds_cons,k0,m0,k1,m1,k2,m2]) ?_
  refine h.draw ?_
  clear h F
  intro w6 h
  replace h:=Zd h;have F:=Zf4 h;refine Zs ?_
  refine ⟨⟨h0i,hlt⟩,⟨h0i,hlt'⟩,binK_neq_agg (by kernel_rfl) (fun w=>seqIs (d:=9998) a0 a1 a2 c0 c1 c2 w) ?_⟩
  by_cases he : [a0,a1,a2] = [c0,c1,c2]
  case pos=>
    replace h:=Zd h;have F:=Zf4 h;refine Zs1 (J (decide_eq_true he) ei) ?_
    refine ⟨_,?_,i + 1,by omega,rfl,rfl,htk2 he,h⟩
    omega
  case neg=>
    replace h:=Zd h;have F:=Zf4 h;refine Zs1 (decide_eq_false he) ?_
    exact ⟨by rw [hne he],h.done⟩
theorem eqCo (u v : Value) (xs ys : List (List Int)) (w : World) (hx : Tab 3 w u xs) (hy : Tab 3 w v ys) :
    Calls Tryz.prog 72 [u,v].toArray w (RetK fun r w'=>r = .bool (decide (xs = ys))∧Chg (fun _=>False) w w'):=by
  obtain ⟨a,cc,rfl⟩ :=hx.shape
  obtain ⟨a',cc',rfl⟩ :=hy.shape
  have hl:=hx.len
  have hl':=hy.len
  simp only [maxLen] at hl hl'
  have h:=Sep.nil w
  refine walk Tryz.func72 rfl (by kernel_rfl) (by rw [Tryz.nt72];simp) ?_
  replace h:=Zd h;have F:=Zf4 h
  refine Zv ?_
  by_cases hlen : (xs.length : Int) = ys.length
  case neg=>
    have e : decide (xs = ys) = false:=decide_eq_false fun e=>hlen (by rw [e])
    replace h:=Zd h;have F:=Zf4 h;refine Zs1 (J (decide_eq_false hlen) (decide_eq_true (show ¬ (xs.length : Int) = ys.length from hlen))) ?_
    exact ⟨by rw [e],h.done⟩
  replace h:=Zd h;have F:=Zf4 h;refine Zs1 (J (decide_eq_true hlen) (decide_eq_false (show ¬ ¬ (xs.length : Int) = ys.length from fun f=>f hlen))) ?_
  refine walkLoop [0,1,12] [13] (fun m vs w'=>∃ i,i≤xs.length∧m = xs.length - i∧vs = [.int .i64 i]∧xs.take i = ys.take i∧Sep w (fun _=>False) [] w') (by kernel_rfl) ?_ ?_
  · refine Zv ?_
    exact ⟨_,0,Nat.zero_le _,rfl,rfl,by simp,h⟩
  intro ks hk m vs w2 hi
  clear h F
  obtain ⟨i,hi,rfl,rfl,htk,h⟩ :=hi
  replace hk:=Zk hk;subst hk
  by_cases hlt : (i : Int) < xs.length
  case neg=>
    have hil : i = xs.length:=by omega
    have e : decide (xs = ys) = true:=decide_eq_true (by
      have h1 : xs.take i = xs:=List.take_of_length_le (by omega)
      have h2 : ys.take i = ys:=List.take_of_length_le (by omega)
      rw [h1,h2] at htk;exact htk)
    replace h:=Zd h;have F:=Zf4 h;refine Zs1 (decide_eq_false hlt) ?_
    exact ⟨by rw [e],h.done⟩
  have hil : i < xs.length:=by omega
  have hil' : i < ys.length:=by omega
  obtain ⟨b,o,rfl,hcx⟩ :=hx.at hil (by decide)
  obtain ⟨b',o',rfl,hcy⟩ :=hy.at hil' (by decide)
  have wx:=hx.wid _ (List.getElem_mem hil)
  have wy:=hy.wid _ (List.getElem_mem hil')
  have htk2 : xs[i] = ys[i]→xs.take (i + 1) = ys.take (i + 1):=fun e=>take_succ_eq htk hil hil' e
  have hne : xs[i]≠ys[i]→decide (xs = ys) = false:=fun e=>decide_eq_false fun f=>e (by subst f;rfl)
  generalize xs[i] = x at *
  generalize ys[i] = y at *
  obtain ⟨a0,a1,a2,rfl⟩ :=len_3 wx
  obtain ⟨c0,c1,c2,rfl⟩ :=len_3 wy
  have k0 : w.cell? ⟨b,o + i * 3,none⟩ = some (.int .i64 a0):=Tab.cell hcx 0 (by simp)
  have m0 : w.cell? ⟨b',o' + i * 3,none⟩ = some (.int .i64 c0):=Tab.cell hcy 0 (by simp)
  have k1 : w.cell? ⟨b,o + i * 3 + 1,none⟩ = some (.int .i64 a1):=Tab.cell hcx 1 (by simp)
  have m1 : w.cell? ⟨b',o' + i * 3 + 1,none⟩ = some (.int .i64 c1):=Tab.cell hcy 1 (by simp)
  have k2 : w.cell? ⟨b,o + i * 3 + 1 + 1,none⟩ = some (.int .i64 a2):=Tab.cell hcx 2 (by simp)
  have m2 : w.cell? ⟨b',o' + i * 3 + 1 + 1,none⟩ = some (.int .i64 c2):=Tab.cell hcy 2 (by simp)
  have k0:=(h.cell0 (by rw [k0];rfl) id).trans k0
  have m0:=(h.cell0 (by rw [m0];rfl) id).trans m0
  have k1:=(h.cell0 (by rw [k1];rfl) id).trans k1
  have m1:=(h.cell0 (by rw [m1];rfl) id).trans m1
  have k2:=(h.cell0 (by rw [k2];rfl) id).trans k2
  have m2:=(h.cell0 (by rw [m2];rfl) id).trans m2
  have ei : IntKind.i64.wrap ((i : Int) + 1) = ((i + 1 : Nat) : Int):=by rw [i64w _ (by omega) (by omega)];omega
  have h0i : (0 : Int)≤i:=by omega
  have hlt' : (i : Int) < ys.length:=by omega
  replace h:=Zd h;have F:=Zf4 h;refine Zs1 (decide_eq_true hlt) ?_
  refine walkDraw (.q 0 (.q 1 (.q 2 (.q 4 (.q 5 (.q 6 (.h 3 0 (.h 7 3 (.q 8 .fin))))))))) [(b,o + i * 3,.int .i64 a0),(b,o + i * 3 + 1,.int .i64 a1),(b,o + i * 3 + 1 + 1,.int .i64 a2),(b',o' + i * 3,.int .i64 c0),(b',o' + i * 3 + 1,.int .i64 c1),(b',o' + i * 3 + 1 + 1,.int .i64 c2)] (by kernel_rfl) (by simp [Holds_nil,Holds_cons,k0,m0,k1,m1,k2,m2]) ?_
  refine h.draw ?_
  clear h F
  intro w6 h
  replace h:=Zd h;have F:=Zf4 h;refine Zs ?_
  refine ⟨⟨h0i,hlt⟩,⟨h0i,hlt'⟩,binK_neq_agg (by kernel_rfl) (fun w=>seqCo (d:=9998) a0 a1 a2 c0 c1 c2 w) ?_⟩
  by_cases he : [a0,a1,a2] = [c0,c1,c2]
  case pos=>
    replace h:=Zd h;have F:=Zf4 h;refine Zs1 (J (decide_eq_true he) ei) ?_
    refine ⟨_,?_,i + 1,by omega,rfl,rfl,htk2 he,h⟩
    omega
  case neg=>
    replace h:=Zd h;have F:=Zf4 h;refine Zs1 (decide_eq_false he) ?_
    exact ⟨by rw [hne he],h.done⟩
end Go.Proofs.YtnhgjgoglmadnaaGreat
