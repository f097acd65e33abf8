/- Joined texts of this claim (part 27), printed by a program of this work. The last part holds the claimed theorem: the law answers true at every input of its row. -/
import Derived.Test.YtnhgjgoglmadnaaGreatSPFieldsz
set_option maxHeartbeats 4000000
namespace Go.Proofs.YtnhgjgoglmadnaaGreat
open Go.RowKit
set_option maxRecDepth 100000
set_option linter.unusedSimpArgs false
set_option linter.unusedVariables false
theorem Row.cut {w : World} {s : Nat} {a : Option Addr} {n c k : Nat} {cs : List Value} (h : Row s w (.slice a n c) k cs) {l m : Nat} (hl : l ≤ m) (hm : m ≤ n) :
    Row s w (.slice (cutA a c l s) (m - l) (c - l)) (m - l) ((cs.drop (l * s)).take ((m - l) * s)):=by
  obtain ⟨h1,h2,a',c',e,h3,h4,h5,h6⟩ :=h
  injection e with e1 e2 e3
  subst e1 e2 e3
  have hms : (m - l) * s = m * s - l * s:=Nat.sub_mul ..
  have hls : l * s≤m * s:=Nat.mul_le_mul_right s hl
  have hns : m * s≤n * s:=Nat.mul_le_mul_right s hm
  refine ⟨by simp;omega,fun u hu=>h2 u (List.mem_of_mem_drop (List.mem_of_mem_take hu)),cutA a c l s,c - l,rfl,by omega,by omega,fun hn=>?_,fun hp=>?_⟩
  · unfold cutA at hn
    split at hn
    · omega
    · cases a with
      | none=>have:=h5 rfl;omega
      | some a=>cases hn
  · obtain ⟨b,o,rfl,hc⟩ :=h6 (by omega)
    refine ⟨b,o + l * s,by simp [cutA,show ¬ c = l by omega,add_off],fun j u hj=>?_⟩
    rw [Nat.add_assoc]
    refine hc (l * s + j) u ?_
    rw [List.getElem?_take] at hj
    split at hj
    · rw [List.getElem?_drop] at hj;exact hj
    · cases hj
theorem flatT_cut {s : Nat} : ∀ {xs : List (List Int)} (l k : Nat),(∀ x ∈ xs,x.length = s)→((flatT xs).drop (l * s)).take (k * s) = flatT ((xs.drop l).take k)
  | [],l,k,h=>by simp [flatT]
  | x :: xs,0,k,h=>by
    have hx:=h x (.head _)
    cases k with
    | zero=>simp [flatT]
    | succ k=>
      have ih:=flatT_cut (xs:=xs) 0 k (fun y hy=>h y (.tail _ hy))
      simp only [Nat.zero_mul,List.drop_zero] at ih ⊢
      simp only [List.take_succ_cons]
      show (cellsI x ++ flatT xs).take ((k + 1) * s) = cellsI x ++ flatT (xs.take k)
      rw [List.take_append,cellsI_len,hx,List.take_of_length_le (by rw [cellsI_len,hx,Nat.add_mul];omega),show (k + 1) * s - s = k * s by rw [Nat.add_mul];omega,ih]
  | x :: xs,l + 1,k,h=>by
    have hx:=h x (.head _)
    have ih:=flatT_cut (xs:=xs) l k (fun y hy=>h y (.tail _ hy))
    show ((cellsI x ++ flatT xs).drop ((l + 1) * s)).take (k * s) = flatT ((xs.drop l).take k)
    rw [List.drop_append,cellsI_len,hx,List.drop_eq_nil_of_le (by rw [cellsI_len,hx,Nat.add_mul];omega),List.nil_append,show (l + 1) * s - s = l * s by rw [Nat.add_mul];omega,ih]
theorem Tab.cut {s : Nat} {w : World} {a : Option Addr} {n c : Nat} {xs : List (List Int)} (h : Tab s w (.slice a n c) xs) {l m : Nat} (hl : l ≤ m) (hm : m ≤ n) :
    Tab s w (.slice (cutA a c l s) (m - l) (c - l)) ((xs.drop l).take (m - l)):=by
  have hn : n = xs.length:=by
    obtain ⟨_,_,e⟩ :=h.shape
    injection e
  have e : ((xs.drop l).take (m - l)).length = m - l:=by simp;omega
  refine ⟨fun x hx=>h.wid x (List.mem_of_mem_drop (List.mem_of_mem_take hx)),?_⟩
  rw [e,← flatT_cut l (m - l) h.wid]
  exact h.row.cut hl hm
def SubT (s : Nat) (v : Value) (xs : List (List Int)) (u : Value) (ys : List (List Int)) : Prop:=∀ w,Tab s w v xs→Tab s w u ys
theorem SubT.cut {s : Nat} {v : Value} {xs : List (List Int)} {a : Option Addr} {n c : Nat} {ys : List (List Int)} (h : SubT s v xs (.slice a n c) ys) {l m : Nat} (hl : l ≤ m) (hm : m ≤ n) :
    SubT s v xs (.slice (cutA a c l s) (m - l) (c - l)) ((ys.drop l).take (m - l)):=fun w hw=>(h w hw).cut hl hm
theorem infoT : (Tryz.prog.info? 49).map (fun i=>(i.zero,i.size,i.bytes)) = some (some (.agg #[.int .i64 0,.int .i64 0,.int .i64 0,.int .i64 0,.int .i64 0,.int .i64 0]),6,48):=by kernel_rfl
theorem Tab.six {w : World} {a : Option Addr} {n c : Nat} {x : T3} {xs : List (List Int)} (h : Tab 6 w (.slice a n c) (x.row :: xs)) : ∃ b o,a = some ⟨b,o,none⟩ ∧(w.cell? ⟨b,o,none⟩ = some (.int .i64 x.ax)∧w.cell? ⟨b,o + 1,none⟩ = some (.int .i64 x.ay)∧w.cell? ⟨b,o + 2,none⟩ = some (.int .i64 x.bx)∧w.cell? ⟨b,o + 3,none⟩ = some (.int .i64 x.by')∧w.cell? ⟨b,o + 4,none⟩ = some (.int .i64 x.cx)∧w.cell? ⟨b,o + 5,none⟩ = some (.int .i64 x.cy))∧cellsAt w b o 6 = some x.cells:=by
  obtain ⟨b,o,e,hc⟩ :=h.at (i:=0) (by simp) (by decide)
  have k:=fun (j : Nat) (hj : j < 6)=>Tab.cell (x:=x.row) (j:=j) hc (by simpa [T3.row] using hj)
  rw [Nat.zero_mul,Nat.add_zero] at hc
  simp only [Nat.zero_mul,Nat.add_zero] at k
  exact ⟨b,o,e,⟨k 0 (by decide),k 1 (by decide),k 2 (by decide),k 3 (by decide),k 4 (by decide),k 5 (by decide)⟩,hc⟩
theorem Tab.six' {w : World} {b o n c : Nat} {x : T3} {xs : List (List Int)} (h : Tab 6 w (.slice (some ⟨b,o,none⟩) n c) (x.row :: xs)) : w.cell? ⟨b,o,none⟩ = some (.int .i64 x.ax)∧w.cell? ⟨b,o + 1,none⟩ = some (.int .i64 x.ay)∧w.cell? ⟨b,o + 2,none⟩ = some (.int .i64 x.bx)∧w.cell? ⟨b,o + 3,none⟩ = some (.int .i64 x.by')∧w.cell? ⟨b,o + 4,none⟩ = some (.int .i64 x.cx)∧w.cell? ⟨b,o + 5,none⟩ = some (.int .i64 x.cy):=by
  obtain ⟨b',o',e,h,_⟩ :=h.six
  injection e with e
  injection e with e1 e2
  subst e1 e2
  exact h
theorem rows_app (L : List T3) (x : T3) : rowsT (L ++ [x]) = rowsT L ++ [x.row]:=by simp
theorem rows_len (L : List T3) (x : T3) : (rowsT L ++ [x.row]).length = (L ++ [x]).length:=by simp
/-- the innermost loop's world: from its start to its end -/
theorem sortTris94 {w : World} {A : Nat → Prop} {v : Value} (L : List T3) (hl : L.length ≤ 1000000) (h : Sep w A [tab 49 6 v (rowsT L)] w) : Calls Tryz.prog 94 [v].toArray w
    (RetK fun r w'=>∃ a c,r = .slice a L.length c∧Sep w A [tab 49 6 r (rowsT (sortT L))] w'):=by
  obtain ⟨a0,c0,rfl⟩ :=(h.facts.1 : Tab 6 w v (rowsT L)).shape
  rw [List.length_map] at h ⊢
  refine walk Tryz.func94 rfl (by kernel_rfl) (by rw [Tryz.nt94];simp) ?_
  replace h:=Zd h;have F:=Zf5 h
  refine Zv ?_
  refine walkLoop [] [0,3] (fun m vs w'=>∃ (n : Nat) (hn : 0 < n) (M : List T3) (a : Option Addr) (c : Nat),m = 2 * L.length - n∧n≤2 * L.length + 1∧vs = [.slice a L.length c,.int .i64 n]∧M.Perm L∧Chk cmpT n M∧Sep w A [tab 49 6 (.slice a L.length c) (rowsT M)] w') (by kernel_rfl) ?_ ?_
  · refine Zv ?_
    exact ⟨_,1,by omega,L,a0,c0,rfl,by omega,rfl,List.Perm.refl _,chk_one L,h⟩
  intro ks hk m vs w2 hi
  clear h
  try clear F
  obtain ⟨n,hn,M,a,c,rfl,hn2,rfl,hp,hc,h⟩ :=hi
  have hML : M.length = L.length:=hp.length_eq
  replace hk:=Zk hk;subst hk
  by_cases hlt : (n : Int) < L.length
  case neg=>
    replace h:=Zd h;have F:=Zf5 h;refine Zc1 (decide_eq_false hlt) ?_
    have e : M = sortT L:=sortT_eq hp (chk_all hc (by omega))
    exact ⟨a,c,rfl,e▸h⟩
  replace h:=Zd h;have F:=Zf5 h;refine Zc1 (decide_eq_true hlt) ?_
  have h:=h.tabNil 49 6
  have e2n : IntKind.i64.wrap (2 * (n : Int)) = ((2 * n : Nat) : Int):=by rw [i64w _ (by omega) (by omega)];omega
  refine walkLoop [0,3] [4,5] (fun m vs w'=>∃ (k : Nat) (O : List T3) (ao : Option Addr) (co : Nat),m = L.length - k∧vs = [.slice ao O.length co,.int .i64 k]∧O ++ pass cmpT n hn (M.drop k) = pass cmpT n hn M∧k≤3 * L.length∧Sep w A [tab 49 6 (.slice a L.length c) (rowsT M),tab 49 6 (.slice ao O.length co) (rowsT O)] w') (by kernel_rfl) ?_ ?_
  · refine Zv ?_
    exact ⟨_,0,[],none,0,rfl,rfl,rfl,by omega,h⟩
  intro ks hk m vs w3 hi
  clear h F
  obtain ⟨k,O,ao,co,rfl,rfl,hO,hk3,h⟩ :=hi
  replace hk:=Zk hk;subst hk
  by_cases hkt : (k : Int) < L.length
  case neg=>
    have e : M.drop k = []:=List.drop_eq_nil_of_le (by omega)
    rw [e,pass_nil,List.append_nil] at hO
    have hpp : O.Perm L:=hO▸(pass_perm n hn M.length M (Nat.le_refl _)).trans hp
    have hOl:=hpp.length_eq
    replace h:=Zd h;have F:=Zf5 h;refine Zc1 (J (decide_eq_false hkt) e2n) ?_
    refine ⟨_,?_,2 * n,by omega,O,ao,co,rfl,by omega,by rw [hOl],hpp,hO▸chk_pass cmpT_ok n hn M.length M (Nat.le_refl _) hc,by rw [← hOl];exact h.erase 0⟩
    omega
  have hkl : k < L.length:=by omega
  have hne : M.drop k≠[]:=fun e=>by have:=congrArg List.length e;simp at this;omega
  have hOl : O.length≤L.length:=by
    have:=congrArg List.length hO
    rw [(pass_perm n hn M.length M (Nat.le_refl _)).length_eq,List.length_append] at this
    omega
  have w1' : IntKind.i64.wrap ((k : Int) + n) = ((k + n : Nat) : Int):=by rw [i64w _ (by omega) (by omega)];omega
  have w2' : IntKind.i64.wrap ((k : Int) + ((2 * n : Nat) : Int)) = ((k + 2 * n : Nat) : Int):=by rw [i64w _ (by omega) (by omega)];omega
  have mn : ∀ x y : Nat,(if ((y : Nat) : Int) < (x : Int) then ((y : Nat) : Int) else (x : Int)) = ((min x y : Nat) : Int):=fun x y=>by split<;>omega
  replace h:=Zd h;have F:=Zf5 h;refine Zc1 (J (decide_eq_true hkt) (J e2n (J w1' (J w2' mn)))) ?_
  have hcap : L.length≤c:=by
    obtain ⟨a',c',e,h1,_⟩ :=F.1.row.shape
    injection e with e1 e2 e3
    subst e3
    simpa [hML] using h1
  refine walkDraw (.q 0 (.q 1 (.q 2 (.q 3 (.q 4 (.q 5 (.q 6 (.q 7 (.q 8 (.q 9 (.q 10 (.q 11 (.q 12 (.q 13 (.q 14 (.q 15 (.q 16 (.q 17 (.q 18 (.q 19 (.q 20 (.q 21 (.q 22 (.q 23 (.q 24 (.q 25 .fin)))))))))))))))))))))))))) [] (by kernel_rfl) (by simp [Holds_nil,Holds_cons,F]) ?_
  refine h.draw ?_
  clear h F
  intro _ h
  replace h:=Zd h;have F:=Zf5 h;refine Zc1 (J e2n (J w1' (J w2' mn))) ?_
  refine ⟨by omega,by omega,by omega,by omega,?_⟩
  have hMr : (rowsT M).length = L.length:=by rw [List.length_map,hML]
  have s0 : SubT 6 (.slice a L.length c) (rowsT M) (.slice a L.length c) (rowsT M):=fun _ h=>h
  have sa:=s0.cut (l:=k) (m:=min (k + n) L.length) (by omega) (by omega)
  have sb:=s0.cut (l:=min (k + n) L.length) (m:=min (k + 2 * n) L.length) (by omega) (by omega)
  have ea : ((rowsT M).drop k).take (min (k + n) L.length - k) = rowsT ((M.drop k).take n):=by
    simp only [rowsT,List.map_take,List.map_drop]
    rw [List.take_eq_take_iff]
    simp;omega
  have eb : ((rowsT M).drop (min (k + n) L.length)).take (min (k + 2 * n) L.length - min (k + n) L.length) = rowsT (((M.drop k).drop n).take n):=by
    simp only [rowsT,List.map_take,List.map_drop,List.drop_drop]
    by_cases g : k + n≤L.length
    · rw [Nat.min_eq_left g,List.take_eq_take_iff]
      simp;omega
    · rw [Nat.min_eq_right (by omega),List.drop_eq_nil_of_le (by simp;omega),List.drop_eq_nil_of_le (by simp;omega)]
      simp
  rw [ea] at sa
  rw [eb] at sb
  have la : min (k + n) L.length - k = ((M.drop k).take n).length:=by simp;omega
  have lb : min (k + 2 * n) L.length - min (k + n) L.length = (((M.drop k).drop n).take n).length:=by simp;omega
  have hpc:=pass_cons (f:=cmpT) n hn hne
  have hlp : (mrg cmpT ((M.drop k).take n) (((M.drop k).drop n).take n)).length≤L.length:=by
    rw [(mrg_perm _ _).length_eq];simp;omega
  rw [la] at sa ⊢
  rw [lb] at sb ⊢
  generalize (M.drop k).take n = as0 at *
  generalize ((M.drop k).drop n).take n = bs0 at *
  refine walkLoop [0,3,5] [4,6,7] (fun m vs w'=>∃ (O2 xs ys : List T3) (a2 : Option Addr) (c2 : Nat) (a3 : Option Addr) (c3 : Nat) (a4 : Option Addr) (c4 : Nat),m = xs.length + ys.length∧vs = [.slice a2 O2.length c2,.slice a3 xs.length c3,.slice a4 ys.length c4]∧O2 ++ mrg cmpT xs ys = O ++ mrg cmpT as0 bs0∧
    SubT 6 (.slice a L.length c) (rowsT M) (.slice a3 xs.length c3) (rowsT xs)∧SubT 6 (.slice a L.length c) (rowsT M) (.slice a4 ys.length c4) (rowsT ys)∧Sep w A [tab 49 6 (.slice a L.length c) (rowsT M),tab 49 6 (.slice a2 O2.length c2) (rowsT O2)] w') (by kernel_rfl) ?_ ?_
  · refine Zv ?_
    exact ⟨_,O,as0,bs0,_,_,_,_,_,_,rfl,rfl,rfl,sa,sb,h⟩
  intro ks hk m vs w4 hi
  clear h F
  obtain ⟨O2,xs,ys,a2,c2,a3,c3,a4,c4,rfl,rfl,hO2,sa,sb,h⟩ :=hi
  replace hk:=Zk hk;subst hk
  have hO2l : O2.length + xs.length + ys.length≤2 * L.length:=by
    have:=congrArg List.length hO2
    rw [List.length_append,List.length_append,(mrg_perm _ _).length_eq,List.length_append] at this
    omega
  have hzero : ¬ (0 : Int) < ((0 : Nat) : Int):=by omega
  have hpos : ∀ n : Nat,(0 : Int) < ((n + 1 : Nat) : Int):=fun n=>by omega
  have hsub : ∀ {aa : Option Addr} {ca : Nat} (x : T3) (L2 : List T3),SubT 6 (.slice a L.length c) (rowsT M) (.slice aa (x :: L2).length ca) (rowsT (x :: L2))→SubT 6 (.slice a L.length c) (rowsT M) (.slice (cutA aa ca 1 6) L2.length (ca - 1)) (rowsT L2):=fun {aa ca} x L2 h=>by
    have:=h.cut (l:=1) (m:=L2.length + 1) (by omega) (Nat.le_refl _)
    have e : ((rowsT (x :: L2)).drop 1).take (L2.length + 1 - 1) = rowsT L2:=List.take_of_length_le (by simp)
    rwa [e] at this
  cases xs with
  | nil=>
    cases ys with
    | nil=>
      rw [mrg_nil_left,List.append_nil] at hO2
      replace h:=Zd h;have F:=Zf5 h;try simp -dsimp only [↓vcA,vcB,vcD,↓pureT_lenS,↓iteT,↓iteF,cond_true,cond_false,eq_self,argE,Env.get,Env.push,ev,evs,evo,retV,Value.cells,Value.oneCell',setR,overR,fillL,zl,places,allSizes,heldC,ne_eq,Int.reduceLE,Int.reduceLT,Int.reduceEq,Int.reduceNe,Int.reduceToNat,Int.cast_ofNat_Int,Nat.reduceMul,Nat.reduceLeDiff,reduceIte,Nat.reduceEqDiff,Nat.reduceAdd,↓reduceIte,Tryz.vcT,F,h.cell0,gets,vsD,if_true,if_false,Bool.false_eq_true,cellsAt,decide_eq_false hzero,List.length_nil,w2',e2n]
      refine ⟨_,?_,k + 2 * n,O2,a2,c2,rfl,rfl,?_,by omega,h⟩
      · omega
      · rw [← hO,hpc,hO2,List.drop_drop,List.append_assoc]
    | cons y ys=>
      have e0 : O2 ++ [y] ++ mrg cmpT [] ys = O ++ mrg cmpT as0 bs0:=by rw [← hO2,mrg_nil_left,mrg_nil_left];simp
      replace h:=Zd h;have F:=Zf5 h;try simp -dsimp only [↓vcA,vcB,vcD,↓pureT_lenS,↓iteT,↓iteF,cond_true,cond_false,eq_self,argE,Env.get,Env.push,ev,evs,evo,retV,Value.cells,Value.oneCell',setR,overR,fillL,zl,places,allSizes,heldC,ne_eq,Int.reduceLE,Int.reduceLT,Int.reduceEq,Int.reduceNe,Int.reduceToNat,Int.cast_ofNat_Int,Nat.reduceMul,Nat.reduceLeDiff,reduceIte,Nat.reduceEqDiff,Nat.reduceAdd,↓reduceIte,Tryz.vcT,F,h.cell0,gets,vsD,if_true,if_false,Bool.false_eq_true,cellsAt,decide_eq_false hzero,decide_eq_true (hpos ys.length),List.length_nil,List.length_cons]
      refine walkDraw (.q 0 (.q 1 (.q 2 (.q 3 (.q 4 (.q 5 (.q 6 (.q 7 (.q 8 (.q 9 (.q 11 (.q 12 (.h 10 0 (.h 13 6 (.l 14 (.q 15 (.q 16 (.q 17 .fin)))))))))))))))))) [] (by kernel_rfl) (by simp [Holds_nil]) ?_
      refine h.draw ?_
      clear h F
      intro _ h
      obtain ⟨b,o,rfl,⟨k0,k1,k2,k3,k4,k5⟩,_⟩ :=(sb _ h.facts.1).six
      have hz2 : ¬ ((ys.length + 1 : Nat) : Int) = 0:=by omega
      replace h:=Zd h;have F:=Zf5 h;try simp -dsimp only [↓vcA,vcB,vcD,↓pureT_lenS,↓iteT,↓iteF,cond_true,cond_false,eq_self,argE,Env.get,Env.push,ev,evs,evo,retV,Value.cells,Value.oneCell',setR,overR,fillL,zl,places,allSizes,heldC,ne_eq,Int.reduceLE,Int.reduceLT,Int.reduceEq,Int.reduceNe,Int.reduceToNat,Int.cast_ofNat_Int,Nat.reduceMul,Nat.reduceLeDiff,reduceIte,Nat.reduceEqDiff,Nat.reduceAdd,↓reduceIte,Tryz.vcT,F,h.cell0,gets,vsD,if_true,if_false,Bool.false_eq_true,cellsAt,decide_eq_false hzero,decide_eq_false hz2,List.length_nil,List.length_cons,k0,k1,k2,k3,k4,k5]
      refine ⟨hpos _,?_⟩
      refine h.new ?_
      clear h F
      intro _ b7 h
      replace h:=Zd h;have F:=Zf5 h;refine Zc ?_
      refine Sep.appTab 1 2 infoT Tryz.underlying141 rfl (by decide) y.row h rfl rfl rfl (by rw [List.length_map];omega) (by rw [List.length_map];simp only [maxLen];omega) ?_
      clear h F
      intro a7 c7 w7 h
      rw [← rows_app,List.length_map] at h
      rw [rows_len]
      replace h:=Zd h;have F:=Zf5 h;refine Zc ?_
      refine ⟨by omega,?_⟩
      exact ⟨_,by simp,O2 ++ [y],[],ys,a7,c7,a3,c3,_,_,rfl,rfl,e0,sa,hsub y ys sb,h.erase 2⟩
  | cons x xs=>
    cases ys with
    | nil=>
      have e0 : O2 ++ [x] ++ mrg cmpT xs [] = O ++ mrg cmpT as0 bs0:=by rw [← hO2,mrg_nil_right,mrg_nil_right];simp
      replace h:=Zd h;have F:=Zf5 h;try simp -dsimp only [↓vcA,vcB,vcD,↓pureT_lenS,↓iteT,↓iteF,cond_true,cond_false,eq_self,argE,Env.get,Env.push,ev,evs,evo,retV,Value.cells,Value.oneCell',setR,overR,fillL,zl,places,allSizes,heldC,ne_eq,Int.reduceLE,Int.reduceLT,Int.reduceEq,Int.reduceNe,Int.reduceToNat,Int.cast_ofNat_Int,Nat.reduceMul,Nat.reduceLeDiff,reduceIte,Nat.reduceEqDiff,Nat.reduceAdd,↓reduceIte,Tryz.vcT,F,h.cell0,gets,vsD,if_true,if_false,Bool.false_eq_true,cellsAt,decide_eq_true (hpos xs.length),List.length_nil,List.length_cons]
      refine walkDraw (.q 0 (.q 1 (.q 2 (.q 3 (.q 4 (.q 5 (.q 6 (.q 7 (.q 8 (.q 9 (.q 11 (.q 12 (.h 10 0 (.h 13 6 (.l 14 (.q 15 (.q 16 (.q 17 .fin)))))))))))))))))) [] (by kernel_rfl) (by simp [Holds_nil]) ?_
      refine h.draw ?_
      clear h F
      intro _ h
      obtain ⟨b,o,rfl,⟨k0,k1,k2,k3,k4,k5⟩,_⟩ :=(sa _ h.facts.1).six
      have hz2 : ((0 : Nat) : Int) = 0:=rfl
      replace h:=Zd h;have F:=Zf5 h;try simp -dsimp only [↓vcA,vcB,vcD,↓pureT_lenS,↓iteT,↓iteF,cond_true,cond_false,eq_self,argE,Env.get,Env.push,ev,evs,evo,retV,Value.cells,Value.oneCell',setR,overR,fillL,zl,places,allSizes,heldC,ne_eq,Int.reduceLE,Int.reduceLT,Int.reduceEq,Int.reduceNe,Int.reduceToNat,Int.cast_ofNat_Int,Nat.reduceMul,Nat.reduceLeDiff,reduceIte,Nat.reduceEqDiff,Nat.reduceAdd,↓reduceIte,Tryz.vcT,F,h.cell0,gets,vsD,if_true,if_false,Bool.false_eq_true,cellsAt,decide_eq_true hz2,List.length_nil,List.length_cons,k0,k1,k2,k3,k4,k5]
      refine ⟨hpos _,?_⟩
      refine h.new ?_
      clear h F
      intro _ b7 h
      replace h:=Zd h;have F:=Zf5 h;refine Zc ?_
      refine Sep.appTab 1 2 infoT Tryz.underlying141 rfl (by decide) x.row h rfl rfl rfl (by rw [List.length_map];omega) (by rw [List.length_map];simp only [maxLen];omega) ?_
      clear h F
      intro a7 c7 w7 h
      rw [← rows_app,List.length_map] at h
      rw [rows_len]
      replace h:=Zd h;have F:=Zf5 h;refine Zc ?_
      refine ⟨by omega,?_⟩
      exact ⟨_,by simp,O2 ++ [x],xs,[],a7,c7,_,_,a4,c4,rfl,rfl,e0,hsub x xs sa,sb,h.erase 2⟩
    | cons y ys=>
      have hz2 : ¬ ((ys.length + 1 : Nat) : Int) = 0:=by omega
      replace h:=Zd h;have F:=Zf5 h;try simp -dsimp only [↓vcA,vcB,vcD,↓pureT_lenS,↓iteT,↓iteF,cond_true,cond_false,eq_self,argE,Env.get,Env.push,ev,evs,evo,retV,Value.cells,Value.oneCell',setR,overR,fillL,zl,places,allSizes,heldC,ne_eq,Int.reduceLE,Int.reduceLT,Int.reduceEq,Int.reduceNe,Int.reduceToNat,Int.cast_ofNat_Int,Nat.reduceMul,Nat.reduceLeDiff,reduceIte,Nat.reduceEqDiff,Nat.reduceAdd,↓reduceIte,Tryz.vcT,F,h.cell0,gets,vsD,if_true,if_false,Bool.false_eq_true,cellsAt,decide_eq_true (hpos xs.length),List.length_cons]
      obtain ⟨ba,oa,rfl,⟨k0,k1,k2,k3,k4,k5⟩,_⟩ :=(sa _ h.facts.1).six
      obtain ⟨bb,ob,rfl,⟨j0,j1,j2,j3,j4,j5⟩,_⟩ :=(sb _ h.facts.1).six
      refine walkDraw (.q 0 (.q 1 (.q 2 (.q 3 (.q 4 (.q 5 (.q 6 (.q 7 (.q 8 (.q 9 (.q 11 (.q 12 (.h 10 0 (.h 13 6 (.l 14 (.q 15 (.q 16 (.q 17 .fin)))))))))))))))))) [(ba,oa,.int .i64 x.ax),(ba,oa + 1,.int .i64 x.ay),(ba,oa + 2,.int .i64 x.bx),(ba,oa + 3,.int .i64 x.by'),(ba,oa + 4,.int .i64 x.cx),(ba,oa + 5,.int .i64 x.cy),(bb,ob,.int .i64 y.ax),(bb,ob + 1,.int .i64 y.ay),(bb,ob + 2,.int .i64 y.bx),(bb,ob + 3,.int .i64 y.by'),(bb,ob + 4,.int .i64 y.cx),(bb,ob + 5,.int .i64 y.cy)] (by kernel_rfl) (by simp [Holds_nil,Holds_cons,F,k0,k1,k2,k3,k4,k5,j0,j1,j2,j3,j4,j5]) ?_
      refine h.draw ?_
      clear h F k0 k1 k2 k3 k4 k5 j0 j1 j2 j3 j4 j5
      intro _ h
      replace h:=Zd h;have F:=Zf5 h;try simp -dsimp only [↓vcA,vcB,vcD,↓pureT_lenS,↓iteT,↓iteF,cond_true,cond_false,eq_self,argE,Env.get,Env.push,ev,evs,evo,retV,Value.cells,Value.oneCell',setR,overR,fillL,zl,places,allSizes,heldC,ne_eq,Int.reduceLE,Int.reduceLT,Int.reduceEq,Int.reduceNe,Int.reduceToNat,Int.cast_ofNat_Int,Nat.reduceMul,Nat.reduceLeDiff,reduceIte,Nat.reduceEqDiff,Nat.reduceAdd,↓reduceIte,Tryz.vcT,F,h.cell0,gets,vsD,if_true,if_false,Bool.false_eq_true,cellsAt,decide_eq_false hz2,decide_eq_true (hpos xs.length),List.length_cons]
      refine ⟨hpos _,hpos _,?_⟩
      refine Sep.callp h (cmpTri x y _) ?_
      clear h F
      intro _ h
      obtain ⟨k0,k1,k2,k3,k4,k5⟩ :=(sa _ h.facts.1).six'
      obtain ⟨j0,j1,j2,j3,j4,j5⟩ :=(sb _ h.facts.1).six'
      by_cases hle : cmpT x y≤0
      · have e0 : O2 ++ [x] ++ mrg cmpT xs (y :: ys) = O ++ mrg cmpT as0 bs0:=by rw [← hO2,mrg_le hle];simp
        replace h:=Zd h;have F:=Zf5 h;refine Zc1 (J (decide_eq_true hle) (J k0 (J k1 (J k2 (J k3 (J k4 (J k5 (J j0 (J j1 (J j2 (J j3 (J j4 j5)))))))))))) ?_
        refine ⟨hpos _,?_⟩
        refine h.new ?_
        clear h F
        intro _ b7 h
        replace h:=Zd h;have F:=Zf5 h;refine Zc ?_
        refine Sep.appTab 1 2 infoT Tryz.underlying141 rfl (by decide) x.row h rfl rfl rfl (by rw [List.length_map];omega) (by rw [List.length_map];simp only [maxLen];omega) ?_
        clear h F
        intro a7 c7 w7 h
        rw [← rows_app,List.length_map] at h
        rw [rows_len]
        replace h:=Zd h;have F:=Zf5 h;refine Zc ?_
        refine ⟨by omega,?_⟩
        exact ⟨_,by simp,O2 ++ [x],xs,y :: ys,a7,c7,_,_,_,c4,rfl,rfl,e0,hsub x xs sa,sb,h.erase 2⟩
      · have e0 : O2 ++ [y] ++ mrg cmpT (x :: xs) ys = O ++ mrg cmpT as0 bs0:=by rw [← hO2,mrg_gt hle];simp
        replace h:=Zd h;have F:=Zf5 h;refine Zc1 (J (decide_eq_false hle) (J k0 (J k1 (J k2 (J k3 (J k4 (J k5 (J j0 (J j1 (J j2 (J j3 (J j4 j5)))))))))))) ?_
        refine ⟨hpos _,?_⟩
        refine h.new ?_
        clear h F
        intro _ b7 h
        replace h:=Zd h;have F:=Zf5 h;refine Zc ?_
        refine Sep.appTab 1 2 infoT Tryz.underlying141 rfl (by decide) y.row h rfl rfl rfl (by rw [List.length_map];omega) (by rw [List.length_map];simp only [maxLen];omega) ?_
        clear h F
        intro a7 c7 w7 h
        rw [← rows_app,List.length_map] at h
        rw [rows_len]
        replace h:=Zd h;have F:=Zf5 h;refine Zc ?_
        refine ⟨by omega,?_⟩
        exact ⟨_,by simp,O2 ++ [y],x :: xs,ys,a7,c7,_,c3,_,_,rfl,rfl,e0,sa,hsub y ys sb,h.erase 2⟩
def delL : List Ent→List Int→List Ent
  | [],_=>[]
  | p :: L,k=>if p.1 = k then L else p :: delL L k
theorem findAsk3 {P : Program} {kt : TypeId} {n : Nat} (hk : KeyT P kt n) {w : World} {k : List Int} (hn : k.length = n) : ∀ (L : List Ent) (es : List MapEntry) (i : Nat), (∀ p ∈ L, p.1.length = n) → es.map (fun e => (e.key, e.val)) = L.map (fun p => (keyV p.1, p.2)) →
    ∃ r,(Instr.findAsking kt (keyV k) es i).run P w = .ok r w∧(r = none→delL L k = L)∧(∀ j v,r = some (j,v)→i≤j∧j - i < L.length∧L.eraseIdx (j - i) = delL L k)
  | [],es,i,_,he=>by
    have : es = []:=by simpa using he
    subst this
    exact ⟨none,by simp [Instr.findAsking],fun _=>rfl,fun _ _ h=>by cases h⟩
  | p :: L,es,i,hl,he=>by
    match es,he with
    | e :: es,he=>
      simp only [List.map_cons,List.cons.injEq,Prod.mk.injEq] at he
      obtain ⟨⟨he1,he2⟩,he3⟩ :=he
      have h1:=hk.eq w k p.1 hn (hl p (.head _))
      by_cases hp : p.1 = k
      · subst hp
        refine ⟨some (i,e.val),by simp [Instr.findAsking,he1,h1],fun h=>by (cases h),fun j v h=>?_⟩
        injection h with h;injection h with h _;subst h
        refine ⟨Nat.le_refl _,by simp,?_⟩
        simp [delL]
      · obtain ⟨r,r1,r2,r3⟩ :=findAsk3 hk hn L es (i + 1) (fun q hq=>hl q (.tail _ hq)) he3
        have hpk : ¬ k = p.1:=fun e=>hp e.symm
        refine ⟨r,?_,fun h=>?_,fun j v h=>?_⟩
        · simp [Instr.findAsking,he1,h1,hpk]
          exact r1
        · rw [delL,if_neg hp,r2 h]
        · obtain ⟨g1,g2,g3⟩ :=r3 j v h
          have ej : j - i = (j - (i + 1)) + 1:=by omega
          refine ⟨by omega,by rw [ej,List.length_cons];omega,?_⟩
          rw [ej,List.eraseIdx_cons_succ,delL,if_neg hp,g3]
theorem map_eraseIdx {α β : Type} (f : α→β) : ∀ (l : List α) (j : Nat),(l.eraseIdx j).map f = (l.map f).eraseIdx j
  | [],_=>by simp
  | _ :: _,0=>by simp
  | a :: l,j + 1=>by simp [map_eraseIdx f l j]
theorem Sep.mapDel (i : Nat) {P : Program} {T kt et : TypeId} {n : Nat} {w0 w : World} {S : Nat → Prop} {M : List Res} {b : Nat} {L : List Ent} {k : List Int} {ty : TypeId} {K : Value → World → Prop} (h : Sep w0 S M w) (hi : M[i]? = some (mpx b L)) (hk : KeyT P kt n) (ht : P.underlying T = some (.map kt et)) (hl : ∀ p ∈ L, p.1.length = n) (hn : k.length = n)
    (hK : ∀ w1,Sep w0 S (M.set i (mpx b (delL L k))) w1→K (.tuple #[]) w1) : RunK P (Builtin.delete_ #[T,kt] ty #[.map (some b),keyV k]) w K:=by
  obtain ⟨A,⟨hm,hA⟩,_,h3⟩ :=h.at hi
  obtain ⟨es,clock,hb,he,hnd,hbn⟩ :=hm.of
  obtain ⟨r,r1,r2,r3⟩ :=findAsk3 hk (w:=w) hn L es.toList 0 hl he
  have hf : (Instr.findKey kt (keyV k) es.toList).run P w = .ok r w:=by rw [run_findKey_eq w hk.wide];exact r1
  have hs : b < w.heap.size:=(Array.getElem?_eq_some_iff.1 hb).1
  have hin : ∀ o : Obj,({ w with heap:=w.heap.setIfInBounds b o } : World).heap[b]? = some o:=fun o=>by simp [hs]
  have hc : ∀ o : Obj,Chg A w { w with heap:=w.heap.setIfInBounds b o }:=fun o=>by
    refine ⟨rfl,rfl,rfl,by simp,fun x hx hn=>?_⟩
    have hne : b≠x:=fun e=>hn (by rw [hA];exact e.symm)
    simp [hne]
  cases hr : r with
  | none=>
    subst hr
    refine ⟨.tuple #[],{ w with heap:=w.heap.setIfInBounds b (.map es clock) },?_,hK _ (h3 _ A _ ⟨⟨es,clock,hin _,?_,hnd,hbn⟩,hA⟩ (fun x hx=>.inl hx) (hc _) (fun _ f=>f))⟩
    · simp only [Builtin.delete_,List.getElem?_toArray,List.getElem?_cons_zero,List.getElem?_cons_succ,Sem.run_bind,run_underlying ht,Result.andThen_ok,MapKept.run_getObj_map hb,hk.chk _ w k hn,hf]
      rw [MapKept.run_setObj_map _ hb];rfl
    · rw [r2 rfl];exact he
  | some q=>
    obtain ⟨j,vo⟩ :=q
    subst hr
    obtain ⟨_,g1,g2⟩ :=r3 j vo rfl
    rw [Nat.sub_zero] at g1 g2
    have hlen : es.size = L.length:=by have:=congrArg List.length he;simpa using this
    have ee : (es.eraseIdxIfInBounds j).toList = es.toList.eraseIdx j:=by
      unfold Array.eraseIdxIfInBounds
      rw [dif_pos (by omega),Array.toList_eraseIdx]
    refine ⟨.tuple #[],{ w with heap:=w.heap.setIfInBounds b (.map (es.eraseIdxIfInBounds j) clock) },?_,hK _ (h3 _ A _ ⟨⟨_,_,hin _,?_,?_,?_⟩,hA⟩ (fun x hx=>.inl hx) (hc _) (fun _ f=>f))⟩
    · simp only [Builtin.delete_,List.getElem?_toArray,List.getElem?_cons_zero,List.getElem?_cons_succ,Sem.run_bind,run_underlying ht,Result.andThen_ok,MapKept.run_getObj_map hb,hk.chk _ w k hn,hf]
      rw [MapKept.run_setObj_map _ hb];rfl
    · rw [ee,map_eraseIdx,he,← map_eraseIdx,g2]
    · rw [ee,map_eraseIdx];exact hnd.sublist (List.eraseIdx_sublist ..)
    · intro x hx
      rw [ee] at hx
      exact hbn x (List.mem_of_mem_eraseIdx hx)
theorem opvT_delete {P : Program} {ty : TypeId} {E : Env} {w : World} {K : Value→World→Prop} (args : List Operand) (ts : Array TypeId) : opvT P (.call ⟨.builtin .delete,args.toArray,ts⟩) ty E w K = okK (evs E args) fun vs=>RunK P (Builtin.delete_ ts ty vs.toArray) w K:=(rfl)
def setE : MeshE→List Int→T3→MeshE
  | [],k,v=>[(k,v)]
  | p :: L,k,v=>if p.1 = k then (k,v) :: L else p :: setE L k v
def delE : MeshE→List Int→MeshE
  | [],_=>[]
  | p :: L,k=>if p.1 = k then L else p :: delE L k
theorem ents_set (k : List Int) (t : T3) : ∀ E : MeshE,ents (setE E k t) = setL (ents E) k (.agg t.cells.toArray)
  | []=>rfl
  | p :: E=>by
    have ih:=ents_set k t E
    show ents (if p.1 = k then (k,t) :: E else p :: setE E k t) = if p.1 = k then _ else _
    by_cases h : p.1 = k
    · rw [if_pos h,if_pos h];rfl
    · rw [if_neg h,if_neg h,← ents.eq_1 E,← ih];rfl
theorem ents_del (k : List Int) : ∀ E : MeshE,ents (delE E k) = delL (ents E) k
  | []=>rfl
  | p :: E=>by
    have ih:=ents_del k E
    show ents (if p.1 = k then E else p :: delE E k) = if p.1 = k then _ else _
    by_cases h : p.1 = k
    · rw [if_pos h,if_pos h];rfl
    · rw [if_neg h,if_neg h,← ents.eq_1 E,← ih];rfl
theorem setE_wid {E : MeshE} (h : E.Wid) {k : List Int} (hk : k.length = 4) {t : T3} : (setE E k t).Wid:=by
  induction E with
  | nil=>intro p hp;simp [setE] at hp;subst hp;exact hk
  | cons p E ih=>
    unfold setE
    split
    · intro q hq
      rcases List.mem_cons.1 hq with rfl | hq
      · exact hk
      · exact h q (.tail _ hq)
    · intro q hq
      rcases List.mem_cons.1 hq with rfl | hq
      · exact h _ (.head _)
      · exact ih (fun q hq=>h q (.tail _ hq)) q hq
theorem delE_wid {E : MeshE} (h : E.Wid) {k : List Int} : (delE E k).Wid:=by
  induction E with
  | nil=>intro p hp;cases hp
  | cons p E ih=>
    unfold delE
    split
    · exact fun q hq=>h q (.tail _ hq)
    · intro q hq
      rcases List.mem_cons.1 hq with rfl | hq
      · exact h _ (.head _)
      · exact ih (fun q hq=>h q (.tail _ hq)) q hq
def msh (bm : Nat) (E : MeshE) : Res where
  on w A:=∃ b,w.heap[bm]? = some (.cells #[.map (some b)] 165 (0,0))∧MapB w b (ents E)∧E.Wid∧bm≠b∧A = fun x=>x = bm∨x = b
  rd _:=False
  fact w:=∃ b,MeshAt w bm b E
  lt:=fun ⟨b,h1,h2,_,_,e⟩ x hx=>by
    subst e
    obtain ⟨_,_,h2,_⟩ :=h2.of
    rcases hx with rfl | rfl
    · exact (Array.getElem?_eq_some_iff.1 h1).1
    · exact (Array.getElem?_eq_some_iff.1 h2).1
  chg:=fun {w w' A} ⟨b,h1,h2,h3,h4,e⟩ hs hc=>⟨b,(hc bm (Array.getElem?_eq_some_iff.1 h1).1 (.inl (by rw [e];exact .inl rfl))).trans h1,⟨by
    obtain ⟨es,clock,h2,r⟩ :=h2.of
    exact ⟨es,clock,(hc b (Array.getElem?_eq_some_iff.1 h2).1 (.inl (by rw [e];exact .inr rfl))).trans h2,r⟩⟩,h3,h4,e⟩
  ok:=fun {w A} ⟨b,h1,h2,h3,h4,e⟩ =>⟨b,by
    have hb : blkOf w bm = some ([.map (some b)],165):=by simpa using blkOf_of h1
    exact cell_of_blkOf hb 0,h2,h3⟩
theorem msh_fact (bm : Nat) (E : MeshE) (w : World) : (msh bm E).fact w = ∃ b,MeshAt w bm b E:=(rfl)
theorem Sep.mshOpen (i : Nat) {w0 w : World} {S : Nat→Prop} {M : List Res} {bm : Nat} {E : MeshE} (h : Sep w0 S M w) (hi : M[i]? = some (msh bm E)) : E.Wid∧∃ b,Sep w0 S (M.set i (blk bm 165 [.map (some b)]) ++ [mpx b (ents E)]) w:=by
  obtain ⟨A,⟨b,h1,h2,h3,h4,rfl⟩,k⟩ :=h.split i hi
  exact ⟨h3,b,k _ _ (fun x=>x = bm) (fun x=>x = b) ⟨h1,rfl⟩ ⟨h2,rfl⟩ (fun x hx=>.inl hx) (fun x hx=>⟨.inr hx,fun e=>h4 (e.symm.trans hx)⟩) (fun _ f=>f) (fun _ f=>f)⟩
theorem Sep.mshShut (i j : Nat) {w0 w : World} {S : Nat→Prop} {M : List Res} {bm b : Nat} {E : MeshE} (h : Sep w0 S M w) (hi : (M.set j Go.Proofs.YtnhgjgoglmadnaaGreat.emp)[i]? = some (blk bm 165 [.map (some b)])) (hj : M[j]? = some (mpx b (ents E))) (hw : E.Wid) : Sep w0 S ((M.set j Go.Proofs.YtnhgjgoglmadnaaGreat.emp).set i (msh bm E)) w:=
  h.join i j hi hj (fun A B ⟨h1,e1⟩ ⟨h2,e2⟩ hd=>⟨b,h1,h2,hw,fun e=>by subst e1 e2 e;exact hd _ rfl rfl,by subst e1 e2;rfl⟩) fun x hx=>hx.elim
def wls (bs : Nat) (W : List (List Int)) : Res where
  on w A:=∃ v B,w.heap[bs]? = some (.cells #[v] 66 (0,0))∧(tab 47 5 v W).on w B∧¬ B bs∧A = fun x=>x = bs∨B x
  rd _:=False
  fact w:=∃ v,WallsAt w bs v W
  lt:=fun ⟨v,B,h1,h2,_,e⟩ x hx=>by
    subst e
    rcases hx with rfl | hx
    · exact (Array.getElem?_eq_some_iff.1 h1).1
    · exact (tab 47 5 v W).lt h2 x hx
  chg:=fun {w w' A} ⟨v,B,h1,h2,h3,e⟩ hs hc=>⟨v,B,(hc bs (Array.getElem?_eq_some_iff.1 h1).1 (.inl (by rw [e];exact .inl rfl))).trans h1,(tab 47 5 v W).chg h2 hs (fun x hl hx=>hx.elim (fun hx=>hc x hl (.inl (by rw [e];exact .inr hx))) fun f=>f.elim),h3,e⟩
  ok:=fun {w A} ⟨v,B,h1,h2,h3,e⟩ =>⟨v,by
    have hb : blkOf w bs = some ([v],66):=by simpa using blkOf_of h1
    exact cell_of_blkOf hb 0,(tab 47 5 v W).ok h2⟩
theorem wls_fact (bs : Nat) (W : List (List Int)) (w : World) : (wls bs W).fact w = ∃ v,WallsAt w bs v W:=(rfl)
theorem Sep.wlsOpen (i : Nat) {w0 w : World} {S : Nat→Prop} {M : List Res} {bs : Nat} {W : List (List Int)} (h : Sep w0 S M w) (hi : M[i]? = some (wls bs W)) : ∃ v,Sep w0 S (M.set i (blk bs 66 [v]) ++ [tab 47 5 v W]) w:=by
  obtain ⟨A,⟨v,B,h1,h2,h3,rfl⟩,k⟩ :=h.split i hi
  exact ⟨v,k _ _ (fun x=>x = bs) B ⟨h1,rfl⟩ h2 (fun x hx=>.inl hx) (fun x hx=>⟨.inr hx,fun e=>h3 (e▸hx)⟩) (fun _ f=>f) (fun _ f=>f)⟩
theorem Sep.wlsShut (i j : Nat) {w0 w : World} {S : Nat→Prop} {M : List Res} {bs : Nat} {v : Value} {W : List (List Int)} (h : Sep w0 S M w) (hi : (M.set j Go.Proofs.YtnhgjgoglmadnaaGreat.emp)[i]? = some (blk bs 66 [v])) (hj : M[j]? = some (tab 47 5 v W)) : Sep w0 S ((M.set j Go.Proofs.YtnhgjgoglmadnaaGreat.emp).set i (wls bs W)) w:=
  h.join i j hi hj (fun A B ⟨h1,e1⟩ h2 hd=>⟨v,B,h1,h2,fun hb=>hd bs (by rw [e1]) hb,by subst e1;rfl⟩) fun x hx=>hx.elim
end Go.Proofs.YtnhgjgoglmadnaaGreat
