/- Joined texts of this claim (part 14), printed by a program of this work. The last part holds the claimed theorem: the law answers true at every input of its row. -/
import Derived.Test.YtnhgjgoglmadnaaGreatSPFieldsm
namespace Go.Proofs.YtnhgjgoglmadnaaGreat
open Go.RowKit
set_option linter.unusedVariables false
theorem num_ok {s : R8} (k : Nat) (h1 : 1≤k) (h7 : k≤7) (h : (s.numS k).bad = false) : s.bad = false∧(s.numS k).l.length + k = s.l.length:=by
  have hb : s.bad = false:=by
    cases hb : s.bad with
    | false=>rfl
    | true=>rw [(num_bad hb k).2] at h;cases h
  have hl : k≤s.l.length:=by
    rcases Nat.lt_or_ge s.l.length k with hl | hl
    · obtain ⟨_,h2⟩ :=s.num_no k (.inr (.inr (.inr (by omega))))
      rw [h2] at h;cases h
    · exact hl
  obtain ⟨_,h2⟩ :=s.num_yes k hb h1 h7 hl
  rw [h2]
  exact ⟨hb,by simp;omega⟩
theorem num1_ok {s : R8} (h : (s.numS 1).bad = false) : s.bad = false∧(s.numS 1).l.length + 1 = s.l.length:=num_ok 1 (by omega) (by omega) h
theorem num2_ok {s : R8} (h : (s.numS 2).bad = false) : s.bad = false∧(s.numS 2).l.length + 2 = s.l.length:=num_ok 2 (by omega) (by omega) h
theorem num4_ok {s : R8} (h : (s.numS 4).bad = false) : s.bad = false∧(s.numS 4).l.length + 4 = s.l.length:=num_ok 4 (by omega) (by omega) h
theorem tri_ok {s : R8} (h : s.triS.bad = false) : (s.bad = false∧s.triS.l.length + 18 = s.l.length)∧s.triS = s.tS3∧s.tT.valid = true:=by
  unfold R8.triS at h ⊢
  cases h3 : s.tS3.bad with
  | true=>rw [h3] at h;simp [h3] at h
  | false=>
    rw [h3] at h
    cases hv : s.tT.valid with
    | false=>rw [hv] at h;simp at h
    | true=>
      obtain ⟨a1,a2⟩ :=pt_ok (s:=s.ptS.ptS) h3
      obtain ⟨b1,b2⟩ :=pt_ok a1
      obtain ⟨c1,c2⟩ :=pt_ok b1
      simp only [Bool.false_eq_true,if_false,if_true]
      exact ⟨⟨c1,by unfold R8.tS3;omega⟩,trivial,trivial⟩
theorem raw_ok {s : R8} {n : Int} (h : (s.rawS n).bad = false) : s.bad = false∧(s.rawS n).l.length + (s.rawV n).length = s.l.length∧s.rawV n ++ (s.rawS n).l = s.l∧0≤n∧(s.rawV n).length = n.toNat:=by
  unfold R8.rawS R8.rawV at *
  split at h
  · cases h
  · rename_i hno
    simp only [if_neg hno]
    simp only [R8.no,not_or] at hno
    refine ⟨h,by simp;omega,by simp,by omega,by simp;omega⟩
theorem raw_no {s : R8} {n : Int} (h : (s.rawS n).bad = true) : s.rawV n = []:=by
  unfold R8.rawS R8.rawV at *
  split at h
  · rename_i hno;rw [if_pos hno]
  · rename_i hno
    simp only [R8.no,not_or] at hno
    exact absurd h hno.1
def pot (s : R8) : Nat:=if s.bad then 0 else 8 * s.l.length + 88
theorem pot_le (s : R8) : pot s≤8 * s.l.length + 88:=by unfold pot;split<;>omega
theorem pot_bad {s : R8} (h : s.bad = true) : pot s = 0:=by simp [pot,h]
theorem pot_ok {s : R8} (h : s.bad = false) : pot s = 8 * s.l.length + 88:=by simp [pot,h]
theorem pot_pos {s : R8} (h : 0 < s.left) : pot s = 8 * s.l.length + 88:=pot_ok (R8.left_pos h).1
theorem pot_num (s : R8) (k : Nat) (h1 : 1≤k) (h7 : k≤7) : pot (s.numS k)≤pot s:=by
  cases hb : (s.numS k).bad with
  | true=>rw [pot_bad hb];omega
  | false=>
    obtain ⟨a,b⟩ :=num_ok k h1 h7 hb
    rw [pot_ok hb,pot_ok a];omega
theorem potP {s : R8} (h : 0 < s.left) : 16 + pot (sP s)≤pot s:=by
  rw [pot_pos h]
  cases hb : (sP s).bad with
  | true=>rw [pot_bad hb];omega
  | false=>
    rw [pot_ok hb]
    unfold sP at *
    obtain ⟨_,a⟩ :=pt_ok hb;omega
theorem potW {s : R8} (h : 0 < s.left) : 40 + pot (sW s)≤pot s:=by
  rw [pot_pos h]
  cases hb : (sW s).bad with
  | true=>rw [pot_bad hb];omega
  | false=>
    rw [pot_ok hb]
    unfold sW at *
    obtain ⟨a1,a⟩ :=num1_ok hb
    obtain ⟨b1,b⟩ :=pt_ok a1
    obtain ⟨_,c⟩ :=pt_ok b1;omega
theorem potPa {s : R8} (h : 0 < s.left) : 16 + pot (sPa s)≤pot s:=by
  rw [pot_pos h]
  cases hb : (sPa s).bad with
  | true=>rw [pot_bad hb];omega
  | false=>
    rw [pot_ok hb]
    unfold sPa at *
    obtain ⟨a1,a⟩ :=num1_ok hb
    obtain ⟨_,b⟩ :=num1_ok a1;omega
theorem potRe {s : R8} (h : 0 < s.left) : 80 + pot (sRe s)≤pot s:=by
  rw [pot_pos h]
  cases hb : (sRe s).bad with
  | true=>rw [pot_bad hb];omega
  | false=>
    rw [pot_ok hb]
    unfold sRe at *
    obtain ⟨⟨a1,a⟩,_⟩ :=tri_ok hb
    obtain ⟨b1,b⟩ :=num1_ok a1
    obtain ⟨c1,c⟩ :=num1_ok b1
    obtain ⟨d1,d⟩ :=num2_ok c1
    obtain ⟨_,e⟩ :=num1_ok d1;omega
theorem potCa {s : R8} (h : 0 < s.left) : 72 + pot (sCa s)≤pot s:=by
  rw [pot_pos h]
  cases hb : (sCa s).bad with
  | true=>rw [pot_bad hb];omega
  | false=>
    rw [pot_ok hb]
    unfold sCa at *
    obtain ⟨a1,a⟩ :=num1_ok hb
    obtain ⟨b1,b⟩ :=num2_ok a1
    obtain ⟨c1,c⟩ :=num4_ok b1
    obtain ⟨d1,d⟩ :=num1_ok c1
    obtain ⟨e1,e⟩ :=num2_ok d1
    obtain ⟨f1,f⟩ :=num1_ok e1
    obtain ⟨g1,g⟩ :=num1_ok f1
    obtain ⟨i1,i⟩ :=num1_ok g1
    obtain ⟨_,j⟩ :=num1_ok i1;omega
theorem potIs {s : R8} (h : 0 < s.left) : 24 + pot (sIs s)≤pot s:=by
  rw [pot_pos h]
  cases hb : (sIs s).bad with
  | true=>rw [pot_bad hb];omega
  | false=>
    rw [pot_ok hb]
    unfold sIs at *
    obtain ⟨a1,a⟩ :=num1_ok hb
    obtain ⟨b1,b⟩ :=num1_ok a1
    obtain ⟨_,c⟩ :=num1_ok b1;omega
theorem potCo {s : R8} (h : 0 < s.left) : 24 + pot (sCo s)≤pot s:=by
  rw [pot_pos h]
  cases hb : (sCo s).bad with
  | true=>rw [pot_bad hb];omega
  | false=>
    rw [pot_ok hb]
    unfold sCo at *
    obtain ⟨a1,a⟩ :=num2_ok hb
    obtain ⟨b1,b⟩ :=num2_ok a1
    obtain ⟨_,c⟩ :=num1_ok b1;omega
theorem potCh {s : R8} (h : 0 < s.left) : 24 + (rCh s).b.length + pot (sCh s)≤pot s:=by
  rw [pot_pos h]
  cases hb : (sCh s).bad with
  | true=>
    rw [pot_bad hb]
    unfold sCh at hb
    have:=raw_no hb
    simp only [rCh,this,List.length_nil];omega
  | false=>
    rw [pot_ok hb]
    unfold sCh rCh at *
    obtain ⟨a1,a,_⟩ :=raw_ok hb
    obtain ⟨b1,b⟩ :=num2_ok a1
    obtain ⟨c1,c⟩ :=num1_ok b1
    obtain ⟨_,d⟩ :=num1_ok c1
    dsimp only
    omega
theorem potF {f : R8→List Int} {g : R8→R8} {c : Nat} (hs : ∀ s,0 < s.left→c + pot (g s)≤pot s) : ∀ n s,(itemsF f g n s).1.length * c + pot (itemsF f g n s).2≤pot s
  | 0,s=>by simp [itemsF]
  | n + 1,s=>by
    unfold itemsF
    split
    · rename_i h
      have:=hs s h
      have:=potF (f:=f) hs n (g s)
      simp only [List.length_cons,Nat.succ_mul];omega
    · simp
theorem potI {f : R8→List Int} {g : R8→R8} {c : Nat} (hs : ∀ s,0 < s.left→c + pot (g s)≤pot s) (s : R8) : (itemsV f g s).length * c + pot (itemsS f g s)≤pot s:=by
  have:=potF (f:=f) hs (s.numV 2).toNat (s.numS 2)
  have h2:=pot_num s 2 (by omega) (by omega)
  exact Nat.le_trans this h2
theorem potFC : ∀ n s,roomC (itemsF rCh sCh n s).1 + pot (itemsF rCh sCh n s).2≤pot s
  | 0,s=>by simp [itemsF,roomC]
  | n + 1,s=>by
    unfold itemsF
    split
    · rename_i h
      have:=potCh h
      have:=potFC n (sCh s)
      simp only [roomC];omega
    · simp [roomC]
theorem potIC (s : R8) : roomC (itemsV rCh sCh s) + pot (itemsS rCh sCh s)≤pot s:=
  Nat.le_trans (potFC (s.numV 2).toNat (s.numS 2)) (pot_num s 2 (by omega) (by omega))
def dN (s : R8) : R8:=(((((((s.numS 3).numS 3).numS 1).numS 2).numS 2).numS 2).numS 4)
def d1 (s : R8) : R8:=itemsS rP sP (dN s)
def d2 (s : R8) : R8:=itemsS rW sW (d1 s)
def d3 (s : R8) : R8:=itemsS rPa sPa (d2 s)
def d4 (s : R8) : R8:=itemsS rRe sRe (d3 s)
def d5 (s : R8) : R8:=itemsS rCa sCa (d4 s)
def d6 (s : R8) : R8:=itemsS rIs sIs (d5 s)
def d7 (s : R8) : R8:=itemsS rCo sCo (d6 s)
def dE (s : R8) : R8:=itemsS rCh sCh (d7 s)
def dV (s : R8) : MapV:=⟨s.numV 3,(s.numS 3).numV 3,((s.numS 3).numS 3).numV 1,(((s.numS 3).numS 3).numS 1).numV 2,((((s.numS 3).numS 3).numS 1).numS 2).numV 2,(((((s.numS 3).numS 3).numS 1).numS 2).numS 2).numV 2,((((((s.numS 3).numS 3).numS 1).numS 2).numS 2).numS 2).numV 4,
  itemsV rP sP (dN s),itemsV rW sW (d1 s),itemsV rPa sPa (d2 s),itemsV rRe sRe (d3 s),itemsV rCa sCa (d4 s),itemsV rIs sIs (d5 s),itemsV rCo sCo (d6 s),itemsV rCh sCh (d7 s)⟩
theorem dV_room (s : R8) : (dV s).room≤208 + 8 * s.l.length:=by
  have h0 : pot (dN s)≤pot s:=by
    unfold dN
    refine Nat.le_trans (pot_num _ 4 (by omega) (by omega)) ?_
    refine Nat.le_trans (pot_num _ 2 (by omega) (by omega)) ?_
    refine Nat.le_trans (pot_num _ 2 (by omega) (by omega)) ?_
    refine Nat.le_trans (pot_num _ 2 (by omega) (by omega)) ?_
    refine Nat.le_trans (pot_num _ 1 (by omega) (by omega)) ?_
    refine Nat.le_trans (pot_num _ 3 (by omega) (by omega)) ?_
    exact pot_num _ 3 (by omega) (by omega)
  have h:=pot_le s
  have h1:=potI (f:=rP) (fun s=>potP (s:=s)) (dN s)
  have h2:=potI (f:=rW) (fun s=>potW (s:=s)) (d1 s)
  have h3:=potI (f:=rPa) (fun s=>potPa (s:=s)) (d2 s)
  have h4:=potI (f:=rRe) (fun s=>potRe (s:=s)) (d3 s)
  have h5:=potI (f:=rCa) (fun s=>potCa (s:=s)) (d4 s)
  have h6:=potI (f:=rIs) (fun s=>potIs (s:=s)) (d5 s)
  have h7:=potI (f:=rCo) (fun s=>potCo (s:=s)) (d6 s)
  have h8:=potIC (d7 s)
  rw [← d1] at h1;rw [← d2] at h2;rw [← d3] at h3;rw [← d4] at h4;rw [← d5] at h5;rw [← d6] at h6;rw [← d7] at h7
  unfold MapV.room dV
  dsimp only
  omega
theorem rP_ok {s : R8} (hb : Byt s.l) : Ok64 (rP s):=by
  have h0:=ptV_rng _ hb
  have b0:=ptS_byt _ hb
  unfold rP Ok64
  simp only [List.forall_mem_cons,List.not_mem_nil,false_implies,implies_true,and_true]
  omega
theorem rW_ok {s : R8} (hb : Byt s.l) : Ok64 (rW s):=by
  have h0:=ptV_rng _ hb
  have b0:=ptS_byt _ hb
  have h1:=ptV_rng _ b0
  have b1:=ptS_byt _ b0
  have h2:=num1_rng _ b1
  have b2:=numS_byt _ 1 b1
  unfold rW Ok64
  simp only [List.forall_mem_cons,List.not_mem_nil,false_implies,implies_true,and_true]
  omega
theorem rPa_ok {s : R8} (hb : Byt s.l) : Ok64 (rPa s):=by
  have h0:=num1_rng _ hb
  have b0:=numS_byt _ 1 hb
  have h1:=num1_rng _ b0
  have b1:=numS_byt _ 1 b0
  unfold rPa Ok64
  simp only [List.forall_mem_cons,List.not_mem_nil,false_implies,implies_true,and_true]
  omega
theorem rRe_ok {s : R8} (hb : Byt s.l) : Ok64 (rRe s):=by
  have h0:=num1_rng _ hb
  have b0:=numS_byt _ 1 hb
  have h1:=num2_rng _ b0
  have b1:=numS_byt _ 2 b0
  have h2:=num1_rng _ b1
  have b2:=numS_byt _ 1 b1
  have h3:=num1_rng _ b2
  have b3:=numS_byt _ 1 b2
  have h4:=triV_rng _ b3
  unfold T3.rng at h4
  have b4:=triS_byt _ b3
  unfold rRe Ok64
  simp only [List.forall_mem_cons,List.not_mem_nil,false_implies,implies_true,and_true]
  omega
theorem rCa_ok {s : R8} (hb : Byt s.l) : Ok64 (rCa s):=by
  have h0:=num1_rng _ hb
  have b0:=numS_byt _ 1 hb
  have h1:=num1_rng _ b0
  have b1:=numS_byt _ 1 b0
  have h2:=num1_rng _ b1
  have b2:=numS_byt _ 1 b1
  have h3:=num1_rng _ b2
  have b3:=numS_byt _ 1 b2
  have h4:=num2_rng _ b3
  have b4:=numS_byt _ 2 b3
  have h5:=num1_rng _ b4
  have b5:=numS_byt _ 1 b4
  have h6:=num4_rng _ b5
  have b6:=numS_byt _ 4 b5
  have h7:=num2_rng _ b6
  have b7:=numS_byt _ 2 b6
  have h8:=num1_rng _ b7
  have b8:=numS_byt _ 1 b7
  unfold rCa Ok64
  simp only [List.forall_mem_cons,List.not_mem_nil,false_implies,implies_true,and_true]
  rw [i64w _ (by omega) (by omega)]
  omega
theorem rIs_ok {s : R8} (hb : Byt s.l) : Ok64 (rIs s):=by
  have h0:=num1_rng _ hb
  have b0:=numS_byt _ 1 hb
  have h1:=num1_rng _ b0
  have b1:=numS_byt _ 1 b0
  have h2:=num1_rng _ b1
  have b2:=numS_byt _ 1 b1
  unfold rIs Ok64
  simp only [List.forall_mem_cons,List.not_mem_nil,false_implies,implies_true,and_true]
  omega
theorem rCo_ok {s : R8} (hb : Byt s.l) : Ok64 (rCo s):=by
  have h0:=num1_rng _ hb
  have b0:=numS_byt _ 1 hb
  have h1:=num2_rng _ b0
  have b1:=numS_byt _ 2 b0
  have h2:=num2_rng _ b1
  have b2:=numS_byt _ 2 b1
  unfold rCo Ok64
  simp only [List.forall_mem_cons,List.not_mem_nil,false_implies,implies_true,and_true]
  omega
theorem itemsF_all {α : Type} {P : α→Prop} {f : R8→α} {g : R8→R8} (hf : ∀ s : R8,Byt s.l→P (f s)) (hg : ∀ s : R8,Byt s.l→Byt (g s).l) : ∀ n s,Byt s.l→(∀ x ∈ (itemsF f g n s).1,P x)∧Byt (itemsF f g n s).2.l
  | 0,s,hb=>⟨fun x hx=>(by cases hx),hb⟩
  | n + 1,s,hb=>by
    unfold itemsF
    split
    · obtain ⟨h1,h2⟩ :=itemsF_all hf hg n (g s) (hg s hb)
      exact ⟨fun x hx=>(List.mem_cons.1 hx).elim (fun e=>by rw [e];exact hf s hb) (h1 x),h2⟩
    · exact ⟨fun x hx=>(by cases hx),hb⟩
theorem itemsV_all {α : Type} {P : α→Prop} {f : R8→α} {g : R8→R8} (hf : ∀ s : R8,Byt s.l→P (f s)) (hg : ∀ s : R8,Byt s.l→Byt (g s).l) {s : R8} (hb : Byt s.l) : (∀ x ∈ itemsV f g s,P x)∧Byt (itemsS f g s).l:=
  itemsF_all hf hg _ _ (numS_byt s 2 hb)
theorem rCh_ok {s : R8} (hb : Byt s.l) : (-9223372036854775808≤(rCh s).t∧(rCh s).t≤9223372036854775807)∧Byt (rCh s).b:=by
  have h0:=num1_rng _ hb
  refine ⟨?_,(rawS_byt _ _ (numS_byt _ 2 (numS_byt _ 1 (numS_byt _ 1 hb)))).2⟩
  unfold rCh;dsimp only;omega
theorem dN_byt {s : R8} (hb : Byt s.l) : Byt (dN s).l:=numS_byt _ 4 (numS_byt _ 2 (numS_byt _ 2 (numS_byt _ 2 (numS_byt _ 1 (numS_byt _ 3 (numS_byt _ 3 hb))))))
theorem d1_byt {s : R8} (hb : Byt s.l) : Byt (d1 s).l:=(itemsV_all (P:=Ok64) (f:=rP) (g:=sP) (fun s=>rP_ok (s:=s)) (fun s=>sP_byt (s:=s)) (dN_byt hb)).2
theorem d2_byt {s : R8} (hb : Byt s.l) : Byt (d2 s).l:=(itemsV_all (P:=Ok64) (f:=rW) (g:=sW) (fun s=>rW_ok (s:=s)) (fun s=>sW_byt (s:=s)) (d1_byt hb)).2
theorem d3_byt {s : R8} (hb : Byt s.l) : Byt (d3 s).l:=(itemsV_all (P:=Ok64) (f:=rPa) (g:=sPa) (fun s=>rPa_ok (s:=s)) (fun s=>sPa_byt (s:=s)) (d2_byt hb)).2
theorem d4_byt {s : R8} (hb : Byt s.l) : Byt (d4 s).l:=(itemsV_all (P:=Ok64) (f:=rRe) (g:=sRe) (fun s=>rRe_ok (s:=s)) (fun s=>sRe_byt (s:=s)) (d3_byt hb)).2
theorem d5_byt {s : R8} (hb : Byt s.l) : Byt (d5 s).l:=(itemsV_all (P:=Ok64) (f:=rCa) (g:=sCa) (fun s=>rCa_ok (s:=s)) (fun s=>sCa_byt (s:=s)) (d4_byt hb)).2
theorem d6_byt {s : R8} (hb : Byt s.l) : Byt (d6 s).l:=(itemsV_all (P:=Ok64) (f:=rIs) (g:=sIs) (fun s=>rIs_ok (s:=s)) (fun s=>sIs_byt (s:=s)) (d5_byt hb)).2
theorem d7_byt {s : R8} (hb : Byt s.l) : Byt (d7 s).l:=(itemsV_all (P:=Ok64) (f:=rCo) (g:=sCo) (fun s=>rCo_ok (s:=s)) (fun s=>sCo_byt (s:=s)) (d6_byt hb)).2
theorem dV_ch {s : R8} (hb : Byt s.l) : ∀ x ∈ (dV s).ch,(-9223372036854775808≤x.t∧x.t≤9223372036854775807)∧Byt x.b:=by
  have:=(itemsV_all (P:=fun x=>(-9223372036854775808≤x.t∧x.t≤9223372036854775807)∧Byt x.b) (f:=rCh) (g:=sCh) (fun s=>rCh_ok (s:=s)) (fun s=>sCh_byt (s:=s)) (d7_byt hb)).1
  unfold dV
  dsimp only
  exact this
theorem dV_ok {s : R8} (hb : Byt s.l) : (dV s).Ok where
  ns:=by
    have h0:=num3_rng _ hb
    have b0:=numS_byt _ 3 hb
    have h1:=num3_rng _ b0
    have b1:=numS_byt _ 3 b0
    have h2:=num1_rng _ b1
    have b2:=numS_byt _ 1 b1
    have h3:=num2_rng _ b2
    have b3:=numS_byt _ 2 b2
    have h4:=num2_rng _ b3
    have b4:=numS_byt _ 2 b3
    have h5:=num2_rng _ b4
    have b5:=numS_byt _ 2 b4
    have h6:=num4_rng _ b5
    unfold dV Ok64
    simp only [List.forall_mem_cons,List.not_mem_nil,false_implies,implies_true,and_true]
    omega
  p:=by have:=(itemsV_all (P:=Ok64) (f:=rP) (g:=sP) (fun s=>rP_ok (s:=s)) (fun s=>sP_byt (s:=s)) (dN_byt hb)).1;unfold dV;dsimp only;exact this
  wa:=by have:=(itemsV_all (P:=Ok64) (f:=rW) (g:=sW) (fun s=>rW_ok (s:=s)) (fun s=>sW_byt (s:=s)) (d1_byt hb)).1;unfold dV;dsimp only;exact this
  pa:=by have:=(itemsV_all (P:=Ok64) (f:=rPa) (g:=sPa) (fun s=>rPa_ok (s:=s)) (fun s=>sPa_byt (s:=s)) (d2_byt hb)).1;unfold dV;dsimp only;exact this
  re:=by have:=(itemsV_all (P:=Ok64) (f:=rRe) (g:=sRe) (fun s=>rRe_ok (s:=s)) (fun s=>sRe_byt (s:=s)) (d3_byt hb)).1;unfold dV;dsimp only;exact this
  ca:=by have:=(itemsV_all (P:=Ok64) (f:=rCa) (g:=sCa) (fun s=>rCa_ok (s:=s)) (fun s=>sCa_byt (s:=s)) (d4_byt hb)).1;unfold dV;dsimp only;exact this
  is:=by have:=(itemsV_all (P:=Ok64) (f:=rIs) (g:=sIs) (fun s=>rIs_ok (s:=s)) (fun s=>sIs_byt (s:=s)) (d5_byt hb)).1;unfold dV;dsimp only;exact this
  co:=by have:=(itemsV_all (P:=Ok64) (f:=rCo) (g:=sCo) (fun s=>rCo_ok (s:=s)) (fun s=>sCo_byt (s:=s)) (d6_byt hb)).1;unfold dV;dsimp only;exact this
  ch:=fun x hx=>(dV_ch hb x hx).1
end Go.Proofs.YtnhgjgoglmadnaaGreat
