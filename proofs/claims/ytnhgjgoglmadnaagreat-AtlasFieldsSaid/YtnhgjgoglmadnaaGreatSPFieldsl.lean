/- Joined texts of this claim (part 12), printed by a program of this work. The last part holds the claimed theorem: the law answers true at every input of its row. -/
import Derived.Test.YtnhgjgoglmadnaaGreatSPFieldsk
namespace Go.Proofs.YtnhgjgoglmadnaaGreat
open Go.RowKit
set_option maxRecDepth 100000
set_option linter.unusedSimpArgs false
set_option linter.unusedVariables false
theorem wrap_ok (e : Int) : -9223372036854775808≤IntKind.i64.wrap e∧IntKind.i64.wrap e≤9223372036854775807:=by
  simp [IntKind.wrap,IntKind.bits,IntKind.signed];(try split)<;>omega
def encL (f : W8→List Int→W8) (s : W8) (xs : List (List Int)) : W8:=xs.foldl f (s.num xs.length 2)
theorem len_2 {x : List Int} (h : x.length = 2) : ∃ a0 a1,x = [a0,a1]:=by
  match x,h with
  | [a0,a1],_=>exact ⟨_,_,rfl⟩
theorem len_3 {x : List Int} (h : x.length = 3) : ∃ a0 a1 a2,x = [a0,a1,a2]:=by
  match x,h with
  | [a0,a1,a2],_=>exact ⟨_,_,_,rfl⟩
theorem len_5 {x : List Int} (h : x.length = 5) : ∃ a0 a1 a2 a3 a4,x = [a0,a1,a2,a3,a4]:=by
  match x,h with
  | [a0,a1,a2,a3,a4],_=>exact ⟨_,_,_,_,_,rfl⟩
theorem len_9 {x : List Int} (h : x.length = 9) : ∃ a0 a1 a2 a3 a4 a5 a6 a7 a8,x = [a0,a1,a2,a3,a4,a5,a6,a7,a8]:=by
  match x,h with
  | [a0,a1,a2,a3,a4,a5,a6,a7,a8],_=>exact ⟨_,_,_,_,_,_,_,_,_,rfl⟩
theorem len_10 {x : List Int} (h : x.length = 10) : ∃ a0 a1 a2 a3 a4 a5 a6 a7 a8 a9,x = [a0,a1,a2,a3,a4,a5,a6,a7,a8,a9]:=by
  match x,h with
  | [a0,a1,a2,a3,a4,a5,a6,a7,a8,a9],_=>exact ⟨_,_,_,_,_,_,_,_,_,_,rfl⟩
def wP (s : W8) : List Int→W8
  | [a0,a1]=>s.pt a0 a1
  | _=>s
theorem listP {w0 w : World} {q : Res} {c p k : Nat} {s : W8} {v : Value} {xs : List (List Int)} {K : Value → World → Prop} (h : Sep w0 (fun _ => False) [q, wr 75 p s k, blk c 73 [.pointer (some ⟨p, 0, none⟩)]] w) (hT : Tab 2 w0 v xs) (hO : ∀ x ∈ xs, Ok64 x) (hl : k + 8 + xs.length * 16 ≤ 800000)
    (hK : ∀ w1,Sep w0 (fun _=>False) [q,wr 75 p (encL wP s xs) (k + 8 + xs.length * 16),blk c 73 [.pointer (some ⟨p,0,none⟩)]] w1→K (.tuple #[]) w1) :
    callsK Tryz.prog 20 [.pointer (some ⟨p,0,none⟩),v,.func (.func 21) #[] #[.pointer (some ⟨c,0,none⟩)]].toArray w K:=by
  obtain ⟨a,cc,rfl⟩ :=hT.shape
  have hln:=hT.len
  simp only [maxLen] at hln
  refine walk Tryz.func20 rfl (by kernel_rfl) (by rw [Tryz.nt20];simp) ?_
  replace h:=Zd h;have F:=Zf2 h
  refine Zv ?_
  refine Sep.num 1 h rfl (by omega) (by omega) (by omega) ?_
  clear h F
  intro w1 h
  replace h:=Zd h;have F:=Zf2 h;refine Zs ?_
  refine walkLoop [2,12,13] [14] (fun m vs w'=>∃ i,i≤xs.length∧m = xs.length - i∧vs = [.int .i64 i]∧Sep w0 (fun _=>False) [q,wr 75 p ((xs.take i).foldl wP (s.num xs.length 2)) (k + 8 + i * 16),blk c 73 [.pointer (some ⟨p,0,none⟩)]] w') (by kernel_rfl) ?_ ?_
  · refine Zv ?_
    exact ⟨_,0,Nat.zero_le _,rfl,rfl,by simpa using h⟩
  intro ks hk m vs w2 hi
  clear h F
  obtain ⟨i,hi,rfl,rfl,h⟩ :=hi
  replace hk:=Zk hk;subst hk
  by_cases hlt : (i : Int) < xs.length
  case neg=>
    have hil : i = xs.length:=by omega
    subst hil
    rw [List.take_of_length_le (Nat.le_refl _)] at h
    replace h:=Zd h;have F:=Zf2 h;refine Zs1 (decide_eq_false hlt) ?_
    exact hK _ h
  have hil : i < xs.length:=by omega
  have hfold : (xs.take (i + 1)).foldl wP (s.num xs.length 2) = wP ((xs.take i).foldl wP (s.num xs.length 2)) xs[i]:=by rw [List.take_succ_eq_append_getElem hil,List.foldl_append];rfl
  obtain ⟨b,o,rfl,hcells⟩ :=hT.at hil (by decide)
  have hx:=hT.wid _ (List.getElem_mem hil)
  have ho:=hO _ (List.getElem_mem hil)
  generalize xs[i] = x at *
  obtain ⟨a0,a1,rfl⟩ :=len_2 hx
  have ho':=ho
  simp only [Ok64,List.forall_mem_cons,List.not_mem_nil,false_implies,implies_true,and_true] at ho
  have ei : IntKind.i64.wrap ((i : Int) + 1) = ((i + 1 : Nat) : Int):=by rw [i64w _ (by omega) (by omega)];omega
  have hcw : cellsAt w2 b (o + i * 2) 2 = some (cellsI [a0,a1]):=by
    obtain ⟨hl,hat⟩ :=cellsAt_elim hcells
    have:=cellsAt_of (w:=w2) (b:=b) (o:=o + i * 2) (cellsI [a0,a1]) (fun j u hj=>by
      have:=hat j u hj
      rw [h.cell0 (by rw [this];rfl) id,this])
    simpa [cellsI] using this
  clear hcells
  replace h:=Zd h;have F:=Zf2 h;refine Zs1 (decide_eq_true hlt) ?_
  refine ⟨⟨by omega,by omega⟩,?_⟩
  replace h:=Zd h;have F:=Zf2 h;refine Zs1 (J hcw (@cellsI.eq_1)) ?_
  clear hcw
  repeat ((first | refine Sep.new h ?_ | refine Sep.put 0 h rfl ?_ | refine Sep.put 1 h rfl ?_ | refine Sep.put 2 h rfl ?_ | refine Sep.put 3 h rfl ?_ | refine Sep.put 4 h rfl ?_ | refine Sep.put 5 h rfl ?_);(clear F;(try clear h);intros;rename_i h;replace h:=Zd h;have F:=Zf2 h;refine Zc ?_))
  refine walk Tryz.func21 rfl (by kernel_rfl) (by rw [Tryz.nt21];simp) ?_
  replace h:=Zd h;have F:=Zf2 h;refine Zs ?_
  refine h.new ?_
  clear h F
  intro w9 b9 h
  replace h:=Zd h;have F:=Zf2 h;refine Zc ?_
  repeat ((first | refine Sep.new h ?_ | refine Sep.put 0 h rfl ?_ | refine Sep.put 1 h rfl ?_ | refine Sep.put 2 h rfl ?_ | refine Sep.put 3 h rfl ?_ | refine Sep.put 4 h rfl ?_ | refine Sep.put 5 h rfl ?_ | refine Sep.num 1 h rfl (by omega) (by omega) (by omega) ?_ | refine Sep.num 1 h rfl (by omega) (wrap_ok _).1 (wrap_ok _).2 ?_ | refine Sep.point 1 h rfl (by omega) (by omega) (by omega) (by omega) (by omega) ?_ | refine Sep.tri 1 h rfl (by omega) (by simp only [Ok64,List.forall_mem_cons,List.not_mem_nil,false_implies,implies_true,and_true];omega) ?_);(clear F;(try clear h);intros;rename_i h;replace h:=Zd h;have F:=Zf2 h;refine Zs1 ei ?_))
  refine ⟨_,?_,i + 1,by omega,rfl,rfl,?_⟩
  · omega
  rw [hfold]
  exact ((h.erase 4).erase 3).wrMono' 1 _ rfl (by omega)
def wW (s : W8) : List Int→W8
  | [a0,a1,a2,a3,a4]=>((s.pt a0 a1).pt a2 a3).num a4 1
  | _=>s
theorem listW {w0 w : World} {q : Res} {c p k : Nat} {s : W8} {v : Value} {xs : List (List Int)} {K : Value → World → Prop} (h : Sep w0 (fun _ => False) [q, wr 75 p s k, blk c 73 [.pointer (some ⟨p, 0, none⟩)]] w) (hT : Tab 5 w0 v xs) (hO : ∀ x ∈ xs, Ok64 x) (hl : k + 8 + xs.length * 40 ≤ 800000)
    (hK : ∀ w1,Sep w0 (fun _=>False) [q,wr 75 p (encL wW s xs) (k + 8 + xs.length * 40),blk c 73 [.pointer (some ⟨p,0,none⟩)]] w1→K (.tuple #[]) w1) :
    callsK Tryz.prog 23 [.pointer (some ⟨p,0,none⟩),v,.func (.func 24) #[] #[.pointer (some ⟨c,0,none⟩)]].toArray w K:=by
  obtain ⟨a,cc,rfl⟩ :=hT.shape
  have hln:=hT.len
  simp only [maxLen] at hln
  refine walk Tryz.func23 rfl (by kernel_rfl) (by rw [Tryz.nt23];simp) ?_
  replace h:=Zd h;have F:=Zf2 h
  refine Zv ?_
  refine Sep.num 1 h rfl (by omega) (by omega) (by omega) ?_
  clear h F
  intro w1 h
  replace h:=Zd h;have F:=Zf2 h;refine Zs ?_
  refine walkLoop [2,12,13] [14] (fun m vs w'=>∃ i,i≤xs.length∧m = xs.length - i∧vs = [.int .i64 i]∧Sep w0 (fun _=>False) [q,wr 75 p ((xs.take i).foldl wW (s.num xs.length 2)) (k + 8 + i * 40),blk c 73 [.pointer (some ⟨p,0,none⟩)]] w') (by kernel_rfl) ?_ ?_
  · refine Zv ?_
    exact ⟨_,0,Nat.zero_le _,rfl,rfl,by simpa using h⟩
  intro ks hk m vs w2 hi
  clear h F
  obtain ⟨i,hi,rfl,rfl,h⟩ :=hi
  replace hk:=Zk hk;subst hk
  by_cases hlt : (i : Int) < xs.length
  case neg=>
    have hil : i = xs.length:=by omega
    subst hil
    rw [List.take_of_length_le (Nat.le_refl _)] at h
    replace h:=Zd h;have F:=Zf2 h;refine Zs1 (decide_eq_false hlt) ?_
    exact hK _ h
  have hil : i < xs.length:=by omega
  have hfold : (xs.take (i + 1)).foldl wW (s.num xs.length 2) = wW ((xs.take i).foldl wW (s.num xs.length 2)) xs[i]:=by rw [List.take_succ_eq_append_getElem hil,List.foldl_append];rfl
  obtain ⟨b,o,rfl,hcells⟩ :=hT.at hil (by decide)
  have hx:=hT.wid _ (List.getElem_mem hil)
  have ho:=hO _ (List.getElem_mem hil)
  generalize xs[i] = x at *
  obtain ⟨a0,a1,a2,a3,a4,rfl⟩ :=len_5 hx
  have ho':=ho
  simp only [Ok64,List.forall_mem_cons,List.not_mem_nil,false_implies,implies_true,and_true] at ho
  have ei : IntKind.i64.wrap ((i : Int) + 1) = ((i + 1 : Nat) : Int):=by rw [i64w _ (by omega) (by omega)];omega
  have hcw : cellsAt w2 b (o + i * 5) 5 = some (cellsI [a0,a1,a2,a3,a4]):=by
    obtain ⟨hl,hat⟩ :=cellsAt_elim hcells
    have:=cellsAt_of (w:=w2) (b:=b) (o:=o + i * 5) (cellsI [a0,a1,a2,a3,a4]) (fun j u hj=>by
      have:=hat j u hj
      rw [h.cell0 (by rw [this];rfl) id,this])
    simpa [cellsI] using this
  clear hcells
  replace h:=Zd h;have F:=Zf2 h;refine Zs1 (decide_eq_true hlt) ?_
  refine ⟨⟨by omega,by omega⟩,?_⟩
  replace h:=Zd h;have F:=Zf2 h;refine Zs1 (J hcw (@cellsI.eq_1)) ?_
  clear hcw
  repeat ((first | refine Sep.new h ?_ | refine Sep.put 0 h rfl ?_ | refine Sep.put 1 h rfl ?_ | refine Sep.put 2 h rfl ?_ | refine Sep.put 3 h rfl ?_ | refine Sep.put 4 h rfl ?_ | refine Sep.put 5 h rfl ?_);(clear F;(try clear h);intros;rename_i h;replace h:=Zd h;have F:=Zf2 h;refine Zc ?_))
  refine walk Tryz.func24 rfl (by kernel_rfl) (by rw [Tryz.nt24];simp) ?_
  replace h:=Zd h;have F:=Zf2 h;refine Zs ?_
  refine h.new ?_
  clear h F
  intro w9 b9 h
  replace h:=Zd h;have F:=Zf2 h;refine Zc ?_
  refine walkDraw (.q 1 (.q 4 (.q 7 (.h 0 0 (.h 2 1 (.h 5 3 (.h 8 5 (.l 3 (.l 6 (.l 9 .fin)))))))))) [(c,0,.pointer (some ⟨p,0,none⟩)),(b9,0,.int .i64 a0),(b9,1,.int .i64 a1),(b9,2,.int .i64 a2),(b9,3,.int .i64 a3),(b9,4,.int .i64 a4)] (by kernel_rfl) (by simp [Holds_nil,Holds_cons,F]) ?_
  refine h.draw ?_
  clear h F
  intro w10 h
  replace h:=Zd h;have F:=Zf2 h;refine Zs ?_
  repeat ((first | refine Sep.new h ?_ | refine Sep.put 0 h rfl ?_ | refine Sep.put 1 h rfl ?_ | refine Sep.put 2 h rfl ?_ | refine Sep.put 3 h rfl ?_ | refine Sep.put 4 h rfl ?_ | refine Sep.put 5 h rfl ?_ | refine Sep.num 1 h rfl (by omega) (by omega) (by omega) ?_ | refine Sep.num 1 h rfl (by omega) (wrap_ok _).1 (wrap_ok _).2 ?_ | refine Sep.point 1 h rfl (by omega) (by omega) (by omega) (by omega) (by omega) ?_ | refine Sep.tri 1 h rfl (by omega) (by simp only [Ok64,List.forall_mem_cons,List.not_mem_nil,false_implies,implies_true,and_true];omega) ?_);(clear F;(try clear h);intros;rename_i h;replace h:=Zd h;have F:=Zf2 h;refine Zs1 ei ?_))
  refine ⟨_,?_,i + 1,by omega,rfl,rfl,?_⟩
  · omega
  rw [hfold]
  exact ((h.erase 4).erase 3).wrMono' 1 _ rfl (by omega)
def wPa (s : W8) : List Int→W8
  | [a0,a1]=>(s.num a0 1).num a1 1
  | _=>s
theorem listPa {w0 w : World} {q : Res} {c p k : Nat} {s : W8} {v : Value} {xs : List (List Int)} {K : Value → World → Prop} (h : Sep w0 (fun _ => False) [q, wr 75 p s k, blk c 73 [.pointer (some ⟨p, 0, none⟩)]] w) (hT : Tab 2 w0 v xs) (hO : ∀ x ∈ xs, Ok64 x) (hl : k + 8 + xs.length * 16 ≤ 800000)
    (hK : ∀ w1,Sep w0 (fun _=>False) [q,wr 75 p (encL wPa s xs) (k + 8 + xs.length * 16),blk c 73 [.pointer (some ⟨p,0,none⟩)]] w1→K (.tuple #[]) w1) :
    callsK Tryz.prog 25 [.pointer (some ⟨p,0,none⟩),v,.func (.func 26) #[] #[.pointer (some ⟨c,0,none⟩)]].toArray w K:=by
  obtain ⟨a,cc,rfl⟩ :=hT.shape
  have hln:=hT.len
  simp only [maxLen] at hln
  refine walk Tryz.func25 rfl (by kernel_rfl) (by rw [Tryz.nt25];simp) ?_
  replace h:=Zd h;have F:=Zf2 h
  refine Zv ?_
  refine Sep.num 1 h rfl (by omega) (by omega) (by omega) ?_
  clear h F
  intro w1 h
  replace h:=Zd h;have F:=Zf2 h;refine Zs ?_
  refine walkLoop [2,12,13] [14] (fun m vs w'=>∃ i,i≤xs.length∧m = xs.length - i∧vs = [.int .i64 i]∧Sep w0 (fun _=>False) [q,wr 75 p ((xs.take i).foldl wPa (s.num xs.length 2)) (k + 8 + i * 16),blk c 73 [.pointer (some ⟨p,0,none⟩)]] w') (by kernel_rfl) ?_ ?_
  · refine Zv ?_
    exact ⟨_,0,Nat.zero_le _,rfl,rfl,by simpa using h⟩
  intro ks hk m vs w2 hi
  clear h F
  obtain ⟨i,hi,rfl,rfl,h⟩ :=hi
  replace hk:=Zk hk;subst hk
  by_cases hlt : (i : Int) < xs.length
  case neg=>
    have hil : i = xs.length:=by omega
    subst hil
    rw [List.take_of_length_le (Nat.le_refl _)] at h
    replace h:=Zd h;have F:=Zf2 h;refine Zs1 (decide_eq_false hlt) ?_
    exact hK _ h
  have hil : i < xs.length:=by omega
  have hfold : (xs.take (i + 1)).foldl wPa (s.num xs.length 2) = wPa ((xs.take i).foldl wPa (s.num xs.length 2)) xs[i]:=by rw [List.take_succ_eq_append_getElem hil,List.foldl_append];rfl
  obtain ⟨b,o,rfl,hcells⟩ :=hT.at hil (by decide)
  have hx:=hT.wid _ (List.getElem_mem hil)
  have ho:=hO _ (List.getElem_mem hil)
  generalize xs[i] = x at *
  obtain ⟨a0,a1,rfl⟩ :=len_2 hx
  have ho':=ho
  simp only [Ok64,List.forall_mem_cons,List.not_mem_nil,false_implies,implies_true,and_true] at ho
  have ei : IntKind.i64.wrap ((i : Int) + 1) = ((i + 1 : Nat) : Int):=by rw [i64w _ (by omega) (by omega)];omega
  have hcw : cellsAt w2 b (o + i * 2) 2 = some (cellsI [a0,a1]):=by
    obtain ⟨hl,hat⟩ :=cellsAt_elim hcells
    have:=cellsAt_of (w:=w2) (b:=b) (o:=o + i * 2) (cellsI [a0,a1]) (fun j u hj=>by
      have:=hat j u hj
      rw [h.cell0 (by rw [this];rfl) id,this])
    simpa [cellsI] using this
  clear hcells
  replace h:=Zd h;have F:=Zf2 h;refine Zs1 (decide_eq_true hlt) ?_
  refine ⟨⟨by omega,by omega⟩,?_⟩
  replace h:=Zd h;have F:=Zf2 h;refine Zs1 (J hcw (@cellsI.eq_1)) ?_
  clear hcw
  repeat ((first | refine Sep.new h ?_ | refine Sep.put 0 h rfl ?_ | refine Sep.put 1 h rfl ?_ | refine Sep.put 2 h rfl ?_ | refine Sep.put 3 h rfl ?_ | refine Sep.put 4 h rfl ?_ | refine Sep.put 5 h rfl ?_);(clear F;(try clear h);intros;rename_i h;replace h:=Zd h;have F:=Zf2 h;refine Zc ?_))
  refine walk Tryz.func26 rfl (by kernel_rfl) (by rw [Tryz.nt26];simp) ?_
  replace h:=Zd h;have F:=Zf2 h;refine Zs ?_
  refine h.new ?_
  clear h F
  intro w9 b9 h
  replace h:=Zd h;have F:=Zf2 h;refine Zc ?_
  refine walkDraw (.q 1 (.q 4 (.h 0 0 (.h 2 1 (.h 5 2 (.l 3 (.l 6 .fin))))))) [(c,0,.pointer (some ⟨p,0,none⟩)),(b9,0,.int .i64 a0),(b9,1,.int .i64 a1)] (by kernel_rfl) (by simp [Holds_nil,Holds_cons,F]) ?_
  refine h.draw ?_
  clear h F
  intro w10 h
  replace h:=Zd h;have F:=Zf2 h;refine Zs ?_
  repeat ((first | refine Sep.new h ?_ | refine Sep.put 0 h rfl ?_ | refine Sep.put 1 h rfl ?_ | refine Sep.put 2 h rfl ?_ | refine Sep.put 3 h rfl ?_ | refine Sep.put 4 h rfl ?_ | refine Sep.put 5 h rfl ?_ | refine Sep.num 1 h rfl (by omega) (by omega) (by omega) ?_ | refine Sep.num 1 h rfl (by omega) (wrap_ok _).1 (wrap_ok _).2 ?_ | refine Sep.point 1 h rfl (by omega) (by omega) (by omega) (by omega) (by omega) ?_ | refine Sep.tri 1 h rfl (by omega) (by simp only [Ok64,List.forall_mem_cons,List.not_mem_nil,false_implies,implies_true,and_true];omega) ?_);(clear F;(try clear h);intros;rename_i h;replace h:=Zd h;have F:=Zf2 h;refine Zs1 ei ?_))
  refine ⟨_,?_,i + 1,by omega,rfl,rfl,?_⟩
  · omega
  rw [hfold]
  exact ((h.erase 4).erase 3).wrMono' 1 _ rfl (by omega)
def wRe (s : W8) : List Int→W8
  | [a0,a1,a2,a3,a4,a5,a6,a7,a8,a9]=>((((s.num a0 1).num a1 2).num a2 1).num a3 1).tri a4 a5 a6 a7 a8 a9
  | _=>s
theorem listRe {w0 w : World} {q : Res} {c p k : Nat} {s : W8} {v : Value} {xs : List (List Int)} {K : Value → World → Prop} (h : Sep w0 (fun _ => False) [q, wr 75 p s k, blk c 73 [.pointer (some ⟨p, 0, none⟩)]] w) (hT : Tab 10 w0 v xs) (hO : ∀ x ∈ xs, Ok64 x) (hl : k + 8 + xs.length * 80 ≤ 800000)
    (hK : ∀ w1,Sep w0 (fun _=>False) [q,wr 75 p (encL wRe s xs) (k + 8 + xs.length * 80),blk c 73 [.pointer (some ⟨p,0,none⟩)]] w1→K (.tuple #[]) w1) :
    callsK Tryz.prog 27 [.pointer (some ⟨p,0,none⟩),v,.func (.func 28) #[] #[.pointer (some ⟨c,0,none⟩)]].toArray w K:=by
  obtain ⟨a,cc,rfl⟩ :=hT.shape
  have hln:=hT.len
  simp only [maxLen] at hln
  refine walk Tryz.func27 rfl (by kernel_rfl) (by rw [Tryz.nt27];simp) ?_
  replace h:=Zd h;have F:=Zf2 h
  refine Zv ?_
  refine Sep.num 1 h rfl (by omega) (by omega) (by omega) ?_
  clear h F
  intro w1 h
  replace h:=Zd h;have F:=Zf2 h;refine Zs ?_
  refine walkLoop [2,12,13] [14] (fun m vs w'=>∃ i,i≤xs.length∧m = xs.length - i∧vs = [.int .i64 i]∧Sep w0 (fun _=>False) [q,wr 75 p ((xs.take i).foldl wRe (s.num xs.length 2)) (k + 8 + i * 80),blk c 73 [.pointer (some ⟨p,0,none⟩)]] w') (by kernel_rfl) ?_ ?_
  · refine Zv ?_
    exact ⟨_,0,Nat.zero_le _,rfl,rfl,by simpa using h⟩
  intro ks hk m vs w2 hi
  clear h F
  obtain ⟨i,hi,rfl,rfl,h⟩ :=hi
  replace hk:=Zk hk;subst hk
  by_cases hlt : (i : Int) < xs.length
  case neg=>
    have hil : i = xs.length:=by omega
    subst hil
    rw [List.take_of_length_le (Nat.le_refl _)] at h
    replace h:=Zd h;have F:=Zf2 h;refine Zs1 (decide_eq_false hlt) ?_
    exact hK _ h
  have hil : i < xs.length:=by omega
  have hfold : (xs.take (i + 1)).foldl wRe (s.num xs.length 2) = wRe ((xs.take i).foldl wRe (s.num xs.length 2)) xs[i]:=by rw [List.take_succ_eq_append_getElem hil,List.foldl_append];rfl
  obtain ⟨b,o,rfl,hcells⟩ :=hT.at hil (by decide)
  have hx:=hT.wid _ (List.getElem_mem hil)
  have ho:=hO _ (List.getElem_mem hil)
  generalize xs[i] = x at *
  obtain ⟨a0,a1,a2,a3,a4,a5,a6,a7,a8,a9,rfl⟩ :=len_10 hx
  have ho':=ho
  simp only [Ok64,List.forall_mem_cons,List.not_mem_nil,false_implies,implies_true,and_true] at ho
  have ei : IntKind.i64.wrap ((i : Int) + 1) = ((i + 1 : Nat) : Int):=by rw [i64w _ (by omega) (by omega)];omega
  have hcw : cellsAt w2 b (o + i * 10) 10 = some (cellsI [a0,a1,a2,a3,a4,a5,a6,a7,a8,a9]):=by
    obtain ⟨hl,hat⟩ :=cellsAt_elim hcells
    have:=cellsAt_of (w:=w2) (b:=b) (o:=o + i * 10) (cellsI [a0,a1,a2,a3,a4,a5,a6,a7,a8,a9]) (fun j u hj=>by
      have:=hat j u hj
      rw [h.cell0 (by rw [this];rfl) id,this])
    simpa [cellsI] using this
  clear hcells
  replace h:=Zd h;have F:=Zf2 h;refine Zs1 (decide_eq_true hlt) ?_
  refine ⟨⟨by omega,by omega⟩,?_⟩
  replace h:=Zd h;have F:=Zf2 h;refine Zs1 (J hcw (@cellsI.eq_1)) ?_
  clear hcw
  repeat ((first | refine Sep.new h ?_ | refine Sep.put 0 h rfl ?_ | refine Sep.put 1 h rfl ?_ | refine Sep.put 2 h rfl ?_ | refine Sep.put 3 h rfl ?_ | refine Sep.put 4 h rfl ?_ | refine Sep.put 5 h rfl ?_);(clear F;(try clear h);intros;rename_i h;replace h:=Zd h;have F:=Zf2 h;refine Zc ?_))
  refine walk Tryz.func28 rfl (by kernel_rfl) (by rw [Tryz.nt28];simp) ?_
  replace h:=Zd h;have F:=Zf2 h;refine Zs ?_
  refine h.new ?_
  clear h F
  intro w9 b9 h
  replace h:=Zd h;have F:=Zf2 h;refine Zc ?_
  refine walkDraw (.q 1 (.q 4 (.q 7 (.q 10 (.q 13 (.h 0 0 (.h 2 1 (.h 5 2 (.h 8 3 (.h 11 4 (.h 14 5 (.l 3 (.l 6 (.l 9 (.l 12 (.l 15 .fin)))))))))))))))) [(c,0,.pointer (some ⟨p,0,none⟩)),(b9,0,.int .i64 a0),(b9,1,.int .i64 a1),(b9,2,.int .i64 a2),(b9,3,.int .i64 a3),(b9,4,.int .i64 a4),(b9,5,.int .i64 a5),(b9,6,.int .i64 a6),(b9,7,.int .i64 a7),(b9,8,.int .i64 a8),(b9,9,.int .i64 a9)] (by kernel_rfl) (by simp [Holds_nil,Holds_cons,F]) ?_
  refine h.draw ?_
  clear h F
  intro w10 h
  replace h:=Zd h;have F:=Zf2 h;refine Zs ?_
  repeat ((first | refine Sep.new h ?_ | refine Sep.put 0 h rfl ?_ | refine Sep.put 1 h rfl ?_ | refine Sep.put 2 h rfl ?_ | refine Sep.put 3 h rfl ?_ | refine Sep.put 4 h rfl ?_ | refine Sep.put 5 h rfl ?_ | refine Sep.num 1 h rfl (by omega) (by omega) (by omega) ?_ | refine Sep.num 1 h rfl (by omega) (wrap_ok _).1 (wrap_ok _).2 ?_ | refine Sep.point 1 h rfl (by omega) (by omega) (by omega) (by omega) (by omega) ?_ | refine Sep.tri 1 h rfl (by omega) (by simp only [Ok64,List.forall_mem_cons,List.not_mem_nil,false_implies,implies_true,and_true];omega) ?_);(clear F;(try clear h);intros;rename_i h;replace h:=Zd h;have F:=Zf2 h;refine Zs1 ei ?_))
  refine ⟨_,?_,i + 1,by omega,rfl,rfl,?_⟩
  · omega
  rw [hfold]
  exact ((h.erase 4).erase 3).wrMono' 1 _ rfl (by omega)
def wCa (s : W8) : List Int→W8
  | [a0,a1,a2,a3,a4,a5,a6,a7,a8]=>((((((((s.num a0 1).num a1 1).num a2 1).num a3 1).num a4 2).num a5 1).num a6 4).num (IntKind.i64.wrap (a7 + 1)) 2).num a8 1
  | _=>s
theorem listCa {w0 w : World} {q : Res} {c p k : Nat} {s : W8} {v : Value} {xs : List (List Int)} {K : Value → World → Prop} (h : Sep w0 (fun _ => False) [q, wr 75 p s k, blk c 73 [.pointer (some ⟨p, 0, none⟩)]] w) (hT : Tab 9 w0 v xs) (hO : ∀ x ∈ xs, Ok64 x) (hl : k + 8 + xs.length * 72 ≤ 800000)
    (hK : ∀ w1,Sep w0 (fun _=>False) [q,wr 75 p (encL wCa s xs) (k + 8 + xs.length * 72),blk c 73 [.pointer (some ⟨p,0,none⟩)]] w1→K (.tuple #[]) w1) :
    callsK Tryz.prog 30 [.pointer (some ⟨p,0,none⟩),v,.func (.func 31) #[] #[.pointer (some ⟨c,0,none⟩)]].toArray w K:=by
  obtain ⟨a,cc,rfl⟩ :=hT.shape
  have hln:=hT.len
  simp only [maxLen] at hln
  refine walk Tryz.func30 rfl (by kernel_rfl) (by rw [Tryz.nt30];simp) ?_
  replace h:=Zd h;have F:=Zf2 h
  refine Zv ?_
  refine Sep.num 1 h rfl (by omega) (by omega) (by omega) ?_
  clear h F
  intro w1 h
  replace h:=Zd h;have F:=Zf2 h;refine Zs ?_
  refine walkLoop [2,12,13] [14] (fun m vs w'=>∃ i,i≤xs.length∧m = xs.length - i∧vs = [.int .i64 i]∧Sep w0 (fun _=>False) [q,wr 75 p ((xs.take i).foldl wCa (s.num xs.length 2)) (k + 8 + i * 72),blk c 73 [.pointer (some ⟨p,0,none⟩)]] w') (by kernel_rfl) ?_ ?_
  · refine Zv ?_
    exact ⟨_,0,Nat.zero_le _,rfl,rfl,by simpa using h⟩
  intro ks hk m vs w2 hi
  clear h F
  obtain ⟨i,hi,rfl,rfl,h⟩ :=hi
  replace hk:=Zk hk;subst hk
  by_cases hlt : (i : Int) < xs.length
  case neg=>
    have hil : i = xs.length:=by omega
    subst hil
    rw [List.take_of_length_le (Nat.le_refl _)] at h
    replace h:=Zd h;have F:=Zf2 h;refine Zs1 (decide_eq_false hlt) ?_
    exact hK _ h
  have hil : i < xs.length:=by omega
  have hfold : (xs.take (i + 1)).foldl wCa (s.num xs.length 2) = wCa ((xs.take i).foldl wCa (s.num xs.length 2)) xs[i]:=by rw [List.take_succ_eq_append_getElem hil,List.foldl_append];rfl
  obtain ⟨b,o,rfl,hcells⟩ :=hT.at hil (by decide)
  have hx:=hT.wid _ (List.getElem_mem hil)
  have ho:=hO _ (List.getElem_mem hil)
  generalize xs[i] = x at *
  obtain ⟨a0,a1,a2,a3,a4,a5,a6,a7,a8,rfl⟩ :=len_9 hx
  have ho':=ho
  simp only [Ok64,List.forall_mem_cons,List.not_mem_nil,false_implies,implies_true,and_true] at ho
  have ei : IntKind.i64.wrap ((i : Int) + 1) = ((i + 1 : Nat) : Int):=by rw [i64w _ (by omega) (by omega)];omega
  have hcw : cellsAt w2 b (o + i * 9) 9 = some (cellsI [a0,a1,a2,a3,a4,a5,a6,a7,a8]):=by
    obtain ⟨hl,hat⟩ :=cellsAt_elim hcells
    have:=cellsAt_of (w:=w2) (b:=b) (o:=o + i * 9) (cellsI [a0,a1,a2,a3,a4,a5,a6,a7,a8]) (fun j u hj=>by
      have:=hat j u hj
      rw [h.cell0 (by rw [this];rfl) id,this])
    simpa [cellsI] using this
  clear hcells
  replace h:=Zd h;have F:=Zf2 h;refine Zs1 (decide_eq_true hlt) ?_
  refine ⟨⟨by omega,by omega⟩,?_⟩
  replace h:=Zd h;have F:=Zf2 h;refine Zs1 (J hcw (@cellsI.eq_1)) ?_
  clear hcw
  repeat ((first | refine Sep.new h ?_ | refine Sep.put 0 h rfl ?_ | refine Sep.put 1 h rfl ?_ | refine Sep.put 2 h rfl ?_ | refine Sep.put 3 h rfl ?_ | refine Sep.put 4 h rfl ?_ | refine Sep.put 5 h rfl ?_);(clear F;(try clear h);intros;rename_i h;replace h:=Zd h;have F:=Zf2 h;refine Zc ?_))
  refine walk Tryz.func31 rfl (by kernel_rfl) (by rw [Tryz.nt31];simp) ?_
  replace h:=Zd h;have F:=Zf2 h;refine Zs ?_
  refine h.new ?_
  clear h F
  intro w9 b9 h
  replace h:=Zd h;have F:=Zf2 h;refine Zc ?_
  refine walkDraw (.q 1 (.q 4 (.q 7 (.q 10 (.q 13 (.q 16 (.q 19 (.q 22 (.q 26 (.h 0 0 (.h 2 1 (.h 5 2 (.h 8 3 (.h 11 4 (.h 14 5 (.h 17 6 (.h 20 7 (.h 23 8 (.q 24 (.h 27 9 (.l 3 (.l 6 (.l 9 (.l 12 (.l 15 (.l 18 (.l 21 (.l 25 (.l 28 .fin))))))))))))))))))))))))))))) [(c,0,.pointer (some ⟨p,0,none⟩)),(b9,0,.int .i64 a0),(b9,1,.int .i64 a1),(b9,2,.int .i64 a2),(b9,3,.int .i64 a3),(b9,4,.int .i64 a4),(b9,5,.int .i64 a5),(b9,6,.int .i64 a6),(b9,7,.int .i64 a7),(b9,8,.int .i64 a8)] (by kernel_rfl) (by simp [Holds_nil,Holds_cons,F]) ?_
  refine h.draw ?_
  clear h F
  intro w10 h
  replace h:=Zd h;have F:=Zf2 h;refine Zs ?_
  repeat ((first | refine Sep.new h ?_ | refine Sep.put 0 h rfl ?_ | refine Sep.put 1 h rfl ?_ | refine Sep.put 2 h rfl ?_ | refine Sep.put 3 h rfl ?_ | refine Sep.put 4 h rfl ?_ | refine Sep.put 5 h rfl ?_ | refine Sep.num 1 h rfl (by omega) (by omega) (by omega) ?_ | refine Sep.num 1 h rfl (by omega) (wrap_ok _).1 (wrap_ok _).2 ?_ | refine Sep.point 1 h rfl (by omega) (by omega) (by omega) (by omega) (by omega) ?_ | refine Sep.tri 1 h rfl (by omega) (by simp only [Ok64,List.forall_mem_cons,List.not_mem_nil,false_implies,implies_true,and_true];omega) ?_);(clear F;(try clear h);intros;rename_i h;replace h:=Zd h;have F:=Zf2 h;refine Zs1 ei ?_))
  refine ⟨_,?_,i + 1,by omega,rfl,rfl,?_⟩
  · omega
  rw [hfold]
  exact ((h.erase 4).erase 3).wrMono' 1 _ rfl (by omega)
def wIs (s : W8) : List Int→W8
  | [a0,a1,a2]=>((s.num a0 1).num a1 1).num a2 1
  | _=>s
theorem listIs {w0 w : World} {q : Res} {c p k : Nat} {s : W8} {v : Value} {xs : List (List Int)} {K : Value → World → Prop} (h : Sep w0 (fun _ => False) [q, wr 75 p s k, blk c 73 [.pointer (some ⟨p, 0, none⟩)]] w) (hT : Tab 3 w0 v xs) (hO : ∀ x ∈ xs, Ok64 x) (hl : k + 8 + xs.length * 24 ≤ 800000)
    (hK : ∀ w1,Sep w0 (fun _=>False) [q,wr 75 p (encL wIs s xs) (k + 8 + xs.length * 24),blk c 73 [.pointer (some ⟨p,0,none⟩)]] w1→K (.tuple #[]) w1) :
    callsK Tryz.prog 32 [.pointer (some ⟨p,0,none⟩),v,.func (.func 33) #[] #[.pointer (some ⟨c,0,none⟩)]].toArray w K:=by
  obtain ⟨a,cc,rfl⟩ :=hT.shape
  have hln:=hT.len
  simp only [maxLen] at hln
  refine walk Tryz.func32 rfl (by kernel_rfl) (by rw [Tryz.nt32];simp) ?_
  replace h:=Zd h;have F:=Zf2 h
  refine Zv ?_
  refine Sep.num 1 h rfl (by omega) (by omega) (by omega) ?_
  clear h F
  intro w1 h
  replace h:=Zd h;have F:=Zf2 h;refine Zs ?_
  refine walkLoop [2,12,13] [14] (fun m vs w'=>∃ i,i≤xs.length∧m = xs.length - i∧vs = [.int .i64 i]∧Sep w0 (fun _=>False) [q,wr 75 p ((xs.take i).foldl wIs (s.num xs.length 2)) (k + 8 + i * 24),blk c 73 [.pointer (some ⟨p,0,none⟩)]] w') (by kernel_rfl) ?_ ?_
  · refine Zv ?_
    exact ⟨_,0,Nat.zero_le _,rfl,rfl,by simpa using h⟩
  intro ks hk m vs w2 hi
  clear h F
  obtain ⟨i,hi,rfl,rfl,h⟩ :=hi
  replace hk:=Zk hk;subst hk
  by_cases hlt : (i : Int) < xs.length
  case neg=>
    have hil : i = xs.length:=by omega
    subst hil
    rw [List.take_of_length_le (Nat.le_refl _)] at h
    replace h:=Zd h;have F:=Zf2 h;refine Zs1 (decide_eq_false hlt) ?_
    exact hK _ h
  have hil : i < xs.length:=by omega
  have hfold : (xs.take (i + 1)).foldl wIs (s.num xs.length 2) = wIs ((xs.take i).foldl wIs (s.num xs.length 2)) xs[i]:=by rw [List.take_succ_eq_append_getElem hil,List.foldl_append];rfl
  obtain ⟨b,o,rfl,hcells⟩ :=hT.at hil (by decide)
  have hx:=hT.wid _ (List.getElem_mem hil)
  have ho:=hO _ (List.getElem_mem hil)
  generalize xs[i] = x at *
  obtain ⟨a0,a1,a2,rfl⟩ :=len_3 hx
  have ho':=ho
  simp only [Ok64,List.forall_mem_cons,List.not_mem_nil,false_implies,implies_true,and_true] at ho
  have ei : IntKind.i64.wrap ((i : Int) + 1) = ((i + 1 : Nat) : Int):=by rw [i64w _ (by omega) (by omega)];omega
  have hcw : cellsAt w2 b (o + i * 3) 3 = some (cellsI [a0,a1,a2]):=by
    obtain ⟨hl,hat⟩ :=cellsAt_elim hcells
    have:=cellsAt_of (w:=w2) (b:=b) (o:=o + i * 3) (cellsI [a0,a1,a2]) (fun j u hj=>by
      have:=hat j u hj
      rw [h.cell0 (by rw [this];rfl) id,this])
    simpa [cellsI] using this
  clear hcells
  replace h:=Zd h;have F:=Zf2 h;refine Zs1 (decide_eq_true hlt) ?_
  refine ⟨⟨by omega,by omega⟩,?_⟩
  replace h:=Zd h;have F:=Zf2 h;refine Zs1 (J hcw (@cellsI.eq_1)) ?_
  clear hcw
  repeat ((first | refine Sep.new h ?_ | refine Sep.put 0 h rfl ?_ | refine Sep.put 1 h rfl ?_ | refine Sep.put 2 h rfl ?_ | refine Sep.put 3 h rfl ?_ | refine Sep.put 4 h rfl ?_ | refine Sep.put 5 h rfl ?_);(clear F;(try clear h);intros;rename_i h;replace h:=Zd h;have F:=Zf2 h;refine Zc ?_))
  refine walk Tryz.func33 rfl (by kernel_rfl) (by rw [Tryz.nt33];simp) ?_
  replace h:=Zd h;have F:=Zf2 h;refine Zs ?_
  refine h.new ?_
  clear h F
  intro w9 b9 h
  replace h:=Zd h;have F:=Zf2 h;refine Zc ?_
  refine walkDraw (.q 1 (.q 4 (.q 7 (.h 0 0 (.h 2 1 (.h 5 2 (.h 8 3 (.l 3 (.l 6 (.l 9 .fin)))))))))) [(c,0,.pointer (some ⟨p,0,none⟩)),(b9,0,.int .i64 a0),(b9,1,.int .i64 a1),(b9,2,.int .i64 a2)] (by kernel_rfl) (by simp [Holds_nil,Holds_cons,F]) ?_
  refine h.draw ?_
  clear h F
  intro w10 h
  replace h:=Zd h;have F:=Zf2 h;refine Zs ?_
  repeat ((first | refine Sep.new h ?_ | refine Sep.put 0 h rfl ?_ | refine Sep.put 1 h rfl ?_ | refine Sep.put 2 h rfl ?_ | refine Sep.put 3 h rfl ?_ | refine Sep.put 4 h rfl ?_ | refine Sep.put 5 h rfl ?_ | refine Sep.num 1 h rfl (by omega) (by omega) (by omega) ?_ | refine Sep.num 1 h rfl (by omega) (wrap_ok _).1 (wrap_ok _).2 ?_ | refine Sep.point 1 h rfl (by omega) (by omega) (by omega) (by omega) (by omega) ?_ | refine Sep.tri 1 h rfl (by omega) (by simp only [Ok64,List.forall_mem_cons,List.not_mem_nil,false_implies,implies_true,and_true];omega) ?_);(clear F;(try clear h);intros;rename_i h;replace h:=Zd h;have F:=Zf2 h;refine Zs1 ei ?_))
  refine ⟨_,?_,i + 1,by omega,rfl,rfl,?_⟩
  · omega
  rw [hfold]
  exact ((h.erase 4).erase 3).wrMono' 1 _ rfl (by omega)
def wCo (s : W8) : List Int→W8
  | [a0,a1,a2]=>((s.num a0 1).num a1 2).num a2 2
  | _=>s
theorem listCo {w0 w : World} {q : Res} {c p k : Nat} {s : W8} {v : Value} {xs : List (List Int)} {K : Value → World → Prop} (h : Sep w0 (fun _ => False) [q, wr 75 p s k, blk c 73 [.pointer (some ⟨p, 0, none⟩)]] w) (hT : Tab 3 w0 v xs) (hO : ∀ x ∈ xs, Ok64 x) (hl : k + 8 + xs.length * 24 ≤ 800000)
    (hK : ∀ w1,Sep w0 (fun _=>False) [q,wr 75 p (encL wCo s xs) (k + 8 + xs.length * 24),blk c 73 [.pointer (some ⟨p,0,none⟩)]] w1→K (.tuple #[]) w1) :
    callsK Tryz.prog 34 [.pointer (some ⟨p,0,none⟩),v,.func (.func 35) #[] #[.pointer (some ⟨c,0,none⟩)]].toArray w K:=by
  obtain ⟨a,cc,rfl⟩ :=hT.shape
  have hln:=hT.len
  simp only [maxLen] at hln
  refine walk Tryz.func34 rfl (by kernel_rfl) (by rw [Tryz.nt34];simp) ?_
  replace h:=Zd h;have F:=Zf2 h
  refine Zv ?_
  refine Sep.num 1 h rfl (by omega) (by omega) (by omega) ?_
  clear h F
  intro w1 h
  replace h:=Zd h;have F:=Zf2 h;refine Zs ?_
  refine walkLoop [2,12,13] [14] (fun m vs w'=>∃ i,i≤xs.length∧m = xs.length - i∧vs = [.int .i64 i]∧Sep w0 (fun _=>False) [q,wr 75 p ((xs.take i).foldl wCo (s.num xs.length 2)) (k + 8 + i * 24),blk c 73 [.pointer (some ⟨p,0,none⟩)]] w') (by kernel_rfl) ?_ ?_
  · refine Zv ?_
    exact ⟨_,0,Nat.zero_le _,rfl,rfl,by simpa using h⟩
  intro ks hk m vs w2 hi
  clear h F
  obtain ⟨i,hi,rfl,rfl,h⟩ :=hi
  replace hk:=Zk hk;subst hk
  by_cases hlt : (i : Int) < xs.length
  case neg=>
    have hil : i = xs.length:=by omega
    subst hil
    rw [List.take_of_length_le (Nat.le_refl _)] at h
    replace h:=Zd h;have F:=Zf2 h;refine Zs1 (decide_eq_false hlt) ?_
    exact hK _ h
  have hil : i < xs.length:=by omega
  have hfold : (xs.take (i + 1)).foldl wCo (s.num xs.length 2) = wCo ((xs.take i).foldl wCo (s.num xs.length 2)) xs[i]:=by rw [List.take_succ_eq_append_getElem hil,List.foldl_append];rfl
  obtain ⟨b,o,rfl,hcells⟩ :=hT.at hil (by decide)
  have hx:=hT.wid _ (List.getElem_mem hil)
  have ho:=hO _ (List.getElem_mem hil)
  generalize xs[i] = x at *
  obtain ⟨a0,a1,a2,rfl⟩ :=len_3 hx
  have ho':=ho
  simp only [Ok64,List.forall_mem_cons,List.not_mem_nil,false_implies,implies_true,and_true] at ho
  have ei : IntKind.i64.wrap ((i : Int) + 1) = ((i + 1 : Nat) : Int):=by rw [i64w _ (by omega) (by omega)];omega
  have hcw : cellsAt w2 b (o + i * 3) 3 = some (cellsI [a0,a1,a2]):=by
    obtain ⟨hl,hat⟩ :=cellsAt_elim hcells
    have:=cellsAt_of (w:=w2) (b:=b) (o:=o + i * 3) (cellsI [a0,a1,a2]) (fun j u hj=>by
      have:=hat j u hj
      rw [h.cell0 (by rw [this];rfl) id,this])
    simpa [cellsI] using this
  clear hcells
  replace h:=Zd h;have F:=Zf2 h;refine Zs1 (decide_eq_true hlt) ?_
  refine ⟨⟨by omega,by omega⟩,?_⟩
  replace h:=Zd h;have F:=Zf2 h;refine Zs1 (J hcw (@cellsI.eq_1)) ?_
  clear hcw
  repeat ((first | refine Sep.new h ?_ | refine Sep.put 0 h rfl ?_ | refine Sep.put 1 h rfl ?_ | refine Sep.put 2 h rfl ?_ | refine Sep.put 3 h rfl ?_ | refine Sep.put 4 h rfl ?_ | refine Sep.put 5 h rfl ?_);(clear F;(try clear h);intros;rename_i h;replace h:=Zd h;have F:=Zf2 h;refine Zc ?_))
  refine walk Tryz.func35 rfl (by kernel_rfl) (by rw [Tryz.nt35];simp) ?_
  replace h:=Zd h;have F:=Zf2 h;refine Zs ?_
  refine h.new ?_
  clear h F
  intro w9 b9 h
  replace h:=Zd h;have F:=Zf2 h;refine Zc ?_
  refine walkDraw (.q 1 (.q 4 (.q 7 (.h 0 0 (.h 2 1 (.h 5 2 (.h 8 3 (.l 3 (.l 6 (.l 9 .fin)))))))))) [(c,0,.pointer (some ⟨p,0,none⟩)),(b9,0,.int .i64 a0),(b9,1,.int .i64 a1),(b9,2,.int .i64 a2)] (by kernel_rfl) (by simp [Holds_nil,Holds_cons,F]) ?_
  refine h.draw ?_
  clear h F
  intro w10 h
  replace h:=Zd h;have F:=Zf2 h;refine Zs ?_
  repeat ((first | refine Sep.new h ?_ | refine Sep.put 0 h rfl ?_ | refine Sep.put 1 h rfl ?_ | refine Sep.put 2 h rfl ?_ | refine Sep.put 3 h rfl ?_ | refine Sep.put 4 h rfl ?_ | refine Sep.put 5 h rfl ?_ | refine Sep.num 1 h rfl (by omega) (by omega) (by omega) ?_ | refine Sep.num 1 h rfl (by omega) (wrap_ok _).1 (wrap_ok _).2 ?_ | refine Sep.point 1 h rfl (by omega) (by omega) (by omega) (by omega) (by omega) ?_ | refine Sep.tri 1 h rfl (by omega) (by simp only [Ok64,List.forall_mem_cons,List.not_mem_nil,false_implies,implies_true,and_true];omega) ?_);(clear F;(try clear h);intros;rename_i h;replace h:=Zd h;have F:=Zf2 h;refine Zs1 ei ?_))
  refine ⟨_,?_,i + 1,by omega,rfl,rfl,?_⟩
  · omega
  rw [hfold]
  exact ((h.erase 4).erase 3).wrMono' 1 _ rfl (by omega)
theorem take_succ_eq {α : Type} {a b : List α} {i : Nat} (h : a.take i = b.take i) (ha : i < a.length) (hb : i < b.length) (he : a[i] = b[i]) : a.take (i + 1) = b.take (i + 1):=by
  rw [List.take_succ_eq_append_getElem ha,List.take_succ_eq_append_getElem hb,h,he]
section
variable {w0 w : World} {S : Nat→Prop} {M : List Res} {K : Value→World→Prop}
end
end Go.Proofs.YtnhgjgoglmadnaaGreat
