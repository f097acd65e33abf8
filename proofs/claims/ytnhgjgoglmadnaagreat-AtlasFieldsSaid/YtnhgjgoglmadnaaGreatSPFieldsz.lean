/- Joined texts of this claim (part 26), printed by a program of this work. The last part holds the claimed theorem: the law answers true at every input of its row. -/
import Derived.Test.YtnhgjgoglmadnaaGreatSPFieldsy
set_option maxHeartbeats 4000000
namespace Go.Proofs.YtnhgjgoglmadnaaGreat
open Go.RowKit
set_option maxRecDepth 100000
set_option linter.unusedSimpArgs false
set_option linter.unusedVariables false
def pmin (p q : Int×Int) : Int×Int:=if cmp2 p.1 p.2 q.1 q.2 < 0 then p else q
def pmax (p q : Int×Int) : Int×Int:=if cmp2 p.1 p.2 q.1 q.2 < 0 then q else p
theorem lesserP (p q : Int×Int) (w : World) : Calls Tryz.prog 103 [.agg #[.int .i64 p.1,.int .i64 p.2],.agg #[.int .i64 q.1,.int .i64 q.2]].toArray w (RetP (.agg #[.int .i64 (pmin p q).1,.int .i64 (pmin p q).2]) w):=by
  have k:=lesser103 p.1 p.2 q.1 q.2 w
  unfold ptMin at k
  unfold pmin
  by_cases g : cmp2 p.1 p.2 q.1 q.2 < 0
  · rw [if_pos g] at k ⊢;exact k
  · rw [if_neg g] at k ⊢;exact k
theorem greaterP (p q : Int×Int) (w : World) : Calls Tryz.prog 104 [.agg #[.int .i64 p.1,.int .i64 p.2],.agg #[.int .i64 q.1,.int .i64 q.2]].toArray w (RetP (.agg #[.int .i64 (pmax p q).1,.int .i64 (pmax p q).2]) w):=by
  have k:=greater104 p.1 p.2 q.1 q.2 w
  unfold ptMax at k
  unfold pmax
  by_cases g : cmp2 p.1 p.2 q.1 q.2 < 0
  · rw [if_pos g] at k ⊢;exact k
  · rw [if_neg g] at k ⊢;exact k
def max2 (a b : Int) : Int:=if a < b then b else a
def okM (a b c d : Int×Int) : Bool:=vpt a.1 a.2 && (vpt b.1 b.2 && (vpt c.1 c.2 && (vpt d.1 d.2 && (!decide ([a.1,a.2] = [b.1,b.2]) && !decide ([c.1,c.2] = [d.1,d.2])))))
def oriP (a b c : Int×Int) : Int:=orientI a.1 a.2 b.1 b.2 c.1 c.2
def touP (a b c : Int×Int) : Int:=touchE a.1 a.2 b.1 b.2 c.1 c.2
def meetP (a b c d : Int×Int) : Int:=
  if oriP a b c = 0∧oriP a b d = 0 then
    if cmp2 (pmax (pmin a b) (pmin c d)).1 (pmax (pmin a b) (pmin c d)).2 (pmin (pmax a b) (pmax c d)).1 (pmin (pmax a b) (pmax c d)).2 < 0 then 3 else 0
  else if oriP a b c * oriP a b d < 0∧oriP c d a * oriP c d b < 0 then 1
  else max2 (max2 (max2 (touP a c d) (touP b c d)) (touP c a b)) (touP d a b)
def meetI (a b c d : Int×Int) : Int:=if okM a b c d = true then meetP a b c d else 0
theorem oriP_mul (a b c d e f : Int×Int) : IntKind.i64.wrap (oriP a b c * oriP d e f) = oriP a b c * oriP d e f:=by
  unfold oriP
  rcases orientI_range a.1 a.2 b.1 b.2 c.1 c.2 with h | h | h<;>rcases orientI_range d.1 d.2 e.1 e.2 f.1 f.2 with g | g | g<;>rw [h,g]<;>rfl
theorem meet134 (a b c d : Int×Int) (w : World) : Calls Tryz.prog 134 [.agg #[.int .i64 a.1,.int .i64 a.2],.agg #[.int .i64 b.1,.int .i64 b.2],.agg #[.int .i64 c.1,.int .i64 c.2],.agg #[.int .i64 d.1,.int .i64 d.2]].toArray w (RetP (.int .i64 (meetI a b c d)) w):=by
  have h:=Sep.nil w
  refine walk Tryz.func134 rfl (by kernel_rfl) (by rw [Tryz.nt134];simp) ?_
  replace h:=Zd h;have F:=Zf5 h
  refine Zv ?_
  refine h.new ?_
  clear h F
  intro _ b1 h
  replace h:=Zd h;have F:=Zf5 h;refine Zc ?_
  refine h.new ?_
  clear h F
  intro _ b2 h
  replace h:=Zd h;have F:=Zf5 h;refine Zc ?_
  refine h.new ?_
  clear h F
  intro _ b3 h
  replace h:=Zd h;have F:=Zf5 h;refine Zc ?_
  refine h.new ?_
  clear h F
  intro _ b4 h
  replace h:=Zd h;have F:=Zf5 h;refine Zc ?_
  have bad : okM a b c d = false→meetI a b c d = 0:=fun g=>by unfold meetI;rw [g];rfl
  refine Sep.callp h (valid47 a.1 a.2 _) ?_
  clear h F
  intro _ h
  replace h:=Zd h;have F:=Zf5 h;refine Zc ?_
  cases h1 : vpt a.1 a.2 with
  | false=>
    replace h:=Zd h;have F:=Zf5 h;refine Zc1 h1 ?_
    exact ⟨by rw [bad (by simp [okM,h1])],h.done⟩
  | true=>
  replace h:=Zd h;have F:=Zf5 h;refine Zc1 h1 ?_
  refine Sep.callp h (valid47 b.1 b.2 _) ?_
  clear h F
  intro _ h
  replace h:=Zd h;have F:=Zf5 h;refine Zc ?_
  cases h2 : vpt b.1 b.2 with
  | false=>
    replace h:=Zd h;have F:=Zf5 h;refine Zc1 h2 ?_
    exact ⟨by rw [bad (by simp [okM,h2])],h.done⟩
  | true=>
  replace h:=Zd h;have F:=Zf5 h;refine Zc1 h2 ?_
  refine Sep.callp h (valid47 c.1 c.2 _) ?_
  clear h F
  intro _ h
  replace h:=Zd h;have F:=Zf5 h;refine Zc ?_
  cases h3 : vpt c.1 c.2 with
  | false=>
    replace h:=Zd h;have F:=Zf5 h;refine Zc1 h3 ?_
    exact ⟨by rw [bad (by simp [okM,h3])],h.done⟩
  | true=>
  replace h:=Zd h;have F:=Zf5 h;refine Zc1 h3 ?_
  refine Sep.callp h (valid47 d.1 d.2 _) ?_
  clear h F
  intro _ h
  replace h:=Zd h;have F:=Zf5 h;refine Zc ?_
  cases h4 : vpt d.1 d.2 with
  | false=>
    replace h:=Zd h;have F:=Zf5 h;refine Zc1 h4 ?_
    exact ⟨by rw [bad (by simp [okM,h4])],h.done⟩
  | true=>
  replace h:=Zd h;have F:=Zf5 h;refine Zc1 h4 ?_
  refine binK_eql_agg (by kernel_rfl) (fun w=>seqPt (d:=9998) a.1 a.2 b.1 b.2 w) ?_
  cases h5d : decide ([a.1,a.2] = [b.1,b.2]) with
  | true=>
    have h5:=of_decide_eq_true h5d
    replace h:=Zd h;have F:=Zf5 h;refine Zc1 (decide_eq_true h5) ?_
    exact ⟨by rw [bad (by unfold okM;rw [decide_eq_true h5];simp)],h.done⟩
  | false=>
  have h5:=of_decide_eq_false h5d
  replace h:=Zd h;have F:=Zf5 h;refine Zc1 (decide_eq_false h5) ?_
  refine binK_eql_agg (by kernel_rfl) (fun w=>seqPt (d:=9998) c.1 c.2 d.1 d.2 w) ?_
  cases h6d : decide ([c.1,c.2] = [d.1,d.2]) with
  | true=>
    have h6:=of_decide_eq_true h6d
    replace h:=Zd h;have F:=Zf5 h;refine Zc1 (decide_eq_true h6) ?_
    exact ⟨by rw [bad (by unfold okM;rw [decide_eq_true h6];simp)],h.done⟩
  | false=>
  have h6:=of_decide_eq_false h6d
  replace h:=Zd h;have F:=Zf5 h;refine Zc1 (decide_eq_false h6) ?_
  have e0 : meetI a b c d = meetP a b c d:=by
    unfold meetI okM
    rw [h1,h2,h3,h4,decide_eq_false h5,decide_eq_false h6]
    rfl
  rw [e0]
  have o1 : ∀ (p q r : Int×Int) (w : World),Calls Tryz.prog 98 [.agg #[.int .i64 p.1,.int .i64 p.2],.agg #[.int .i64 q.1,.int .i64 q.2],.agg #[.int .i64 r.1,.int .i64 r.2]].toArray w (RetP (.int .i64 (oriP p q r)) w):=fun p q r w=>orient134 p.1 p.2 q.1 q.2 r.1 r.2 w
  refine walkDraw (.h 0 0 (.h 1 2 (.h 2 4 (.h 4 0 (.h 5 2 (.h 6 6 (.h 8 4 (.h 9 6 (.h 10 0 (.h 12 4 (.h 13 6 (.h 14 2 (.l 3 (.l 7 (.l 11 (.l 15 (.q 16 (.q 17 (.q 18 (.q 19 .fin)))))))))))))))))))) [(b1,0,.int .i64 a.1),(b1,1,.int .i64 a.2),(b2,0,.int .i64 b.1),(b2,1,.int .i64 b.2),(b3,0,.int .i64 c.1),(b3,1,.int .i64 c.2),(b4,0,.int .i64 d.1),(b4,1,.int .i64 d.2)] (by kernel_rfl) (by simp [Holds_nil,Holds_cons,F]) ?_
  refine h.draw ?_
  clear h F
  intro _ h
  replace h:=Zd h;have F:=Zf5 h;refine Zc ?_
  refine Sep.callp h (o1 a b c _) ?_
  clear h F
  intro _ h
  replace h:=Zd h;have F:=Zf5 h;refine Zc ?_
  refine Sep.callp h (o1 a b d _) ?_
  clear h F
  intro _ h
  replace h:=Zd h;have F:=Zf5 h;refine Zc ?_
  refine Sep.callp h (o1 c d a _) ?_
  clear h F
  intro _ h
  replace h:=Zd h;have F:=Zf5 h;refine Zc ?_
  refine Sep.callp h (o1 c d b _) ?_
  clear h F
  intro _ h
  replace h:=Zd h;have F:=Zf5 h;refine Zc ?_
  unfold meetP
  by_cases g1 : oriP a b c = 0∧oriP a b d = 0
  · rw [if_pos g1]
    obtain ⟨g1,g2⟩ :=g1
    generalize hz : decide (oriP a b c = 0) = z
    obtain rfl : z = true:=hz.symm.trans (decide_eq_true g1)
    clear hz
    replace h:=Zd h;have F:=Zf5 h;refine Zc ?_
    generalize hz : decide (oriP a b d = 0) = z
    obtain rfl : z = true:=hz.symm.trans (decide_eq_true g2)
    clear hz
    replace h:=Zd h;have F:=Zf5 h;refine Zc ?_
    have cp:=fun w=>cmpPoint (pmax (pmin a b) (pmin c d)).1 (pmax (pmin a b) (pmin c d)).2 (pmin (pmax a b) (pmax c d)).1 (pmin (pmax a b) (pmax c d)).2 w
    have q1:=fun w=>lesserP a b w
    have q2:=fun w=>lesserP c d w
    have q3:=fun w=>greaterP (pmin a b) (pmin c d) w
    have q4:=fun w=>greaterP a b w
    have q5:=fun w=>greaterP c d w
    have q6:=fun w=>lesserP (pmax a b) (pmax c d) w
    generalize pmin a b = m1 at *
    generalize pmin c d = m2 at *
    generalize pmax a b = m4 at *
    generalize pmax c d = m5 at *
    generalize pmax m1 m2 = m3 at *
    generalize pmin m4 m5 = m6 at *
    refine walkDrawI (.h 0 0 (.h 1 2 (.h 3 4 (.h 4 6 (.h 7 0 (.h 8 2 (.h 10 4 (.h 11 6 .fin)))))))) [⟨2,some 0,[]⟩,⟨5,some 1,[2]⟩,⟨6,some 2,[2,5]⟩,⟨9,some 3,[6]⟩,⟨12,some 4,[9]⟩,⟨13,some 5,[9,12]⟩,⟨14,some 6,[]⟩,⟨15,some 7,[]⟩,⟨16,none,[2,5,6,13,14,15]⟩,⟨17,none,[2,5,6,9,12,13,14,15,16]⟩] [67,70,71,74,77,78,13,14] [65,66,68,69,72,73,75,76] [(b1,0,.int .i64 a.1),(b1,1,.int .i64 a.2),(b2,0,.int .i64 b.1),(b2,1,.int .i64 b.2),(b3,0,.int .i64 c.1),(b3,1,.int .i64 c.2),(b4,0,.int .i64 d.1),(b4,1,.int .i64 d.2)] (by kernel_rfl) (by simp [Holds_nil,Holds_cons,F]) ?_
    refine h.draw ?_
    clear h F
    intro _ h
    replace h:=Zd h;have F:=Zf5 h;refine Zc ?_
    refine ⟨fun l vs w'=>∃ v2 v5 v6 v9 v12 v13 v14 v15 : Value,vs = [v2,v5,v6,v9,v12,v13,v14,v15]∧(l 2 = true→v2 = .agg #[.int .i64 m1.1,.int .i64 m1.2])∧(l 5 = true→v5 = .agg #[.int .i64 m2.1,.int .i64 m2.2])∧(l 6 = true→v6 = .agg #[.int .i64 m3.1,.int .i64 m3.2])∧(l 9 = true→v9 = .agg #[.int .i64 m4.1,.int .i64 m4.2])∧(l 12 = true→v12 = .agg #[.int .i64 m5.1,.int .i64 m5.2])∧(l 13 = true→v13 = .agg #[.int .i64 m6.1,.int .i64 m6.2])∧(l 16 = true→l 14 = true)∧(l 17 = true→l 15 = true)∧∃ b5 b6 : Nat,(l 14 = true→v14 = .pointer (some ⟨b5,0,none⟩))∧(l 15 = true→v15 = .pointer (some ⟨b6,0,none⟩))∧Sep w (fun _=>False) [blk b1 45 [.int .i64 a.1,.int .i64 a.2],blk b2 45 [.int .i64 b.1,.int .i64 b.2],blk b3 45 [.int .i64 c.1,.int .i64 c.2],blk b4 45 [.int .i64 d.1,.int .i64 d.2],(if l 14 = true then blk b5 45 (if l 16 = true then [.int .i64 m3.1,.int .i64 m3.2] else [.int .i64 0,.int .i64 0]) else emp),(if l 15 = true then blk b6 45 (if l 17 = true then [.int .i64 m6.1,.int .i64 m6.2] else [.int .i64 0,.int .i64 0]) else emp)] w',?_,?_,⟨?_,?_,?_,?_,?_,?_,?_,?_,?_,?_,trivial⟩,?_⟩
    · clear h F;intro l vs w1 hI
      obtain ⟨v2,v5,v6,v9,v12,v13,v14,v15,rfl,e2,e5,e6,e9,e12,e13,o16,o17,b5,b6,e14,e15,h⟩ :=hI
      replace h:=Zd h;have F:=Zf5 h
      exact (by simp [Holds_nil,Holds_cons,F])
    · intro us0 hv0
      obtain ⟨v2,us1,rfl,hv1⟩ :=cons_of_len hv0
      obtain ⟨v5,us2,rfl,hv2⟩ :=cons_of_len hv1
      obtain ⟨v6,us3,rfl,hv3⟩ :=cons_of_len hv2
      obtain ⟨v9,us4,rfl,hv4⟩ :=cons_of_len hv3
      obtain ⟨v12,us5,rfl,hv5⟩ :=cons_of_len hv4
      obtain ⟨v13,us6,rfl,hv6⟩ :=cons_of_len hv5
      obtain ⟨v14,us7,rfl,hv7⟩ :=cons_of_len hv6
      obtain ⟨v15,us8,rfl,hv8⟩ :=cons_of_len hv7
      obtain rfl:=nil_of_len hv8
      exact ⟨v2,v5,v6,v9,v12,v13,v14,v15,rfl,(fun e=>by cases e),(fun e=>by cases e),(fun e=>by cases e),(fun e=>by cases e),(fun e=>by cases e),(fun e=>by cases e),(fun e=>by cases e),(fun e=>by cases e),0,0,(fun e=>by cases e),(fun e=>by cases e),h.addEmp.addEmp⟩
    · clear h F;intro l vs w1 hI hl hp
      obtain ⟨v2,v5,v6,v9,v12,v13,v14,v15,rfl,e2,e5,e6,e9,e12,e13,o16,o17,b5,b6,e14,e15,h⟩ :=hI
      replace h:=Zd h;have F:=Zf5 h
      replace h:=Zd h;have F:=Zf5 h;refine Zc ?_
      refine Sep.callp h (q1 _) ?_
      clear F;intro w2 h
      exact ⟨_,_,_,_,_,_,_,_,rfl,(fun _=>rfl),e5,e6,e9,e12,e13,o16,o17,b5,b6,e14,e15,h⟩
    · clear h F;intro l vs w1 hI hl hp
      obtain ⟨v2,v5,v6,v9,v12,v13,v14,v15,rfl,e2,e5,e6,e9,e12,e13,o16,o17,b5,b6,e14,e15,h⟩ :=hI
      obtain rfl:=e2 (hp 2 (by simp))
      have f2 : l 2 = true:=hp 2 (by simp)
      replace h:=Zd h;have F:=Zf5 h
      replace h:=Zd h;have F:=Zf5 h;refine Zc ?_
      refine Sep.callp h (q2 _) ?_
      clear F;intro w2 h
      exact ⟨_,_,_,_,_,_,_,_,rfl,(fun _=>rfl),(fun _=>rfl),e6,e9,e12,e13,o16,o17,b5,b6,e14,e15,h⟩
    · clear h F;intro l vs w1 hI hl hp
      obtain ⟨v2,v5,v6,v9,v12,v13,v14,v15,rfl,e2,e5,e6,e9,e12,e13,o16,o17,b5,b6,e14,e15,h⟩ :=hI
      obtain rfl:=e2 (hp 2 (by simp))
      obtain rfl:=e5 (hp 5 (by simp))
      have f2 : l 2 = true:=hp 2 (by simp)
      have f5 : l 5 = true:=hp 5 (by simp)
      replace h:=Zd h;have F:=Zf5 h
      replace h:=Zd h;have F:=Zf5 h;refine Zc ?_
      refine Sep.callp h (q3 _) ?_
      clear F;intro w2 h
      exact ⟨_,_,_,_,_,_,_,_,rfl,(fun _=>rfl),(fun _=>rfl),(fun _=>rfl),e9,e12,e13,o16,o17,b5,b6,e14,e15,h⟩
    · clear h F;intro l vs w1 hI hl hp
      obtain ⟨v2,v5,v6,v9,v12,v13,v14,v15,rfl,e2,e5,e6,e9,e12,e13,o16,o17,b5,b6,e14,e15,h⟩ :=hI
      obtain rfl:=e6 (hp 6 (by simp))
      have f6 : l 6 = true:=hp 6 (by simp)
      replace h:=Zd h;have F:=Zf5 h
      replace h:=Zd h;have F:=Zf5 h;refine Zc ?_
      refine Sep.callp h (q4 _) ?_
      clear F;intro w2 h
      exact ⟨_,_,_,_,_,_,_,_,rfl,e2,e5,(fun _=>rfl),(fun _=>rfl),e12,e13,o16,o17,b5,b6,e14,e15,h⟩
    · clear h F;intro l vs w1 hI hl hp
      obtain ⟨v2,v5,v6,v9,v12,v13,v14,v15,rfl,e2,e5,e6,e9,e12,e13,o16,o17,b5,b6,e14,e15,h⟩ :=hI
      obtain rfl:=e9 (hp 9 (by simp))
      have f9 : l 9 = true:=hp 9 (by simp)
      replace h:=Zd h;have F:=Zf5 h
      replace h:=Zd h;have F:=Zf5 h;refine Zc ?_
      refine Sep.callp h (q5 _) ?_
      clear F;intro w2 h
      exact ⟨_,_,_,_,_,_,_,_,rfl,e2,e5,e6,(fun _=>rfl),(fun _=>rfl),e13,o16,o17,b5,b6,e14,e15,h⟩
    · clear h F;intro l vs w1 hI hl hp
      obtain ⟨v2,v5,v6,v9,v12,v13,v14,v15,rfl,e2,e5,e6,e9,e12,e13,o16,o17,b5,b6,e14,e15,h⟩ :=hI
      obtain rfl:=e9 (hp 9 (by simp))
      obtain rfl:=e12 (hp 12 (by simp))
      have f9 : l 9 = true:=hp 9 (by simp)
      have f12 : l 12 = true:=hp 12 (by simp)
      replace h:=Zd h;have F:=Zf5 h
      replace h:=Zd h;have F:=Zf5 h;refine Zc ?_
      refine Sep.callp h (q6 _) ?_
      clear F;intro w2 h
      exact ⟨_,_,_,_,_,_,_,_,rfl,e2,e5,e6,(fun _=>rfl),(fun _=>rfl),(fun _=>rfl),o16,o17,b5,b6,e14,e15,h⟩
    · clear h F;intro l vs w1 hI hl hp
      obtain ⟨v2,v5,v6,v9,v12,v13,v14,v15,rfl,e2,e5,e6,e9,e12,e13,o16,o17,b5,b6,e14,e15,h⟩ :=hI
      replace h:=Zd h;have F:=Zf5 h
      replace h:=Zd h;have F:=Zf5 h;refine Zc1 hl ?_
      simp only [hl,Bool.false_eq_true,if_false] at h
      refine Sep.newAt 4 h rfl ?_
      clear F;intro w2 b5 h
      have n16 : l 16 = false:=by
        cases hq : l 16 with
        | false=>rfl
        | true=>rw [o16 hq] at hl;cases hl
      refine ⟨_,_,_,_,_,_,_,_,rfl,e2,e5,e6,e9,e12,e13,(fun _=>rfl),o17,b5,b6,(fun _=>rfl),e15,?_⟩
      simp only [flag,n16,Nat.reduceBEq,beq_self_eq_true,Bool.true_or,Bool.false_or,Bool.false_eq_true,if_false,if_true];exact h
    · clear h F;intro l vs w1 hI hl hp
      obtain ⟨v2,v5,v6,v9,v12,v13,v14,v15,rfl,e2,e5,e6,e9,e12,e13,o16,o17,b5,b6,e14,e15,h⟩ :=hI
      replace h:=Zd h;have F:=Zf5 h
      replace h:=Zd h;have F:=Zf5 h;refine Zc1 hl ?_
      simp only [hl,Bool.false_eq_true,if_false] at h
      refine Sep.newAt 5 h rfl ?_
      clear F;intro w2 b6 h
      have n17 : l 17 = false:=by
        cases hq : l 17 with
        | false=>rfl
        | true=>rw [o17 hq] at hl;cases hl
      refine ⟨_,_,_,_,_,_,_,_,rfl,e2,e5,e6,e9,e12,e13,o16,(fun _=>rfl),b5,b6,e14,(fun _=>rfl),?_⟩
      simp only [flag,n17,Nat.reduceBEq,beq_self_eq_true,Bool.true_or,Bool.false_or,Bool.false_eq_true,if_false,if_true];exact h
    · clear h F;intro l vs w1 hI hl hp
      obtain ⟨v2,v5,v6,v9,v12,v13,v14,v15,rfl,e2,e5,e6,e9,e12,e13,o16,o17,b5,b6,e14,e15,h⟩ :=hI
      obtain rfl:=e2 (hp 2 (by simp))
      obtain rfl:=e5 (hp 5 (by simp))
      obtain rfl:=e6 (hp 6 (by simp))
      obtain rfl:=e13 (hp 13 (by simp))
      obtain rfl:=e14 (hp 14 (by simp))
      obtain rfl:=e15 (hp 15 (by simp))
      have f2 : l 2 = true:=hp 2 (by simp)
      have f5 : l 5 = true:=hp 5 (by simp)
      have f6 : l 6 = true:=hp 6 (by simp)
      have f13 : l 13 = true:=hp 13 (by simp)
      have f14 : l 14 = true:=hp 14 (by simp)
      have f15 : l 15 = true:=hp 15 (by simp)
      replace h:=Zd h;have F:=Zf5 h
      simp only [f2,f5,f6,f13,f14,f15,hl,Bool.false_eq_true,if_false,if_true] at h
      replace h:=Zd h;have F:=Zf5 h;refine Zc1 (J f2 (J f5 (J f6 (J f13 (J f14 f15))))) ?_
      refine Sep.put 4 h rfl ?_
      clear F;intro w2 h
      refine ⟨_,_,_,_,_,_,_,_,rfl,(fun _=>rfl),(fun _=>rfl),(fun _=>rfl),e9,e12,(fun _=>rfl),(fun _=>f14),o17,b5,b6,(fun _=>rfl),(fun _=>rfl),?_⟩
      simp only [flag,f2,f5,f6,f13,f14,f15,Nat.reduceBEq,beq_self_eq_true,Bool.true_or,Bool.false_or,if_true];exact h
    · clear h F;intro l vs w1 hI hl hp
      obtain ⟨v2,v5,v6,v9,v12,v13,v14,v15,rfl,e2,e5,e6,e9,e12,e13,o16,o17,b5,b6,e14,e15,h⟩ :=hI
      obtain rfl:=e2 (hp 2 (by simp))
      obtain rfl:=e5 (hp 5 (by simp))
      obtain rfl:=e6 (hp 6 (by simp))
      obtain rfl:=e9 (hp 9 (by simp))
      obtain rfl:=e12 (hp 12 (by simp))
      obtain rfl:=e13 (hp 13 (by simp))
      obtain rfl:=e14 (hp 14 (by simp))
      obtain rfl:=e15 (hp 15 (by simp))
      have f2 : l 2 = true:=hp 2 (by simp)
      have f5 : l 5 = true:=hp 5 (by simp)
      have f6 : l 6 = true:=hp 6 (by simp)
      have f9 : l 9 = true:=hp 9 (by simp)
      have f12 : l 12 = true:=hp 12 (by simp)
      have f13 : l 13 = true:=hp 13 (by simp)
      have f14 : l 14 = true:=hp 14 (by simp)
      have f15 : l 15 = true:=hp 15 (by simp)
      have f16 : l 16 = true:=hp 16 (by simp)
      replace h:=Zd h;have F:=Zf5 h
      simp only [f2,f5,f6,f9,f12,f13,f14,f15,f16,hl,Bool.false_eq_true,if_false,if_true] at h
      replace h:=Zd h;have F:=Zf5 h;refine Zc1 (J f2 (J f5 (J f6 (J f9 (J f12 (J f13 (J f14 (J f15 f16)))))))) ?_
      refine Sep.put 5 h rfl ?_
      clear F;intro w2 h
      refine ⟨_,_,_,_,_,_,_,_,rfl,(fun _=>rfl),(fun _=>rfl),(fun _=>rfl),(fun _=>rfl),(fun _=>rfl),(fun _=>rfl),o16,(fun _=>f15),b5,b6,(fun _=>rfl),(fun _=>rfl),?_⟩
      simp only [flag,f2,f5,f6,f9,f12,f13,f14,f15,f16,Nat.reduceBEq,beq_self_eq_true,Bool.true_or,Bool.false_or,if_true];exact h
    clear h F;intro l vs w1 hI hall
    obtain ⟨v2,v5,v6,v9,v12,v13,v14,v15,rfl,e2,e5,e6,e9,e12,e13,o16,o17,b5,b6,e14,e15,h⟩ :=hI
    have f2 : l 2 = true:=hall ⟨2,some 0,[]⟩ (by simp)
    have f5 : l 5 = true:=hall ⟨5,some 1,[2]⟩ (by simp)
    have f6 : l 6 = true:=hall ⟨6,some 2,[2,5]⟩ (by simp)
    have f9 : l 9 = true:=hall ⟨9,some 3,[6]⟩ (by simp)
    have f12 : l 12 = true:=hall ⟨12,some 4,[9]⟩ (by simp)
    have f13 : l 13 = true:=hall ⟨13,some 5,[9,12]⟩ (by simp)
    have f14 : l 14 = true:=hall ⟨14,some 6,[]⟩ (by simp)
    have f15 : l 15 = true:=hall ⟨15,some 7,[]⟩ (by simp)
    have f16 : l 16 = true:=hall ⟨16,none,[2,5,6,13,14,15]⟩ (by simp)
    have f17 : l 17 = true:=hall ⟨17,none,[2,5,6,9,12,13,14,15,16]⟩ (by simp)
    obtain rfl:=e2 f2
    obtain rfl:=e5 f5
    obtain rfl:=e6 f6
    obtain rfl:=e9 f9
    obtain rfl:=e12 f12
    obtain rfl:=e13 f13
    obtain rfl:=e14 f14
    obtain rfl:=e15 f15
    simp only [f2,f5,f6,f9,f12,f13,f14,f15,f16,f17,if_true] at h
    clear hall f2 f5 f6 f9 f12 f13 f14 f15 f16 f17 o16 o17
    replace h:=Zd h;have F:=Zf5 h;refine Zc ?_
    refine Sep.callp h (cp _) ?_
    clear h F
    intro _ h
    replace h:=Zd h;have F:=Zf5 h;refine Zc ?_
    by_cases g3 : cmp2 m3.1 m3.2 m6.1 m6.2 < 0
    · rw [if_pos g3]
      generalize hz : decide (cmp2 m3.1 m3.2 m6.1 m6.2 < 0) = z
      obtain rfl : z = true:=hz.symm.trans (decide_eq_true g3)
      clear hz
      replace h:=Zd h;have F:=Zf5 h;refine Zc ?_
      (first | exact ⟨rfl,h.done⟩ | exact h.done)
    · rw [if_neg g3]
      generalize hz : decide (cmp2 m3.1 m3.2 m6.1 m6.2 < 0) = z
      obtain rfl : z = false:=hz.symm.trans (decide_eq_false g3)
      clear hz
      replace h:=Zd h;have F:=Zf5 h;refine Zc ?_
      (first | exact ⟨rfl,h.done⟩ | exact h.done)
  rw [if_neg g1]
  have ex1:=oriP_mul a b c a b d
  have ex2:=oriP_mul c d a c d b
  have t1 : ∀ (p q r : Int×Int) (w : World),Calls Tryz.prog 142 [.agg #[.int .i64 p.1,.int .i64 p.2],.agg #[.int .i64 q.1,.int .i64 q.2],.agg #[.int .i64 r.1,.int .i64 r.2]].toArray w (RetP (.int .i64 (touP p q r)) w):=fun p q r w=>touch142 p.1 p.2 q.1 q.2 r.1 r.2 w
  by_cases z1 : oriP a b c = 0
  case' pos=>
    generalize hz : decide (oriP a b c = 0) = z
    obtain rfl : z = true:=hz.symm.trans (decide_eq_true z1)
    clear hz
    replace h:=Zd h;have F:=Zf5 h;refine Zc ?_
    have z2 : ¬ oriP a b d = 0:=fun e=>g1 ⟨z1,e⟩
    generalize hz : decide (oriP a b d = 0) = z
    obtain rfl : z = false:=hz.symm.trans (decide_eq_false z2)
    clear hz
    replace h:=Zd h;have F:=Zf5 h;refine Zc1 ex1 ?_
  case' neg=>
    generalize hz : decide (oriP a b c = 0) = z
    obtain rfl : z = false:=hz.symm.trans (decide_eq_false z1)
    clear hz
    replace h:=Zd h;have F:=Zf5 h;refine Zc1 ex1 ?_
  all_goals
    by_cases n1 : oriP a b c * oriP a b d < 0
    · generalize hz : decide (oriP a b c * oriP a b d < 0) = z
      obtain rfl : z = true:=hz.symm.trans (decide_eq_true n1)
      clear hz
      replace h:=Zd h;have F:=Zf5 h;refine Zc1 ex2 ?_
      by_cases n2 : oriP c d a * oriP c d b < 0
      · rw [if_pos ⟨n1,n2⟩]
        generalize hz : decide (oriP c d a * oriP c d b < 0) = z
        obtain rfl : z = true:=hz.symm.trans (decide_eq_true n2)
        clear hz
        replace h:=Zd h;have F:=Zf5 h;refine Zc ?_
        (first | exact ⟨rfl,h.done⟩ | exact h.done)
      · rw [if_neg (fun g=>n2 g.2)]
        generalize hz : decide (oriP c d a * oriP c d b < 0) = z
        obtain rfl : z = false:=hz.symm.trans (decide_eq_false n2)
        clear hz
        replace h:=Zd h;have F:=Zf5 h;refine Zc ?_
        refine walkDraw (.h 0 0 (.h 1 4 (.h 2 6 (.h 4 2 (.h 5 4 (.h 6 6 (.h 8 4 (.h 9 0 (.h 10 2 (.h 12 6 (.h 13 0 (.h 14 2 (.l 3 (.l 7 (.l 11 (.l 15 (.q 16 (.q 17 .fin)))))))))))))))))) [(b1,0,.int .i64 a.1),(b1,1,.int .i64 a.2),(b2,0,.int .i64 b.1),(b2,1,.int .i64 b.2),(b3,0,.int .i64 c.1),(b3,1,.int .i64 c.2),(b4,0,.int .i64 d.1),(b4,1,.int .i64 d.2)] (by kernel_rfl) (by simp [Holds_nil,Holds_cons,F]) ?_
        refine h.draw ?_
        clear h F
        intro _ h
        replace h:=Zd h;have F:=Zf5 h;refine Zc ?_
        refine Sep.callp h (t1 a c d _) ?_
        clear h F
        intro _ h
        replace h:=Zd h;have F:=Zf5 h;refine Zc ?_
        refine Sep.callp h (t1 b c d _) ?_
        clear h F
        intro _ h
        replace h:=Zd h;have F:=Zf5 h;refine Zc ?_
        refine Sep.callp h (t1 c a b _) ?_
        clear h F
        intro _ h
        replace h:=Zd h;have F:=Zf5 h;refine Zc ?_
        refine Sep.callp h (t1 d a b _) ?_
        clear h F
        intro _ h
        replace h:=Zd h;have F:=Zf5 h;refine Zc1 pureT_max4 ?_
        (first | exact ⟨rfl,h.done⟩ | exact h.done)
    · rw [if_neg (fun g=>n1 g.1)]
      generalize hz : decide (oriP a b c * oriP a b d < 0) = z
      obtain rfl : z = false:=hz.symm.trans (decide_eq_false n1)
      clear hz
      replace h:=Zd h;have F:=Zf5 h;refine Zc ?_
      refine walkDraw (.h 0 0 (.h 1 4 (.h 2 6 (.h 4 2 (.h 5 4 (.h 6 6 (.h 8 4 (.h 9 0 (.h 10 2 (.h 12 6 (.h 13 0 (.h 14 2 (.l 3 (.l 7 (.l 11 (.l 15 (.q 16 (.q 17 .fin)))))))))))))))))) [(b1,0,.int .i64 a.1),(b1,1,.int .i64 a.2),(b2,0,.int .i64 b.1),(b2,1,.int .i64 b.2),(b3,0,.int .i64 c.1),(b3,1,.int .i64 c.2),(b4,0,.int .i64 d.1),(b4,1,.int .i64 d.2)] (by kernel_rfl) (by simp [Holds_nil,Holds_cons,F]) ?_
      refine h.draw ?_
      clear h F
      intro _ h
      replace h:=Zd h;have F:=Zf5 h;refine Zc ?_
      refine Sep.callp h (t1 a c d _) ?_
      clear h F
      intro _ h
      replace h:=Zd h;have F:=Zf5 h;refine Zc ?_
      refine Sep.callp h (t1 b c d _) ?_
      clear h F
      intro _ h
      replace h:=Zd h;have F:=Zf5 h;refine Zc ?_
      refine Sep.callp h (t1 c a b _) ?_
      clear h F
      intro _ h
      replace h:=Zd h;have F:=Zf5 h;refine Zc ?_
      refine Sep.callp h (t1 d a b _) ?_
      clear h F
      intro _ h
      replace h:=Zd h;have F:=Zf5 h;refine Zc1 pureT_max4 ?_
      (first | exact ⟨rfl,h.done⟩ | exact h.done)
def T3.row (t : T3) : List Int:=[t.ax,t.ay,t.bx,t.by',t.cx,t.cy]
abbrev rowsT (L : List T3) : List (List Int):=L.map T3.row
structure CmpOk {α : Type} (f : α→α→Int) : Prop where
  swap : ∀ x y,f y x = -f x y
  trans : ∀ x y z,f x y≤0→f y z≤0→f x z≤0
  same : ∀ x y z,f x y = 0→f x z = f y z
def lexO {α : Type} (f g : α→α→Int) : α→α→Int:=fun x y=>if f x y = 0 then g x y else f x y
theorem CmpOk.lex {α : Type} {f g : α→α→Int} (hf : CmpOk f) (hg : CmpOk g) : CmpOk (lexO f g) where
  swap:=fun x y=>by
    unfold lexO
    rw [hf.swap x y,hg.swap x y]
    by_cases h : f x y = 0
    · rw [if_pos (by omega),if_pos h]
    · rw [if_neg (by omega),if_neg h]
  trans:=fun x y z h1 h2=>by
    unfold lexO at *
    by_cases a : f x y = 0
    · rw [if_pos a] at h1
      have e:=hf.same x y z a
      by_cases b : f y z = 0
      · rw [if_pos b] at h2
        rw [if_pos (by omega)]
        exact hg.trans x y z h1 h2
      · rw [if_neg b] at h2
        rw [if_neg (by omega)];omega
    · rw [if_neg a] at h1
      by_cases b : f y z = 0
      · have s1:=hf.swap y z
        have e:=hf.same z y x (by omega)
        have s2:=hf.swap x z
        have s3:=hf.swap x y
        rw [if_neg (by omega)];omega
      · rw [if_neg b] at h2
        have h3:=hf.trans x y z h1 h2
        by_cases c : f x z = 0
        · exfalso
          have e:=hf.same x z y c
          have s1:=hf.swap y z
          omega
        · rw [if_neg c];exact h3
  same:=fun x y z h=>by
    unfold lexO at *
    by_cases a : f x y = 0
    · rw [if_pos a] at h
      rw [hf.same x y z a,hg.same x y z h]
    · rw [if_neg a] at h;omega
theorem cmpI_ok : CmpOk cmpI where
  swap:=fun x y=>by unfold cmpI;split<;>split<;>(try split)<;>(try split)<;>omega
  trans:=fun x y z=>by unfold cmpI;split<;>split<;>(try split)<;>(try split)<;>(try split)<;>(try split)<;>omega
  same:=fun x y z=>by unfold cmpI;split<;>split<;>(try split)<;>(try split)<;>(try split)<;>(try split)<;>omega
theorem CmpOk.comap {α β : Type} {f : α→α→Int} (hf : CmpOk f) (k : β→α) : CmpOk fun x y=>f (k x) (k y):=
  ⟨fun x y=>hf.swap _ _,fun x y z=>hf.trans _ _ _,fun x y z=>hf.same _ _ _⟩
def cmpP (p q : Int×Int) : Int:=cmp2 p.1 p.2 q.1 q.2
theorem cmpP_ok : CmpOk cmpP:=(cmpI_ok.comap fun p : Int×Int=>p.1).lex (cmpI_ok.comap fun p : Int×Int=>p.2)
theorem cmpT_ok : CmpOk cmpT:=(cmpP_ok.comap fun t : T3=>(t.ax,t.ay)).lex ((cmpP_ok.comap fun t : T3=>(t.bx,t.by')).lex (cmpP_ok.comap fun t : T3=>(t.cx,t.cy)))
theorem cmpI_zero {x y : Int} : cmpI x y = 0↔x = y:=by unfold cmpI;split<;>(try split)<;>omega
theorem cmp2_zero {a b c d : Int} : cmp2 a b c d = 0↔a = c∧b = d:=by
  unfold cmp2
  by_cases h : cmpI a c = 0
  · rw [if_pos h,cmpI_zero];exact ⟨fun e=>⟨cmpI_zero.1 h,e⟩,fun e=>e.2⟩
  · rw [if_neg h];exact ⟨fun e=>absurd e h,fun e=>absurd (cmpI_zero.2 e.1) h⟩
theorem cmpT_zero {s t : T3} : cmpT s t = 0↔s = t:=by
  unfold cmpT
  constructor
  · intro h
    split at h
    · rename_i h1
      split at h
      · rename_i h2
        obtain ⟨a,b⟩ :=cmp2_zero.1 h1
        obtain ⟨c,d⟩ :=cmp2_zero.1 h2
        obtain ⟨e,f⟩ :=cmp2_zero.1 h
        cases s;cases t;dsimp only at *;subst a b c d e f;rfl
      · rename_i h2;exact absurd h h2
    · rename_i h1;exact absurd h h1
  · rintro rfl
    have z : ∀ a b,cmp2 a b a b = 0:=fun a b=>cmp2_zero.2 ⟨rfl,rfl⟩
    rw [if_pos (z _ _),if_pos (z _ _),z]
section
variable {α : Type} {f : α→α→Int}
def leO (f : α→α→Int) (x y : α) : Bool:=decide (f x y≤0)
theorem leO_trans (h : CmpOk f) (a b c : α) : leO f a b = true→leO f b c = true→leO f a c = true:=by
  simp only [leO,decide_eq_true_eq];exact h.trans a b c
theorem leO_total (h : CmpOk f) (a b : α) : (leO f a b || leO f b a) = true:=by
  simp only [leO,Bool.or_eq_true,decide_eq_true_eq]
  have:=h.swap a b;omega
abbrev Srt (f : α→α→Int) (L : List α) : Prop:=L.Pairwise fun x y=>f x y≤0
theorem srt_perm_eq (h : CmpOk f) (h0 : ∀ x y,f x y = 0→x = y) : ∀ {L M : List α},L.Perm M→Srt f L→Srt f M→L = M
  | [],M,hp,_,_=>hp.nil_eq
  | x :: L,M,hp,hL,hM=>by
    match M,hp,hM with
    | [],hp,_=>exact absurd hp.symm.nil_eq (by simp)
    | y :: M,hp,hM=>
      have hxy : x = y:=by
        have h1 : f x y≤0:=by
          rcases List.mem_cons.1 (hp.mem_iff.2 (List.mem_cons_self ..) : y ∈ x :: L) with e | e
          · subst e;have:=h.swap y y;omega
          · exact (List.pairwise_cons.1 hL).1 y e
        have h2 : f y x≤0:=by
          rcases List.mem_cons.1 (hp.mem_iff.1 (List.mem_cons_self ..) : x ∈ y :: M) with e | e
          · subst e;have:=h.swap x x;omega
          · exact (List.pairwise_cons.1 hM).1 x e
        have:=h.swap x y
        exact h0 x y (by omega)
      subst hxy
      rw [srt_perm_eq h h0 (List.perm_cons x |>.1 hp) (List.pairwise_cons.1 hL).2 (List.pairwise_cons.1 hM).2]
def mrg (f : α→α→Int) (a b : List α) : List α:=a.merge b (leO f)
theorem mrg_nil_right (a : List α) : mrg f a [] = a:=by simp [mrg]
theorem mrg_nil_left (b : List α) : mrg f [] b = b:=by simp [mrg]
theorem mrg_le {x y : α} {a b : List α} (h : f x y≤0) : mrg f (x :: a) (y :: b) = x :: mrg f a (y :: b):=by simp [mrg,leO,h]
theorem mrg_gt {x y : α} {a b : List α} (h : ¬ f x y≤0) : mrg f (x :: a) (y :: b) = y :: mrg f (x :: a) b:=by simp [mrg,leO,h]
theorem mrg_perm (a b : List α) : (mrg f a b).Perm (a ++ b):=List.merge_perm_append (leO f)
theorem mrg_srt (h : CmpOk f) {a b : List α} (ha : Srt f a) (hb : Srt f b) : Srt f (mrg f a b):=by
  have:=List.pairwise_merge (le:=leO f) (leO_trans h) (leO_total h) a b (by simpa [leO] using ha) (by simpa [leO] using hb)
  show (a.merge b (leO f)).Pairwise _
  simpa [leO] using this
def pass (f : α→α→Int) (n : Nat) (hn : 0 < n) (L : List α) : List α:=
  if h : L = [] then [] else mrg f (L.take n) ((L.drop n).take n) ++ pass f n hn (L.drop (2 * n))
termination_by L.length
decreasing_by
  have : 0 < L.length:=List.length_pos_iff.2 h
  simp;omega
theorem pass_nil (n : Nat) (hn : 0 < n) : pass f n hn [] = []:=by rw [pass];simp
theorem pass_cons (n : Nat) (hn : 0 < n) {L : List α} (h : L≠[]) : pass f n hn L = mrg f (L.take n) ((L.drop n).take n) ++ pass f n hn (L.drop (2 * n)):=by
  rw [pass];simp [h]
theorem pass_perm (n : Nat) (hn : 0 < n) : ∀ (m : Nat) (L : List α),L.length≤m→(pass f n hn L).Perm L
  | 0,L,h=>by
    have : L = []:=List.length_eq_zero_iff.1 (by omega)
    subst this;rw [pass_nil]
  | m + 1,L,h=>by
    by_cases hL : L = []
    · subst hL;rw [pass_nil]
    · rw [pass_cons n hn hL]
      have hp : 0 < L.length:=List.length_pos_iff.2 hL
      have ih:=pass_perm n hn m (L.drop (2 * n)) (by simp;omega)
      refine ((mrg_perm _ _).append ih).trans ?_
      have e : L.take n ++ (L.drop n).take n ++ L.drop (2 * n) = L:=by
        rw [List.append_assoc,show 2 * n = n + n by omega,← List.drop_drop,List.take_append_drop,List.take_append_drop]
      rw [e]
def Chk (f : α→α→Int) (n : Nat) (L : List α) : Prop:=∀ k,Srt f ((L.drop (k * n)).take n)
theorem chk_pass (h : CmpOk f) (n : Nat) (hn : 0 < n) : ∀ (m : Nat) (L : List α),L.length≤m→Chk f n L→Chk f (2 * n) (pass f n hn L)
  | 0,L,hm,hc=>by
    have : L = []:=List.length_eq_zero_iff.1 (by omega)
    subst this;rw [pass_nil];intro k;simp
  | m + 1,L,hm,hc=>by
    by_cases hL : L = []
    · subst hL;rw [pass_nil];intro k;simp
    have hp : 0 < L.length:=List.length_pos_iff.2 hL
    rw [pass_cons n hn hL]
    have s1 : Srt f (mrg f (L.take n) ((L.drop n).take n)):=mrg_srt h (by simpa using hc 0) (by simpa using hc 1)
    have len1 : (mrg f (L.take n) ((L.drop n).take n)).length = min (2 * n) L.length:=by
      rw [(mrg_perm _ _).length_eq];simp;omega
    have ih:=chk_pass h n hn m (L.drop (2 * n)) (by simp;omega) (fun k=>by
      have:=hc (k + 2)
      rw [List.drop_drop]
      rw [show 2 * n + k * n = (k + 2) * n by rw [Nat.add_mul];omega]
      exact this)
    intro k
    by_cases hl : L.length≤2 * n
    · have e : L.drop (2 * n) = []:=List.drop_eq_nil_of_le hl
      rw [e,pass_nil,List.append_nil]
      exact s1.sublist ((List.take_sublist ..).trans (List.drop_sublist ..))
    · have len2 : (mrg f (L.take n) ((L.drop n).take n)).length = 2 * n:=by rw [len1];omega
      cases k with
      | zero=>
        rw [Nat.zero_mul,List.drop_zero,List.take_append_of_le_length (by omega),← len2,List.take_length]
        exact s1
      | succ k=>
        rw [List.drop_append,List.drop_eq_nil_of_le (by rw [len2,Nat.add_mul];omega),List.nil_append,len2,show (k + 1) * (2 * n) - 2 * n = k * (2 * n) by rw [Nat.add_mul];omega]
        exact ih k
theorem chk_one (L : List α) : Chk f 1 L:=fun k=>by
  have : ((L.drop (k * 1)).take 1).length≤1:=by simp;omega
  match (L.drop (k * 1)).take 1,this with
  | [],_=>exact List.Pairwise.nil
  | [x],_=>exact List.pairwise_singleton _ _
  | _ :: _ :: _,h=>simp at h
theorem chk_all {n : Nat} {L : List α} (h : Chk f n L) (hl : L.length≤n) : Srt f L:=by
  have:=h 0
  rwa [Nat.zero_mul,List.drop_zero,List.take_of_length_le hl] at this
end
def sortT (L : List T3) : List T3:=L.mergeSort (leO cmpT)
theorem sortT_perm (L : List T3) : (sortT L).Perm L:=List.mergeSort_perm L _
theorem sortT_srt (L : List T3) : Srt cmpT (sortT L):=by
  have:=List.pairwise_mergeSort (le:=leO cmpT) (leO_trans cmpT_ok) (leO_total cmpT_ok) L
  show (L.mergeSort (leO cmpT)).Pairwise _
  simpa [leO] using this
theorem sortT_eq {L M : List T3} (h : M.Perm L) (hs : Srt cmpT M) : M = sortT L:=srt_perm_eq cmpT_ok (fun _ _=>cmpT_zero.1) (h.trans (sortT_perm L).symm) hs (sortT_srt L)
end Go.Proofs.YtnhgjgoglmadnaaGreat
