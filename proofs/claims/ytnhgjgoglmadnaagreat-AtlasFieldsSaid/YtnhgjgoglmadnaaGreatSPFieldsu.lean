/- Joined texts of this claim (part 21), printed by a program of this work. The last part holds the claimed theorem: the law answers true at every input of its row. -/
import Derived.Test.YtnhgjgoglmadnaaGreatSPFieldst
set_option maxHeartbeats 4000000
namespace Go.Proofs.YtnhgjgoglmadnaaGreat
open Go.RowKit
set_option maxRecDepth 100000
set_option linter.unusedSimpArgs false
set_option linter.unusedVariables false
def MapV.ns (m : MapV) : List Int:=[m.w,m.h,m.te,m.wi,m.mr,m.mb,m.ti]
def MapV.mesh (m o : MapV) : Bool:=decide (m.p = o.p) && (decide (m.wa = o.wa) && (decide (m.pa = o.pa) && decide (m.re = o.re)))
def MapV.same (m o : MapV) : Bool:=decide (m.ns = o.ns) && (m.mesh o && (decide (m.ca = o.ca) && (decide (m.is = o.is) && (decide (m.co = o.co) && decide (m.ch = o.ch)))))
theorem same63 (m o : MapV) (s t : MapS) (w : World) (R : MapR w m s) (Q : MapR w o t) (bm : ∀ c ∈ m.ch, Byt c.b) (bo : ∀ c ∈ o.ch, Byt c.b) :
    Calls Tryz.prog 9 [.agg (m.cells s).toArray,.agg (o.cells t).toArray].toArray w (RetK fun r w'=>r = .bool (m.same o)∧Chg (fun _=>False) w w'):=by
  have h:=Sep.nil w
  refine walk Tryz.func9 rfl (by kernel_rfl) (by rw [Tryz.nt9];simp) ?_
  replace h:=Zd h;have F:=Zf4 h
  refine Zv1 (@MapV.cells.eq_1) ?_
  refine h.new ?_
  clear h F
  intro w1 b1 h
  refine h.new ?_
  clear h
  intro w2 b2 h
  replace h:=Zd h;have F:=Zf4 h;refine Zs ?_
  refine Sep.callp h (eqCh _ _ _ _ w2 (R.ch.sep h) (Q.ch.sep h) bm bo) ?_
  clear h F
  intro w3 h
  replace h:=Zd h;have F:=Zf4 h;refine Zs ?_
  refine Sep.callp h (eqP _ _ _ _ _ (R.p.sep h fun _ _=>id) (Q.p.sep h fun _ _=>id)) ?_
  clear h F
  intro w4 h
  by_cases ep : m.p = o.p
  case neg=>
    have hm : m.mesh o = false:=by unfold MapV.mesh;rw [decide_eq_false ep];simp
    replace h:=Zd h;have F:=Zf4 h;refine Zs1 (decide_eq_false ep) ?_
    refine walkDraw (.q 0 (.q 3 (.h 1 0 (.h 4 15 (.l 2 (.l 5 (.q 6 (.q 7 (.q 8 (.q 9 (.q 10 (.q 11 (.q 13 (.h 12 30 (.h 14 31 (.l 15 (.q 16 (.q 17 (.q 18 (.q 20 (.h 19 32 (.h 21 33 (.l 22 (.q 23 (.q 24 (.q 25 (.q 27 (.h 26 34 (.h 28 35 (.l 29 (.q 30 (.q 31 (.q 32 (.q 33 (.q 34 .fin))))))))))))))))))))))))))))))))))) [(b1,0,.int .i64 m.w),(b1,1,.int .i64 m.h),(b1,2,.int .i64 m.te),(b1,3,.int .i64 m.wi),(b1,4,.int .i64 m.mr),(b1,5,.int .i64 m.mb),(b1,6,.int .i64 m.ti),(b1,7,s.p),(b1,8,s.wa),(b1,9,s.pa),(b1,10,s.re),(b1,11,s.ca),(b1,12,s.is),(b1,13,s.co),(b1,14,s.ch),(b2,0,.int .i64 o.w),(b2,1,.int .i64 o.h),(b2,2,.int .i64 o.te),(b2,3,.int .i64 o.wi),(b2,4,.int .i64 o.mr),(b2,5,.int .i64 o.mb),(b2,6,.int .i64 o.ti),(b2,7,t.p),(b2,8,t.wa),(b2,9,t.pa),(b2,10,t.re),(b2,11,t.ca),(b2,12,t.is),(b2,13,t.co),(b2,14,t.ch),(b1,11,s.ca),(b2,11,t.ca),(b1,12,s.is),(b2,12,t.is),(b1,13,s.co),(b2,13,t.co)] (by kernel_rfl) (by simp [Holds_nil,Holds_cons,F]) ?_
    refine h.draw ?_
    clear h F
    intro w6 h
    replace h:=Zd h;have F:=Zf4 h;refine Zs ?_
    refine Sep.callp h (same115 m s _) ?_
    clear h F
    intro w7 h
    replace h:=Zd h;have F:=Zf4 h;refine Zs ?_
    refine Sep.callp h (same115 o t _) ?_
    clear h F
    intro w8 h
    replace h:=Zd h;have F:=Zf4 h;refine Zs ?_
    refine binK_eql_agg (by kernel_rfl) (fun w=>seqArr (d:=9998) m.w m.h m.te m.wi m.mr m.mb m.ti o.w o.h o.te o.wi o.mr o.mb o.ti w) ?_
    by_cases en : ([m.w,m.h,m.te,m.wi,m.mr,m.mb,m.ti] : List Int) = [o.w,o.h,o.te,o.wi,o.mr,o.mb,o.ti]
    case neg=>
      have es : m.same o = false:=by unfold MapV.same MapV.ns;rw [decide_eq_false en];rfl
      replace h:=Zd h;have F:=Zf4 h;refine Zs1 (decide_eq_false en) ?_
      exact ⟨by rw [es],h.done⟩
    have es : m.same o = false:=by unfold MapV.same;rw [hm];simp
    replace h:=Zd h;have F:=Zf4 h;refine Zs1 (decide_eq_true en) ?_
    exact ⟨by rw [es],h.done⟩
  replace h:=Zd h;have F:=Zf4 h;refine Zs1 (decide_eq_true ep) ?_
  refine Sep.callp h (eqW _ _ _ _ _ (R.wa.sep h fun _ _=>id) (Q.wa.sep h fun _ _=>id)) ?_
  clear h F
  intro w4 h
  by_cases ewa : m.wa = o.wa
  case neg=>
    have hm : m.mesh o = false:=by unfold MapV.mesh;rw [decide_eq_false ewa];simp
    replace h:=Zd h;have F:=Zf4 h;refine Zs1 (decide_eq_false ewa) ?_
    refine walkDraw (.q 0 (.q 3 (.h 1 0 (.h 4 15 (.l 2 (.l 5 (.q 6 (.q 7 (.q 8 (.q 9 (.q 10 (.q 11 (.q 13 (.h 12 30 (.h 14 31 (.l 15 (.q 16 (.q 17 (.q 18 (.q 20 (.h 19 32 (.h 21 33 (.l 22 (.q 23 (.q 24 (.q 25 (.q 27 (.h 26 34 (.h 28 35 (.l 29 (.q 30 (.q 31 (.q 32 (.q 33 (.q 34 .fin))))))))))))))))))))))))))))))))))) [(b1,0,.int .i64 m.w),(b1,1,.int .i64 m.h),(b1,2,.int .i64 m.te),(b1,3,.int .i64 m.wi),(b1,4,.int .i64 m.mr),(b1,5,.int .i64 m.mb),(b1,6,.int .i64 m.ti),(b1,7,s.p),(b1,8,s.wa),(b1,9,s.pa),(b1,10,s.re),(b1,11,s.ca),(b1,12,s.is),(b1,13,s.co),(b1,14,s.ch),(b2,0,.int .i64 o.w),(b2,1,.int .i64 o.h),(b2,2,.int .i64 o.te),(b2,3,.int .i64 o.wi),(b2,4,.int .i64 o.mr),(b2,5,.int .i64 o.mb),(b2,6,.int .i64 o.ti),(b2,7,t.p),(b2,8,t.wa),(b2,9,t.pa),(b2,10,t.re),(b2,11,t.ca),(b2,12,t.is),(b2,13,t.co),(b2,14,t.ch),(b1,11,s.ca),(b2,11,t.ca),(b1,12,s.is),(b2,12,t.is),(b1,13,s.co),(b2,13,t.co)] (by kernel_rfl) (by simp [Holds_nil,Holds_cons,F]) ?_
    refine h.draw ?_
    clear h F
    intro w6 h
    replace h:=Zd h;have F:=Zf4 h;refine Zs ?_
    refine Sep.callp h (same115 m s _) ?_
    clear h F
    intro w7 h
    replace h:=Zd h;have F:=Zf4 h;refine Zs ?_
    refine Sep.callp h (same115 o t _) ?_
    clear h F
    intro w8 h
    replace h:=Zd h;have F:=Zf4 h;refine Zs ?_
    refine binK_eql_agg (by kernel_rfl) (fun w=>seqArr (d:=9998) m.w m.h m.te m.wi m.mr m.mb m.ti o.w o.h o.te o.wi o.mr o.mb o.ti w) ?_
    by_cases en : ([m.w,m.h,m.te,m.wi,m.mr,m.mb,m.ti] : List Int) = [o.w,o.h,o.te,o.wi,o.mr,o.mb,o.ti]
    case neg=>
      have es : m.same o = false:=by unfold MapV.same MapV.ns;rw [decide_eq_false en];rfl
      replace h:=Zd h;have F:=Zf4 h;refine Zs1 (decide_eq_false en) ?_
      exact ⟨by rw [es],h.done⟩
    have es : m.same o = false:=by unfold MapV.same;rw [hm];simp
    replace h:=Zd h;have F:=Zf4 h;refine Zs1 (decide_eq_true en) ?_
    exact ⟨by rw [es],h.done⟩
  replace h:=Zd h;have F:=Zf4 h;refine Zs1 (decide_eq_true ewa) ?_
  refine Sep.callp h (eqPa _ _ _ _ _ (R.pa.sep h fun _ _=>id) (Q.pa.sep h fun _ _=>id)) ?_
  clear h F
  intro w4 h
  by_cases epa : m.pa = o.pa
  case neg=>
    have hm : m.mesh o = false:=by unfold MapV.mesh;rw [decide_eq_false epa];simp
    replace h:=Zd h;have F:=Zf4 h;refine Zs1 (decide_eq_false epa) ?_
    refine walkDraw (.q 0 (.q 3 (.h 1 0 (.h 4 15 (.l 2 (.l 5 (.q 6 (.q 7 (.q 8 (.q 9 (.q 10 (.q 11 (.q 13 (.h 12 30 (.h 14 31 (.l 15 (.q 16 (.q 17 (.q 18 (.q 20 (.h 19 32 (.h 21 33 (.l 22 (.q 23 (.q 24 (.q 25 (.q 27 (.h 26 34 (.h 28 35 (.l 29 (.q 30 (.q 31 (.q 32 (.q 33 (.q 34 .fin))))))))))))))))))))))))))))))))))) [(b1,0,.int .i64 m.w),(b1,1,.int .i64 m.h),(b1,2,.int .i64 m.te),(b1,3,.int .i64 m.wi),(b1,4,.int .i64 m.mr),(b1,5,.int .i64 m.mb),(b1,6,.int .i64 m.ti),(b1,7,s.p),(b1,8,s.wa),(b1,9,s.pa),(b1,10,s.re),(b1,11,s.ca),(b1,12,s.is),(b1,13,s.co),(b1,14,s.ch),(b2,0,.int .i64 o.w),(b2,1,.int .i64 o.h),(b2,2,.int .i64 o.te),(b2,3,.int .i64 o.wi),(b2,4,.int .i64 o.mr),(b2,5,.int .i64 o.mb),(b2,6,.int .i64 o.ti),(b2,7,t.p),(b2,8,t.wa),(b2,9,t.pa),(b2,10,t.re),(b2,11,t.ca),(b2,12,t.is),(b2,13,t.co),(b2,14,t.ch),(b1,11,s.ca),(b2,11,t.ca),(b1,12,s.is),(b2,12,t.is),(b1,13,s.co),(b2,13,t.co)] (by kernel_rfl) (by simp [Holds_nil,Holds_cons,F]) ?_
    refine h.draw ?_
    clear h F
    intro w6 h
    replace h:=Zd h;have F:=Zf4 h;refine Zs ?_
    refine Sep.callp h (same115 m s _) ?_
    clear h F
    intro w7 h
    replace h:=Zd h;have F:=Zf4 h;refine Zs ?_
    refine Sep.callp h (same115 o t _) ?_
    clear h F
    intro w8 h
    replace h:=Zd h;have F:=Zf4 h;refine Zs ?_
    refine binK_eql_agg (by kernel_rfl) (fun w=>seqArr (d:=9998) m.w m.h m.te m.wi m.mr m.mb m.ti o.w o.h o.te o.wi o.mr o.mb o.ti w) ?_
    by_cases en : ([m.w,m.h,m.te,m.wi,m.mr,m.mb,m.ti] : List Int) = [o.w,o.h,o.te,o.wi,o.mr,o.mb,o.ti]
    case neg=>
      have es : m.same o = false:=by unfold MapV.same MapV.ns;rw [decide_eq_false en];rfl
      replace h:=Zd h;have F:=Zf4 h;refine Zs1 (decide_eq_false en) ?_
      exact ⟨by rw [es],h.done⟩
    have es : m.same o = false:=by unfold MapV.same;rw [hm];simp
    replace h:=Zd h;have F:=Zf4 h;refine Zs1 (decide_eq_true en) ?_
    exact ⟨by rw [es],h.done⟩
  replace h:=Zd h;have F:=Zf4 h;refine Zs1 (decide_eq_true epa) ?_
  refine Sep.callp h (eqRe _ _ _ _ _ (R.re.sep h fun _ _=>id) (Q.re.sep h fun _ _=>id)) ?_
  clear h F
  intro w4 h
  by_cases ere : m.re = o.re
  case neg=>
    have hm : m.mesh o = false:=by unfold MapV.mesh;rw [decide_eq_false ere];simp
    replace h:=Zd h;have F:=Zf4 h;refine Zs1 (decide_eq_false ere) ?_
    refine walkDraw (.q 0 (.q 3 (.h 1 0 (.h 4 15 (.l 2 (.l 5 (.q 6 (.q 7 (.q 8 (.q 9 (.q 10 (.q 11 (.q 13 (.h 12 30 (.h 14 31 (.l 15 (.q 16 (.q 17 (.q 18 (.q 20 (.h 19 32 (.h 21 33 (.l 22 (.q 23 (.q 24 (.q 25 (.q 27 (.h 26 34 (.h 28 35 (.l 29 (.q 30 (.q 31 (.q 32 (.q 33 (.q 34 .fin))))))))))))))))))))))))))))))))))) [(b1,0,.int .i64 m.w),(b1,1,.int .i64 m.h),(b1,2,.int .i64 m.te),(b1,3,.int .i64 m.wi),(b1,4,.int .i64 m.mr),(b1,5,.int .i64 m.mb),(b1,6,.int .i64 m.ti),(b1,7,s.p),(b1,8,s.wa),(b1,9,s.pa),(b1,10,s.re),(b1,11,s.ca),(b1,12,s.is),(b1,13,s.co),(b1,14,s.ch),(b2,0,.int .i64 o.w),(b2,1,.int .i64 o.h),(b2,2,.int .i64 o.te),(b2,3,.int .i64 o.wi),(b2,4,.int .i64 o.mr),(b2,5,.int .i64 o.mb),(b2,6,.int .i64 o.ti),(b2,7,t.p),(b2,8,t.wa),(b2,9,t.pa),(b2,10,t.re),(b2,11,t.ca),(b2,12,t.is),(b2,13,t.co),(b2,14,t.ch),(b1,11,s.ca),(b2,11,t.ca),(b1,12,s.is),(b2,12,t.is),(b1,13,s.co),(b2,13,t.co)] (by kernel_rfl) (by simp [Holds_nil,Holds_cons,F]) ?_
    refine h.draw ?_
    clear h F
    intro w6 h
    replace h:=Zd h;have F:=Zf4 h;refine Zs ?_
    refine Sep.callp h (same115 m s _) ?_
    clear h F
    intro w7 h
    replace h:=Zd h;have F:=Zf4 h;refine Zs ?_
    refine Sep.callp h (same115 o t _) ?_
    clear h F
    intro w8 h
    replace h:=Zd h;have F:=Zf4 h;refine Zs ?_
    refine binK_eql_agg (by kernel_rfl) (fun w=>seqArr (d:=9998) m.w m.h m.te m.wi m.mr m.mb m.ti o.w o.h o.te o.wi o.mr o.mb o.ti w) ?_
    by_cases en : ([m.w,m.h,m.te,m.wi,m.mr,m.mb,m.ti] : List Int) = [o.w,o.h,o.te,o.wi,o.mr,o.mb,o.ti]
    case neg=>
      have es : m.same o = false:=by unfold MapV.same MapV.ns;rw [decide_eq_false en];rfl
      replace h:=Zd h;have F:=Zf4 h;refine Zs1 (decide_eq_false en) ?_
      exact ⟨by rw [es],h.done⟩
    have es : m.same o = false:=by unfold MapV.same;rw [hm];simp
    replace h:=Zd h;have F:=Zf4 h;refine Zs1 (decide_eq_true en) ?_
    exact ⟨by rw [es],h.done⟩
  replace h:=Zd h;have F:=Zf4 h;refine Zs1 (decide_eq_true ere) ?_
  have hm : m.mesh o = true:=by unfold MapV.mesh;rw [decide_eq_true ep,decide_eq_true ewa,decide_eq_true epa,decide_eq_true ere];rfl
  refine walkDraw (.q 0 (.q 3 (.h 1 0 (.h 4 15 (.l 2 (.l 5 (.q 6 (.q 7 (.q 8 (.q 9 (.q 10 (.q 11 (.q 13 (.h 12 30 (.h 14 31 (.l 15 (.q 16 (.q 17 (.q 18 (.q 20 (.h 19 32 (.h 21 33 (.l 22 (.q 23 (.q 24 (.q 25 (.q 27 (.h 26 34 (.h 28 35 (.l 29 (.q 30 (.q 31 (.q 32 (.q 33 (.q 34 .fin))))))))))))))))))))))))))))))))))) [(b1,0,.int .i64 m.w),(b1,1,.int .i64 m.h),(b1,2,.int .i64 m.te),(b1,3,.int .i64 m.wi),(b1,4,.int .i64 m.mr),(b1,5,.int .i64 m.mb),(b1,6,.int .i64 m.ti),(b1,7,s.p),(b1,8,s.wa),(b1,9,s.pa),(b1,10,s.re),(b1,11,s.ca),(b1,12,s.is),(b1,13,s.co),(b1,14,s.ch),(b2,0,.int .i64 o.w),(b2,1,.int .i64 o.h),(b2,2,.int .i64 o.te),(b2,3,.int .i64 o.wi),(b2,4,.int .i64 o.mr),(b2,5,.int .i64 o.mb),(b2,6,.int .i64 o.ti),(b2,7,t.p),(b2,8,t.wa),(b2,9,t.pa),(b2,10,t.re),(b2,11,t.ca),(b2,12,t.is),(b2,13,t.co),(b2,14,t.ch),(b1,11,s.ca),(b2,11,t.ca),(b1,12,s.is),(b2,12,t.is),(b1,13,s.co),(b2,13,t.co)] (by kernel_rfl) (by simp [Holds_nil,Holds_cons,F]) ?_
  refine h.draw ?_
  clear h F
  intro w6 h
  replace h:=Zd h;have F:=Zf4 h;refine Zs ?_
  refine Sep.callp h (same115 m s _) ?_
  clear h F
  intro w7 h
  replace h:=Zd h;have F:=Zf4 h;refine Zs ?_
  refine Sep.callp h (same115 o t _) ?_
  clear h F
  intro w8 h
  replace h:=Zd h;have F:=Zf4 h;refine Zs ?_
  refine binK_eql_agg (by kernel_rfl) (fun w=>seqArr (d:=9998) m.w m.h m.te m.wi m.mr m.mb m.ti o.w o.h o.te o.wi o.mr o.mb o.ti w) ?_
  by_cases en : ([m.w,m.h,m.te,m.wi,m.mr,m.mb,m.ti] : List Int) = [o.w,o.h,o.te,o.wi,o.mr,o.mb,o.ti]
  case neg=>
    have es : m.same o = false:=by unfold MapV.same MapV.ns;rw [decide_eq_false en];rfl
    replace h:=Zd h;have F:=Zf4 h;refine Zs1 (decide_eq_false en) ?_
    exact ⟨by rw [es],h.done⟩
  replace h:=Zd h;have F:=Zf4 h;refine Zs1 (decide_eq_true en) ?_
  refine Sep.callp h (eqCa _ _ _ _ _ (R.ca.sep h fun _ _=>id) (Q.ca.sep h fun _ _=>id)) ?_
  clear h F
  intro w9 h
  by_cases eca : m.ca = o.ca
  case neg=>
    have es : m.same o = false:=by unfold MapV.same;rw [decide_eq_false eca];simp
    replace h:=Zd h;have F:=Zf4 h;refine Zs1 (decide_eq_false eca) ?_
    exact ⟨by rw [es],h.done⟩
  replace h:=Zd h;have F:=Zf4 h;refine Zs1 (decide_eq_true eca) ?_
  refine Sep.callp h (eqIs _ _ _ _ _ (R.is.sep h fun _ _=>id) (Q.is.sep h fun _ _=>id)) ?_
  clear h F
  intro w9 h
  by_cases eis : m.is = o.is
  case neg=>
    have es : m.same o = false:=by unfold MapV.same;rw [decide_eq_false eis];simp
    replace h:=Zd h;have F:=Zf4 h;refine Zs1 (decide_eq_false eis) ?_
    exact ⟨by rw [es],h.done⟩
  replace h:=Zd h;have F:=Zf4 h;refine Zs1 (decide_eq_true eis) ?_
  refine Sep.callp h (eqCo _ _ _ _ _ (R.co.sep h fun _ _=>id) (Q.co.sep h fun _ _=>id)) ?_
  clear h F
  intro w9 h
  by_cases eco : m.co = o.co
  case neg=>
    have es : m.same o = false:=by unfold MapV.same;rw [decide_eq_false eco];simp
    replace h:=Zd h;have F:=Zf4 h;refine Zs1 (decide_eq_false eco) ?_
    exact ⟨by rw [es],h.done⟩
  replace h:=Zd h;have F:=Zf4 h;refine Zs1 (decide_eq_true eco) ?_
  have es : m.same o = decide (m.ch = o.ch):=by unfold MapV.same MapV.ns;rw [hm,decide_eq_true en,decide_eq_true eca,decide_eq_true eis,decide_eq_true eco];rfl
  exact ⟨by rw [es],h.done⟩
end Go.Proofs.YtnhgjgoglmadnaaGreat
