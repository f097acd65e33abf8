/- Joined texts of this claim (part 4), printed by a program of this work. The last part holds the claimed theorem: the law answers true at every input of its row. -/
import Derived.Laws.BytesArg
import Derived.Laws.IdiomStrings
import Derived.Lib.Bytes
import Derived.ChangeKeysEq
import Derived.Test.YtnhgjgoglmadnaaRows
import Derived.ProofKit
import Derived.OpenShut
import Derived.ShutString
import Derived.ChangeOld
import Derived.Below
import Derived.Test.YtnhgjgoglmadnaaSP14c
namespace Go.Proofs.Ytnhgjgoglmadnaa
open Go.RowKit
theorem vcA : type_of% (And.intro (@planvT_lll) (And.intro (And.intro (And.intro (And.intro (And.intro (And.intro (@codevT_seq) (@codevT_region)) (And.intro (@codevT_draw) (And.intro (@codevT_cond) (@codevT_block)))) (And.intro (And.intro (@codevT_loop) (@codevT_exit)) (And.intro (@codevT_ret) (And.intro (@codevT_skip) (@opsvT_nil))))) (And.intro (And.intro (And.intro (@opsvT_cons) (@gT_none)) (And.intro (@gT_some) (And.intro (@exitT_seq_normal) (@exitT_seq_exit)))) (And.intro (And.intro (@exitT_seq_ret) (And.intro (@exitT_blk_normal) (@exitT_blk_ret))) (And.intro (@exitT_blk_exit) (And.intro (@exitT_end_normal) (@exitT_end_ret)))))) (And.intro (And.intro (And.intro (And.intro (@exitT_round_normal) (@exitT_round_exit)) (And.intro (@exitT_round_ret) (And.intro (@resT_nil) (@resT_tmp)))) (And.intro (And.intro (@resT_cell) (@operK_mk)) (And.intro (@planvT_fin) (And.intro (@planvT_q) (@planvT_h))))) (And.intro (And.intro (And.intro (@planvT_l) (@planvT_ll)) (And.intro (@pureT_move) (And.intro (@pureT_assign) (@pureT_pick)))) (And.intro (And.intro (@pureT_nilCheck) (And.intro (@pureT_binOp) (@pureT_unOp))) (And.intro (@pureT_convert) (And.intro (@pureT_build) (@pureT_fieldAddr))))))) (And.intro (And.intro (And.intro (And.intro (And.intro (@pureT_field) (@pureT_indexAddr)) (And.intro (@pureT_slice) (And.intro (@pureT_extract) (@pureT_makeFunc)))) (And.intro (And.intro (@pureT_min) (@pureT_max)) (And.intro (@opvT_move) (And.intro (@opvT_assign) (@opvT_pick))))) (And.intro (And.intro (And.intro (@opvT_nilCheck) (@opvT_binOp)) (And.intro (@opvT_unOp) (And.intro (@opvT_convert) (@opvT_build)))) (And.intro (And.intro (@opvT_fieldAddr) (And.intro (@opvT_field) (@opvT_indexAddr))) (And.intro (@opvT_slice) (And.intro (@opvT_extract) (@opvT_makeFunc)))))) (And.intro (And.intro (And.intro (And.intro (@opvT_len) (@opvT_min)) (And.intro (@opvT_max) (And.intro (@opvT_alloc) (@opvT_box)))) (And.intro (And.intro (@opvT_buildSlice) (And.intro (@opvT_load) (@opvT_store))) (And.intro (@opvT_makeSlice) (And.intro (@opvT_call) (@opvT_append))))) (And.intro (And.intro (And.intro (@opvT_copy) (@opvT_lookup)) (And.intro (@opvT_index) (And.intro (@opvT_mapUpdate) (@opvT_insert)))) (And.intro (And.intro (@opvT_makeMap) (And.intro (@opvT_range) (@opvT_next))) (And.intro (@heldT_load) (And.intro (@callK_func) (@storeK_eq))))))))) := And.intro (@planvT_lll) (And.intro (And.intro (And.intro (And.intro (And.intro (And.intro (@codevT_seq) (@codevT_region)) (And.intro (@codevT_draw) (And.intro (@codevT_cond) (@codevT_block)))) (And.intro (And.intro (@codevT_loop) (@codevT_exit)) (And.intro (@codevT_ret) (And.intro (@codevT_skip) (@opsvT_nil))))) (And.intro (And.intro (And.intro (@opsvT_cons) (@gT_none)) (And.intro (@gT_some) (And.intro (@exitT_seq_normal) (@exitT_seq_exit)))) (And.intro (And.intro (@exitT_seq_ret) (And.intro (@exitT_blk_normal) (@exitT_blk_ret))) (And.intro (@exitT_blk_exit) (And.intro (@exitT_end_normal) (@exitT_end_ret)))))) (And.intro (And.intro (And.intro (And.intro (@exitT_round_normal) (@exitT_round_exit)) (And.intro (@exitT_round_ret) (And.intro (@resT_nil) (@resT_tmp)))) (And.intro (And.intro (@resT_cell) (@operK_mk)) (And.intro (@planvT_fin) (And.intro (@planvT_q) (@planvT_h))))) (And.intro (And.intro (And.intro (@planvT_l) (@planvT_ll)) (And.intro (@pureT_move) (And.intro (@pureT_assign) (@pureT_pick)))) (And.intro (And.intro (@pureT_nilCheck) (And.intro (@pureT_binOp) (@pureT_unOp))) (And.intro (@pureT_convert) (And.intro (@pureT_build) (@pureT_fieldAddr))))))) (And.intro (And.intro (And.intro (And.intro (And.intro (@pureT_field) (@pureT_indexAddr)) (And.intro (@pureT_slice) (And.intro (@pureT_extract) (@pureT_makeFunc)))) (And.intro (And.intro (@pureT_min) (@pureT_max)) (And.intro (@opvT_move) (And.intro (@opvT_assign) (@opvT_pick))))) (And.intro (And.intro (And.intro (@opvT_nilCheck) (@opvT_binOp)) (And.intro (@opvT_unOp) (And.intro (@opvT_convert) (@opvT_build)))) (And.intro (And.intro (@opvT_fieldAddr) (And.intro (@opvT_field) (@opvT_indexAddr))) (And.intro (@opvT_slice) (And.intro (@opvT_extract) (@opvT_makeFunc)))))) (And.intro (And.intro (And.intro (And.intro (@opvT_len) (@opvT_min)) (And.intro (@opvT_max) (And.intro (@opvT_alloc) (@opvT_box)))) (And.intro (And.intro (@opvT_buildSlice) (And.intro (@opvT_load) (@opvT_store))) (And.intro (@opvT_makeSlice) (And.intro (@opvT_call) (@opvT_append))))) (And.intro (And.intro (And.intro (@opvT_copy) (@opvT_lookup)) (And.intro (@opvT_index) (And.intro (@opvT_mapUpdate) (@opvT_insert)))) (And.intro (And.intro (@opvT_makeMap) (And.intro (@opvT_range) (@opvT_next))) (And.intro (@heldT_load) (And.intro (@callK_func) (@storeK_eq))))))))
theorem vcB : type_of% (And.intro (And.intro (@guardK_bool) (@guardK_undef)) (And.intro (And.intro (And.intro (And.intro (And.intro (@RetK_mk) (@binK_add)) (And.intro (@binK_sub) (And.intro (@binK_mul) (@binK_and)))) (And.intro (And.intro (@binK_or) (And.intro (@binK_xor) (@binK_andNot))) (And.intro (@binK_eql) (And.intro (@binK_neq) (@binK_lss))))) (And.intro (And.intro (And.intro (@binK_leq) (And.intro (@binK_gtr) (@binK_geq))) (And.intro (@binK_quo) (And.intro (@binK_rem) (@binK_shl)))) (And.intro (And.intro (@binK_shr) (And.intro (@binK_seq) (@binK_sne))) (And.intro (@binK_beq) (And.intro (@binK_bne) (@binK_pnn)))))) (And.intro (And.intro (And.intro (And.intro (@binK_pns) (@binK_psn)) (And.intro (@binK_qnn) (And.intro (@binK_qns) (@binK_qsn)))) (And.intro (And.intro (@binK_sln) (And.intro (@binK_qln) (@unK_not))) (And.intro (@unK_neg) (And.intro (@nchkK_ptr) (@nchkK_func))))) (And.intro (And.intro (And.intro (@bndK_none) (And.intro (@bndK_some) (@idxK_slice))) (And.intro (@idxK_arr) (And.intro (@boolK_bool) (@ifK_true)))) (And.intro (And.intro (@ifK_false) (And.intro (@ptrK_mk) (@intK_mk))) (And.intro (@sliceK_mk) (And.intro (@beqT) (@beqF)))))))) := And.intro (And.intro (@guardK_bool) (@guardK_undef)) (And.intro (And.intro (And.intro (And.intro (And.intro (@RetK_mk) (@binK_add)) (And.intro (@binK_sub) (And.intro (@binK_mul) (@binK_and)))) (And.intro (And.intro (@binK_or) (And.intro (@binK_xor) (@binK_andNot))) (And.intro (@binK_eql) (And.intro (@binK_neq) (@binK_lss))))) (And.intro (And.intro (And.intro (@binK_leq) (And.intro (@binK_gtr) (@binK_geq))) (And.intro (@binK_quo) (And.intro (@binK_rem) (@binK_shl)))) (And.intro (And.intro (@binK_shr) (And.intro (@binK_seq) (@binK_sne))) (And.intro (@binK_beq) (And.intro (@binK_bne) (@binK_pnn)))))) (And.intro (And.intro (And.intro (And.intro (@binK_pns) (@binK_psn)) (And.intro (@binK_qnn) (And.intro (@binK_qns) (@binK_qsn)))) (And.intro (And.intro (@binK_sln) (And.intro (@binK_qln) (@unK_not))) (And.intro (@unK_neg) (And.intro (@nchkK_ptr) (@nchkK_func))))) (And.intro (And.intro (And.intro (@bndK_none) (And.intro (@bndK_some) (@idxK_slice))) (And.intro (@idxK_arr) (And.intro (@boolK_bool) (@ifK_true)))) (And.intro (And.intro (@ifK_false) (And.intro (@ptrK_mk) (@intK_mk))) (And.intro (@sliceK_mk) (And.intro (@beqT) (@beqF)))))))
theorem vcD : type_of% (And.intro (And.intro (And.intro (And.intro (And.intro (@List.size_toArray.{0}) (@List.length_cons.{0})) (And.intro (@List.length_nil.{0}) (And.intro (@List.all_cons.{0}) (@List.all_nil.{0})))) (And.intro (And.intro (@Option.isSome_some.{0}) (@Option.isSome_none.{0})) (And.intro (@Option.isNone_none.{0}) (And.intro (@Option.isNone_some.{0}) (@List.getElem?_toArray.{0}))))) (And.intro (And.intro (And.intro (@List.getElem?_cons_zero.{0}) (@List.getElem?_cons_succ.{0})) (And.intro (@List.getElem?_nil.{0}) (And.intro (@List.nil_append.{0}) (@List.append_nil.{0})))) (And.intro (And.intro (@List.cons_append.{0}) (And.intro (@List.zip_nil_left.{0,0}) (@List.zip_cons_cons.{0,0}))) (And.intro (@List.map_nil.{0,0}) (And.intro (@List.map_cons.{0,0}) (@Option.bind_some.{0,0})))))) (And.intro (And.intro (And.intro (And.intro (@Option.map_some.{0,0}) (@okK_some)) (And.intro (@valK_eq) (And.intro (@Bool.and_self) (@Bool.and_true)))) (And.intro (And.intro (@not_false_eq_true) (@not_true_eq_false)) (And.intro (@decide_true) (And.intro (@decide_false) (@Int.toNat_natCast))))) (And.intro (And.intro (And.intro (@Nat.mul_one) (@Nat.zero_add)) (And.intro (@Nat.add_zero) (And.intro (@Nat.zero_le) (@Nat.le_refl)))) (And.intro (And.intro (@Nat.sub_zero) (And.intro (@Bool.not_true) (@Bool.not_false))) (And.intro (@true_and) (And.intro (@and_true) (@and_self))))))) := (And.intro (And.intro (And.intro (And.intro (And.intro (@List.size_toArray.{0}) (@List.length_cons.{0})) (And.intro (@List.length_nil.{0}) (And.intro (@List.all_cons.{0}) (@List.all_nil.{0})))) (And.intro (And.intro (@Option.isSome_some.{0}) (@Option.isSome_none.{0})) (And.intro (@Option.isNone_none.{0}) (And.intro (@Option.isNone_some.{0}) (@List.getElem?_toArray.{0}))))) (And.intro (And.intro (And.intro (@List.getElem?_cons_zero.{0}) (@List.getElem?_cons_succ.{0})) (And.intro (@List.getElem?_nil.{0}) (And.intro (@List.nil_append.{0}) (@List.append_nil.{0})))) (And.intro (And.intro (@List.cons_append.{0}) (And.intro (@List.zip_nil_left.{0,0}) (@List.zip_cons_cons.{0,0}))) (And.intro (@List.map_nil.{0,0}) (And.intro (@List.map_cons.{0,0}) (@Option.bind_some.{0,0})))))) (And.intro (And.intro (And.intro (And.intro (@Option.map_some.{0,0}) (@okK_some)) (And.intro (@valK_eq) (And.intro (@Bool.and_self) (@Bool.and_true)))) (And.intro (And.intro (@not_false_eq_true) (@not_true_eq_false)) (And.intro (@decide_true) (And.intro (@decide_false) (@Int.toNat_natCast))))) (And.intro (And.intro (And.intro (@Nat.mul_one) (@Nat.zero_add)) (And.intro (@Nat.add_zero) (And.intro (@Nat.zero_le) (@Nat.le_refl)))) (And.intro (And.intro (@Nat.sub_zero) (And.intro (@Bool.not_true) (@Bool.not_false))) (And.intro (@true_and) (And.intro (@and_true) (@and_self)))))))
end Go.Proofs.Ytnhgjgoglmadnaa
namespace Go.Proofs.Ytnhgjgoglmadnaa
open Go.RowKit
theorem pureF_eq {P : Program} {s : Sem Value} {v : Value} {K : Value → Prop} (h : ∀ w, s.run P w = .ok v w) : pureF P s K = K v :=
  propext ⟨fun ⟨u, hu, hk⟩ => by
    have := (hu default).symm.trans (h default)
    injection this with e
    rw [← e]; exact hk, fun hk => ⟨v, h, hk⟩⟩
section
variable (xo yo : Operand) (K : Value → Prop) (a b c d e f a' b' c' d' e' f' : Int)
theorem eql_pt : binK Try.prog .eql 37 xo yo (.agg #[.int .i64 a, .int .i64 b]) (.agg #[.int .i64 c, .int .i64 d]) K = valK (.bool (decide (a = c) && decide (b = d))) K := by
  show pureF _ _ _ = K _
  refine pureF_eq fun w => ?_
  go_simp
  by_cases h1 : a = c <;> by_cases h2 : b = d <;> simp [h1, h2]
theorem eql_tri : binK Try.prog .eql 39 xo yo (.agg #[.int .i64 a, .int .i64 b, .int .i64 c, .int .i64 d, .int .i64 e, .int .i64 f]) (.agg #[.int .i64 a', .int .i64 b', .int .i64 c', .int .i64 d', .int .i64 e', .int .i64 f']) K
    = valK (.bool (decide (a = a' ∧ b = b' ∧ c = c' ∧ d = d' ∧ e = e' ∧ f = f'))) K := by
  show pureF _ _ _ = K _
  refine pureF_eq fun w => ?_
  go_simp
  by_cases h1 : a = a' <;> by_cases h2 : b = b' <;> by_cases h3 : c = c' <;> by_cases h4 : d = d' <;> by_cases h5 : e = e' <;> by_cases h6 : f = f' <;> simp [h1, h2, h3, h4, h5, h6]
end

theorem str_rule {w : World} {v : Value} {xs : List Int} {K : Value → World → Prop} (h : Rd w v xs) (hk : K (.string (strOfNums xs)) w) : RunK Try.prog (convert 22 9 v) w K := by
  obtain ⟨a, c, rfl, h1, h2, h3, h4⟩ := h
  refine ⟨_, w, ?_, hk⟩
  rcases Nat.eq_zero_or_pos xs.length with h0 | h0
  · have : xs = [] := List.eq_nil_of_length_eq_zero h0
    subst this
    cases a with
    | none => exact run_convert_bytes_nil w _ _ Try.underlying22 Try.underlying5 _ _ _ Try.underlying9
    | some a => rw [run_convert_bytes_string w _ _ _ _ _ _ Try.underlying22 Try.underlying5 Try.underlying9]; simp [Conv.bytesToString, strOfNums]; rfl
  · obtain ⟨b, o, rfl, hc⟩ := h4 h0
    exact run_convert_bytes_arg w _ _ Try.underlying22 Try.underlying5 b o _ c xs rfl hc _ Try.underlying9
theorem strOfNums_eq {xs ys : List Int} (hx : Byt xs) (hy : Byt ys) : ((strOfNums xs).toList == (strOfNums ys).toList) = decide (xs = ys) := by
  rw [Lib.strOfNums_toList, Lib.strOfNums_toList]
  have : Lib.bytesOf xs = Lib.bytesOf ys ↔ xs = ys := by
    constructor
    · intro h
      have hb : ∀ zs : List Int, Byt zs → (Lib.bytesOf zs).map (fun u => (u.toNat : Int)) = zs := by
        intro zs hz
        unfold Lib.bytesOf
        rw [List.map_map]
        conv => rhs; rw [← List.map_id zs]
        refine List.map_congr_left fun x hxm => ?_
        have := hz x hxm
        simp
        omega
      rw [← hb xs hx, ← hb ys hy, h]
    · rintro rfl; rfl
  by_cases e : xs = ys
  · subst e; simp
  · have : ¬ Lib.bytesOf xs = Lib.bytesOf ys := fun h => e (this.1 h)
    simp [e, this]
end Go.Proofs.Ytnhgjgoglmadnaa
namespace Go.Proofs.Ytnhgjgoglmadnaa
open Go.RowKit
set_option maxRecDepth 100000
set_option linter.unusedVariables false

def sigF (P : Program) (t : TypeId) : List (Bool × TypeId × Nat) := (P.fieldsOf t).toList.map fun f => (f.name != "_", f.type, f.offset)
def eqF (d : Nat) (xs ys : Array Value) : List (Bool × TypeId × Nat) → Sem Bool
  | [] => pure true
  | (n, t, o) :: fs => if n = true then do
      let a ← part t xs o
      let b ← part t ys o
      let r ← Op.equalIn d t a b
      if (!r) = true then pure false else eqF d xs ys fs
    else eqF d xs ys fs
theorem eqFields_eqF (d : Nat) (xs ys : Array Value) : ∀ fs : List Field, Op.eqFields d xs ys fs = eqF d xs ys (fs.map fun f => (f.name != "_", f.type, f.offset))
  | [] => rfl
  | f :: fs => by
    simp only [Op.eqFields, eqF, List.map_cons]
    rw [eqFields_eqF d xs ys fs]
    by_cases h : f.name = "_" <;> simp [h]
theorem eqF_int {P : Program} {d : Nat} {xs ys : Array Value} {t : TypeId} {o : Nat} {a b : Int} {fs : List (Bool × TypeId × Nat)} {w : World} {k : IntKind} (hu : P.underlying t = some (.int k)) (ha : xs[o]? = some (.int .i64 a)) (hb : ys[o]? = some (.int .i64 b)) {r : Bool}
    (h : (eqF (d + 1) xs ys fs).run P w = .ok r w) : (eqF (d + 1) xs ys ((true, t, o) :: fs)).run P w = .ok (decide (a = b) && r) w := by
  have hp : P.plainKey t = true := by simp [Program.plainKey, hu]
  simp only [eqF, if_true, Sem.run_bind, run_part_plain w hp ha, run_part_plain w hp hb, Result.andThen_ok, run_equalIn_int w d t .i64 k a b hu]
  by_cases e : a = b
  · simp [e, h]
  · simp [e]
theorem eqF_agg {P : Program} {d : Nat} {xs ys : Array Value} {t : TypeId} {o n : Nat} {fs : List (Bool × TypeId × Nat)} {w : World} (hu : P.underlying t = some (.struct (P.fieldsOf t))) (hn : P.cellsOf t = n) {q r : Bool}
    (hq : (Op.equalIn d t (.agg (xs.extract o (o + n))) (.agg (ys.extract o (o + n)))).run P w = .ok q w)
    (h : (eqF d xs ys fs).run P w = .ok r w) : (eqF d xs ys ((true, t, o) :: fs)).run P w = .ok (q && r) w := by
  obtain ⟨i, hi⟩ := info_of_underlying hu
  subst hn
  have hp : ∀ zs : Array Value, (part t zs o).run P w = .ok (.agg (zs.extract o (o + P.cellsOf t))) w := fun zs => by simp [part, isAgg, run_underlying hu, run_sizeOf w hi]
  simp only [eqF, if_true, Sem.run_bind, hp, Result.andThen_ok, hq]
  cases q
  · simp
  · simp [h]
theorem eqF_nil {P : Program} {d : Nat} {xs ys : Array Value} {w : World} : (eqF d xs ys []).run P w = .ok true w := by simp [eqF]
theorem equalIn_sig {P : Program} {d : Nat} {t : TypeId} {xs ys : Array Value} {w : World} {r : Bool} (hu : P.underlying t = some (.struct (P.fieldsOf t))) (hs : P.stoodInHeld t = false) {l : List (Bool × TypeId × Nat)} (hl : sigF P t = l)
    (h : (eqF d xs ys l).run P w = .ok r w) : (Op.equalIn (d + 1) t (.agg xs) (.agg ys)).run P w = .ok r w := by
  rw [run_equalIn_agg w d t xs ys hu hs, eqFields_eqF]
  subst hl; exact h
theorem binK_neq_agg {P : Program} {t : TypeId} {xo yo : Operand} {xs ys : Array Value} {r : Bool} {K : Value → Prop} (hg : P.eqGuardType P.depth t = false) (h : ∀ w, (Op.equalIn 10000 t (.agg xs) (.agg ys)).run P w = .ok r w) (hk : K (.bool (!r))) : binK P .neq t xo yo (.agg xs) (.agg ys) K :=
  ⟨_, fun w => by simp only [Sem.run_bind, run_eqGuard_agg w _ t xo yo xs ys hg, Result.andThen_ok, run_neq_struct, h w], hk⟩
theorem binK_eql_agg {P : Program} {t : TypeId} {xo yo : Operand} {xs ys : Array Value} {r : Bool} {K : Value → Prop} (hg : P.eqGuardType P.depth t = false) (h : ∀ w, (Op.equalIn 10000 t (.agg xs) (.agg ys)).run P w = .ok r w) (hk : K (.bool r)) : binK P .eql t xo yo (.agg xs) (.agg ys) K :=
  ⟨_, fun w => by simp only [Sem.run_bind, run_eqGuard_agg w _ t xo yo xs ys hg, Result.andThen_ok, run_eql_struct, h w], hk⟩
end Go.Proofs.Ytnhgjgoglmadnaa
namespace Go.Proofs.Ytnhgjgoglmadnaa
open Go.RowKit
set_option linter.unusedVariables false

theorem opsvT_two (P : Program) (ops : Array Oper) (l r : List Oper) (E : Env) (w : World) (K : Env → World → Prop) : opsvT P ops (l.append r) E w K = opsvT P ops l E w (fun E w => opsvT P ops r E w K) := by
  show opsv P ops (l ++ r) E w K = opsv P ops l E w (fun E w => opsv P ops r E w K)
  induction l generalizing E w with
  | nil => rfl
  | cons o l ih =>
    simp only [List.cons_append, opsv]
    have e : (fun (v : Value) (w' : World) => opsv P ops (l ++ r) (E.push o.dst v) w' K) = fun v w' => opsv P ops l (E.push o.dst v) w' fun E w => opsv P ops r E w K := by funext v w'; exact ih _ _
    rw [e, ih]
theorem app_get0 {α : Type} (a : α) (l r : List α) : (List.append (a :: l) r)[0]? = some a := (rfl)
theorem app_getS {α : Type} (a : α) (l r : List α) (j : Nat) : (List.append (a :: l) r)[j + 1]? = (List.append l r)[j]? := (rfl)
theorem app_getN {α : Type} (r : List α) (j : Nat) : (List.append [] r)[j]? = r[j]? := (rfl)

structure Res where
  on : World → (Nat → Prop) → Prop
  rd : Nat → Prop
  fact : World → Prop
  lt : ∀ {w A}, on w A → ∀ x, A x → x < w.heap.size
  chg : ∀ {w w' A}, on w A → w.heap.size ≤ w'.heap.size → (∀ x, x < w.heap.size → A x ∨ rd x → w'.heap[x]? = w.heap[x]?) → on w' A
  ok : ∀ {w A}, on w A → fact w

def Has : List Res → (Nat → Prop) → World → Prop
  | [], _, _ => True
  | r :: M, F, w => ∃ A, r.on w A ∧ (∀ x, A x → F x) ∧ Has M (fun x => F x ∧ ¬ A x) w
def Facts : List Res → World → Prop
  | [], _ => True
  | r :: M, w => r.fact w ∧ Facts M w

theorem Has.other : ∀ {M : List Res} {F F' : Nat → Prop} {w w' : World}, Has M F w → w.heap.size ≤ w'.heap.size → (∀ x, F x → x < w.heap.size → F' x) →
    (∀ x, x < w.heap.size → F x → w'.heap[x]? = w.heap[x]?) → (∀ r ∈ M, ∀ x, x < w.heap.size → r.rd x → w'.heap[x]? = w.heap[x]?) → Has M F' w'
  | [], _, _, _, _, _, _, _, _, _ => trivial
  | r :: M, F, F', w, w', ⟨A, h1, h2, h3⟩, hs, hF, hc, hr =>
    ⟨A, r.chg h1 hs fun x hx hA => hA.elim (fun hA => hc x hx (h2 x hA)) (fun hR => hr r (.head _) x hx hR), fun x hA => hF x (h2 x hA) (r.lt h1 x hA),
      Has.other h3 hs (fun x hx hl => ⟨hF x hx.1 hl, hx.2⟩) (fun x hl hx => hc x hl hx.1) (fun r hm => hr r (.tail _ hm))⟩

theorem Has.append : ∀ {M N : List Res} {F G F' : Nat → Prop} {w : World}, Has M F w → Has N G w → (∀ x, F x → ¬ G x) → (∀ x, F x → F' x) → (∀ x, G x → F' x) → Has (M ++ N) F' w
  | [], _, _, _, _, _, _, h, _, _, hG => Has.wide h hG
  | _ :: _, _, _, _, _, _, ⟨A, h1, h2, h3⟩, h, hd, hF, hG =>
    ⟨A, h1, fun x hx => hF x (h2 x hx), Has.append h3 h (fun x hx => hd x hx.1) (fun x hx => ⟨hF x hx.1, hx.2⟩) (fun x hx => ⟨hG x hx, fun hA => hd x (h2 x hA) hx⟩)⟩
where
  Has.wide : ∀ {M : List Res} {F F' : Nat → Prop} {w : World}, Has M F w → (∀ x, F x → F' x) → Has M F' w
    | [], _, _, _, _, _ => trivial
    | _ :: _, _, _, _, ⟨A, h1, h2, h3⟩, hF => ⟨A, h1, fun x hx => hF x (h2 x hx), Has.wide h3 fun x hx => ⟨hF x hx.1, hx.2⟩⟩
theorem Has.focus : ∀ {M : List Res} {F : Nat → Prop} {w : World} {i : Nat} {r : Res}, Has M F w → M[i]? = some r → (∀ q ∈ M, ∀ x, q.rd x → ¬ F x) → (∀ x, w.heap.size ≤ x → F x) →
    ∃ A, r.on w A ∧ (∀ x, A x → F x) ∧ ∀ r' A' w' N, r'.on w' A' → (∀ x, A' x → A x ∨ w.heap.size ≤ x) → Chg A w w' → Has N (fun x => (A x ∨ w.heap.size ≤ x) ∧ ¬ A' x) w' → Has (M.set i r' ++ N) F w'
  | [], _, _, _, _, _, hi, _, _ => by simp at hi
  | q :: M, F, w, 0, r, ⟨A, h1, h2, h3⟩, hi, hr, hN => by
    simp at hi; subst hi
    refine ⟨A, h1, h2, fun r' A' w' N h1' hA' hc hh => ?_⟩
    refine ⟨A', h1', fun x hx => (hA' x hx).elim (h2 x) (hN x), ?_⟩
    have k : Has M (fun x => (F x ∧ ¬ A x) ∧ x < w.heap.size) w' := Has.other h3 hc.size (fun x hx hl => ⟨hx, hl⟩) (fun x hl hx => hc.block x hl hx.2) (fun p hp x hl hx => hc.block x hl fun hA => hr p (.tail _ hp) x hx (h2 x hA))
    refine Has.append k hh (fun x hx hG => hG.1.elim hx.1.2 fun h => by have := hx.2; omega) (fun x hx => ⟨hx.1.1, fun h => (hA' x h).elim hx.1.2 fun h => by have := hx.2; omega⟩) (fun x hx => ⟨hx.1.elim (h2 x) (hN x), hx.2⟩)
  | q :: M, F, w, i + 1, r, ⟨A, h1, h2, h3⟩, hi, hr, hN => by
    simp at hi
    obtain ⟨B, g1, g2, g3⟩ := Has.focus h3 hi (fun p hp x hx hF => hr p (.tail _ hp) x hx hF.1) (fun x hx => ⟨hN x hx, fun hA => by have := q.lt h1 x hA; omega⟩)
    refine ⟨B, g1, fun x hx => (g2 x hx).1, fun r' A' w' N h1' hA' hc hh => ?_⟩
    refine ⟨A, q.chg h1 hc.size fun x hl hx => hc.block x hl fun hB => ?_, h2, g3 r' A' w' N h1' hA' hc hh⟩
    rcases hx with hx | hx
    · exact (g2 x hB).2 hx
    · exact hr q (.head _) x hx (g2 x hB).1

theorem Has.push : ∀ {M : List Res} {F : Nat → Prop} {w w' : World} {r : Res} {A : Nat → Prop}, Has M F w → r.on w' A → (∀ x, A x → w.heap.size ≤ x) → (∀ x, w.heap.size ≤ x → F x) →
    w.heap.size ≤ w'.heap.size → (∀ x, x < w.heap.size → F x → w'.heap[x]? = w.heap[x]?) → (∀ q ∈ M, ∀ x, x < w.heap.size → q.rd x → w'.heap[x]? = w.heap[x]?) → Has (M ++ [r]) F w'
  | [], F, w, w', r, A, _, hr, hA, hN, _, _, _ => ⟨A, hr, fun x hx => hN x (hA x hx), trivial⟩
  | q :: M, F, w, w', r, A, ⟨B, h1, h2, h3⟩, hr, hA, hN, hs, hc, hq =>
    ⟨B, q.chg h1 hs fun x hl hx => hx.elim (fun hx => hc x hl (h2 x hx)) (fun hx => hq q (.head _) x hl hx), h2,
      Has.push h3 hr hA (fun x hx => ⟨hN x hx, fun hB => by have := q.lt h1 x hB; omega⟩) hs (fun x hl hx => hc x hl hx.1) (fun p hp => hq p (.tail _ hp))⟩

theorem Has.facts : ∀ {M : List Res} {F : Nat → Prop} {w : World}, Has M F w → Facts M w
  | [], _, _, _ => trivial
  | r :: _, _, _, ⟨_, h1, _, h3⟩ => ⟨r.ok h1, Has.facts h3⟩

structure Sep (w0 : World) (S : Nat → Prop) (M : List Res) (w : World) : Prop where
  chg : Chg (fun k => S k ∨ w0.heap.size ≤ k) w0 w
  has : Has M (fun k => S k ∨ w0.heap.size ≤ k) w
  rd : ∀ r ∈ M, ∀ x, r.rd x → ¬ (S x ∨ w0.heap.size ≤ x)

section
variable {w0 w w1 : World} {S : Nat → Prop} {M : List Res}
theorem Sep.facts (h : Sep w0 S M w) : Facts M w := h.has.facts
theorem Sep.nil (w : World) : Sep w (fun _ => False) [] w := ⟨Chg.refl _ _, trivial, fun _ h => by cases h⟩
theorem Sep.old (h : Sep w0 S M w) : w0.heap.size ≤ w.heap.size := h.chg.size
theorem Sep.up (h : Sep w0 S M w) : ∀ x, w.heap.size ≤ x → (S x ∨ w0.heap.size ≤ x) := fun _ hx => .inr (Nat.le_trans h.old hx)
theorem Sep.quiet (h : Sep w0 S M w) (c : Chg (fun _ => False) w w1) : Sep w0 S M w1 :=
  ⟨h.chg.trans c fun _ f => f.elim, h.has.other c.size (fun _ hx _ => hx) (fun x hl _ => c.block x hl id) (fun _ _ x hl _ => c.block x hl id), h.rd⟩
theorem Sep.push {r : Res} {A : Nat → Prop} (h : Sep w0 S M w) (c : Chg (fun _ => False) w w1) (hr : r.on w1 A) (hA : ∀ x, A x → w.heap.size ≤ x) (hn : ∀ x, r.rd x → ¬ (S x ∨ w0.heap.size ≤ x)) : Sep w0 S (M ++ [r]) w1 :=
  ⟨h.chg.trans c fun _ f => f.elim, h.has.push hr hA h.up c.size (fun x hl _ => c.block x hl id) (fun _ _ x hl _ => c.block x hl id),
    fun q hq => (List.mem_append.1 hq).elim (h.rd q) fun hq => by simp at hq; subst hq; exact hn⟩
theorem mem_set {α : Type} {l : List α} {i : Nat} {a x : α} (h : x ∈ l.set i a) : x ∈ l ∨ x = a := by
  rcases List.mem_or_eq_of_mem_set h with h | h
  · exact .inl h
  · exact .inr h
theorem Sep.at {i : Nat} {r : Res} (h : Sep w0 S M w) (hi : M[i]? = some r) :
    ∃ A, r.on w A ∧ (∀ x, r.rd x → ¬ A x) ∧ ∀ r' A' w', r'.on w' A' → (∀ x, A' x → A x ∨ w.heap.size ≤ x) → Chg A w w' → (∀ x, r'.rd x → r.rd x) → Sep w0 S (M.set i r') w' := by
  obtain ⟨A, h1, h2, h3⟩ := h.has.focus hi h.rd h.up
  have hm : r ∈ M := List.mem_of_getElem? hi
  refine ⟨A, h1, fun x hx hA => h.rd r hm x hx (h2 x hA), fun r' A' w' h1' hA' hc hr => ⟨?_, by simpa using h3 r' A' w' [] h1' hA' hc trivial, fun q hq => ?_⟩⟩
  · exact h.chg.trans hc fun x hx => h2 x hx |>.elim (fun h => .inl (.inl h)) .inr
  · rcases mem_set hq with hq | hq
    · exact h.rd q hq
    · subst hq; exact fun x hx => h.rd r hm x (hr x hx)
theorem Sep.embed1 {i : Nat} {r : Res} (h : Sep w0 S M w) (hi : M[i]? = some r) :
    ∃ A, r.on w A ∧ (∀ x, r.rd x → ¬ (A x ∨ w.heap.size ≤ x)) ∧ (∀ x, A x → S x ∨ w0.heap.size ≤ x) ∧ ∀ r' N w', Sep w A (r' :: N) w' → (∀ x, r'.rd x → r.rd x) → (∀ q ∈ N, ∀ x, q.rd x → r.rd x) → Sep w0 S (M.set i r' ++ N) w' := by
  obtain ⟨A, h1, h2, h3⟩ := h.has.focus hi h.rd h.up
  have hm : r ∈ M := List.mem_of_getElem? hi
  refine ⟨A, h1, fun x hx hA => hA.elim (fun hA => h.rd r hm x hx (h2 x hA)) fun hA => h.rd r hm x hx (h.up x hA), h2, fun r' N w' k hr hN => ⟨?_, ?_, fun q hq => ?_⟩⟩
  · exact h.chg.trans k.chg fun x hx => hx.elim (fun hx => h2 x hx |>.elim (fun h => .inl (.inl h)) .inr) fun hx => .inr (Nat.le_trans h.old hx)
  · obtain ⟨A', g1, g2, g3⟩ := k.has
    exact h3 r' A' w' N g1 g2 (k.chg.mono' fun x hx hl => hx.elim id fun hx => by omega) g3
  · rcases List.mem_append.1 hq with hq | hq
    · rcases mem_set hq with hq | hq
      · exact h.rd q hq
      · subst hq; exact fun x hx => h.rd r hm x (hr x hx)
    · exact fun x hx => h.rd r hm x (hN q hq x hx)
theorem Sep.embed {N : List Res} {w' : World} (h : Sep w0 S M w) (k : Sep w (fun _ => False) N w') (hN : ∀ q ∈ N, ∀ x, ¬ q.rd x) : Sep w0 S (M ++ N) w' := by
  have c : Chg (fun _ => False) w w' := k.chg.mono' fun x hx hl => hx.elim id fun hx => by omega
  refine ⟨h.chg.trans c fun _ f => f.elim, ?_, fun q hq => (List.mem_append.1 hq).elim (h.rd q) fun hq x hx => (hN q hq x hx).elim⟩
  have g : Has M (fun x => (S x ∨ w0.heap.size ≤ x) ∧ x < w.heap.size) w' := h.has.other c.size (fun x hx hl => ⟨hx, hl⟩) (fun x hl _ => c.block x hl id) (fun _ _ x hl _ => c.block x hl id)
  exact Has.append g k.has (fun x hx hG => hG.elim id fun hG => by have := hx.2; omega) (fun x hx => hx.1) (fun x hx => hx.elim (fun f => f.elim) (h.up x))
theorem Sep.start {r : Res} {w : World} {A : Nat → Prop} (h : r.on w A) (hr : ∀ x, r.rd x → ¬ (A x ∨ w.heap.size ≤ x)) : Sep w A [r] w :=
  ⟨Chg.refl _ _, ⟨A, h, fun x hx => .inl hx, trivial⟩, fun q hq => by simp at hq; subst hq; exact hr⟩
theorem Sep.conv (i : Nat) {r r' : Res} (h : Sep w0 S M w) (hi : M[i]? = some r) (hc : ∀ A, r.on w A → r'.on w A) (hr : ∀ x, r'.rd x → r.rd x) : Sep w0 S (M.set i r') w := by
  obtain ⟨A, h1, _, h3⟩ := h.at hi
  exact h3 r' A w (hc A h1) (fun x hx => .inl hx) (Chg.refl _ _) hr

theorem Has.tail : ∀ {M : List Res} {F : Nat → Prop} {w : World} {r : Res}, Has (M ++ [r]) F w → Has M F w
  | [], _, _, _, _ => trivial
  | _ :: _, _, _, _, ⟨A, h1, h2, h3⟩ => ⟨A, h1, h2, Has.tail h3⟩
theorem Has.erase : ∀ {M : List Res} {F F' : Nat → Prop} {w : World} (i : Nat), Has M F w → (∀ x, F x → F' x) → Has (M.eraseIdx i) F' w
  | [], _, _, _, _, _, _ => trivial
  | _ :: _, _, _, _, 0, ⟨A, h1, h2, h3⟩, hF => by
    refine Has.mono h3 fun x hx => hF x hx.1
  | _ :: _, _, _, _, i + 1, ⟨A, h1, h2, h3⟩, hF => ⟨A, h1, fun x hx => hF x (h2 x hx), Has.erase i h3 fun x hx => ⟨hF x hx.1, hx.2⟩⟩
where
  Has.mono : ∀ {M : List Res} {F F' : Nat → Prop} {w : World}, Has M F w → (∀ x, F x → F' x) → Has M F' w
    | [], _, _, _, _, _ => trivial
    | _ :: _, _, _, _, ⟨A, h1, h2, h3⟩, hF => ⟨A, h1, fun x hx => hF x (h2 x hx), Has.mono h3 fun x hx => ⟨hF x hx.1, hx.2⟩⟩
theorem Sep.erase (i : Nat) (h : Sep w0 S M w) : Sep w0 S (M.eraseIdx i) w := ⟨h.chg, h.has.erase i fun _ => id, fun q hq => h.rd q (List.mem_of_mem_eraseIdx hq)⟩
theorem Sep.cell0 {b o : Nat} (h : Sep w0 S M w) (hb : (w0.cell? ⟨b, o, none⟩).isSome = true) (hS : ¬ S b) : w.cell? ⟨b, o, none⟩ = w0.cell? ⟨b, o, none⟩ := by
  obtain ⟨v, hv⟩ := Option.isSome_iff_exists.1 hb
  rw [hv]
  have hl := World.block_lt_of_cell? w0 _ hv
  exact h.chg.cell hv fun hx => hx.elim hS fun hx => by omega
end

def blk (b : Nat) (t : TypeId) (cs : List Value) : Res where
  on w A := w.heap[b]? = some (.cells cs.toArray t (0, 0)) ∧ A = fun x => x = b
  rd _ := False
  fact w := (∀ o, w.cell? ⟨b, o, none⟩ = cs[o]?) ∧ blkOf w b = some (cs, t)
  lt := fun ⟨h, e⟩ x hx => by subst e; subst hx; exact lt_of_block h
  chg := fun {w w' A} ⟨h, e⟩ hs hc => ⟨(hc b (lt_of_block h) (.inl (by rw [e]))).trans h, e⟩
  ok := fun {w A} ⟨h, e⟩ => by
    have hb : blkOf w b = some (cs, t) := by simpa using blkOf_of h
    exact ⟨fun o => cell_of_blkOf hb o, hb⟩
theorem blk_fact (b : Nat) (t : TypeId) (cs : List Value) (w : World) : (blk b t cs).fact w = ((∀ o, w.cell? ⟨b, o, none⟩ = cs[o]?) ∧ blkOf w b = some (cs, t)) := (rfl)
theorem Facts_nil (w : World) : Facts [] w = True := (rfl)
theorem Facts_cons (r : Res) (M : List Res) (w : World) : Facts (r :: M) w = (r.fact w ∧ Facts M w) := (rfl)

section
variable {w0 w w1 : World} {S : Nat → Prop} {M : List Res}
theorem Sep.new {cs : List Value} {t : TypeId} {K : World → Nat → Prop} (h : Sep w0 S M w) (hk : ∀ w1 b, Sep w0 S (M ++ [blk b t cs]) w1 → K w1 b) : ∀ w1 b, New w w1 b cs t → K w1 b := fun w1 b n =>
  hk w1 b (h.push n.chg (A := fun x => x = b) ⟨n.blk, rfl⟩ (fun x hx => by have := n.eq; omega) (fun _ f => f.elim))
theorem Sep.put (i : Nat) {b : Nat} {cs cs' : List Value} {t : TypeId} {K : World → Prop} (h : Sep w0 S M w) (hi : M[i]? = some (blk b t cs)) (hk : ∀ w1, Sep w0 S (M.set i (blk b t cs')) w1 → K w1) : ∀ w1, Put w w1 b cs' t → K w1 := fun w1 p => by
  obtain ⟨A, ⟨h1, rfl⟩, _, h3⟩ := h.at hi
  exact hk w1 (h3 _ (fun x => x = b) w1 ⟨p.blk, rfl⟩ (fun x hx => .inl hx) p.chg (fun _ f => f.elim))
theorem Sep.callp {P : Program} {f : FuncId} {args : Array Value} {x : Value} {K : Value → World → Prop} (h : Sep w0 S M w) (hc : Calls P f args w (RetK fun r w' => r = x ∧ Chg (fun _ => False) w w')) (hk : ∀ w1, Sep w0 S M w1 → K x w1) : callsK P f args w K :=
  callsK_use hc fun _ _ ⟨e, c⟩ => by rw [e]; exact hk _ (h.quiet c)
theorem Sep.callN {P : Program} {f : FuncId} {args : Array Value} {Q : Value → List Res → Prop} {K : Value → World → Prop} (h : Sep w0 S M w) (hc : Calls P f args w (RetK fun r w' => ∃ N, Sep w (fun _ => False) N w' ∧ (∀ q ∈ N, ∀ x, ¬ q.rd x) ∧ Q r N))
    (hk : ∀ r N w1, Q r N → Sep w0 S (M ++ N) w1 → K r w1) : callsK P f args w K :=
  callsK_use hc fun _ _ ⟨_, k, hN, q⟩ => hk _ _ _ q (h.embed k hN)
theorem Sep.call1 (i : Nat) {P : Program} {f : FuncId} {args : Array Value} {r : Res} {Q : Value → Res → List Res → Prop} {K : Value → World → Prop} (h : Sep w0 S M w) (hi : M[i]? = some r)
    (hc : ∀ A, (∀ x, A x → S x ∨ w0.heap.size ≤ x) → Sep w A [r] w → Calls P f args w (RetK fun v w' => ∃ r' N, Sep w A (r' :: N) w' ∧ (∀ x, r'.rd x → r.rd x) ∧ (∀ q ∈ N, ∀ x, ¬ q.rd x) ∧ Q v r' N))
    (hk : ∀ v r' N w1, Q v r' N → Sep w0 S (M.set i r' ++ N) w1 → K v w1) : callsK P f args w K := by
  obtain ⟨A, h1, h2, hu, h3⟩ := h.embed1 hi
  exact callsK_use (hc A hu (Sep.start h1 h2)) fun _ _ ⟨_, _, k, hr, hN, q⟩ => hk _ _ _ _ q (h3 _ _ _ k hr fun q hq x hx => (hN q hq x hx).elim)
theorem Sep.draw {K : World → Prop} (h : Sep w0 S M w) (hk : ∀ w1, Sep w0 S M w1 → K w1) : ∀ w1, w1.heap = w.heap → Chg (fun _ => False) w w1 → K w1 := fun w1 _ c => hk w1 (h.quiet c)
end

def row (e s : Nat) (v : Value) (n : Nat) (xs : List Value) : Res where
  on w A := w.ownsRow 0 e s v n xs ∧ A = fun x => v.ownBlock = some x
  rd _ := False
  fact w := w.ownsRow 0 e s v n xs
  lt := fun ⟨h, e⟩ x hx => by subst e; exact (World.ownsRow.lt h x hx).2
  chg := fun {w w' A} ⟨h, e⟩ hs hc => by
    refine ⟨⟨h.1, ?_⟩, e⟩
    rcases h.2 with hz | ⟨g, cap, cur, rfl, hb, hg, rest⟩
    · exact .inl hz
    · exact .inr ⟨g, cap, cur, rfl, hb, (hc g (lt_of_block hg) (.inl (by rw [e]; simp [Value.ownBlock]))).trans hg, rest⟩
  ok := fun h => h.1
theorem row_fact (e s : Nat) (v : Value) (n : Nat) (xs : List Value) (w : World) : (row e s v n xs).fact w = w.ownsRow 0 e s v n xs := (rfl)
theorem Sep.fresh {w0 w : World} {S : Nat → Prop} {M : List Res} {e s : Nat} (h : Sep w0 S M w) : Sep w0 S (M ++ [row e s (.slice none 0 0) 0 []]) w :=
  h.push (Chg.refl _ _) (A := fun _ => False) ⟨World.ownsRow_nil _ _ _ _, by funext x; simp [Value.ownBlock]⟩ (fun _ f => f.elim) (fun _ f => f.elim)
theorem Sep.toRow (i : Nat) {w0 w : World} {S : Nat → Prop} {M : List Res} {b : Nat} {t : TypeId} {cs : List Value} (s n : Nat) (h : Sep w0 S M w) (hi : M[i]? = some (blk b t cs)) (hn : cs.length = n * s) (hm : n ≤ maxLen) : Sep w0 S (M.set i (row t s (.slice (some ⟨b, 0, none⟩) n n) n cs)) w :=
  h.conv i hi (fun A ⟨h1, e⟩ => ⟨⟨hn, .inr ⟨b, n, cs.toArray, rfl, Nat.zero_le _, h1, Nat.le_refl _, hm, by simpa using hn, List.take_of_length_le (by simp [hn])⟩⟩, by rw [e]; funext x; simp [Value.ownBlock, eq_comm]⟩) (fun _ f => f)
theorem Sep.app (i : Nat) {P : Program} {t e : TypeId} {z : Value} {s by' : Nat} (hinf : (P.info? e).map (fun i => (i.zero, i.size, i.bytes)) = some (some z, s, by')) (ht : P.underlying t = some (.slice e)) (hzs : z.cells.size = s) (hs : 0 < s)
    {w0 w : World} {S : Nat → Prop} {M : List Res} {v : Value} {n : Nat} {xs : List Value} {src : Value} {m : Nat} {news : List Value} {ty : TypeId} {K : Value → World → Prop} (h : Sep w0 S M w) (hi : M[i]? = some (row e s v n xs)) (hsrc : Row s w src m news)
    (hl : (n + m) * by' ≤ 140737488355328) (h63 : n + m ≤ maxLen)
    (hK : ∀ a c w', Sep w0 S (M.set i (row e s (.slice a (n + m) c) (n + m) (xs ++ news))) w' → K (.slice a (n + m) c) w') : RunK P (Builtin.append_ #[t, t] ty #[v, src]) w K := by
  obtain ⟨A, ⟨h1, rfl⟩, _, h3⟩ := h.at hi
  refine append_rule hinf ht hzs hs h1 hsrc hl h63 fun v' w' ho hg hat => ?_
  have hsh : ∃ a c, v' = .slice a (n + m) c := by
    rcases ho.2 with ⟨rfl, hz⟩ | ⟨g, cap, cur, rfl, _⟩
    · exact ⟨none, 0, by rw [hz]⟩
    · exact ⟨_, _, rfl⟩
  obtain ⟨a, c, rfl⟩ := hsh
  refine hK a c w' (h3 _ _ w' ⟨ho, rfl⟩ (fun x hx => ?_) (Chg.ofGrown hg) (fun _ f => f))
  rcases hat with e | e
  · exact .inl (by rw [← e]; exact hx)
  · rw [hx] at e; injection e with e; exact .inr (by omega)
theorem Row.sep {s : Nat} {w0 w : World} {S : Nat → Prop} {M : List Res} {v : Value} {n : Nat} {cs : List Value} (h : Row s w0 v n cs) (hh : Sep w0 S M w) (hS : ∀ k, v.ownBlock = some k → ¬ S k) : Row s w v n cs := by
  obtain ⟨h1, h2, a, c, rfl, h3, h4, h5, h6⟩ := h
  refine ⟨h1, h2, a, c, rfl, h3, h4, h5, fun hp => ?_⟩
  obtain ⟨b, o, rfl, hcell⟩ := h6 hp
  refine ⟨b, o, rfl, fun j u hj => hh.chg.cell (hcell j u hj) ?_⟩
  have := World.block_lt_of_cell? w0 _ (hcell j u hj)
  exact fun hx => hx.elim (hS b (by simp [Value.ownBlock])) fun hx => by dsimp only at this hx; omega
theorem Rd.sep {w0 w : World} {S : Nat → Prop} {M : List Res} {v : Value} {xs : List Int} (h : Rd w0 v xs) (hh : Sep w0 S M w) (hS : ∀ k, v.ownBlock = some k → ¬ S k) : Rd w v xs := by
  obtain ⟨a, c, rfl, h1, h2, h3, h4⟩ := h
  refine ⟨a, c, rfl, h1, h2, h3, fun hp => ?_⟩
  obtain ⟨b, o, rfl, hc⟩ := h4 hp
  refine ⟨b, o, rfl, fun j hj => hh.chg.cell (hc j hj) ?_⟩
  have := World.block_lt_of_cell? w0 _ (hc j hj)
  exact fun hx => hx.elim (hS b (by simp [Value.ownBlock])) fun hx => by dsimp only at this hx; omega
theorem Sep.done {w0 w : World} {M : List Res} (h : Sep w0 (fun _ => False) M w) : Chg (fun _ => False) w0 w :=
  ⟨h.chg.os, h.chg.tape, h.chg.output, h.chg.size, fun k hk _ => h.chg.block k hk fun hx => hx.elim id fun hx => by omega⟩
theorem vsD : type_of% (And.intro (And.intro (@Holds_cons) (@Holds_nil)) (And.intro (And.intro (@tupK_mk) (@opsvT_two)) (And.intro (@app_get0) (And.intro (@app_getS) (@app_getN))))) := And.intro (And.intro (@Holds_cons) (@Holds_nil)) (And.intro (And.intro (@tupK_mk) (@opsvT_two)) (And.intro (@app_get0) (And.intro (@app_getS) (@app_getN))))
theorem nfD : type_of% (And.intro (And.intro (@List.cons_append.{0}) (@List.nil_append.{0})) (And.intro (And.intro (@List.set_cons_zero.{0}) (@List.set_cons_succ.{0})) (And.intro (@List.eraseIdx_cons_zero.{0}) (@List.eraseIdx_cons_succ.{0})))) := And.intro (And.intro (@List.cons_append.{0}) (@List.nil_append.{0})) (And.intro (And.intro (@List.set_cons_zero.{0}) (@List.set_cons_succ.{0})) (And.intro (@List.eraseIdx_cons_zero.{0}) (@List.eraseIdx_cons_succ.{0})))
end Go.Proofs.Ytnhgjgoglmadnaa
namespace Go.Proofs.Ytnhgjgoglmadnaa
open Go.RowKit
set_option maxRecDepth 100000
set_option linter.unusedSimpArgs false
set_option linter.unusedVariables false
set_option pp.maxSteps 1500
set_option pp.deepTerms.threshold 8

theorem WrStep.pre {p : Nat} {w w1 w' : World} {v v' : Value} (h : Chg (fun _ => False) w w1) (k : WrStep p w1 v w' v') : WrStep p w v w' v' :=
  ⟨(h.mono (fun _ f => f.elim)).trans k.chg (fun x hx => .inl hx), fun b hb => (k.new b hb).imp id fun hle => Nat.le_trans h.size hle⟩
theorem WrStep.holds {p : Nat} {w w' : World} {v v' : Value} {L : Held} (k : WrStep p w v w' v') (h : Holds L w) (hs : ∀ x ∈ L, Safe p v x.1) : Holds L w' :=
  fun b o u hm => k.cell (h b o u hm) (hs _ hm)
theorem Chg.holds {w w' : World} {L : Held} (k : Chg (fun _ => False) w w') (h : Holds L w) : Holds L w' := fun b o u hm => k.cell (h b o u hm) id
theorem safeAll {p b : Nat} {v : Value} (h : Safe p v b) (L : List (Nat × Value)) : ∀ x ∈ L.map (fun y => (b, y.1, y.2)), Safe p v x.1 := by
  intro x hx
  obtain ⟨y, _, rfl⟩ := List.mem_map.1 hx
  exact h
def WrQ (t p : Nat) (w : World) (v : Value) (s' : W8) (r : Value) (w' : World) : Prop := r = .pointer (some ⟨p, 0, none⟩) ∧ ∃ v', WrS t w' p v' s' ∧ WrStep p w v w' v'
theorem num (p : Nat) (v : Value) (s : W8) (n size : Int) (w : World) (hw : WrS 32 w p v s) (hlen : s.l.length ≤ 1000000) (hn : -9223372036854775808 ≤ n) (hn1 : n ≤ 9223372036854775807) :
    Calls Try.prog 23 [.pointer (some ⟨p, 0, none⟩), .int .i64 n, .int .i64 size].toArray w (RetK (WrQ 32 p w v (s.num n size))) :=
  (num_any p v s n size w hw hlen hn hn1).mono fun e w' ⟨h1, h2⟩ => ⟨_, h1, rfl, h2⟩

def W8.pt (s : W8) (x y : Int) : W8 := (s.num x 3).num y 3
theorem W8.pt_len (s : W8) (x y : Int) : (s.pt x y).l.length ≤ s.l.length + 16 := by
  have := s.num_len x 3
  have := (s.num x 3).num_len y 3
  unfold W8.pt; omega

theorem point (p : Nat) (v : Value) (s : W8) (x y : Int) (w : World) (hw : WrS 32 w p v s) (hlen : s.l.length ≤ 900000) (hx : -9223372036854775808 ≤ x) (hx1 : x ≤ 9223372036854775807) (hy : -9223372036854775808 ≤ y) (hy1 : y ≤ 9223372036854775807) :
    Calls Try.prog 25 [.pointer (some ⟨p, 0, none⟩), .agg #[.int .i64 x, .int .i64 y]].toArray w (RetK (WrQ 32 p w v (s.pt x y))) := by
  refine walk Try.func25 rfl (by kernel_rfl) (by rw [Try.nt25]; simp) ?_
  simp -dsimp only [↓vcA, vcB, vcD, ↓pureT_lenS, ↓iteT, ↓iteF, cond_true, cond_false, eq_self, argE, Env.get, Env.push, ev, evs, evo, retV, Value.cells, Value.oneCell', setR, overR, fillL, zl, places, allSizes, heldC, ne_eq, Int.reduceLE, Int.reduceLT, Int.reduceEq, Int.reduceNe, Int.reduceToNat, Int.cast_ofNat_Int, Nat.reduceMul, Nat.reduceLeDiff, reduceIte, Nat.reduceEqDiff, Nat.reduceAdd, ↓reduceIte, Try.vcT]
  intro w1 b hb
  have hL : Holds [(b, 0, .int .i64 x), (b, 1, .int .i64 y)] w1 := by simp [Holds_nil, Holds_cons, hb.cell]
  refine walkDraw (.q 0 (.q 1 (.q 4 (.h 2 0 (.h 5 1 (.l 3 (.l 6 (.q 7 .fin)))))))) [(b, 0, .int .i64 x), (b, 1, .int .i64 y)] (by kernel_rfl) hL ?_
  intro w2 e2 c2
  simp -dsimp only [↓vcA, vcB, vcD, ↓pureT_lenS, ↓iteT, ↓iteF, cond_true, cond_false, eq_self, argE, Env.get, Env.push, ev, evs, evo, retV, Value.cells, Value.oneCell', setR, overR, fillL, zl, places, allSizes, heldC, ne_eq, Int.reduceLE, Int.reduceLT, Int.reduceEq, Int.reduceNe, Int.reduceToNat, Int.cast_ofNat_Int, Nat.reduceMul, Nat.reduceLeDiff, reduceIte, Nat.reduceEqDiff, Nat.reduceAdd, ↓reduceIte, Try.vcT]
  have h1 : WrS 32 w1 p v s := hw.chg hb.chg id fun _ _ => id
  have h2 : WrS 32 w2 p v s := h1.chg c2 id fun _ _ => id
  have hsf : Safe p v b := Safe.new hw.lt hw.own (by rw [hb.eq]; omega)
  have hb2 : b < w2.heap.size := by rw [e2]; exact hb.lt
  refine callsK_use (num p v s x 3 w2 h2 (by omega) hx hx1) ?_
  rintro _ w3 ⟨rfl, v3, h3, k3⟩
  have L3 := k3.holds (c2.holds hL) (safeAll hsf [(0, .int .i64 x), (1, .int .i64 y)])
  simp -dsimp only [↓vcA, vcB, vcD, ↓pureT_lenS, ↓iteT, ↓iteF, cond_true, cond_false, eq_self, argE, Env.get, Env.push, ev, evs, evo, retV, Value.cells, Value.oneCell', setR, overR, fillL, zl, places, allSizes, heldC, ne_eq, Int.reduceLE, Int.reduceLT, Int.reduceEq, Int.reduceNe, Int.reduceToNat, Int.cast_ofNat_Int, Nat.reduceMul, Nat.reduceLeDiff, reduceIte, Nat.reduceEqDiff, Nat.reduceAdd, ↓reduceIte, Try.vcT, L3]
  have hl := s.num_len x 3
  refine callsK_use (num p v3 (s.num x 3) y 3 w3 h3 (by omega) hy hy1) ?_
  rintro _ w4 ⟨rfl, v4, h4, k4⟩
  have L4 := k4.holds L3 (safeAll (k3.safe hb2 hsf) [(0, .int .i64 x), (1, .int .i64 y)])
  simp -dsimp only [↓vcA, vcB, vcD, ↓pureT_lenS, ↓iteT, ↓iteF, cond_true, cond_false, eq_self, argE, Env.get, Env.push, ev, evs, evo, retV, Value.cells, Value.oneCell', setR, overR, fillL, zl, places, allSizes, heldC, ne_eq, Int.reduceLE, Int.reduceLT, Int.reduceEq, Int.reduceNe, Int.reduceToNat, Int.cast_ofNat_Int, Nat.reduceMul, Nat.reduceLeDiff, reduceIte, Nat.reduceEqDiff, Nat.reduceAdd, ↓reduceIte, Try.vcT, L4]
  exact ⟨rfl, v4, h4, WrStep.pre (hb.chg.seq c2) (k3.trans k4)⟩

def W8.tri (s : W8) (ax ay bx by' cx cy : Int) : W8 := ((s.pt ax ay).pt bx by').pt cx cy
theorem W8.tri_len (s : W8) (ax ay bx by' cx cy : Int) : (s.tri ax ay bx by' cx cy).l.length ≤ s.l.length + 48 := by
  have := s.pt_len ax ay
  have := (s.pt ax ay).pt_len bx by'
  have := ((s.pt ax ay).pt bx by').pt_len cx cy
  unfold W8.tri; omega
def Ok64 (l : List Int) : Prop := ∀ x ∈ l, -9223372036854775808 ≤ x ∧ x ≤ 9223372036854775807

theorem tri (p : Nat) (v : Value) (s : W8) (ax ay bx by' cx cy : Int) (w : World) (hw : WrS 32 w p v s) (hlen : s.l.length ≤ 800000) (ho : Ok64 [ax, ay, bx, by', cx, cy]) :
    Calls Try.prog 27 [.pointer (some ⟨p, 0, none⟩), .agg #[.int .i64 ax, .int .i64 ay, .int .i64 bx, .int .i64 by', .int .i64 cx, .int .i64 cy]].toArray w (RetK (WrQ 32 p w v (s.tri ax ay bx by' cx cy))) := by
  simp only [Ok64, List.forall_mem_cons, List.not_mem_nil, false_implies, implies_true, and_true] at ho
  obtain ⟨⟨ax0, ax1⟩, ⟨ay0, ay1⟩, ⟨bx0, bx1⟩, ⟨by0, by1⟩, ⟨cx0, cx1⟩, cy0, cy1⟩ := ho
  refine walk Try.func27 rfl (by kernel_rfl) (by rw [Try.nt27]; simp) ?_
  simp -dsimp only [↓vcA, vcB, vcD, ↓pureT_lenS, ↓iteT, ↓iteF, cond_true, cond_false, eq_self, argE, Env.get, Env.push, ev, evs, evo, retV, Value.cells, Value.oneCell', setR, overR, fillL, zl, places, allSizes, heldC, ne_eq, Int.reduceLE, Int.reduceLT, Int.reduceEq, Int.reduceNe, Int.reduceToNat, Int.cast_ofNat_Int, Nat.reduceMul, Nat.reduceLeDiff, reduceIte, Nat.reduceEqDiff, Nat.reduceAdd, ↓reduceIte, Try.vcT]
  intro w1 b hb
  refine walkDraw (.q 0 (.q 1 (.q 4 (.q 7 (.h 2 0 (.h 5 2 (.h 8 4 (.l 3 (.l 6 (.l 9 (.q 10 .fin))))))))))) [(b, 0, .int .i64 ax), (b, 1, .int .i64 ay), (b, 2, .int .i64 bx), (b, 3, .int .i64 by'), (b, 4, .int .i64 cx), (b, 5, .int .i64 cy)] (by kernel_rfl) (by simp [Holds_nil, Holds_cons, hb.cell]) ?_
  intro w2 e2 c2
  have hL : Holds [(b, 0, .int .i64 ax), (b, 1, .int .i64 ay), (b, 2, .int .i64 bx), (b, 3, .int .i64 by'), (b, 4, .int .i64 cx), (b, 5, .int .i64 cy)] w1 := by simp [Holds_nil, Holds_cons, hb.cell]
  simp -dsimp only [↓vcA, vcB, vcD, ↓pureT_lenS, ↓iteT, ↓iteF, cond_true, cond_false, eq_self, argE, Env.get, Env.push, ev, evs, evo, retV, Value.cells, Value.oneCell', setR, overR, fillL, zl, places, allSizes, heldC, ne_eq, Int.reduceLE, Int.reduceLT, Int.reduceEq, Int.reduceNe, Int.reduceToNat, Int.cast_ofNat_Int, Nat.reduceMul, Nat.reduceLeDiff, reduceIte, Nat.reduceEqDiff, Nat.reduceAdd, ↓reduceIte, Try.vcT]
  have h1 : WrS 32 w1 p v s := hw.chg hb.chg id fun _ _ => id
  have h2 : WrS 32 w2 p v s := h1.chg c2 id fun _ _ => id
  have hsf : Safe p v b := Safe.new hw.lt hw.own (by rw [hb.eq]; omega)
  have hb2 : b < w2.heap.size := by rw [e2]; exact hb.lt
  have hl1 := s.pt_len ax ay
  have hl2 := (s.pt ax ay).pt_len bx by'
  refine callsK_use (point p v s ax ay w2 h2 (by omega) ax0 ax1 ay0 ay1) ?_
  rintro _ w3 ⟨rfl, v3, h3, k3⟩
  have L3 := k3.holds (c2.holds hL) (safeAll hsf [(0, .int .i64 ax), (1, .int .i64 ay), (2, .int .i64 bx), (3, .int .i64 by'), (4, .int .i64 cx), (5, .int .i64 cy)])
  simp -dsimp only [↓vcA, vcB, vcD, ↓pureT_lenS, ↓iteT, ↓iteF, cond_true, cond_false, eq_self, argE, Env.get, Env.push, ev, evs, evo, retV, Value.cells, Value.oneCell', setR, overR, fillL, zl, places, allSizes, heldC, ne_eq, Int.reduceLE, Int.reduceLT, Int.reduceEq, Int.reduceNe, Int.reduceToNat, Int.cast_ofNat_Int, Nat.reduceMul, Nat.reduceLeDiff, reduceIte, Nat.reduceEqDiff, Nat.reduceAdd, ↓reduceIte, Try.vcT, L3]
  have hsf3 := k3.safe hb2 hsf
  have hb3 : b < w3.heap.size := Nat.lt_of_lt_of_le hb2 k3.chg.size
  refine callsK_use (point p v3 (s.pt ax ay) bx by' w3 h3 (by omega) bx0 bx1 by0 by1) ?_
  rintro _ w4 ⟨rfl, v4, h4, k4⟩
  have L4 := k4.holds L3 (safeAll hsf3 [(0, .int .i64 ax), (1, .int .i64 ay), (2, .int .i64 bx), (3, .int .i64 by'), (4, .int .i64 cx), (5, .int .i64 cy)])
  simp -dsimp only [↓vcA, vcB, vcD, ↓pureT_lenS, ↓iteT, ↓iteF, cond_true, cond_false, eq_self, argE, Env.get, Env.push, ev, evs, evo, retV, Value.cells, Value.oneCell', setR, overR, fillL, zl, places, allSizes, heldC, ne_eq, Int.reduceLE, Int.reduceLT, Int.reduceEq, Int.reduceNe, Int.reduceToNat, Int.cast_ofNat_Int, Nat.reduceMul, Nat.reduceLeDiff, reduceIte, Nat.reduceEqDiff, Nat.reduceAdd, ↓reduceIte, Try.vcT, L4]
  refine callsK_use (point p v4 ((s.pt ax ay).pt bx by') cx cy w4 h4 (by omega) cx0 cx1 cy0 cy1) ?_
  rintro _ w5 ⟨rfl, v5, h5, k5⟩
  have L5 := k5.holds L4 (safeAll (k4.safe hb3 hsf3) [(0, .int .i64 ax), (1, .int .i64 ay), (2, .int .i64 bx), (3, .int .i64 by'), (4, .int .i64 cx), (5, .int .i64 cy)])
  simp -dsimp only [↓vcA, vcB, vcD, ↓pureT_lenS, ↓iteT, ↓iteF, cond_true, cond_false, eq_self, argE, Env.get, Env.push, ev, evs, evo, retV, Value.cells, Value.oneCell', setR, overR, fillL, zl, places, allSizes, heldC, ne_eq, Int.reduceLE, Int.reduceLT, Int.reduceEq, Int.reduceNe, Int.reduceToNat, Int.cast_ofNat_Int, Nat.reduceMul, Nat.reduceLeDiff, reduceIte, Nat.reduceEqDiff, Nat.reduceAdd, ↓reduceIte, Try.vcT, L5]
  exact ⟨rfl, v5, h5, WrStep.pre (hb.chg.seq c2) ((k3.trans k4).trans k5)⟩
end Go.Proofs.Ytnhgjgoglmadnaa
namespace Go.Proofs.Ytnhgjgoglmadnaa
open Go.ChangeShapes Go.WideShapes Go.ChangeAt Go.RowKit
set_option linter.unusedVariables false

theorem own : ownKnob Try.prog.godebug = none := by kernel_rfl
theorem laidOut : laidOutB Try.prog = true := by kernel_rfl

theorem rd_of_open {w : World} {a : Option Addr} {len cap : Nat} {zs : List Int} (h : (a = none ∧ len = 0 ∧ cap = 0 ∧ zs = []) ∨
    ∃ x, a = some x ∧ len ≤ cap ∧ cap ≤ maxLen ∧ zs.length = cap ∧ (∀ i, i < zs.length → w.cell? (x.add i) = some (.int .u8 (zs.getD i 0))) ∧ ∀ n ∈ zs, (Lit.int .u8 n).wf = true) : 
    ∃ xs, Rd w (.slice a len cap) xs ∧ Byt xs := by
  rcases h with ⟨rfl, rfl, rfl, rfl⟩ | ⟨x, rfl, hl, hm, hz, hcell, hwz⟩
  · exact ⟨[], ⟨none, 0, rfl, by simp, by simp [maxLen], fun _ => rfl, fun h => by simp at h⟩, Byt.nil⟩
  · have hlen : (zs.take len).length = len := by simp; omega
    refine ⟨zs.take len, ⟨some x, cap, by rw [hlen], by omega, hm, (fun h => by cases h), fun hp => ?_⟩, fun y hy => ?_⟩
    · rw [hlen] at hp
      obtain ⟨b, off, spot⟩ := x
      have hc := hcell 0 (by omega)
      have hspot : spot = none := by simpa [Addr.add] using World.cell?_spot hc
      subst hspot
      refine ⟨b, off, rfl, fun j hj => ?_⟩
      rw [hlen] at hj
      have := hcell j (by omega)
      rw [add_off] at this
      rw [this]
      simp [List.getD, hj]
    · have := hwz y (List.mem_of_mem_take hy)
      simp [Lit.wf, IntKind.min, IntKind.max, IntKind.signed, IntKind.bits] at this
      omega

end Go.Proofs.Ytnhgjgoglmadnaa
namespace Go.Proofs.Ytnhgjgoglmadnaa
open Go.RowKit
set_option maxRecDepth 100000
set_option linter.unusedSimpArgs false
set_option linter.unusedVariables false
set_option pp.maxSteps 1500
set_option pp.deepTerms.threshold 8

theorem owns_shape {w : World} {e : TypeId} {s : Nat} {v : Value} {n : Nat} {xs : List Value} (h : w.ownsRow 0 e s v n xs) : ∃ a c, v = .slice a n c := by
  rcases h.2 with ⟨rfl, hz⟩ | ⟨g, cap, cur, rfl, _⟩
  · exact ⟨none, 0, by rw [hz]⟩
  · exact ⟨_, _, rfl⟩

theorem Wr.put {t p : Nat} {w w1 w2 : World} {v v' : Value} {xs ys : List Int} {bad : Bool} (h : Wr t w p v xs bad) (ht : t ≠ 5) (hown : Own w1 v' ys) (hg : w.grownBy w1 v.ownBlock)
    (hat : v'.ownBlock = v.ownBlock ∨ v'.ownBlock = some w.heap.size) (hp : Put w1 w2 p [v', .bool bad] t) : Wr t w2 p v' ys bad ∧ WrStep p w v w2 v' := by
  have hne := h.own.ne h.blk ht
  have hc : Chg (fun k => v.ownBlock = some k) w w1 := Chg.ofGrown hg
  have hb1 : w1.heap[p]? = some (.cells #[v, .bool bad] t (0, 0)) := hc.at h.blk hne
  refine ⟨⟨hp.blk, hown.chg hp.chg fun k hk e => hown.ne hb1 ht (e ▸ hk)⟩, ?_, fun k hk => ?_⟩
  · exact ((hc.mono fun x hx => Or.inr hx).trans hp.chg fun x hx => .inl (.inl hx))
  · rcases hat with e | e
    · exact .inl (e ▸ hk)
    · rw [e] at hk; injection hk with hk; exact .inr (by omega)
theorem Wr.bk {t p : Nat} {w : World} {v : Value} {xs : List Int} {bad : Bool} (h : Wr t w p v xs bad) : blkOf w p = some ([v, .bool bad], t) := by simpa using blkOf_of h.blk

theorem app {w : World} {v src : Value} {xs ys : List Int} {ty : TypeId} {K : Value → World → Prop} (own : Own w v xs) (hr : Rd w src ys) (hl : xs.length + ys.length ≤ 100000000)
    (hK : ∀ a c w', Own w' (.slice a (xs.length + ys.length) c) (xs ++ ys) → w.grownBy w' v.ownBlock → ((Value.slice a (xs.length + ys.length) c).ownBlock = v.ownBlock ∨ (Value.slice a (xs.length + ys.length) c).ownBlock = some w.heap.size) → K (.slice a (xs.length + ys.length) c) w') :
    RunK Try.prog (Builtin.append_ #[22, 22] ty #[v, src]) w K := by
  refine append_rule Try.info5 Try.underlying22 rfl (by decide) own hr.row (by omega) (by simp only [maxLen]; omega) ?_
  intro v1 w1 h1 g1 a1
  obtain ⟨a, c, rfl⟩ := owns_shape h1
  exact hK a c w1 (by unfold Own; rw [u8s_append, List.length_append]; exact h1) g1 a1

def W8.raw (s : W8) (xs : List Int) : W8 := ⟨s.l ++ xs, s.bad⟩
theorem raw (p : Nat) (v : Value) (s : W8) (src : Value) (ys : List Int) (w : World) (hw : WrS 32 w p v s) (hr : Rd w src ys) (hlen : s.l.length ≤ 1000000) (hlen' : ys.length ≤ 10000000) :
    Calls Try.prog 29 [.pointer (some ⟨p, 0, none⟩), src].toArray w (RetK (WrQ 32 p w v (s.raw ys))) := by
  refine walk Try.func29 rfl (by kernel_rfl) (by rw [Try.nt29]; simp) ?_
  simp -dsimp only [↓vcA, vcB, vcD, ↓pureT_lenS, ↓iteT, ↓iteF, cond_true, cond_false, eq_self, argE, Env.get, Env.push, ev, evs, evo, retV, Value.cells, Value.oneCell', setR, overR, fillL, zl, places, allSizes, heldC, ne_eq, Int.reduceLE, Int.reduceLT, Int.reduceEq, Int.reduceNe, Int.reduceToNat, Int.cast_ofNat_Int, Nat.reduceMul, Nat.reduceLeDiff, reduceIte, Nat.reduceEqDiff, Nat.reduceAdd, ↓reduceIte, Try.vcT, hw.c0]
  refine app hw.own hr (by omega) ?_
  intro a c w1 h1 g1 a1
  have hb1 : blkOf w1 p = some ([v, .bool s.bad], 32) := (Chg.ofGrown g1).blkOf hw.bk (hw.own.ne hw.blk (by decide))
  simp -dsimp only [↓vcA, vcB, vcD, ↓pureT_lenS, ↓iteT, ↓iteF, cond_true, cond_false, eq_self, argE, Env.get, Env.push, ev, evs, evo, retV, Value.cells, Value.oneCell', setR, overR, fillL, zl, places, allSizes, heldC, ne_eq, Int.reduceLE, Int.reduceLT, Int.reduceEq, Int.reduceNe, Int.reduceToNat, Int.cast_ofNat_Int, Nat.reduceMul, Nat.reduceLeDiff, reduceIte, Nat.reduceEqDiff, Nat.reduceAdd, ↓reduceIte, Try.vcT, hb1]
  intro w2 p2
  obtain ⟨h2, k2⟩ := hw.put (by decide) h1 g1 a1 p2
  exact ⟨rfl, _, h2, k2⟩

structure Copy (w w' : World) (r : Value) (xs : List Int) : Prop where
  chg : Chg (fun _ => False) w w'
  own : Own w' r xs
  new : ∀ k, r.ownBlock = some k → w.heap.size ≤ k
theorem clone (v : Value) (xs : List Int) (w : World) (h : Rd w v xs) (hl : xs.length ≤ 10000000) :
    Calls Try.prog 75 [v].toArray w (RetK fun r w' => Copy w w' r xs ∧ (v = .slice none 0 0 → r = .slice none 0 0)) := by
  have h0 := h
  obtain ⟨a, c, rfl, h1, h2, h3, h4⟩ := h
  refine walk Try.func75 rfl (by kernel_rfl) (by rw [Try.nt75]; simp) ?_
  cases a with
  | none =>
    obtain rfl := h3 rfl
    have hz : xs = [] := List.eq_nil_of_length_eq_zero (by omega)
    subst hz
    simp -dsimp only [↓vcA, vcB, vcD, ↓pureT_lenS, ↓iteT, ↓iteF, cond_true, cond_false, eq_self, argE, Env.get, Env.push, ev, evs, evo, retV, Value.cells, Value.oneCell', setR, overR, fillL, zl, places, allSizes, heldC, ne_eq, Int.reduceLE, Int.reduceLT, Int.reduceEq, Int.reduceNe, Int.reduceToNat, Int.cast_ofNat_Int, Nat.reduceMul, Nat.reduceLeDiff, reduceIte, Nat.reduceEqDiff, Nat.reduceAdd, ↓reduceIte, Try.vcT]
    exact ⟨⟨Chg.refl _ _, Own.nil w, fun k hk => by simp [Value.ownBlock] at hk⟩, fun _ => trivial⟩
  | some a =>
    simp -dsimp only [↓vcA, vcB, vcD, ↓pureT_lenS, ↓iteT, ↓iteF, cond_true, cond_false, eq_self, argE, Env.get, Env.push, ev, evs, evo, retV, Value.cells, Value.oneCell', setR, overR, fillL, zl, places, allSizes, heldC, ne_eq, Int.reduceLE, Int.reduceLT, Int.reduceEq, Int.reduceNe, Int.reduceToNat, Int.cast_ofNat_Int, Nat.reduceMul, Nat.reduceLeDiff, reduceIte, Nat.reduceEqDiff, Nat.reduceAdd, ↓reduceIte, Try.vcT]
    intro w1 b hb
    have hr1 := h0.chg hb.chg (fun _ _ => id)
    have ho : Own w1 (.slice (some ⟨b, 0, none⟩) 0 0) [] := hb.owns (by simp) (by simp [maxLen])
    refine app ho hr1 (by simp; omega) ?_
    intro a1 c1 w2 h5 g5 a5
    simp -dsimp only [↓vcA, vcB, vcD, ↓pureT_lenS, ↓iteT, ↓iteF, cond_true, cond_false, eq_self, argE, Env.get, Env.push, ev, evs, evo, retV, Value.cells, Value.oneCell', setR, overR, fillL, zl, places, allSizes, heldC, ne_eq, Int.reduceLE, Int.reduceLT, Int.reduceEq, Int.reduceNe, Int.reduceToNat, Int.cast_ofNat_Int, Nat.reduceMul, Nat.reduceLeDiff, reduceIte, Nat.reduceEqDiff, Nat.reduceAdd, ↓reduceIte, Try.vcT]
    refine ⟨⟨?_, by simpa using h5, fun k hk => ?_⟩, fun e => by cases e⟩
    · exact hb.chg.trans (Chg.ofGrown g5) (fun x hx => .inr (by simp [Value.ownBlock] at hx; have := hb.eq; omega)) |>.mono fun x hx => hx
    · have := hb.eq; have := hb.size
      rcases a5 with e | e <;> simp only [List.length_nil, Nat.zero_add] at e hk <;> rw [e] at hk <;> simp [Value.ownBlock] at hk <;> omega

theorem bytes (p : Nat) (v : Value) (s : W8) (w : World) (hw : WrS 32 w p v s) (hl : s.l.length ≤ 1000000) :
    Calls Try.prog 30 [.pointer (some ⟨p, 0, none⟩)].toArray w (RetK fun r w' => ∃ v', r = .tuple #[v', .int .i64 (if s.bad then 2 else 0)] ∧ Copy w w' v' (if s.bad then [] else s.l)) := by
  refine walk Try.func30 rfl (by kernel_rfl) (by rw [Try.nt30]; simp) ?_
  cases hb : s.bad with
  | true =>
    have h1 := hw.c1
    rw [hb] at h1
    simp -dsimp only [↓vcA, vcB, vcD, ↓pureT_lenS, ↓iteT, ↓iteF, cond_true, cond_false, eq_self, argE, Env.get, Env.push, ev, evs, evo, retV, Value.cells, Value.oneCell', setR, overR, fillL, zl, places, allSizes, heldC, ne_eq, Int.reduceLE, Int.reduceLT, Int.reduceEq, Int.reduceNe, Int.reduceToNat, Int.cast_ofNat_Int, Nat.reduceMul, Nat.reduceLeDiff, reduceIte, Nat.reduceEqDiff, Nat.reduceAdd, ↓reduceIte, Try.vcT, h1]
    exact ⟨_, rfl, Chg.refl _ _, Own.nil w, fun k hk => by simp [Value.ownBlock] at hk⟩
  | false =>
    have h1 := hw.c1
    rw [hb] at h1
    simp -dsimp only [↓vcA, vcB, vcD, ↓pureT_lenS, ↓iteT, ↓iteF, cond_true, cond_false, eq_self, argE, Env.get, Env.push, ev, evs, evo, retV, Value.cells, Value.oneCell', setR, overR, fillL, zl, places, allSizes, heldC, ne_eq, Int.reduceLE, Int.reduceLT, Int.reduceEq, Int.reduceNe, Int.reduceToNat, Int.cast_ofNat_Int, Nat.reduceMul, Nat.reduceLeDiff, reduceIte, Nat.reduceEqDiff, Nat.reduceAdd, ↓reduceIte, Try.vcT, h1, hw.c0]
    refine callsK_use (clone v s.l w hw.own.rd (by omega)) ?_
    rintro r w1 ⟨hc, _⟩
    simp -dsimp only [↓vcA, vcB, vcD, ↓pureT_lenS, ↓iteT, ↓iteF, cond_true, cond_false, eq_self, argE, Env.get, Env.push, ev, evs, evo, retV, Value.cells, Value.oneCell', setR, overR, fillL, zl, places, allSizes, heldC, ne_eq, Int.reduceLE, Int.reduceLT, Int.reduceEq, Int.reduceNe, Int.reduceToNat, Int.cast_ofNat_Int, Nat.reduceMul, Nat.reduceLeDiff, reduceIte, Nat.reduceEqDiff, Nat.reduceAdd, ↓reduceIte, Try.vcT]
    exact ⟨_, rfl, by simpa using hc⟩

def sumStep (a x : Int) : Int := IntKind.u64.wrap (IntKind.u64.wrap (BitVec.ofInt IntKind.u64.bits a ^^^ BitVec.ofInt IntKind.u64.bits (IntKind.u64.wrap x)).toNat * 1099511628211)
def sumOf (xs : List Int) : Int := xs.foldl sumStep 14695981039346656037
theorem sum (v : Value) (xs : List Int) (w : World) (h : Rd w v xs) (hl : xs.length ≤ 100000000) :
    Calls Try.prog 20 [v].toArray w (RetK fun r w' => r = .int .u64 (sumOf xs) ∧ w' = w) := by
  obtain ⟨a, c, rfl, h1, h2, h3, h4⟩ := h
  refine walk Try.func20 rfl (by kernel_rfl) (by rw [Try.nt20]; simp) ?_
  simp -dsimp only [↓vcA, vcB, vcD, ↓pureT_lenS, ↓iteT, ↓iteF, cond_true, cond_false, eq_self, argE, Env.get, Env.push, ev, evs, evo, retV, Value.cells, Value.oneCell', setR, overR, fillL, zl, places, allSizes, heldC, ne_eq, Int.reduceLE, Int.reduceLT, Int.reduceEq, Int.reduceNe, Int.reduceToNat, Int.cast_ofNat_Int, Nat.reduceMul, Nat.reduceLeDiff, reduceIte, Nat.reduceEqDiff, Nat.reduceAdd, ↓reduceIte, Try.vcT]
  refine walkLoop [6, 7] [8, 3] (fun m vs w1 => w1 = w ∧ ∃ i, i ≤ xs.length ∧ m = xs.length - i ∧ vs = [.int .i64 i, .int .u64 ((xs.take i).foldl sumStep 14695981039346656037)]) (by kernel_rfl) ?_ ?_
  · simp -dsimp only [↓vcA, vcB, vcD, ↓pureT_lenS, ↓iteT, ↓iteF, cond_true, cond_false, eq_self, argE, Env.get, Env.push, ev, evs, evo, retV, Value.cells, Value.oneCell', setR, overR, fillL, zl, places, allSizes, heldC, ne_eq, Int.reduceLE, Int.reduceLT, Int.reduceEq, Int.reduceNe, Int.reduceToNat, Int.cast_ofNat_Int, Nat.reduceMul, Nat.reduceLeDiff, reduceIte, Nat.reduceEqDiff, Nat.reduceAdd, ↓reduceIte, Try.vcT, gets]
    exact ⟨_, 0, Nat.zero_le _, rfl, by simp⟩
  · intro ks hk m vs w1 hi
    obtain ⟨rfl, i, hi, rfl, rfl⟩ := hi
    simp [gets, Env.get, Env.push] at hk
    subst hk
    simp -dsimp only [↓vcA, vcB, vcD, ↓pureT_lenS, ↓iteT, ↓iteF, cond_true, cond_false, eq_self, argE, Env.get, Env.push, ev, evs, evo, retV, Value.cells, Value.oneCell', setR, overR, fillL, zl, places, allSizes, heldC, ne_eq, Int.reduceLE, Int.reduceLT, Int.reduceEq, Int.reduceNe, Int.reduceToNat, Int.cast_ofNat_Int, Nat.reduceMul, Nat.reduceLeDiff, reduceIte, Nat.reduceEqDiff, Nat.reduceAdd, ↓reduceIte, Try.vcT, gets]
    refine ifK_dec (fun hlt => ?_) (fun hge => ?_)
    · obtain ⟨b, o, rfl, hc⟩ := h4 (by omega)
      have e : IntKind.i64.wrap ((i : Int) + 1) = ((i + 1 : Nat) : Int) := by rw [IntWalk.i64_in _ (by simp only [maxLen] at h2; omega)]; omega
      simp -dsimp only [↓vcA, vcB, vcD, ↓pureT_lenS, ↓iteT, ↓iteF, cond_true, cond_false, eq_self, argE, Env.get, Env.push, ev, evs, evo, retV, Value.cells, Value.oneCell', setR, overR, fillL, zl, places, allSizes, heldC, ne_eq, Int.reduceLE, Int.reduceLT, Int.reduceEq, Int.reduceNe, Int.reduceToNat, Int.cast_ofNat_Int, Nat.reduceMul, Nat.reduceLeDiff, reduceIte, Nat.reduceEqDiff, Nat.reduceAdd, ↓reduceIte, Try.vcT, gets]
      refine ⟨⟨by omega, by omega⟩, ?_⟩
      simp -dsimp only [↓vcA, vcB, vcD, ↓pureT_lenS, ↓iteT, ↓iteF, cond_true, cond_false, eq_self, argE, Env.get, Env.push, ev, evs, evo, retV, Value.cells, Value.oneCell', setR, overR, fillL, zl, places, allSizes, heldC, ne_eq, Int.reduceLE, Int.reduceLT, Int.reduceEq, Int.reduceNe, Int.reduceToNat, Int.cast_ofNat_Int, Nat.reduceMul, Nat.reduceLeDiff, reduceIte, Nat.reduceEqDiff, Nat.reduceAdd, ↓reduceIte, Try.vcT, gets, hc i (by omega), e]
      refine ⟨_, ?_, i + 1, by omega, rfl, ?_⟩
      · omega
      · rw [List.take_succ_eq_append_getElem (by omega), List.foldl_append]
        simp [sumStep, List.getD, show i < xs.length by omega]
    · simp -dsimp only [↓vcA, vcB, vcD, ↓pureT_lenS, ↓iteT, ↓iteF, cond_true, cond_false, eq_self, argE, Env.get, Env.push, ev, evs, evo, retV, Value.cells, Value.oneCell', setR, overR, fillL, zl, places, allSizes, heldC, ne_eq, Int.reduceLE, Int.reduceLT, Int.reduceEq, Int.reduceNe, Int.reduceToNat, Int.cast_ofNat_Int, Nat.reduceMul, Nat.reduceLeDiff, reduceIte, Nat.reduceEqDiff, Nat.reduceAdd, ↓reduceIte, Try.vcT, gets]
      have : i = xs.length := by omega
      subst this
      simp [sumOf]
end Go.Proofs.Ytnhgjgoglmadnaa
namespace Go.Proofs.Ytnhgjgoglmadnaa
open Go.RowKit
set_option maxRecDepth 100000
set_option linter.unusedSimpArgs false
set_option linter.unusedVariables false
set_option pp.maxSteps 1500
set_option pp.deepTerms.threshold 8

theorem Rd.cut {w : World} {a : Option Addr} {n c : Nat} {xs : List Int} (h : Rd w (.slice a n c) xs) {l m : Nat} (hl : l ≤ m) (hm : m ≤ n) :
    Rd w (.slice (cutA a c l 1) (m - l) (c - l)) ((xs.take m).drop l) := by
  obtain ⟨a', c', e, h1, h2, h3, h4⟩ := h
  injection e with e1 e2 e3
  subst e1 e2 e3
  have hlen : ((xs.take m).drop l).length = m - l := by simp; omega
  refine ⟨cutA a c l 1, c - l, by rw [hlen], by rw [hlen]; omega, by omega, fun hn => ?_, fun hp => ?_⟩
  · unfold cutA at hn
    split at hn
    · omega
    · cases a with
      | none => have := h3 rfl; omega
      | some a => cases hn
  · rw [hlen] at hp
    obtain ⟨b, o, rfl, hc⟩ := h4 (by omega)
    refine ⟨b, o + l, by simp [cutA, show ¬ c = l by omega, add_off], fun j hj => ?_⟩
    rw [hlen] at hj
    rw [Nat.add_assoc, hc (l + j) (by omega)]
    simp [List.getD, List.getElem?_drop, List.getElem?_take, show l + j < m by omega]
theorem cutA_block {a : Option Addr} {n c n' c' l : Nat} {k : Nat} (h : (Value.slice (cutA a c l 1) n' c').ownBlock = some k) : (Value.slice a n c).ownBlock = some k := by
  unfold cutA at h
  split at h
  · cases a with
    | none => simp [Value.ownBlock] at h
    | some a => exact h
  · cases a with
    | none => simp [Value.ownBlock] at h
    | some a => 
      simp only [Option.map_some, Value.ownBlock] at h ⊢
      rw [← h]; unfold Addr.add; split <;> rfl

structure R8 where
  l : List Int
  bad : Bool
theorem Rd.lt {w : World} {v : Value} {xs : List Int} (h : Rd w v xs) (hp : 0 < xs.length) : ∀ k, v.ownBlock = some k → k < w.heap.size := by
  obtain ⟨a, c, rfl, h1, h2, h3, h4⟩ := h
  obtain ⟨b, o, rfl, hc⟩ := h4 hp
  intro k hk
  simp [Value.ownBlock] at hk
  subst hk
  exact World.block_lt_of_cell? w _ (hc 0 hp)
theorem Rd.chg' {S : Nat → Prop} {w w' : World} {v : Value} {xs : List Int} (h : Rd w v xs) (hc : Chg S w w') (hn : 0 < xs.length → ∀ k, v.ownBlock = some k → ¬ S k) : Rd w' v xs := by
  obtain ⟨a, c, rfl, h1, h2, h3, h4⟩ := h
  refine ⟨a, c, rfl, h1, h2, h3, fun hp => ?_⟩
  obtain ⟨b, o, rfl, hcell⟩ := h4 hp
  exact ⟨b, o, rfl, fun j hj => hc.cell (hcell j hj) (hn hp b (by simp [Value.ownBlock]))⟩
structure Rdr (t : Nat) (w : World) (p : Nat) (v : Value) (s : R8) : Prop where
  blk : w.heap[p]? = some (.cells #[v, .bool s.bad] t (0, 0))
  rd : Rd w v s.l
  ne : 0 < s.l.length → v.ownBlock ≠ some p
theorem Rdr.lt {t p : Nat} {w : World} {v : Value} {s : R8} (h : Rdr t w p v s) (hp : 0 < s.l.length) : ∀ k, v.ownBlock = some k → k < w.heap.size := h.rd.lt hp
theorem Rdr.bk {t p : Nat} {w : World} {v : Value} {s : R8} (h : Rdr t w p v s) : blkOf w p = some ([v, .bool s.bad], t) := by simpa using blkOf_of h.blk
theorem Rdr.c0 {t p : Nat} {w : World} {v : Value} {s : R8} (h : Rdr t w p v s) : w.cell? ⟨p, 0, none⟩ = some v := by rw [cell_of_row w p 0 _ _ _ h.blk]; rfl
theorem Rdr.c1 {t p : Nat} {w : World} {v : Value} {s : R8} (h : Rdr t w p v s) : w.cell? ⟨p, 1, none⟩ = some (.bool s.bad) := by rw [cell_of_row w p 1 _ _ _ h.blk]; rfl
theorem Rdr.chg {t p : Nat} {S : Nat → Prop} {w w' : World} {v : Value} {s : R8} (h : Rdr t w p v s) (hc : Chg S w w') (hp : ¬ S p) (hv : 0 < s.l.length → ∀ k, v.ownBlock = some k → ¬ S k) : Rdr t w' p v s :=
  ⟨hc.at h.blk hp, h.rd.chg' hc hv, h.ne⟩
theorem Rdr.put {t p : Nat} {w w1 w2 : World} {v v' : Value} {s s' : R8} (h : Rdr t w p v s) (hc : Chg (fun _ => False) w w1) (hp : Put w1 w2 p [v', .bool s'.bad] t) (hr : Rd w1 v' s'.l) (hb : ∀ k, v'.ownBlock = some k → v.ownBlock = some k) (hl : s'.l.length ≤ s.l.length) :
    Rdr t w2 p v' s' ∧ Chg (fun k => k = p) w w2 :=
  ⟨⟨hp.blk, hr.chg' hp.chg fun hpos k hk e => h.ne (by omega) (hb k hk |>.trans (by rw [e])), fun hpos e => h.ne (by omega) (hb p e)⟩, (hc.mono (fun _ f => f.elim)).trans hp.chg fun x hx => .inl hx⟩
def RdQ (t p : Nat) (w : World) (v : Value) (s' : R8) (w' : World) : Prop := ∃ v', Rdr t w' p v' s' ∧ Chg (fun k => k = p) w w' ∧ ∀ k, v'.ownBlock = some k → v.ownBlock = some k
theorem Rdr.q {t p : Nat} {w : World} {v : Value} {s : R8} (h : Rdr t w p v s) : RdQ t p w v s w := ⟨v, h, Chg.refl _ _, fun _ => id⟩

def R8.no (s : R8) (n : Int) : Prop := s.bad = true ∨ n < 0 ∨ s.l.length < n
instance (s : R8) (n : Int) : Decidable (s.no n) := by unfold R8.no; infer_instance
def R8.rawV (s : R8) (n : Int) : List Int := if s.no n then [] else s.l.take n.toNat
def R8.rawS (s : R8) (n : Int) : R8 := if s.no n then ⟨s.l, true⟩ else ⟨s.l.drop n.toNat, s.bad⟩

theorem rraw (p : Nat) (v : Value) (s : R8) (n : Int) (w : World) (hw : Rdr 134 w p v s) (hl : s.l.length ≤ 10000000) :
    Calls Try.prog 51 [.pointer (some ⟨p, 0, none⟩), .int .i64 n].toArray w (RetK fun r w' => RdQ 134 p w v (s.rawS n) w' ∧ Own w' r (s.rawV n) ∧ ∀ k, r.ownBlock = some k → w.heap.size ≤ k) := by
  obtain ⟨a, c, rfl, h1, h2, h3, h4⟩ := hw.rd
  have hc1 := hw.c1
  refine walk Try.func51 rfl (by kernel_rfl) (by rw [Try.nt51]; simp) ?_
  by_cases hb : s.bad = true
  · rw [hb] at hc1
    simp -dsimp only [↓vcA, vcB, vcD, ↓pureT_lenS, ↓iteT, ↓iteF, cond_true, cond_false, eq_self, argE, Env.get, Env.push, ev, evs, evo, retV, Value.cells, Value.oneCell', setR, overR, fillL, zl, places, allSizes, heldC, ne_eq, Int.reduceLE, Int.reduceLT, Int.reduceEq, Int.reduceNe, Int.reduceToNat, Int.cast_ofNat_Int, Nat.reduceMul, Nat.reduceLeDiff, reduceIte, Nat.reduceEqDiff, Nat.reduceAdd, ↓reduceIte, Try.vcT, hc1]
    have e : s.no n := .inl hb
    simp only [R8.rawS, R8.rawV, e, if_true]
    refine ⟨?_, Own.nil w, fun k hk => by simp [Value.ownBlock] at hk⟩
    have : (⟨s.l, true⟩ : R8) = s := by rw [← hb]
    rw [this]
    exact hw.q
  rw [Bool.not_eq_true] at hb
  rw [hb] at hc1
  have hno : s.no n ↔ (n < 0 ∨ s.l.length < n) := by simp [R8.no, hb]
  have hbk := hw.bk
  by_cases hn : n < 0
  · have e : s.no n := hno.2 (.inl hn)
    simp -dsimp only [↓vcA, vcB, vcD, ↓pureT_lenS, ↓iteT, ↓iteF, cond_true, cond_false, eq_self, argE, Env.get, Env.push, ev, evs, evo, retV, Value.cells, Value.oneCell', setR, overR, fillL, zl, places, allSizes, heldC, ne_eq, Int.reduceLE, Int.reduceLT, Int.reduceEq, Int.reduceNe, Int.reduceToNat, Int.cast_ofNat_Int, Nat.reduceMul, Nat.reduceLeDiff, reduceIte, Nat.reduceEqDiff, Nat.reduceAdd, ↓reduceIte, Try.vcT, hc1, decide_eq_true hn, hbk]
    intro w1 p1
    simp only [R8.rawS, R8.rawV, e, if_true]
    obtain ⟨hq, hc⟩ := hw.put (s' := ⟨s.l, true⟩) (Chg.refl _ _) p1 hw.rd (fun _ => id) (Nat.le_refl _)
    exact ⟨⟨_, hq, hc, fun _ => id⟩, Own.nil w1, fun k hk => by simp [Value.ownBlock] at hk⟩
  by_cases hg : (s.l.length : Int) < n
  · have e : s.no n := hno.2 (.inr hg)
    simp -dsimp only [↓vcA, vcB, vcD, ↓pureT_lenS, ↓iteT, ↓iteF, cond_true, cond_false, eq_self, argE, Env.get, Env.push, ev, evs, evo, retV, Value.cells, Value.oneCell', setR, overR, fillL, zl, places, allSizes, heldC, ne_eq, Int.reduceLE, Int.reduceLT, Int.reduceEq, Int.reduceNe, Int.reduceToNat, Int.cast_ofNat_Int, Nat.reduceMul, Nat.reduceLeDiff, reduceIte, Nat.reduceEqDiff, Nat.reduceAdd, ↓reduceIte, Try.vcT, hc1, decide_eq_false hn, decide_eq_true hg, hw.c0, hbk]
    intro w1 p1
    simp only [R8.rawS, R8.rawV, e, if_true]
    obtain ⟨hq, hc⟩ := hw.put (s' := ⟨s.l, true⟩) (Chg.refl _ _) p1 hw.rd (fun _ => id) (Nat.le_refl _)
    exact ⟨⟨_, hq, hc, fun _ => id⟩, Own.nil w1, fun k hk => by simp [Value.ownBlock] at hk⟩
  · have e : ¬ s.no n := fun h => (hno.1 h).elim hn hg
    obtain ⟨m, rfl⟩ := Int.eq_ofNat_of_zero_le (Int.not_lt.1 hn)
    simp -dsimp only [↓vcA, vcB, vcD, ↓pureT_lenS, ↓iteT, ↓iteF, cond_true, cond_false, eq_self, argE, Env.get, Env.push, ev, evs, evo, retV, Value.cells, Value.oneCell', setR, overR, fillL, zl, places, allSizes, heldC, ne_eq, Int.reduceLE, Int.reduceLT, Int.reduceEq, Int.reduceNe, Int.reduceToNat, Int.cast_ofNat_Int, Nat.reduceMul, Nat.reduceLeDiff, reduceIte, Nat.reduceEqDiff, Nat.reduceAdd, ↓reduceIte, Try.vcT, hc1, decide_eq_false hn, decide_eq_false hg, hw.c0]
    refine ⟨⟨by omega, by omega⟩, ?_⟩
    have hcut := hw.rd.cut (Nat.zero_le m) (show m ≤ s.l.length by omega)
    simp only [Nat.sub_zero, List.drop_zero] at hcut
    refine callsK_use (clone _ _ w hcut (by simp; omega)) ?_
    rintro r w1 ⟨hcp, _⟩
    have hw1 : Rdr 134 w1 p (.slice a s.l.length c) s := hw.chg hcp.chg id (fun _ _ _ => id)
    simp -dsimp only [↓vcA, vcB, vcD, ↓pureT_lenS, ↓iteT, ↓iteF, cond_true, cond_false, eq_self, argE, Env.get, Env.push, ev, evs, evo, retV, Value.cells, Value.oneCell', setR, overR, fillL, zl, places, allSizes, heldC, ne_eq, Int.reduceLE, Int.reduceLT, Int.reduceEq, Int.reduceNe, Int.reduceToNat, Int.cast_ofNat_Int, Nat.reduceMul, Nat.reduceLeDiff, reduceIte, Nat.reduceEqDiff, Nat.reduceAdd, ↓reduceIte, Try.vcT, hw1.c0]
    refine ⟨⟨by omega, by omega⟩, ?_⟩
    simp -dsimp only [↓vcA, vcB, vcD, ↓pureT_lenS, ↓iteT, ↓iteF, cond_true, cond_false, eq_self, argE, Env.get, Env.push, ev, evs, evo, retV, Value.cells, Value.oneCell', setR, overR, fillL, zl, places, allSizes, heldC, ne_eq, Int.reduceLE, Int.reduceLT, Int.reduceEq, Int.reduceNe, Int.reduceToNat, Int.cast_ofNat_Int, Nat.reduceMul, Nat.reduceLeDiff, reduceIte, Nat.reduceEqDiff, Nat.reduceAdd, ↓reduceIte, Try.vcT, hw1.bk]
    intro w2 p2
    have hcut2 := hw1.rd.cut (l := m) (m := s.l.length) (by omega) (Nat.le_refl _)
    rw [List.take_of_length_le (Nat.le_refl _)] at hcut2
    simp only [R8.rawS, R8.rawV, e, if_false]
    have hlow : ∀ k, r.ownBlock = some k → ¬ k = p := fun k hk e => by have := hcp.new k hk; have := lt_of_block hw.blk; omega
    obtain ⟨hq, hc⟩ := hw1.put (s' := ⟨s.l.drop m, s.bad⟩) (Chg.refl _ _) p2 hcut2 (fun k hk => cutA_block hk) (by simp)
    refine ⟨⟨_, by simpa using hq, hcp.chg.seq hc, fun k hk => cutA_block hk⟩, ?_, hcp.new⟩
    simp only [Int.toNat_natCast]
    exact hcp.own.chg p2.chg hlow

def rstep (a x : Int) : Int := IntKind.i64.wrap (BitVec.ofInt IntKind.i64.bits (IntKind.i64.wrap (a * 2 ^ min 8 IntKind.i64.bits)) ||| BitVec.ofInt IntKind.i64.bits (IntKind.i64.wrap x)).toNat
def rval (xs : List Int) : Int := xs.foldl rstep 0
def R8.sz (s : R8) (n : Int) : R8 := if n < 1 ∨ 7 < n then ⟨s.l, true⟩ else s
def R8.numV (s : R8) (n : Int) : Int := rval ((s.sz n).rawV n)
def R8.numS (s : R8) (n : Int) : R8 := (s.sz n).rawS n

theorem rnum (p : Nat) (v : Value) (s : R8) (n : Int) (w : World) (hw : Rdr 134 w p v s) (hl : s.l.length ≤ 10000000) :
    Calls Try.prog 33 [.pointer (some ⟨p, 0, none⟩), .int .i64 n].toArray w (RetK fun r w' => r = .int .i64 (s.numV n) ∧ RdQ 134 p w v (s.numS n) w') := by
  refine walk Try.func33 rfl (by kernel_rfl) (by rw [Try.nt33]; simp) ?_
  have hcs : n < 1 ∨ (¬ n < 1 ∧ 7 < n) ∨ (¬ n < 1 ∧ ¬ 7 < n) := by omega
  rcases hcs with h1 | ⟨h1, h2⟩ | ⟨h1, h2⟩
  case' inl =>
    simp -dsimp only [↓vcA, vcB, vcD, ↓pureT_lenS, ↓iteT, ↓iteF, cond_true, cond_false, eq_self, argE, Env.get, Env.push, ev, evs, evo, retV, Value.cells, Value.oneCell', setR, overR, fillL, zl, places, allSizes, heldC, ne_eq, Int.reduceLE, Int.reduceLT, Int.reduceEq, Int.reduceNe, Int.reduceToNat, Int.cast_ofNat_Int, Nat.reduceMul, Nat.reduceLeDiff, reduceIte, Nat.reduceEqDiff, Nat.reduceAdd, ↓reduceIte, Try.vcT, decide_eq_true h1, hw.bk]
    intro w1 p1
    obtain ⟨hw1, hc⟩ := hw.put (s' := ⟨s.l, true⟩) (Chg.refl _ _) p1 hw.rd (fun _ => id) (Nat.le_refl _)
    have es : s.sz n = ⟨s.l, true⟩ := by simp [R8.sz, h1]
  case' inr.inl =>
    simp -dsimp only [↓vcA, vcB, vcD, ↓pureT_lenS, ↓iteT, ↓iteF, cond_true, cond_false, eq_self, argE, Env.get, Env.push, ev, evs, evo, retV, Value.cells, Value.oneCell', setR, overR, fillL, zl, places, allSizes, heldC, ne_eq, Int.reduceLE, Int.reduceLT, Int.reduceEq, Int.reduceNe, Int.reduceToNat, Int.cast_ofNat_Int, Nat.reduceMul, Nat.reduceLeDiff, reduceIte, Nat.reduceEqDiff, Nat.reduceAdd, ↓reduceIte, Try.vcT, decide_eq_false h1, decide_eq_true h2, hw.bk]
    intro w1 p1
    obtain ⟨hw1, hc⟩ := hw.put (s' := ⟨s.l, true⟩) (Chg.refl _ _) p1 hw.rd (fun _ => id) (Nat.le_refl _)
    have es : s.sz n = ⟨s.l, true⟩ := by simp [R8.sz, h1, h2]
  case' inr.inr =>
    simp -dsimp only [↓vcA, vcB, vcD, ↓pureT_lenS, ↓iteT, ↓iteF, cond_true, cond_false, eq_self, argE, Env.get, Env.push, ev, evs, evo, retV, Value.cells, Value.oneCell', setR, overR, fillL, zl, places, allSizes, heldC, ne_eq, Int.reduceLE, Int.reduceLT, Int.reduceEq, Int.reduceNe, Int.reduceToNat, Int.cast_ofNat_Int, Nat.reduceMul, Nat.reduceLeDiff, reduceIte, Nat.reduceEqDiff, Nat.reduceAdd, ↓reduceIte, Try.vcT, decide_eq_false h1, decide_eq_false h2]
    have hc := Chg.refl (fun k => k = p) w
    have hw1 := hw
    have es : s.sz n = s := by simp [R8.sz, h1, h2]
    revert hc hw1
    generalize w = w1
    intro hc hw1
  all_goals
    rw [← es] at hw1
    have hl1 : (s.sz n).l.length ≤ 10000000 := by rw [es]; exact hl
    refine callsK_use (rraw p v (s.sz n) n _ hw1 hl1) ?_
    rintro r w2 ⟨⟨v2, h2, c2, b2⟩, ho, hn⟩
    obtain ⟨a, c, rfl, e1, e2, e3, e4⟩ := ho.rd
    simp -dsimp only [↓vcA, vcB, vcD, ↓pureT_lenS, ↓iteT, ↓iteF, cond_true, cond_false, eq_self, argE, Env.get, Env.push, ev, evs, evo, retV, Value.cells, Value.oneCell', setR, overR, fillL, zl, places, allSizes, heldC, ne_eq, Int.reduceLE, Int.reduceLT, Int.reduceEq, Int.reduceNe, Int.reduceToNat, Int.cast_ofNat_Int, Nat.reduceMul, Nat.reduceLeDiff, reduceIte, Nat.reduceEqDiff, Nat.reduceAdd, ↓reduceIte, Try.vcT]
    have hlen : ((s.sz n).rawV n).length ≤ maxLen := by omega
    generalize hys : (s.sz n).rawV n = ys at *
    have hq : RdQ 134 p _ v (s.numS n) w2 := ⟨v2, h2, hc.trans c2 (fun x hx => .inl hx), b2⟩
    have hv : s.numV n = rval ys := by simp [R8.numV, hys]
    rw [hv]
    clear hw hw1 h2 ho hn c2 b2
    refine walkLoop [20, 21] [22, 4] (fun m vs w' => w' = w2 ∧ ∃ i, i ≤ ys.length ∧ m = ys.length - i ∧ vs = [.int .i64 i, .int .i64 ((ys.take i).foldl rstep 0)]) (by kernel_rfl) ?_ ?_
    · simp -dsimp only [↓vcA, vcB, vcD, ↓pureT_lenS, ↓iteT, ↓iteF, cond_true, cond_false, eq_self, argE, Env.get, Env.push, ev, evs, evo, retV, Value.cells, Value.oneCell', setR, overR, fillL, zl, places, allSizes, heldC, ne_eq, Int.reduceLE, Int.reduceLT, Int.reduceEq, Int.reduceNe, Int.reduceToNat, Int.cast_ofNat_Int, Nat.reduceMul, Nat.reduceLeDiff, reduceIte, Nat.reduceEqDiff, Nat.reduceAdd, ↓reduceIte, Try.vcT, gets]
      exact ⟨_, 0, Nat.zero_le _, rfl, by simp⟩
    · intro ks hk m vs w3 hi
      obtain ⟨rfl, i, hi, rfl, rfl⟩ := hi
      simp [gets, Env.get, Env.push] at hk
      subst hk
      simp -dsimp only [↓vcA, vcB, vcD, ↓pureT_lenS, ↓iteT, ↓iteF, cond_true, cond_false, eq_self, argE, Env.get, Env.push, ev, evs, evo, retV, Value.cells, Value.oneCell', setR, overR, fillL, zl, places, allSizes, heldC, ne_eq, Int.reduceLE, Int.reduceLT, Int.reduceEq, Int.reduceNe, Int.reduceToNat, Int.cast_ofNat_Int, Nat.reduceMul, Nat.reduceLeDiff, reduceIte, Nat.reduceEqDiff, Nat.reduceAdd, ↓reduceIte, Try.vcT, gets]
      refine ifK_dec (fun hlt => ?_) (fun hge => ?_)
      · obtain ⟨b, o, rfl, hcl⟩ := e4 (by omega)
        have e : IntKind.i64.wrap ((i : Int) + 1) = ((i + 1 : Nat) : Int) := by rw [IntWalk.i64_in _ (by simp only [maxLen] at hlen; omega)]; omega
        simp -dsimp only [↓vcA, vcB, vcD, ↓pureT_lenS, ↓iteT, ↓iteF, cond_true, cond_false, eq_self, argE, Env.get, Env.push, ev, evs, evo, retV, Value.cells, Value.oneCell', setR, overR, fillL, zl, places, allSizes, heldC, ne_eq, Int.reduceLE, Int.reduceLT, Int.reduceEq, Int.reduceNe, Int.reduceToNat, Int.cast_ofNat_Int, Nat.reduceMul, Nat.reduceLeDiff, reduceIte, Nat.reduceEqDiff, Nat.reduceAdd, ↓reduceIte, Try.vcT, gets]
        refine ⟨⟨by omega, by omega⟩, ?_⟩
        simp -dsimp only [↓vcA, vcB, vcD, ↓pureT_lenS, ↓iteT, ↓iteF, cond_true, cond_false, eq_self, argE, Env.get, Env.push, ev, evs, evo, retV, Value.cells, Value.oneCell', setR, overR, fillL, zl, places, allSizes, heldC, ne_eq, Int.reduceLE, Int.reduceLT, Int.reduceEq, Int.reduceNe, Int.reduceToNat, Int.cast_ofNat_Int, Nat.reduceMul, Nat.reduceLeDiff, reduceIte, Nat.reduceEqDiff, Nat.reduceAdd, ↓reduceIte, Try.vcT, gets, hcl i (by omega), e]
        refine ⟨_, ?_, i + 1, by omega, rfl, ?_⟩
        · omega
        · rw [List.take_succ_eq_append_getElem (by omega), List.foldl_append]
          simp [rstep, List.getD, show i < ys.length by omega]
      · simp -dsimp only [↓vcA, vcB, vcD, ↓pureT_lenS, ↓iteT, ↓iteF, cond_true, cond_false, eq_self, argE, Env.get, Env.push, ev, evs, evo, retV, Value.cells, Value.oneCell', setR, overR, fillL, zl, places, allSizes, heldC, ne_eq, Int.reduceLE, Int.reduceLT, Int.reduceEq, Int.reduceNe, Int.reduceToNat, Int.cast_ofNat_Int, Nat.reduceMul, Nat.reduceLeDiff, reduceIte, Nat.reduceEqDiff, Nat.reduceAdd, ↓reduceIte, Try.vcT, gets]
        have : i = ys.length := by omega
        subst this
        exact ⟨by simp [rval], hq⟩
end Go.Proofs.Ytnhgjgoglmadnaa
namespace Go.Proofs.Ytnhgjgoglmadnaa
open Go.RowKit
set_option linter.unusedVariables false

theorem u64wrap (n : Int) : IntKind.u64.wrap n = n % 18446744073709551616 := by simp [IntKind.wrap, IntKind.signed, IntKind.bits]
theorem u8wrap (n : Int) : IntKind.u8.wrap n = n % 256 := by simp [IntKind.wrap, IntKind.signed, IntKind.bits]
end Go.Proofs.Ytnhgjgoglmadnaa
namespace Go.Proofs.Ytnhgjgoglmadnaa
open Go.RowKit
set_option maxRecDepth 100000
set_option linter.unusedSimpArgs false
set_option linter.unusedVariables false
set_option pp.maxSteps 1500
set_option pp.deepTerms.threshold 8

def R8.done (s : R8) : Bool := !s.bad && s.l.isEmpty
theorem rdone (p : Nat) (v : Value) (s : R8) (w : World) (hw : Rdr 134 w p v s) :
    Calls Try.prog 34 [.pointer (some ⟨p, 0, none⟩)].toArray w (RetK fun r w' => r = .int .i64 (if s.done then 0 else 2) ∧ w' = w) := by
  obtain ⟨a, c, rfl, h1, h2, h3, h4⟩ := hw.rd
  have hc1 := hw.c1
  refine walk Try.func34 rfl (by kernel_rfl) (by rw [Try.nt34]; simp) ?_
  cases hb : s.bad with
  | true =>
    rw [hb] at hc1
    simp -dsimp only [↓vcA, vcB, vcD, ↓pureT_lenS, ↓iteT, ↓iteF, cond_true, cond_false, eq_self, argE, Env.get, Env.push, ev, evs, evo, retV, Value.cells, Value.oneCell', setR, overR, fillL, zl, places, allSizes, heldC, ne_eq, Int.reduceLE, Int.reduceLT, Int.reduceEq, Int.reduceNe, Int.reduceToNat, Int.cast_ofNat_Int, Nat.reduceMul, Nat.reduceLeDiff, reduceIte, Nat.reduceEqDiff, Nat.reduceAdd, ↓reduceIte, Try.vcT, hc1]
    simp [R8.done, hb]
  | false =>
    rw [hb] at hc1
    by_cases hp : (0 : Int) < s.l.length
    · simp -dsimp only [↓vcA, vcB, vcD, ↓pureT_lenS, ↓iteT, ↓iteF, cond_true, cond_false, eq_self, argE, Env.get, Env.push, ev, evs, evo, retV, Value.cells, Value.oneCell', setR, overR, fillL, zl, places, allSizes, heldC, ne_eq, Int.reduceLE, Int.reduceLT, Int.reduceEq, Int.reduceNe, Int.reduceToNat, Int.cast_ofNat_Int, Nat.reduceMul, Nat.reduceLeDiff, reduceIte, Nat.reduceEqDiff, Nat.reduceAdd, ↓reduceIte, Try.vcT, hc1, hw.c0, decide_eq_true hp]
      have : s.l ≠ [] := fun e => by simp [e] at hp
      simp [R8.done, this]
    · simp -dsimp only [↓vcA, vcB, vcD, ↓pureT_lenS, ↓iteT, ↓iteF, cond_true, cond_false, eq_self, argE, Env.get, Env.push, ev, evs, evo, retV, Value.cells, Value.oneCell', setR, overR, fillL, zl, places, allSizes, heldC, ne_eq, Int.reduceLE, Int.reduceLT, Int.reduceEq, Int.reduceNe, Int.reduceToNat, Int.cast_ofNat_Int, Nat.reduceMul, Nat.reduceLeDiff, reduceIte, Nat.reduceEqDiff, Nat.reduceAdd, ↓reduceIte, Try.vcT, hc1, hw.c0, decide_eq_false hp]
      have : s.l = [] := List.eq_nil_of_length_eq_zero (by omega)
      simp [R8.done, this, hb]
def R8.left (s : R8) : Int := if s.bad then 0 else s.l.length
theorem read (v : Value) (xs : List Int) (w : World) (h : Rd w v xs) (hl : xs.length ≤ 10000000) :
    Calls Try.prog 32 [v].toArray w (RetK fun r w' => ∃ p v', r = .pointer (some ⟨p, 0, none⟩) ∧ Rdr 134 w' p v' ⟨xs, false⟩ ∧ Chg (fun _ => False) w w' ∧ w.heap.size ≤ p ∧ ∀ k, v'.ownBlock = some k → w.heap.size ≤ k) := by
  refine walk Try.func32 rfl (by kernel_rfl) (by rw [Try.nt32]; simp) ?_
  simp -dsimp only [↓vcA, vcB, vcD, ↓pureT_lenS, ↓iteT, ↓iteF, cond_true, cond_false, eq_self, argE, Env.get, Env.push, ev, evs, evo, retV, Value.cells, Value.oneCell', setR, overR, fillL, zl, places, allSizes, heldC, ne_eq, Int.reduceLE, Int.reduceLT, Int.reduceEq, Int.reduceNe, Int.reduceToNat, Int.cast_ofNat_Int, Nat.reduceMul, Nat.reduceLeDiff, reduceIte, Nat.reduceEqDiff, Nat.reduceAdd, ↓reduceIte, Try.vcT]
  refine callsK_use (clone v xs w h hl) ?_
  rintro r w1 ⟨hc, _⟩
  obtain ⟨a, c, rfl⟩ := owns_shape hc.own
  simp -dsimp only [↓vcA, vcB, vcD, ↓pureT_lenS, ↓iteT, ↓iteF, cond_true, cond_false, eq_self, argE, Env.get, Env.push, ev, evs, evo, retV, Value.cells, Value.oneCell', setR, overR, fillL, zl, places, allSizes, heldC, ne_eq, Int.reduceLE, Int.reduceLT, Int.reduceEq, Int.reduceNe, Int.reduceToNat, Int.cast_ofNat_Int, Nat.reduceMul, Nat.reduceLeDiff, reduceIte, Nat.reduceEqDiff, Nat.reduceAdd, ↓reduceIte, Try.vcT]
  intro w2 p hp
  have hlt : ∀ k, (Value.slice a xs.length c).ownBlock = some k → k < w1.heap.size := fun k hk => hc.own.lt hk
  refine ⟨p, _, rfl, ⟨hp.blk, hc.own.rd.chg hp.chg (fun _ _ => id), fun _ e => ?_⟩, hc.chg.trans hp.chg (fun _ f => f.elim), ?_, hc.new⟩
  · have := hlt _ e; have := hp.eq; omega
  · have := hp.eq; have := hc.chg.size; omega

theorem Chg.trans' {w w1 w2 : World} {p b : Nat} (h : Chg (fun k => k = p) w w1) (k : Chg (fun k => k = b) w1 w2) (hb : w.heap.size ≤ b) : Chg (fun k => k = p) w w2 := h.trans k fun x hx => .inr (by omega)
theorem RdQ.trans {t p : Nat} {w w1 w2 : World} {v v1 : Value} {s2 : R8} (hc : Chg (fun k => k = p) w w1) (hb : ∀ k, v1.ownBlock = some k → v.ownBlock = some k) (h : RdQ t p w1 v1 s2 w2) : RdQ t p w v s2 w2 := by
  obtain ⟨v2, h2, c2, b2⟩ := h
  exact ⟨v2, h2, hc.trans c2 (fun x hx => .inl hx), fun k hk => hb k (b2 k hk)⟩

theorem R8.rawS_len (s : R8) (n : Int) : (s.rawS n).l.length ≤ s.l.length := by
  unfold R8.rawS
  split
  · exact Nat.le_refl _
  · simp
theorem R8.numS_len (s : R8) (n : Int) : (s.numS n).l.length ≤ s.l.length := by
  unfold R8.numS
  have := (s.sz n).rawS_len n
  have e : (s.sz n).l = s.l := by unfold R8.sz; split <;> rfl
  rw [e] at this
  exact this
def R8.ptS (s : R8) : R8 := (s.numS 3).numS 3
def R8.ptV (s : R8) : Int × Int := if s.ptS.bad then (0, 0) else (s.numV 3, (s.numS 3).numV 3)
theorem R8.ptS_len (s : R8) : s.ptS.l.length ≤ s.l.length := Nat.le_trans ((s.numS 3).numS_len 3) (s.numS_len 3)
theorem rpoint (p : Nat) (v : Value) (s : R8) (w : World) (hw : Rdr 134 w p v s) (hl : s.l.length ≤ 10000000) :
    Calls Try.prog 49 [.pointer (some ⟨p, 0, none⟩)].toArray w (RetK fun r w' => r = .agg #[.int .i64 s.ptV.1, .int .i64 s.ptV.2] ∧ RdQ 134 p w v s.ptS w') := by
  refine walk Try.func49 rfl (by kernel_rfl) (by rw [Try.nt49]; simp) ?_
  simp -dsimp only [↓vcA, vcB, vcD, ↓pureT_lenS, ↓iteT, ↓iteF, cond_true, cond_false, eq_self, argE, Env.get, Env.push, ev, evs, evo, retV, Value.cells, Value.oneCell', setR, overR, fillL, zl, places, allSizes, heldC, ne_eq, Int.reduceLE, Int.reduceLT, Int.reduceEq, Int.reduceNe, Int.reduceToNat, Int.cast_ofNat_Int, Nat.reduceMul, Nat.reduceLeDiff, reduceIte, Nat.reduceEqDiff, Nat.reduceAdd, ↓reduceIte, Try.vcT]
  intro w1 b hb
  have hw1 := hw.chg hb.chg id (fun _ _ _ => id)
  have hlow := hw.lt
  refine callsK_use (rnum p v s 3 w1 hw1 hl) ?_
  rintro _ w2 ⟨rfl, v2, h2, c2, b2⟩
  simp -dsimp only [↓vcA, vcB, vcD, ↓pureT_lenS, ↓iteT, ↓iteF, cond_true, cond_false, eq_self, argE, Env.get, Env.push, ev, evs, evo, retV, Value.cells, Value.oneCell', setR, overR, fillL, zl, places, allSizes, heldC, ne_eq, Int.reduceLE, Int.reduceLT, Int.reduceEq, Int.reduceNe, Int.reduceToNat, Int.cast_ofNat_Int, Nat.reduceMul, Nat.reduceLeDiff, reduceIte, Nat.reduceEqDiff, Nat.reduceAdd, ↓reduceIte, Try.vcT]
  refine callsK_use (rnum p v2 (s.numS 3) 3 w2 h2 (Nat.le_trans (s.numS_len 3) hl)) ?_
  rintro _ w3 ⟨rfl, v3, h3, c3, b3⟩
  have hnb : ¬ b = p := by have := hb.eq; have := lt_of_block hw.blk; omega
  have bk : blkOf w3 b = some (_, _) := c3.blkOf (c2.blkOf hb.blkOf hnb) hnb
  have cc : Chg (fun k => k = p) w w3 := hb.chg.seq (c2.trans c3 fun x hx => .inl hx)
  have hbw : w.heap.size ≤ b := by have := hb.eq; omega
  have hc1 := h3.c1
  have es : s.ptS = (s.numS 3).numS 3 := rfl
  rw [← es] at h3 hc1
  cases hbad : s.ptS.bad with
  | true =>
    rw [hbad] at hc1
    simp -dsimp only [↓vcA, vcB, vcD, ↓pureT_lenS, ↓iteT, ↓iteF, cond_true, cond_false, eq_self, argE, Env.get, Env.push, ev, evs, evo, retV, Value.cells, Value.oneCell', setR, overR, fillL, zl, places, allSizes, heldC, ne_eq, Int.reduceLE, Int.reduceLT, Int.reduceEq, Int.reduceNe, Int.reduceToNat, Int.cast_ofNat_Int, Nat.reduceMul, Nat.reduceLeDiff, reduceIte, Nat.reduceEqDiff, Nat.reduceAdd, ↓reduceIte, Try.vcT, hc1, bk]
    intro w4 p4
    simp -dsimp only [↓vcA, vcB, vcD, ↓pureT_lenS, ↓iteT, ↓iteF, cond_true, cond_false, eq_self, argE, Env.get, Env.push, ev, evs, evo, retV, Value.cells, Value.oneCell', setR, overR, fillL, zl, places, allSizes, heldC, ne_eq, Int.reduceLE, Int.reduceLT, Int.reduceEq, Int.reduceNe, Int.reduceToNat, Int.cast_ofNat_Int, Nat.reduceMul, Nat.reduceLeDiff, reduceIte, Nat.reduceEqDiff, Nat.reduceAdd, ↓reduceIte, Try.vcT, cellsAt, p4.cell]
    have h4 := h3.chg p4.chg (fun e => hnb e.symm) (fun hpos k hk e => by
      have := b2 k (b3 k hk)
      have := hlow (Nat.lt_of_lt_of_le hpos s.ptS_len) k this; omega)
    refine ⟨by simp [R8.ptV, hbad], v3, h4, ?_, fun k hk => b2 k (b3 k hk)⟩
    exact cc.trans' p4.chg hbw
  | false =>
    rw [hbad] at hc1
    simp -dsimp only [↓vcA, vcB, vcD, ↓pureT_lenS, ↓iteT, ↓iteF, cond_true, cond_false, eq_self, argE, Env.get, Env.push, ev, evs, evo, retV, Value.cells, Value.oneCell', setR, overR, fillL, zl, places, allSizes, heldC, ne_eq, Int.reduceLE, Int.reduceLT, Int.reduceEq, Int.reduceNe, Int.reduceToNat, Int.cast_ofNat_Int, Nat.reduceMul, Nat.reduceLeDiff, reduceIte, Nat.reduceEqDiff, Nat.reduceAdd, ↓reduceIte, Try.vcT, hc1, bk]
    intro w4 p4
    simp -dsimp only [↓vcA, vcB, vcD, ↓pureT_lenS, ↓iteT, ↓iteF, cond_true, cond_false, eq_self, argE, Env.get, Env.push, ev, evs, evo, retV, Value.cells, Value.oneCell', setR, overR, fillL, zl, places, allSizes, heldC, ne_eq, Int.reduceLE, Int.reduceLT, Int.reduceEq, Int.reduceNe, Int.reduceToNat, Int.cast_ofNat_Int, Nat.reduceMul, Nat.reduceLeDiff, reduceIte, Nat.reduceEqDiff, Nat.reduceAdd, ↓reduceIte, Try.vcT, cellsAt, p4.cell]
    have h4 := h3.chg p4.chg (fun e => hnb e.symm) (fun hpos k hk e => by
      have := b2 k (b3 k hk)
      have := hlow (Nat.lt_of_lt_of_le hpos s.ptS_len) k this; omega)
    refine ⟨by simp [R8.ptV, hbad], v3, h4, ?_, fun k hk => b2 k (b3 k hk)⟩
    exact cc.trans' p4.chg hbw
end Go.Proofs.Ytnhgjgoglmadnaa
