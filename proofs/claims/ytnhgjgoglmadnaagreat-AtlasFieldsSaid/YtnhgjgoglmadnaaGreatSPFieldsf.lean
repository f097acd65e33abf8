/- Joined texts of this claim (part 6), printed by a program of this work. The last part holds the claimed theorem: the law answers true at every input of its row. -/
import Derived.Laws.BytesArg
import Derived.Laws.IdiomStrings
import Derived.Lib.Bytes
import Derived.ChangeKeysEq
import Derived.Test.YtnhgjgoglmadnaaGreatSPFieldse
namespace Go.Proofs.YtnhgjgoglmadnaaGreat
open Go.RowKit
theorem New.cell {w w1 : World} {b : Nat} {cs : List Value} {t : TypeId} (h : New w w1 b cs t) (o : Nat) : w1.cell? ⟨b,o,none⟩ = cs[o]?:=by
  rw [cell_of_row w1 b o _ _ _ h.blk];simp
theorem New.blkOf {w w1 : World} {b : Nat} {cs : List Value} {t : TypeId} (h : New w w1 b cs t) : blkOf w1 b = some (cs,t):=by
  simpa using blkOf_of h.blk
theorem New.lt {w w1 : World} {b : Nat} {cs : List Value} {t : TypeId} (h : New w w1 b cs t) : b < w1.heap.size:=lt_of_block h.blk
theorem Put.cell {w w1 : World} {b : Nat} {cs : List Value} {t : TypeId} (h : Put w w1 b cs t) (o : Nat) : w1.cell? ⟨b,o,none⟩ = cs[o]?:=by
  rw [cell_of_row w1 b o _ _ _ h.blk];simp
theorem Put.blkOf {w w1 : World} {b : Nat} {cs : List Value} {t : TypeId} (h : Put w w1 b cs t) : blkOf w1 b = some (cs,t):=by
  simpa using blkOf_of h.blk
theorem Chg.blkOf {S : Nat→Prop} {w w1 : World} {b : Nat} {x : List Value×TypeId} (h : Chg S w w1) (hb : blkOf w b = some x) (hn : ¬ S b) : blkOf w1 b = some x:=by
  have:=blkOf_elim hb
  have h1:=h.at this hn
  simpa using blkOf_of h1
theorem cell_of_blkOf {w : World} {b : Nat} {x : List Value×TypeId} (h : blkOf w b = some x) (o : Nat) : w.cell? ⟨b,o,none⟩ = x.1[o]?:=by
  rw [cell_of_row w b o _ _ _ (blkOf_elim h)];simp
theorem lt_of_blkOf {w : World} {b : Nat} {x : List Value×TypeId} (h : blkOf w b = some x) : b < w.heap.size:=lt_of_block (blkOf_elim h)
theorem Holds_nil (w : World) : Holds [] w = True:=by simp [Holds]
theorem Holds_cons (b o : Nat) (v : Value) (L : Held) (w : World) : Holds ((b,o,v) :: L) w = (w.cell? ⟨b,o,none⟩ = some v∧Holds L w):=by
  apply propext
  constructor
  · intro h
    exact ⟨h _ _ _ (.head _),fun b' o' v' hm=>h _ _ _ (.tail _ hm)⟩
  · rintro ⟨h1,h2⟩ b' o' v' hm
    cases hm with
    | head=>exact h1
    | tail _ hm=>exact h2 _ _ _ hm
theorem RetK_mk (K : Value→World→Prop) (v : Value) (w : World) : RetK K (.returned v) w = K v w:=
  propext ⟨fun ⟨_,e,h⟩ =>by injection e with e;subst e;exact h,fun h=>⟨v,rfl,h⟩⟩
theorem Chg.seq {w w1 w2 : World} {S : Nat→Prop} (h : Chg (fun _=>False) w w1) (k : Chg S w1 w2) : Chg S w w2:=(h.mono (fun _ f=>f.elim)).trans k (fun _ hx=>.inl hx)
theorem ifK_dec {p : Prop} [Decidable p] {A B : Prop} (h1 : p→A) (h2 : ¬ p→B) : ifK (decide p) A B:=
  ⟨fun h=>h1 (of_decide_eq_true h),fun h=>h2 (of_decide_eq_false h)⟩
theorem callsK_use {P : Program} {f : FuncId} {args : Array Value} {w : World} {R K : Value→World→Prop} (h : Calls P f args w (RetK R)) (hk : ∀ v w',R v w'→K v w') : callsK P f args w K:=
  Calls.mono h fun _ _ ⟨v,e,hr⟩ =>⟨v,e,hk _ _ hr⟩
theorem callsK_pure {P : Program} {f : FuncId} {args : Array Value} {w : World} {x : Value} {K : Value→World→Prop} (h : Calls P f args w (RetK fun r w'=>r = x∧w' = w)) (hk : K x w) : callsK P f args w K:=
  callsK_use h fun _ _ ⟨e1,e2⟩ =>by rw [e1,e2];exact hk
structure Row (s : Nat) (w : World) (v : Value) (n : Nat) (cs : List Value) : Prop where
  len : cs.length = n * s
  one : ∀ u ∈ cs,u.oneCell' = true
  shape : ∃ a c,v = .slice a n c∧n≤c∧c≤maxLen∧(a = none→c = 0)∧(0 < n→∃ b o,a = some ⟨b,o,none⟩ ∧∀ j u,cs[j]? = some u→w.cell? ⟨b,o + j,none⟩ = some u)
theorem Row.chg {S : Nat→Prop} {s : Nat} {w w' : World} {v : Value} {n : Nat} {cs : List Value} (h : Row s w v n cs) (hc : Chg S w w') (hn : ∀ k,v.ownBlock = some k→¬ S k) : Row s w' v n cs:=by
  obtain ⟨h1,h2,a,c,rfl,h3,h4,h5,h6⟩ :=h
  refine ⟨h1,h2,a,c,rfl,h3,h4,h5,fun hp=>?_⟩
  obtain ⟨b,o,rfl,hcell⟩ :=h6 hp
  exact ⟨b,o,rfl,fun j u hj=>hc.cell (hcell j u hj) (hn b (by simp [Value.ownBlock]))⟩
theorem Row.nil (s : Nat) (w : World) : Row s w (.slice none 0 0) 0 []:=⟨by simp,by simp,none,0,rfl,by omega,by simp [maxLen],fun _=>rfl,fun h=>by omega⟩
theorem Rd.row {w : World} {v : Value} {xs : List Int} (h : Rd w v xs) : Row 1 w v xs.length (u8s xs):=by
  obtain ⟨a,c,rfl,h1,h2,h3,h4⟩ :=h
  refine ⟨by simp [u8s],fun u hu=>?_,a,c,rfl,h1,h2,h3,fun hp=>?_⟩
  · obtain ⟨x,_,rfl⟩ :=List.mem_map.1 hu;rfl
  · obtain ⟨b,o,rfl,hc⟩ :=h4 hp
    refine ⟨b,o,rfl,fun j u hj=>?_⟩
    simp only [u8s,List.getElem?_map,Option.map_eq_some_iff] at hj
    obtain ⟨x,hx,rfl⟩ :=hj
    obtain ⟨hlt,hx⟩ :=List.getElem?_eq_some_iff.1 hx
    rw [hc j hlt]
    simp [List.getD,hlt,hx]
theorem row_of_owns {w : World} {e : TypeId} {s : Nat} {v : Value} {n : Nat} {xs : List Value} (h : w.ownsRow 0 e s v n xs) (h1 : ∀ u ∈ xs,u.oneCell' = true) : Row s w v n xs:=by
  refine ⟨h.1,h1,?_⟩
  rcases h.2 with ⟨rfl,hz⟩ | ⟨g,cap,cur,rfl,hb,hg,hn,hm,hsz,ht⟩
  · exact ⟨none,0,by rw [hz],by omega,by simp [maxLen],fun _=>rfl,fun hp=>by omega⟩
  · refine ⟨some ⟨g,0,none⟩,cap,rfl,hn,hm,(fun h=>by cases h),fun hp=>⟨g,0,rfl,fun j u hj=>?_⟩⟩
    have:=World.ownsRow.cells h (g:=g) rfl j _ hj
    simpa [Addr.add_lit] using this
theorem New.owns {w w1 : World} {b : Nat} {cs : List Value} {e : TypeId} {s n : Nat} (h : New w w1 b cs e) (hn : cs.length = n * s) (hm : n≤maxLen) : w1.ownsRow 0 e s (.slice (some ⟨b,0,none⟩) n n) n cs:=
  ⟨hn,.inr ⟨b,n,cs.toArray,rfl,Nat.zero_le _,h.blk,Nat.le_refl _,hm,by simpa using hn,List.take_of_length_le (by simp [hn])⟩⟩
theorem append_rule {P : Program} {t e : TypeId} {z : Value} {s by' : Nat} (hi : (P.info? e).map (fun i => (i.zero, i.size, i.bytes)) = some (some z, s, by')) (ht : P.underlying t = some (.slice e)) (hzs : z.cells.size = s) (hs : 0 < s)
    {w : World} {v : Value} {n : Nat} {xs : List Value} {src : Value} {m : Nat} {news : List Value} {ty : TypeId} {K : Value→World→Prop} (hown : w.ownsRow 0 e s v n xs) (hsrc : Row s w src m news)
    (hl : (n + m) * by'≤140737488355328) (h63 : n + m≤maxLen)
    (hK : ∀ v' w',w'.ownsRow 0 e s v' (n + m) (xs ++ news)→w.grownBy w' v.ownBlock→(v'.ownBlock = v.ownBlock∨v'.ownBlock = some w.heap.size)→K v' w') : RunK P (Builtin.append_ #[t,t] ty #[v,src]) w K:=by
  obtain ⟨i,hi,hp⟩ :=Option.map_eq_some_iff.1 hi
  simp only [Prod.mk.injEq] at hp
  obtain ⟨hz,hsz,hby⟩ :=hp
  obtain ⟨h1,h2,a,c,rfl,h3,h4,h5,h6⟩ :=hsrc
  cases a with
  | none=>
    obtain rfl:=h5 rfl
    obtain rfl : m = 0:=by omega
    obtain rfl : news = []:=List.eq_nil_of_length_eq_zero (by simpa using h1)
    refine ⟨v,w,run_append_owned_none w 0 t ty e i s ht hi v n xs hown,hK _ _ (by simpa using hown) ⟨rfl,rfl,rfl,Nat.le_refl _,fun _ _ _=>rfl⟩ (.inl rfl)⟩
  | some a=>
    obtain ⟨v',w',hr,h7,h8,_,h9⟩ :=run_append_own_at (P:=P) w 0 t ty e i z s by' ht hi hz hsz hby hzs hs v n xs hown a m c news h1 (fun j u hj=>by
      have hlt:=(List.getElem?_eq_some_iff.1 hj).1
      have hm : 0 < m:=by
        rcases Nat.eq_zero_or_pos m with rfl | h
        · simp [h1] at hlt
        · exact h
      obtain ⟨b,o,he,hc⟩ :=h6 hm
      injection he with he
      subst he
      rw [add_off]
      exact hc j u hj) h2 h63 hl (Nat.zero_le _)
    exact ⟨v',w',hr,hK _ _ h7 h8 h9⟩
theorem vcA : type_of% (And.intro (@planvT_lll) (And.intro (And.intro (And.intro (And.intro (And.intro (And.intro (@codevT_seq) (@codevT_region)) (And.intro (@codevT_draw) (And.intro (@codevT_cond) (@codevT_block)))) (And.intro (And.intro (@codevT_loop) (@codevT_exit)) (And.intro (@codevT_ret) (And.intro (@codevT_skip) (@opsvT_nil))))) (And.intro (And.intro (And.intro (@opsvT_cons) (@gT_none)) (And.intro (@gT_some) (And.intro (@exitT_seq_normal) (@exitT_seq_exit)))) (And.intro (And.intro (@exitT_seq_ret) (And.intro (@exitT_blk_normal) (@exitT_blk_ret))) (And.intro (@exitT_blk_exit) (And.intro (@exitT_end_normal) (@exitT_end_ret)))))) (And.intro (And.intro (And.intro (And.intro (@exitT_round_normal) (@exitT_round_exit)) (And.intro (@exitT_round_ret) (And.intro (@resT_nil) (@resT_tmp)))) (And.intro (And.intro (@resT_cell) (@operK_mk)) (And.intro (@planvT_fin) (And.intro (@planvT_q) (@planvT_h))))) (And.intro (And.intro (And.intro (@planvT_l) (@planvT_ll)) (And.intro (@pureT_move) (And.intro (@pureT_assign) (@pureT_pick)))) (And.intro (And.intro (@pureT_nilCheck) (And.intro (@pureT_binOp) (@pureT_unOp))) (And.intro (@pureT_convert) (And.intro (@pureT_build) (@pureT_fieldAddr))))))) (And.intro (And.intro (And.intro (And.intro (And.intro (@pureT_field) (@pureT_indexAddr)) (And.intro (@pureT_slice) (And.intro (@pureT_extract) (@pureT_makeFunc)))) (And.intro (And.intro (@pureT_min) (@pureT_max)) (And.intro (@opvT_move) (And.intro (@opvT_assign) (@opvT_pick))))) (And.intro (And.intro (And.intro (@opvT_nilCheck) (@opvT_binOp)) (And.intro (@opvT_unOp) (And.intro (@opvT_convert) (@opvT_build)))) (And.intro (And.intro (@opvT_fieldAddr) (And.intro (@opvT_field) (@opvT_indexAddr))) (And.intro (@opvT_slice) (And.intro (@opvT_extract) (@opvT_makeFunc)))))) (And.intro (And.intro (And.intro (And.intro (@opvT_len) (@opvT_min)) (And.intro (@opvT_max) (And.intro (@opvT_alloc) (@opvT_box)))) (And.intro (And.intro (@opvT_buildSlice) (And.intro (@opvT_load) (@opvT_store))) (And.intro (@opvT_makeSlice) (And.intro (@opvT_call) (@opvT_append))))) (And.intro (And.intro (And.intro (@opvT_copy) (@opvT_lookup)) (And.intro (@opvT_index) (And.intro (@opvT_mapUpdate) (@opvT_insert)))) (And.intro (And.intro (@opvT_makeMap) (And.intro (@opvT_range) (@opvT_next))) (And.intro (@heldT_load) (And.intro (@callK_func) (@storeK_eq))))))))):=And.intro (@planvT_lll) (And.intro (And.intro (And.intro (And.intro (And.intro (And.intro (@codevT_seq) (@codevT_region)) (And.intro (@codevT_draw) (And.intro (@codevT_cond) (@codevT_block)))) (And.intro (And.intro (@codevT_loop) (@codevT_exit)) (And.intro (@codevT_ret) (And.intro (@codevT_skip) (@opsvT_nil))))) (And.intro (And.intro (And.intro (@opsvT_cons) (@gT_none)) (And.intro (@gT_some) (And.intro (@exitT_seq_normal) (@exitT_seq_exit)))) (And.intro (And.intro (@exitT_seq_ret) (And.intro (@exitT_blk_normal) (@exitT_blk_ret))) (And.intro (@exitT_blk_exit) (And.intro (@exitT_end_normal) (@exitT_end_ret)))))) (And.intro (And.intro (And.intro (And.intro (@exitT_round_normal) (@exitT_round_exit)) (And.intro (@exitT_round_ret) (And.intro (@resT_nil) (@resT_tmp)))) (And.intro (And.intro (@resT_cell) (@operK_mk)) (And.intro (@planvT_fin) (And.intro (@planvT_q) (@planvT_h))))) (And.intro (And.intro (And.intro (@planvT_l) (@planvT_ll)) (And.intro (@pureT_move) (And.intro (@pureT_assign) (@pureT_pick)))) (And.intro (And.intro (@pureT_nilCheck) (And.intro (@pureT_binOp) (@pureT_unOp))) (And.intro (@pureT_convert) (And.intro (@pureT_build) (@pureT_fieldAddr))))))) (And.intro (And.intro (And.intro (And.intro (And.intro (@pureT_field) (@pureT_indexAddr)) (And.intro (@pureT_slice) (And.intro (@pureT_extract) (@pureT_makeFunc)))) (And.intro (And.intro (@pureT_min) (@pureT_max)) (And.intro (@opvT_move) (And.intro (@opvT_assign) (@opvT_pick))))) (And.intro (And.intro (And.intro (@opvT_nilCheck) (@opvT_binOp)) (And.intro (@opvT_unOp) (And.intro (@opvT_convert) (@opvT_build)))) (And.intro (And.intro (@opvT_fieldAddr) (And.intro (@opvT_field) (@opvT_indexAddr))) (And.intro (@opvT_slice) (And.intro (@opvT_extract) (@opvT_makeFunc)))))) (And.intro (And.intro (And.intro (And.intro (@opvT_len) (@opvT_min)) (And.intro (@opvT_max) (And.intro (@opvT_alloc) (@opvT_box)))) (And.intro (And.intro (@opvT_buildSlice) (And.intro (@opvT_load) (@opvT_store))) (And.intro (@opvT_makeSlice) (And.intro (@opvT_call) (@opvT_append))))) (And.intro (And.intro (And.intro (@opvT_copy) (@opvT_lookup)) (And.intro (@opvT_index) (And.intro (@opvT_mapUpdate) (@opvT_insert)))) (And.intro (And.intro (@opvT_makeMap) (And.intro (@opvT_range) (@opvT_next))) (And.intro (@heldT_load) (And.intro (@callK_func) (@storeK_eq))))))))
theorem vcB : type_of% (And.intro (And.intro (@guardK_bool) (@guardK_undef)) (And.intro (And.intro (And.intro (And.intro (And.intro (@RetK_mk) (@binK_add)) (And.intro (@binK_sub) (And.intro (@binK_mul) (@binK_and)))) (And.intro (And.intro (@binK_or) (And.intro (@binK_xor) (@binK_andNot))) (And.intro (@binK_eql) (And.intro (@binK_neq) (@binK_lss))))) (And.intro (And.intro (And.intro (@binK_leq) (And.intro (@binK_gtr) (@binK_geq))) (And.intro (@binK_quo) (And.intro (@binK_rem) (@binK_shl)))) (And.intro (And.intro (@binK_shr) (And.intro (@binK_seq) (@binK_sne))) (And.intro (@binK_beq) (And.intro (@binK_bne) (@binK_pnn)))))) (And.intro (And.intro (And.intro (And.intro (@binK_pns) (@binK_psn)) (And.intro (@binK_qnn) (And.intro (@binK_qns) (@binK_qsn)))) (And.intro (And.intro (@binK_sln) (And.intro (@binK_qln) (@unK_not))) (And.intro (@unK_neg) (And.intro (@nchkK_ptr) (@nchkK_func))))) (And.intro (And.intro (And.intro (@bndK_none) (And.intro (@bndK_some) (@idxK_slice))) (And.intro (@idxK_arr) (And.intro (@boolK_bool) (@ifK_true)))) (And.intro (And.intro (@ifK_false) (And.intro (@ptrK_mk) (@intK_mk))) (And.intro (@sliceK_mk) (And.intro (@beqT) (@beqF)))))))):=And.intro (And.intro (@guardK_bool) (@guardK_undef)) (And.intro (And.intro (And.intro (And.intro (And.intro (@RetK_mk) (@binK_add)) (And.intro (@binK_sub) (And.intro (@binK_mul) (@binK_and)))) (And.intro (And.intro (@binK_or) (And.intro (@binK_xor) (@binK_andNot))) (And.intro (@binK_eql) (And.intro (@binK_neq) (@binK_lss))))) (And.intro (And.intro (And.intro (@binK_leq) (And.intro (@binK_gtr) (@binK_geq))) (And.intro (@binK_quo) (And.intro (@binK_rem) (@binK_shl)))) (And.intro (And.intro (@binK_shr) (And.intro (@binK_seq) (@binK_sne))) (And.intro (@binK_beq) (And.intro (@binK_bne) (@binK_pnn)))))) (And.intro (And.intro (And.intro (And.intro (@binK_pns) (@binK_psn)) (And.intro (@binK_qnn) (And.intro (@binK_qns) (@binK_qsn)))) (And.intro (And.intro (@binK_sln) (And.intro (@binK_qln) (@unK_not))) (And.intro (@unK_neg) (And.intro (@nchkK_ptr) (@nchkK_func))))) (And.intro (And.intro (And.intro (@bndK_none) (And.intro (@bndK_some) (@idxK_slice))) (And.intro (@idxK_arr) (And.intro (@boolK_bool) (@ifK_true)))) (And.intro (And.intro (@ifK_false) (And.intro (@ptrK_mk) (@intK_mk))) (And.intro (@sliceK_mk) (And.intro (@beqT) (@beqF)))))))
theorem vcD : type_of% (And.intro (And.intro (And.intro (And.intro (And.intro (@List.size_toArray.{0}) (@List.length_cons.{0})) (And.intro (@List.length_nil.{0}) (And.intro (@List.all_cons.{0}) (@List.all_nil.{0})))) (And.intro (And.intro (@Option.isSome_some.{0}) (@Option.isSome_none.{0})) (And.intro (@Option.isNone_none.{0}) (And.intro (@Option.isNone_some.{0}) (@List.getElem?_toArray.{0}))))) (And.intro (And.intro (And.intro (@List.getElem?_cons_zero.{0}) (@List.getElem?_cons_succ.{0})) (And.intro (@List.getElem?_nil.{0}) (And.intro (@List.nil_append.{0}) (@List.append_nil.{0})))) (And.intro (And.intro (@List.cons_append.{0}) (And.intro (@List.zip_nil_left.{0,0}) (@List.zip_cons_cons.{0,0}))) (And.intro (@List.map_nil.{0,0}) (And.intro (@List.map_cons.{0,0}) (@Option.bind_some.{0,0})))))) (And.intro (And.intro (And.intro (And.intro (@Option.map_some.{0,0}) (@okK_some)) (And.intro (@valK_eq) (And.intro (@Bool.and_self) (@Bool.and_true)))) (And.intro (And.intro (@not_false_eq_true) (@not_true_eq_false)) (And.intro (@decide_true) (And.intro (@decide_false) (@Int.toNat_natCast))))) (And.intro (And.intro (And.intro (@Nat.mul_one) (@Nat.zero_add)) (And.intro (@Nat.add_zero) (And.intro (@Nat.zero_le) (@Nat.le_refl)))) (And.intro (And.intro (@Nat.sub_zero) (And.intro (@Bool.not_true) (@Bool.not_false))) (And.intro (@true_and) (And.intro (@and_true) (@and_self))))))):=(And.intro (And.intro (And.intro (And.intro (And.intro (@List.size_toArray.{0}) (@List.length_cons.{0})) (And.intro (@List.length_nil.{0}) (And.intro (@List.all_cons.{0}) (@List.all_nil.{0})))) (And.intro (And.intro (@Option.isSome_some.{0}) (@Option.isSome_none.{0})) (And.intro (@Option.isNone_none.{0}) (And.intro (@Option.isNone_some.{0}) (@List.getElem?_toArray.{0}))))) (And.intro (And.intro (And.intro (@List.getElem?_cons_zero.{0}) (@List.getElem?_cons_succ.{0})) (And.intro (@List.getElem?_nil.{0}) (And.intro (@List.nil_append.{0}) (@List.append_nil.{0})))) (And.intro (And.intro (@List.cons_append.{0}) (And.intro (@List.zip_nil_left.{0,0}) (@List.zip_cons_cons.{0,0}))) (And.intro (@List.map_nil.{0,0}) (And.intro (@List.map_cons.{0,0}) (@Option.bind_some.{0,0})))))) (And.intro (And.intro (And.intro (And.intro (@Option.map_some.{0,0}) (@okK_some)) (And.intro (@valK_eq) (And.intro (@Bool.and_self) (@Bool.and_true)))) (And.intro (And.intro (@not_false_eq_true) (@not_true_eq_false)) (And.intro (@decide_true) (And.intro (@decide_false) (@Int.toNat_natCast))))) (And.intro (And.intro (And.intro (@Nat.mul_one) (@Nat.zero_add)) (And.intro (@Nat.add_zero) (And.intro (@Nat.zero_le) (@Nat.le_refl)))) (And.intro (And.intro (@Nat.sub_zero) (And.intro (@Bool.not_true) (@Bool.not_false))) (And.intro (@true_and) (And.intro (@and_true) (@and_self)))))))
theorem J {a b : Prop} (x : a) (y : b) : a∧b:=⟨x,y⟩
theorem Zv {G G' : Prop} (g : G') (e : G = G':=by first | (conv=>lhs;simp -dsimp only [↓vcA,vcB,vcD,↓pureT_lenS,↓iteT,↓iteF,cond_true,cond_false,eq_self,argE,Env.get,Env.push,ev,evs,evo,retV,Value.cells,Value.oneCell',setR,overR,fillL,zl,places,allSizes,heldC,ne_eq,Int.reduceLE,Int.reduceLT,Int.reduceEq,Int.reduceNe,Int.reduceToNat,Int.cast_ofNat_Int,Nat.reduceMul,Nat.reduceLeDiff,reduceIte,Nat.reduceEqDiff,Nat.reduceAdd,↓reduceIte,Tryz.vcT,gets]) | rfl) : G:=e▸g
theorem Zv1 {G G' Q : Prop} (x : Q) (g : G') (e : Q→G = G':=by intro X1;first | (conv=>lhs;simp -dsimp only [↓vcA,vcB,vcD,↓pureT_lenS,↓iteT,↓iteF,cond_true,cond_false,eq_self,argE,Env.get,Env.push,ev,evs,evo,retV,Value.cells,Value.oneCell',setR,overR,fillL,zl,places,allSizes,heldC,ne_eq,Int.reduceLE,Int.reduceLT,Int.reduceEq,Int.reduceNe,Int.reduceToNat,Int.cast_ofNat_Int,Nat.reduceMul,Nat.reduceLeDiff,reduceIte,Nat.reduceEqDiff,Nat.reduceAdd,↓reduceIte,Tryz.vcT,gets,X1]) | rfl) : G:=e x▸g
theorem Zw1 {G G' Q : Prop} (x : Q) (g : G') (e : Q→G = G':=by intro X1;first | (conv=>lhs;simp -dsimp only [↓vcA,vcB,vcD,↓pureT_lenS,↓iteT,↓iteF,cond_true,cond_false,eq_self,argE,Env.get,Env.push,ev,evs,evo,retV,Value.cells,Value.oneCell',setR,overR,fillL,zl,places,allSizes,heldC,ne_eq,Int.reduceLE,Int.reduceLT,Int.reduceEq,Int.reduceNe,Int.reduceToNat,Int.cast_ofNat_Int,Nat.reduceMul,Nat.reduceLeDiff,reduceIte,Nat.reduceEqDiff,Nat.reduceAdd,↓reduceIte,Tryz.vcT,gets,cellsAt,X1]) | rfl) : G:=e x▸g
theorem Zk {P P' : Prop} (h : P) (e : P = P':=by first | (conv=>lhs;simp -dsimp only [gets,argE,List.zip_cons_cons,List.zip_nil_left,List.cons_append,List.nil_append,Env.get,Env.push,Option.bind_some,Option.map_some,Option.some.injEq,reduceIte,Nat.reduceEqDiff,Nat.reduceAdd,↓reduceIte]) | rfl) : P':=e▸h
theorem pureF_eq {P : Program} {s : Sem Value} {v : Value} {K : Value→Prop} (h : ∀ w,s.run P w = .ok v w) : pureF P s K = K v:=
  propext ⟨fun ⟨u,hu,hk⟩ =>by
    have:=(hu default).symm.trans (h default)
    injection this with e
    rw [← e];exact hk,fun hk=>⟨v,h,hk⟩⟩
section
variable (xo yo : Operand) (K : Value→Prop) (a b c d e f a' b' c' d' e' f' : Int)
theorem eql_pt : binK Tryz.prog .eql 45 xo yo (.agg #[.int .i64 a,.int .i64 b]) (.agg #[.int .i64 c,.int .i64 d]) K = valK (.bool (decide (a = c) && decide (b = d))) K:=by
  show pureF _ _ _ = K _
  refine pureF_eq fun w=>?_
  go_simp
  by_cases h1 : a = c<;>by_cases h2 : b = d<;>simp [h1,h2]
theorem eql_tri : binK Tryz.prog .eql 49 xo yo (.agg #[.int .i64 a, .int .i64 b, .int .i64 c, .int .i64 d, .int .i64 e, .int .i64 f]) (.agg #[.int .i64 a', .int .i64 b', .int .i64 c', .int .i64 d', .int .i64 e', .int .i64 f']) K
    = valK (.bool (decide (a = a'∧b = b'∧c = c'∧d = d'∧e = e'∧f = f'))) K:=by
  show pureF _ _ _ = K _
  refine pureF_eq fun w=>?_
  go_simp
  by_cases h1 : a = a'<;>by_cases h2 : b = b'<;>by_cases h3 : c = c'<;>by_cases h4 : d = d'<;>by_cases h5 : e = e'<;>by_cases h6 : f = f'<;>simp [h1,h2,h3,h4,h5,h6]
end
theorem str_rule {w : World} {v : Value} {xs : List Int} {K : Value→World→Prop} (h : Rd w v xs) (hk : K (.string (strOfNums xs)) w) : RunK Tryz.prog (convert 35 9 v) w K:=by
  obtain ⟨a,c,rfl,h1,h2,h3,h4⟩ :=h
  refine ⟨_,w,?_,hk⟩
  rcases Nat.eq_zero_or_pos xs.length with h0 | h0
  · have : xs = []:=List.eq_nil_of_length_eq_zero h0
    subst this
    cases a with
    | none=>exact run_convert_bytes_nil w _ _ Tryz.underlying35 Tryz.underlying5 _ _ _ Tryz.underlying9
    | some a=>rw [run_convert_bytes_string w _ _ _ _ _ _ Tryz.underlying35 Tryz.underlying5 Tryz.underlying9];simp [Conv.bytesToString,strOfNums];rfl
  · obtain ⟨b,o,rfl,hc⟩ :=h4 h0
    exact run_convert_bytes_arg w _ _ Tryz.underlying35 Tryz.underlying5 b o _ c xs rfl hc _ Tryz.underlying9
theorem strOfNums_eq {xs ys : List Int} (hx : Byt xs) (hy : Byt ys) : ((strOfNums xs).toList == (strOfNums ys).toList) = decide (xs = ys):=by
  rw [Lib.strOfNums_toList,Lib.strOfNums_toList]
  have : Lib.bytesOf xs = Lib.bytesOf ys↔xs = ys:=by
    constructor
    · intro h
      have hb : ∀ zs : List Int,Byt zs→(Lib.bytesOf zs).map (fun u=>(u.toNat : Int)) = zs:=by
        intro zs hz
        unfold Lib.bytesOf
        rw [List.map_map]
        conv=>rhs;rw [← List.map_id zs]
        refine List.map_congr_left fun x hxm=>?_
        have:=hz x hxm
        simp
        omega
      rw [← hb xs hx,← hb ys hy,h]
    · rintro rfl;rfl
  by_cases e : xs = ys
  · subst e;simp
  · have : ¬ Lib.bytesOf xs = Lib.bytesOf ys:=fun h=>e (this.1 h)
    simp [e,this]
set_option maxRecDepth 100000
set_option linter.unusedVariables false
def sigF (P : Program) (t : TypeId) : List (Bool×TypeId×Nat):=(P.fieldsOf t).toList.map fun f=>(f.name != "_",f.type,f.offset)
def eqF (d : Nat) (xs ys : Array Value) : List (Bool×TypeId×Nat)→Sem Bool
  | []=>pure true
  | (n, t, o) :: fs => if n = true then do
      let a ← part t xs o
      let b ← part t ys o
      let r ← Op.equalIn d t a b
      if (!r) = true then pure false else eqF d xs ys fs
    else eqF d xs ys fs
theorem eqFields_eqF (d : Nat) (xs ys : Array Value) : ∀ fs : List Field,Op.eqFields d xs ys fs = eqF d xs ys (fs.map fun f=>(f.name != "_",f.type,f.offset))
  | []=>rfl
  | f :: fs=>by
    simp only [Op.eqFields,eqF,List.map_cons]
    rw [eqFields_eqF d xs ys fs]
    by_cases h : f.name = "_"<;>simp [h]
theorem eqF_int {P : Program} {d : Nat} {xs ys : Array Value} {t : TypeId} {o : Nat} {a b : Int} {fs : List (Bool × TypeId × Nat)} {w : World} {k : IntKind} (hu : P.underlying t = some (.int k)) (ha : xs[o]? = some (.int .i64 a)) (hb : ys[o]? = some (.int .i64 b)) {r : Bool}
    (h : (eqF (d + 1) xs ys fs).run P w = .ok r w) : (eqF (d + 1) xs ys ((true,t,o) :: fs)).run P w = .ok (decide (a = b) && r) w:=by
  have hp : P.plainKey t = true:=by simp [Program.plainKey,hu]
  simp only [eqF,if_true,Sem.run_bind,run_part_plain w hp ha,run_part_plain w hp hb,Result.andThen_ok,run_equalIn_int w d t .i64 k a b hu]
  by_cases e : a = b
  · simp [e,h]
  · simp [e]
theorem eqF_agg {P : Program} {d : Nat} {xs ys : Array Value} {t : TypeId} {o n : Nat} {fs : List (Bool × TypeId × Nat)} {w : World} (hu : P.underlying t = some (.struct (P.fieldsOf t))) (hn : P.cellsOf t = n) {q r : Bool}
    (hq : (Op.equalIn d t (.agg (xs.extract o (o + n))) (.agg (ys.extract o (o + n)))).run P w = .ok q w)
    (h : (eqF d xs ys fs).run P w = .ok r w) : (eqF d xs ys ((true,t,o) :: fs)).run P w = .ok (q && r) w:=by
  obtain ⟨i,hi⟩ :=info_of_underlying hu
  subst hn
  have hp : ∀ zs : Array Value,(part t zs o).run P w = .ok (.agg (zs.extract o (o + P.cellsOf t))) w:=fun zs=>by simp [part,isAgg,run_underlying hu,run_sizeOf w hi]
  simp only [eqF,if_true,Sem.run_bind,hp,Result.andThen_ok,hq]
  cases q
  · simp
  · simp [h]
theorem eqF_nil {P : Program} {d : Nat} {xs ys : Array Value} {w : World} : (eqF d xs ys []).run P w = .ok true w:=by simp [eqF]
theorem equalIn_sig {P : Program} {d : Nat} {t : TypeId} {xs ys : Array Value} {w : World} {r : Bool} (hu : P.underlying t = some (.struct (P.fieldsOf t))) (hs : P.stoodInHeld t = false) {l : List (Bool × TypeId × Nat)} (hl : sigF P t = l)
    (h : (eqF d xs ys l).run P w = .ok r w) : (Op.equalIn (d + 1) t (.agg xs) (.agg ys)).run P w = .ok r w:=by
  rw [run_equalIn_agg w d t xs ys hu hs,eqFields_eqF]
  subst hl;exact h
theorem binK_neq_agg {P : Program} {t : TypeId} {xo yo : Operand} {xs ys : Array Value} {r : Bool} {K : Value→Prop} (hg : P.eqGuardType P.depth t = false) (h : ∀ w,(Op.equalIn 10000 t (.agg xs) (.agg ys)).run P w = .ok r w) (hk : K (.bool (!r))) : binK P .neq t xo yo (.agg xs) (.agg ys) K:=
  ⟨_,fun w=>by simp only [Sem.run_bind,run_eqGuard_agg w _ t xo yo xs ys hg,Result.andThen_ok,run_neq_struct,h w],hk⟩
theorem binK_eql_agg {P : Program} {t : TypeId} {xo yo : Operand} {xs ys : Array Value} {r : Bool} {K : Value→Prop} (hg : P.eqGuardType P.depth t = false) (h : ∀ w,(Op.equalIn 10000 t (.agg xs) (.agg ys)).run P w = .ok r w) (hk : K (.bool r)) : binK P .eql t xo yo (.agg xs) (.agg ys) K:=
  ⟨_,fun w=>by simp only [Sem.run_bind,run_eqGuard_agg w _ t xo yo xs ys hg,Result.andThen_ok,run_eql_struct,h w],hk⟩
set_option linter.unusedSimpArgs false
theorem WrStep.pre {p : Nat} {w w1 w' : World} {v v' : Value} (h : Chg (fun _=>False) w w1) (k : WrStep p w1 v w' v') : WrStep p w v w' v':=
  ⟨(h.mono (fun _ f=>f.elim)).trans k.chg (fun x hx=>.inl hx),fun b hb=>(k.new b hb).imp id fun hle=>Nat.le_trans h.size hle⟩
theorem WrStep.holds {p : Nat} {w w' : World} {v v' : Value} {L : Held} (k : WrStep p w v w' v') (h : Holds L w) (hs : ∀ x ∈ L,Safe p v x.1) : Holds L w':=
  fun b o u hm=>k.cell (h b o u hm) (hs _ hm)
theorem Chg.holds {w w' : World} {L : Held} (k : Chg (fun _=>False) w w') (h : Holds L w) : Holds L w':=fun b o u hm=>k.cell (h b o u hm) id
theorem safeAll {p b : Nat} {v : Value} (h : Safe p v b) (L : List (Nat×Value)) : ∀ x ∈ L.map (fun y=>(b,y.1,y.2)),Safe p v x.1:=by
  intro x hx
  obtain ⟨y,_,rfl⟩ :=List.mem_map.1 hx
  exact h
def WrQ (t p : Nat) (w : World) (v : Value) (s' : W8) (r : Value) (w' : World) : Prop:=r = .pointer (some ⟨p,0,none⟩)∧∃ v',WrS t w' p v' s'∧WrStep p w v w' v'
theorem num (p : Nat) (v : Value) (s : W8) (n size : Int) (w : World) (hw : WrS 75 w p v s) (hlen : s.l.length ≤ 1000000) (hn : -9223372036854775808 ≤ n) (hn1 : n ≤ 9223372036854775807) :
    Calls Tryz.prog 19 [.pointer (some ⟨p,0,none⟩),.int .i64 n,.int .i64 size].toArray w (RetK (WrQ 75 p w v (s.num n size))):=
  (num_any p v s n size w hw hlen hn hn1).mono fun e w' ⟨h1,h2⟩ =>⟨_,h1,rfl,h2⟩
def W8.pt (s : W8) (x y : Int) : W8:=(s.num x 3).num y 3
theorem W8.pt_len (s : W8) (x y : Int) : (s.pt x y).l.length≤s.l.length + 16:=by
  have:=s.num_len x 3
  have:=(s.num x 3).num_len y 3
  unfold W8.pt;omega
theorem point (p : Nat) (v : Value) (s : W8) (x y : Int) (w : World) (hw : WrS 75 w p v s) (hlen : s.l.length ≤ 900000) (hx : -9223372036854775808 ≤ x) (hx1 : x ≤ 9223372036854775807) (hy : -9223372036854775808 ≤ y) (hy1 : y ≤ 9223372036854775807) :
    Calls Tryz.prog 22 [.pointer (some ⟨p,0,none⟩),.agg #[.int .i64 x,.int .i64 y]].toArray w (RetK (WrQ 75 p w v (s.pt x y))):=by
  refine walk Tryz.func22 rfl (by kernel_rfl) (by rw [Tryz.nt22];simp) ?_
  refine Zv ?_
  intro w1 b hb
  have hL : Holds [(b,0,.int .i64 x),(b,1,.int .i64 y)] w1:=by simp [Holds_nil,Holds_cons,hb.cell]
  refine walkDraw (.q 0 (.q 1 (.q 4 (.h 2 0 (.h 5 1 (.l 3 (.l 6 (.q 7 .fin)))))))) [(b,0,.int .i64 x),(b,1,.int .i64 y)] (by kernel_rfl) hL ?_
  intro w2 e2 c2
  refine Zv ?_
  have h1 : WrS 75 w1 p v s:=hw.chg hb.chg id fun _ _=>id
  have h2 : WrS 75 w2 p v s:=h1.chg c2 id fun _ _=>id
  have hsf : Safe p v b:=Safe.new hw.lt hw.own (by rw [hb.eq];omega)
  have hb2 : b < w2.heap.size:=by rw [e2];exact hb.lt
  refine callsK_use (num p v s x 3 w2 h2 (by omega) hx hx1) ?_
  rintro _ w3 ⟨rfl,v3,h3,k3⟩
  have L3:=k3.holds (c2.holds hL) (safeAll hsf [(0,.int .i64 x),(1,.int .i64 y)])
  refine Zv1 L3 ?_
  have hl:=s.num_len x 3
  refine callsK_use (num p v3 (s.num x 3) y 3 w3 h3 (by omega) hy hy1) ?_
  rintro _ w4 ⟨rfl,v4,h4,k4⟩
  have L4:=k4.holds L3 (safeAll (k3.safe hb2 hsf) [(0,.int .i64 x),(1,.int .i64 y)])
  refine Zv1 L4 ?_
  exact ⟨rfl,v4,h4,WrStep.pre (hb.chg.seq c2) (k3.trans k4)⟩
def W8.tri (s : W8) (ax ay bx by' cx cy : Int) : W8:=((s.pt ax ay).pt bx by').pt cx cy
theorem W8.tri_len (s : W8) (ax ay bx by' cx cy : Int) : (s.tri ax ay bx by' cx cy).l.length≤s.l.length + 48:=by
  have:=s.pt_len ax ay
  have:=(s.pt ax ay).pt_len bx by'
  have:=((s.pt ax ay).pt bx by').pt_len cx cy
  unfold W8.tri;omega
def Ok64 (l : List Int) : Prop:=∀ x ∈ l,-9223372036854775808≤x∧x≤9223372036854775807
theorem tri (p : Nat) (v : Value) (s : W8) (ax ay bx by' cx cy : Int) (w : World) (hw : WrS 75 w p v s) (hlen : s.l.length ≤ 800000) (ho : Ok64 [ax, ay, bx, by', cx, cy]) :
    Calls Tryz.prog 29 [.pointer (some ⟨p,0,none⟩),.agg #[.int .i64 ax,.int .i64 ay,.int .i64 bx,.int .i64 by',.int .i64 cx,.int .i64 cy]].toArray w (RetK (WrQ 75 p w v (s.tri ax ay bx by' cx cy))):=by
  simp only [Ok64,List.forall_mem_cons,List.not_mem_nil,false_implies,implies_true,and_true] at ho
  obtain ⟨⟨ax0,ax1⟩,⟨ay0,ay1⟩,⟨bx0,bx1⟩,⟨by0,by1⟩,⟨cx0,cx1⟩,cy0,cy1⟩ :=ho
  refine walk Tryz.func29 rfl (by kernel_rfl) (by rw [Tryz.nt29];simp) ?_
  refine Zv ?_
  intro w1 b hb
  refine walkDraw (.q 0 (.q 1 (.q 4 (.q 7 (.h 2 0 (.h 5 2 (.h 8 4 (.l 3 (.l 6 (.l 9 (.q 10 .fin))))))))))) [(b,0,.int .i64 ax),(b,1,.int .i64 ay),(b,2,.int .i64 bx),(b,3,.int .i64 by'),(b,4,.int .i64 cx),(b,5,.int .i64 cy)] (by kernel_rfl) (by simp [Holds_nil,Holds_cons,hb.cell]) ?_
  intro w2 e2 c2
  have hL : Holds [(b,0,.int .i64 ax),(b,1,.int .i64 ay),(b,2,.int .i64 bx),(b,3,.int .i64 by'),(b,4,.int .i64 cx),(b,5,.int .i64 cy)] w1:=by simp [Holds_nil,Holds_cons,hb.cell]
  refine Zv ?_
  have h1 : WrS 75 w1 p v s:=hw.chg hb.chg id fun _ _=>id
  have h2 : WrS 75 w2 p v s:=h1.chg c2 id fun _ _=>id
  have hsf : Safe p v b:=Safe.new hw.lt hw.own (by rw [hb.eq];omega)
  have hb2 : b < w2.heap.size:=by rw [e2];exact hb.lt
  have hl1:=s.pt_len ax ay
  have hl2:=(s.pt ax ay).pt_len bx by'
  refine callsK_use (point p v s ax ay w2 h2 (by omega) ax0 ax1 ay0 ay1) ?_
  rintro _ w3 ⟨rfl,v3,h3,k3⟩
  have L3:=k3.holds (c2.holds hL) (safeAll hsf [(0,.int .i64 ax),(1,.int .i64 ay),(2,.int .i64 bx),(3,.int .i64 by'),(4,.int .i64 cx),(5,.int .i64 cy)])
  refine Zv1 L3 ?_
  have hsf3:=k3.safe hb2 hsf
  have hb3 : b < w3.heap.size:=Nat.lt_of_lt_of_le hb2 k3.chg.size
  refine callsK_use (point p v3 (s.pt ax ay) bx by' w3 h3 (by omega) bx0 bx1 by0 by1) ?_
  rintro _ w4 ⟨rfl,v4,h4,k4⟩
  have L4:=k4.holds L3 (safeAll hsf3 [(0,.int .i64 ax),(1,.int .i64 ay),(2,.int .i64 bx),(3,.int .i64 by'),(4,.int .i64 cx),(5,.int .i64 cy)])
  refine Zv1 L4 ?_
  refine callsK_use (point p v4 ((s.pt ax ay).pt bx by') cx cy w4 h4 (by omega) cx0 cx1 cy0 cy1) ?_
  rintro _ w5 ⟨rfl,v5,h5,k5⟩
  have L5:=k5.holds L4 (safeAll (k4.safe hb3 hsf3) [(0,.int .i64 ax),(1,.int .i64 ay),(2,.int .i64 bx),(3,.int .i64 by'),(4,.int .i64 cx),(5,.int .i64 cy)])
  refine Zv1 L5 ?_
  exact ⟨rfl,v5,h5,WrStep.pre (hb.chg.seq c2) ((k3.trans k4).trans k5)⟩
end Go.Proofs.YtnhgjgoglmadnaaGreat
