/- Joined texts of this claim (part 40), printed by a program of this work. The last part holds the claimed theorem: the law answers true at every input of its row. -/
import Derived.Test.YtnhgjgoglmadnaaGreatSPTownsM
set_option maxHeartbeats 4000000
namespace Go.Proofs.YtnhgjgoglmadnaaGreat
open Go.RowKit
set_option linter.unusedVariables false
set_option linter.unusedSimpArgs false
theorem fits1 {n : Int} : fits n 1 = decide (0 ≤ n ∧ n ≤ 255) := by
  unfold fits; rw [show (8 * 1 : Int).toNat = 8 from rfl]; refine decide_eq_decide.2 ?_; omega
theorem fits2 {n : Int} : fits n 2 = decide (0 ≤ n ∧ n ≤ 65535) := by
  unfold fits; rw [show (8 * 2 : Int).toNat = 16 from rfl]; refine decide_eq_decide.2 ?_; omega
theorem fits3 {n : Int} : fits n 3 = decide (0 ≤ n ∧ n < 16777216) := by
  unfold fits; rw [show (8 * 3 : Int).toNat = 24 from rfl]; refine decide_eq_decide.2 ?_; omega
theorem fits4 {n : Int} : fits n 4 = decide (0 ≤ n ∧ n ≤ 4294967295) := by
  unfold fits; rw [show (8 * 4 : Int).toNat = 32 from rfl]; refine decide_eq_decide.2 ?_; omega
def Adds (c : Nat) (s t : W8) : Prop := t.bad = s.bad ∧ t.l.length ≤ s.l.length + c
theorem Adds.trans {c d : Nat} {s t u : W8} (h : Adds c s t) (k : Adds d t u) : Adds (c + d) s u := ⟨k.1.trans h.1, by have := h.2; have := k.2; omega⟩
theorem num_adds {s : W8} {n : Int} (k : Nat) (h : fits n k = true) : Adds k s (s.num n k) := by
  unfold W8.num
  rw [if_pos h]
  exact ⟨rfl, by rw [List.length_append, be_length]; simp⟩
theorem n1 {s : W8} {n : Int} (h : 0 ≤ n ∧ n ≤ 255) : Adds 1 s (s.num n 1) := num_adds 1 (fits1.trans (decide_eq_true h))
theorem n2 {s : W8} {n : Int} (h : 0 ≤ n ∧ n ≤ 65535) : Adds 2 s (s.num n 2) := num_adds 2 (fits2.trans (decide_eq_true h))
theorem n3 {s : W8} {n : Int} (h : 0 ≤ n ∧ n < 16777216) : Adds 3 s (s.num n 3) := num_adds 3 (fits3.trans (decide_eq_true h))
theorem n4 {s : W8} {n : Int} (h : 0 ≤ n ∧ n ≤ 4294967295) : Adds 4 s (s.num n 4) := num_adds 4 (fits4.trans (decide_eq_true h))
theorem fold_adds {f : W8 → List Int → W8} {c : Nat} : ∀ {xs : List (List Int)} {s : W8}, (∀ x ∈ xs, ∀ s, Adds c s (f s x)) → Adds (c * xs.length) s (xs.foldl f s)
  | [], s, _ => ⟨rfl, by simp⟩
  | x :: xs, s, h => by
    have h1 := h x (.head _) s
    have h2 := fold_adds (xs := xs) (s := f s x) fun y hy => h y (.tail _ hy)
    have := h1.trans h2
    rw [List.length_cons, Nat.mul_succ, Nat.add_comm]
    exact this
theorem encL_adds {f : W8 → List Int → W8} {c : Nat} {xs : List (List Int)} {s : W8} (hl : xs.length ≤ 65535) (h : ∀ x ∈ xs, ∀ s, Adds c s (f s x)) : Adds (2 + c * xs.length) s (encL f s xs) := (n2 (by omega)).trans (fold_adds h)
theorem addP {x : List Int} (h : okPt x) (s : W8) : Adds 6 s (wP s x) := by
  obtain ⟨a, b, rfl, ha, hb⟩ := h
  exact (n3 ha).trans (n3 hb)
theorem addWa {x : List Int} (h : okW x) (s : W8) : Adds 13 s (wW s x) := by
  obtain ⟨a, b, c, d, k, rfl, ha, hb, hc, hd, hk⟩ := h
  exact ((((n3 ha).trans (n3 hb)).trans (n3 hc)).trans (n3 hd)).trans (n1 (by omega))
theorem addPa {x : List Int} (h : okPa x) (s : W8) : Adds 2 s (wPa s x) := by
  obtain ⟨a, b, rfl, ha, hb⟩ := h
  exact (n1 ha).trans (n1 hb)
theorem addRe {x : List Int} (h : okRe x) (s : W8) : Adds 23 s (wRe s x) := by
  obtain ⟨a, b, c, d, t, rfl, ha, hb, hc, hd, ⟨v1, v2, v3, _⟩, _⟩ := h
  unfold Vp T3.A T3.B T3.C at *
  exact (((n1 ha).trans (n2 hb)).trans (n1 hc)).trans (n1 hd) |>.trans ((((((n3 (by omega)).trans (n3 (by omega))).trans (n3 (by omega))).trans (n3 (by omega))).trans (n3 (by omega))).trans (n3 (by omega)))
theorem addCa {x : List Int} (h : okCa x) (s : W8) : Adds 14 s (wCa s x) := by
  obtain ⟨a, b, c, d, e, f, rfl, ha, hb, hc, hd, he, hf⟩ := h
  exact (((((((n1 ha).trans (n1 (by omega))).trans (n1 hb)).trans (n1 hc)).trans (n2 (by omega))).trans (n1 he)).trans (n4 hf)).trans (n2 (by decide)) |>.trans (n1 (by decide))
theorem addIs {x : List Int} (h : okIs x) (s : W8) : Adds 3 s (wIs s x) := by
  obtain ⟨a, b, rfl, ha, hb⟩ := h
  exact ((n1 ha).trans (n1 (by omega))).trans (n1 hb)
theorem EncOk.adds {m : MapV} (h : EncOk m) : Adds 97000 ⟨[], false⟩ m.enc := by
  have a1 : Adds 17 ⟨[], false⟩ m.nums := ((((((n3 h.w).trans (n3 h.h)).trans (n1 h.te)).trans (n2 h.wi)).trans (n2 h.mr)).trans (n2 h.mb)).trans (n4 h.ti)
  have l1 := h.pl; have l2 := h.wl; have l3 := h.pal; have l4 := h.rl; have l5 := h.cl; have l6 := h.il
  have a2 := a1.trans (encL_adds (by omega) fun x hx => addP (h.p x hx))
  have a3 := a2.trans (encL_adds (by omega) fun x hx => addWa (h.wa x hx))
  have a4 := a3.trans (encL_adds (by omega) fun x hx => addPa (h.pa x hx))
  have a5 := a4.trans (encL_adds (by omega) fun x hx => addRe (h.re x hx))
  have a6 := a5.trans (encL_adds (by omega) fun x hx => addCa (h.ca x hx))
  have a7 := a6.trans (encL_adds (by omega) fun x hx => addIs (h.is x hx))
  have a8 := a7.trans (n2 (n := ((0 : Nat) : Int)) (by omega))
  have a9 := a8.trans (n2 (n := ((0 : Nat) : Int)) (by omega))
  unfold MapV.enc
  rw [h.co, h.ch]
  exact ⟨a9.1, Nat.le_trans a9.2 (by simp only [List.length_nil]; omega)⟩
theorem EncOk.fails {m : MapV} (h : EncOk m) : m.fails = false := by
  have a := h.adds
  have b := a.2
  unfold MapV.fails
  rw [a.1, decide_eq_false (by have : (([] : List Int).length) = 0 := rfl; dsimp only at b; omega)]
  simp only [Bool.or_self, Bool.or_false]
  rw [Bool.eq_false_iff]
  intro hb
  obtain ⟨x, hx, hb⟩ := List.any_eq_true.1 hb
  obtain ⟨a, b, c, d, t, rfl, _, _, _, _, ht, hl⟩ := h.re x hx
  have hv := ht.valid hl
  unfold badRe T3.row at hb
  change (!t.valid) = true at hb
  rw [hv] at hb; cases hb
theorem EncOk.wid {m : MapV} (h : EncOk m) : m.Wid := by
  refine ⟨fun x hx => ?_, fun x hx => ?_, fun x hx => ?_, fun x hx => ?_, fun x hx => ?_, fun x hx => ?_, fun x hx => ?_⟩
  · obtain ⟨_, _, rfl, _⟩ := h.p x hx; rfl
  · obtain ⟨_, _, _, _, _, rfl, _⟩ := h.wa x hx; rfl
  · obtain ⟨_, _, rfl, _⟩ := h.pa x hx; rfl
  · obtain ⟨_, _, _, _, _, rfl, _⟩ := h.re x hx; rfl
  · obtain ⟨_, _, _, _, _, _, rfl, _⟩ := h.ca x hx; rfl
  · obtain ⟨_, _, rfl, _⟩ := h.is x hx; rfl
  · rw [h.co] at hx; cases hx
theorem ok64_ca {x : List Int} (h : okCa x) : Ok64 x := by
  obtain ⟨a, b, c, d, e, f, rfl, ha, hb, hc, hd, he, hf⟩ := h
  unfold Ok64
  intro y hy
  simp only [List.mem_cons, List.not_mem_nil, or_false] at hy
  rcases hy with rfl | rfl | rfl | rfl | rfl | rfl | rfl | rfl | rfl <;> omega
theorem EncOk.fine {m : MapV} (h : EncOk m) : m.Fine := ⟨h.wid, fun x hx => ok64_ca (h.ca x hx), h.fails⟩
theorem EncOk.len {m : MapV} (h : EncOk m) : m.bytes.length ≤ 97000 := by
  rw [MapV.bytes_of h.fails]
  have := h.adds.2
  simpa using this
theorem EncOk.room {m : MapV} (h : EncOk m) : m.room ≤ 800000 := by
  have l1 := h.pl; have l2 := h.wl; have l3 := h.pal; have l4 := h.rl; have l5 := h.cl; have l6 := h.il
  unfold MapV.room
  rw [h.co, h.ch]
  simp only [List.length_nil, roomC]; omega
theorem EncOk.byt {m : MapV} (h : EncOk m) : ∀ c ∈ m.ch, Byt c.b := by rw [h.ch]; intro c hc; cases hc
set_option maxRecDepth 100000
def slS (m : MapV) (p1 p2 p3 p4 p5 p6 p7 p8 : Option Addr × Nat) : MapS := ⟨.slice p1.1 m.p.length p1.2, .slice p2.1 m.wa.length p2.2, .slice p3.1 m.pa.length p3.2, .slice p4.1 m.re.length p4.2, .slice p5.1 m.ca.length p5.2, .slice p6.1 m.is.length p6.2, .slice p7.1 m.co.length p7.2, .slice p8.1 m.ch.length p8.2⟩
theorem MapR.form {w : World} {m : MapV} {s : MapS} (R : MapR w m s) : ∃ p1 p2 p3 p4 p5 p6 p7 p8, s = slS m p1 p2 p3 p4 p5 p6 p7 p8 := by
  obtain ⟨sp, swa, spa, sre, sca, sis, sco, sch⟩ := s
  obtain ⟨a1, c1, e1⟩ := R.p.shape
  obtain ⟨a2, c2, e2⟩ := R.wa.shape
  obtain ⟨a3, c3, e3⟩ := R.pa.shape
  obtain ⟨a4, c4, e4⟩ := R.re.shape
  obtain ⟨a5, c5, e5⟩ := R.ca.shape
  obtain ⟨a6, c6, e6⟩ := R.is.shape
  obtain ⟨a7, c7, e7⟩ := R.co.shape
  obtain ⟨a8, c8, e8⟩ := R.ch.shape
  dsimp only at e1 e2 e3 e4 e5 e6 e7 e8
  subst e1 e2 e3 e4 e5 e6 e7 e8
  exact ⟨(a1, c1), (a2, c2), (a3, c3), (a4, c4), (a5, c5), (a6, c6), (a7, c7), (a8, c8), rfl⟩
theorem Sep.town {w0 w : World} {S : Nat → Prop} {M : List Res} {v : Value} {ls : List Int} {K : Value → World → Prop} (h : Sep w0 S M w) (hv : Ints w v ls)
    (hk : ∀ m p1 p2 p3 p4 p5 p6 p7 p8 w1, TownOk m → Sep w0 S (M ++ [mapX m (slS m p1 p2 p3 p4 p5 p6 p7 p8)]) w1 → K (.agg (m.cells (slS m p1 p2 p3 p4 p5 p6 p7 p8)).toArray) w1) : callsK Tryz.prog 6 #[v] w K := by
  refine h.callN (Q := fun v N => ∃ m s, v = .agg (m.cells s).toArray ∧ TownOk m ∧ N = [mapX m s]) ((town6 ls hv).mono fun ex w' ⟨v, er, m, s, ev, hm, k⟩ => ⟨v, er, _, k, fun q hq x hx => (by simp at hq; subst hq; exact mapX_rd _ _ x hx), m, s, ev, hm, rfl⟩) ?_
  rintro _ _ w1 ⟨m, s, rfl, hm, rfl⟩ h
  have hl : M.length < (M ++ [mapX m s]).length := by simp
  obtain ⟨A, on, _⟩ := h.at (i := M.length) (r := mapX m s) (by rw [List.getElem?_append_right (Nat.le_refl _), Nat.sub_self]; rfl)
  have R : MapR w1 m s := by have := (mapX m s).ok on; rwa [mapX_fact] at this
  obtain ⟨p1, p2, p3, p4, p5, p6, p7, p8, rfl⟩ := R.form
  exact hk m p1 p2 p3 p4 p5 p6 p7 p8 w1 hm h
theorem Sep.enc {w0 w : World} {S : Nat → Prop} {M : List Res} {m : MapV} {s : MapS} {K : Value → World → Prop} (h : Sep w0 S M w) (R : MapR w m s) (O : m.Ok) (hr : m.room ≤ 800000)
    (hk : ∀ a c w1, Sep w0 S (M ++ [byt (.slice a m.bytes.length c) m.bytes]) w1 → K (.tuple #[.slice a m.bytes.length c, .int .i64 (if m.fails then 2 else 0)]) w1) : callsK Tryz.prog 7 #[.agg (m.cells s).toArray] w K := by
  refine Sep.callN h (encode58 m s w R O hr) ?_
  rintro v N w1 ⟨a, c, rfl, rfl⟩ k
  exact hk a c w1 k
theorem Sep.dec {w0 w : World} {S : Nat → Prop} {M : List Res} {m : MapV} {v : Value} {K : Value → World → Prop} (h : Sep w0 S M w) (hr : Rd w v m.bytes) (f : m.Fine) (hb : Byt m.bytes) (hl : m.bytes.length ≤ 99000)
    (hk : ∀ p1 p2 p3 p4 p5 p6 p7 p8 w1, Sep w0 S (M ++ [mapX m (slS m p1 p2 p3 p4 p5 p6 p7 p8)]) w1 → K (.tuple #[.agg (m.cells (slS m p1 p2 p3 p4 p5 p6 p7 p8)).toArray, .int .i64 0]) w1) : callsK Tryz.prog 8 #[v] w K := by
  obtain ⟨d1, d2, _, _⟩ := f.dec
  refine Sep.callN h (decode60 v m.bytes w hr hb hl) ?_
  rintro _ _ w1 ⟨s, rfl, rfl⟩ h
  rw [d1, d2] at *
  obtain ⟨A, on, _⟩ := h.at (i := M.length) (r := mapX m s) (by rw [List.getElem?_append_right (Nat.le_refl _), Nat.sub_self]; rfl)
  have R : MapR w1 m s := by have := (mapX m s).ok on; rwa [mapX_fact] at this
  obtain ⟨p1, p2, p3, p4, p5, p6, p7, p8, rfl⟩ := R.form
  exact hk p1 p2 p3 p4 p5 p6 p7 p8 w1 h
theorem EncOk.ok {m : MapV} (h : EncOk m) : m.Ok := by
  have a1 := h.w; have a2 := h.h; have a3 := h.te; have a4 := h.wi; have a5 := h.mr; have a6 := h.mb; have a7 := h.ti
  refine ⟨?_, fun x hx => ?_, fun x hx => ?_, fun x hx => ?_, fun x hx => ?_, fun x hx => ok64_ca (h.ca x hx), fun x hx => ?_, fun x hx => ?_, fun x hx => ?_⟩
  · intro y hy
    simp only [List.mem_cons, List.not_mem_nil, or_false] at hy
    rcases hy with rfl | rfl | rfl | rfl | rfl | rfl | rfl <;> omega
  · obtain ⟨_, _, rfl, _⟩ := h.p x hx
    intro y hy
    simp only [List.mem_cons, List.not_mem_nil, or_false] at hy
    rcases hy with rfl | rfl <;> omega
  · obtain ⟨_, _, _, _, _, rfl, _⟩ := h.wa x hx
    intro y hy
    simp only [List.mem_cons, List.not_mem_nil, or_false] at hy
    rcases hy with rfl | rfl | rfl | rfl | rfl <;> omega
  · obtain ⟨_, _, rfl, _⟩ := h.pa x hx
    intro y hy
    simp only [List.mem_cons, List.not_mem_nil, or_false] at hy
    rcases hy with rfl | rfl <;> omega
  · obtain ⟨_, _, _, _, t, rfl, _, _, _, _, ⟨v1, v2, v3, _⟩, _⟩ := h.re x hx
    unfold Vp T3.A T3.B T3.C at *
    intro y hy
    simp only [T3.row, List.mem_cons, List.not_mem_nil, or_false] at hy
    rcases hy with rfl | rfl | rfl | rfl | rfl | rfl | rfl | rfl | rfl | rfl <;> omega
  · obtain ⟨_, _, rfl, _⟩ := h.is x hx
    intro y hy
    simp only [List.mem_cons, List.not_mem_nil, or_false] at hy
    rcases hy with rfl | rfl | rfl <;> omega
  · rw [h.co] at hx; cases hx
  · rw [h.ch] at hx; cases hx
theorem EncOk.same {m o : MapV} (h : EncOk m) (k : EncOk o) : m.same o = decide (m.bytes = o.bytes) := by
  by_cases e : m.bytes = o.bytes
  · have d1 := h.fine.dec.2.1
    have d2 := k.fine.dec.2.1
    rw [e, d2] at d1
    rw [decide_eq_true e]
    exact MapV.same_iff.2 d1.symm
  · rw [decide_eq_false e]
    exact MapV.same_no fun q => e (by rw [q])
theorem walkTowns {u v : Value} (l o : List Int) (w : World) (hu : Ints w u l) (hv : Ints w v o) : Calls Tryz.prog 3 [u, v].toArray w (RetK fun r w' => r = .bool true ∧ Chg (fun _ => False) w w') := by
  have h := Sep.nil w
  obtain ⟨a1, c1, rfl⟩ := Tab.shape hu
  obtain ⟨a2, c2, rfl⟩ := Tab.shape hv
  simp only [List.length_map] at hu hv ⊢
  have aw : ∀ {w' : World} {M : List Res} {K : Value → World → Prop}, Sep w (fun _ => False) M w' → (∀ w1, Sep w (fun _ => False) M w1 → K (.bool true) w1) → callsK Tryz.prog 5 [].toArray w' K := fun h hk => Sep.callp h (awake57 _) hk
  refine walk Tryz.func3 rfl (by kernel_rfl) (by rw [Tryz.nt3]; simp) ?_
  replace h := Zd h; have F := Zf4 h
  refine Zv ?_
  by_cases g1 : (80 : Int) < l.length
  · replace h := Zd h; have F := Zf4 h; refine Zs1 (decide_eq_true g1) ?_
    refine aw h ?_
    clear h F
    intro w4 h
    replace h := Zd h; have F := Zf4 h; refine Zs ?_
    exact h.done
  by_cases g2 : (80 : Int) < o.length
  · replace h := Zd h; have F := Zf4 h; refine Zs1 (J (decide_eq_false g1) (decide_eq_true g2)) ?_
    refine aw h ?_
    clear h F
    intro w4 h
    replace h := Zd h; have F := Zf4 h; refine Zs ?_
    exact h.done
  replace h := Zd h; have F := Zf4 h; refine Zs1 (J (decide_eq_false g1) (decide_eq_false g2)) ?_
  refine h.town (Tab.sep hu h fun _ _ f => f) ?_
  clear h F
  intro m p1 p2 p3 p4 p5 p6 p7 p8 w1 hm h
  replace h := Zd h; have F := Zf4 h; refine Zs ?_
  refine h.town (Tab.sep hv h fun _ _ f => f) ?_
  clear h F
  intro n q1 q2 q3 q4 q5 q6 q7 q8 w2 hn h
  replace h := Zd h; have F := Zf4 h; refine Zc1 (J (@MapV.cells.eq_1) (@slS.eq_1)) ?_
  refine h.new ?_
  clear h F
  intro _ b5 h
  replace h := Zd h; have F := Zf4 h; refine Zc1 (J (@MapV.cells.eq_1) (@slS.eq_1)) ?_
  refine h.new ?_
  clear h F
  intro _ b6 h
  replace h := Zd h; have F := Zf4 h; refine Zc1 (J (@MapV.cells.eq_1) (@slS.eq_1)) ?_
  refine Sep.put 2 h rfl ?_
  clear h F
  intro _ h
  replace h := Zd h; have F := Zf4 h; refine Zc1 (J (@MapV.cells.eq_1) (@slS.eq_1)) ?_
  refine Sep.put 3 h rfl ?_
  clear h F
  intro _ h
  replace h := Zd h; have F := Zf4 h; refine Zc1 (J (@MapV.cells.eq_1) (@slS.eq_1)) ?_
  have em := hm.enc
  have en := hn.enc
  have bm := m.bytes_byt em.byt
  have bn := n.bytes_byt en.byt
  have lm := em.len
  have ln := en.len
  refine Sep.enc (s := slS m p1 p2 p3 p4 p5 p6 p7 p8) h F.1 em.ok em.room ?_
  clear h F
  intro a7 c7 w7 h
  rw [em.fails]
  replace h := Zd h; have F := Zf4 h; refine Zc1 (J (@MapV.cells.eq_1) (@slS.eq_1)) ?_
  refine Sep.enc (s := slS n q1 q2 q3 q4 q5 q6 q7 q8) h F.2.1 en.ok en.room ?_
  clear h F
  intro a9 c9 w9 h
  rw [en.fails]
  replace h := Zd h; have F := Zf4 h; refine Zc1 (J (@MapV.cells.eq_1) (@slS.eq_1)) ?_
  refine Sep.dec h F.2.2.2.2.1 em.fine bm (by omega) ?_
  clear h F
  intro r1 r2 r3 r4 r5 r6 r7 r8 w10 h
  replace h := Zd h; have F := Zf4 h; refine Zc1 (J (@MapV.cells.eq_1) (@slS.eq_1)) ?_
  refine h.new ?_
  clear h F
  intro _ b11 h
  replace h := Zd h; have F := Zf4 h; refine Zc1 (J (@MapV.cells.eq_1) (@slS.eq_1)) ?_
  refine Sep.put 7 h rfl ?_
  clear h F
  intro _ h
  replace h := Zd h; have F := Zf4 h; refine Zc1 (J (@MapV.cells.eq_1) (@slS.eq_1)) ?_
  refine walkDraw (.q 0 (.q 1 (.q 2 (.q 3 (.q 4 (.q 5 (.q 6 (.q 7 (.q 8 (.q 9 (.q 10 (.h 11 30 (.h 12 0 (.l 13 (.q 14 (.q 15 (.q 19 (.q 21 (.h 16 0 (.h 17 15 (.lll 18 (.ll 20 (.l 22 (.q 23 (.q 24 (.q 25 (.q 26 (.l 27 (.q 28 (.q 29 .fin)))))))) 22 (.l 20 (.q 23 (.q 24 (.q 25 (.q 26 (.l 27 (.q 28 (.q 29 .fin))))))))) 20 (.ll 18 (.l 22 (.q 23 (.q 24 (.q 25 (.q 26 (.l 27 (.q 28 (.q 29 .fin)))))))) 22 (.q 23 (.l 18 (.q 24 (.q 25 (.q 26 (.l 27 (.q 28 (.q 29 .fin))))))))) 22 (.ll 18 (.l 20 (.q 23 (.q 24 (.q 25 (.q 26 (.l 27 (.q 28 (.q 29 .fin)))))))) 20 (.q 23 (.l 18 (.q 24 (.q 25 (.q 26 (.l 27 (.q 28 (.q 29 .fin)))))))))))))))))))))))))))))) [(b5, 0, .int .i64 m.w), (b5, 1, .int .i64 m.h), (b5, 2, .int .i64 m.te), (b5, 3, .int .i64 m.wi), (b5, 4, .int .i64 m.mr), (b5, 5, .int .i64 m.mb), (b5, 6, .int .i64 m.ti), (b5, 7, .slice p1.1 m.p.length p1.2), (b5, 8, .slice p2.1 m.wa.length p2.2), (b5, 9, .slice p3.1 m.pa.length p3.2), (b5, 10, .slice p4.1 m.re.length p4.2), (b5, 11, .slice p5.1 m.ca.length p5.2), (b5, 12, .slice p6.1 m.is.length p6.2), (b5, 13, .slice p7.1 m.co.length p7.2), (b5, 14, .slice p8.1 m.ch.length p8.2), (b6, 0, .int .i64 n.w), (b6, 1, .int .i64 n.h), (b6, 2, .int .i64 n.te), (b6, 3, .int .i64 n.wi), (b6, 4, .int .i64 n.mr), (b6, 5, .int .i64 n.mb), (b6, 6, .int .i64 n.ti), (b6, 7, .slice q1.1 n.p.length q1.2), (b6, 8, .slice q2.1 n.wa.length q2.2), (b6, 9, .slice q3.1 n.pa.length q3.2), (b6, 10, .slice q4.1 n.re.length q4.2), (b6, 11, .slice q5.1 n.ca.length q5.2), (b6, 12, .slice q6.1 n.is.length q6.2), (b6, 13, .slice q7.1 n.co.length q7.2), (b6, 14, .slice q8.1 n.ch.length q8.2), (b11, 0, .int .i64 m.w), (b11, 1, .int .i64 m.h), (b11, 2, .int .i64 m.te), (b11, 3, .int .i64 m.wi), (b11, 4, .int .i64 m.mr), (b11, 5, .int .i64 m.mb), (b11, 6, .int .i64 m.ti), (b11, 7, .slice r1.1 m.p.length r1.2), (b11, 8, .slice r2.1 m.wa.length r2.2), (b11, 9, .slice r3.1 m.pa.length r3.2), (b11, 10, .slice r4.1 m.re.length r4.2), (b11, 11, .slice r5.1 m.ca.length r5.2), (b11, 12, .slice r6.1 m.is.length r6.2), (b11, 13, .slice r7.1 m.co.length r7.2), (b11, 14, .slice r8.1 m.ch.length r8.2)] (by kernel_rfl) (by simp [Holds_nil, Holds_cons, F]) ?_
  refine h.draw ?_
  clear h F
  intro _ h
  obtain ⟨z, hz⟩ : ∃ z, decide (m.bytes = n.bytes) = z := ⟨_, rfl⟩
  have es := (strOfNums_eq bm bn).trans hz
  have e2 := (em.same en).trans hz
  replace h := Zd h; have F := Zf4 h; try simp -dsimp only [↓vcA, vcB, vcD, ↓pureT_lenS, ↓iteT, ↓iteF, cond_true, cond_false, eq_self, argE, Env.get, Env.push, ev, evs, evo, retV, Value.cells, Value.oneCell', setR, overR, fillL, zl, places, allSizes, heldC, ne_eq, Int.reduceLE, Int.reduceLT, Int.reduceEq, Int.reduceNe, Int.reduceToNat, Int.cast_ofNat_Int, Nat.reduceMul, Nat.reduceLeDiff, reduceIte, Nat.reduceEqDiff, Nat.reduceAdd, ↓reduceIte, Tryz.vcT, F, h.cell0, gets, vsD, if_true, if_false, Bool.false_eq_true,  MapV.cells, slS, cellsAt, Holds_nil, Holds_cons, es, beq_self_eq_true, decide_true]
  refine Sep.callp h (same63 m m (slS m r1 r2 r3 r4 r5 r6 r7 r8) (slS m p1 p2 p3 p4 p5 p6 p7 p8) _ F.2.2.2.2.2.2.1 F.1 em.byt em.byt) ?_
  clear h F
  intro _ h
  rw [MapV.same_iff.2 rfl]
  replace h := Zd h; have F := Zf4 h; try simp -dsimp only [↓vcA, vcB, vcD, ↓pureT_lenS, ↓iteT, ↓iteF, cond_true, cond_false, eq_self, argE, Env.get, Env.push, ev, evs, evo, retV, Value.cells, Value.oneCell', setR, overR, fillL, zl, places, allSizes, heldC, ne_eq, Int.reduceLE, Int.reduceLT, Int.reduceEq, Int.reduceNe, Int.reduceToNat, Int.cast_ofNat_Int, Nat.reduceMul, Nat.reduceLeDiff, reduceIte, Nat.reduceEqDiff, Nat.reduceAdd, ↓reduceIte, Tryz.vcT, F, h.cell0, gets, vsD, if_true, if_false, Bool.false_eq_true,  MapV.cells, slS, cellsAt, Holds_nil, Holds_cons, es, beq_self_eq_true, decide_true]
  repeat' (first
    | refine And.intro ?_ ?_
    | (refine Sep.callp h (same63 m n (slS m p1 p2 p3 p4 p5 p6 p7 p8) (slS n q1 q2 q3 q4 q5 q6 q7 q8) _ F.1 F.2.1 em.byt en.byt) ?_; clear h F; intro _ h; rw [e2]; replace h := Zd h; have F := Zf4 h; try simp -dsimp only [↓vcA, vcB, vcD, ↓pureT_lenS, ↓iteT, ↓iteF, cond_true, cond_false, eq_self, argE, Env.get, Env.push, ev, evs, evo, retV, Value.cells, Value.oneCell', setR, overR, fillL, zl, places, allSizes, heldC, ne_eq, Int.reduceLE, Int.reduceLT, Int.reduceEq, Int.reduceNe, Int.reduceToNat, Int.cast_ofNat_Int, Nat.reduceMul, Nat.reduceLeDiff, reduceIte, Nat.reduceEqDiff, Nat.reduceAdd, ↓reduceIte, Tryz.vcT, F, h.cell0, gets, vsD, if_true, if_false, Bool.false_eq_true,  MapV.cells, slS, cellsAt, Holds_nil, Holds_cons, es, beq_self_eq_true, decide_true])
    | (refine str_rule F.2.2.2.2.1 ?_; replace h := Zd h; have F := Zf4 h; try simp -dsimp only [↓vcA, vcB, vcD, ↓pureT_lenS, ↓iteT, ↓iteF, cond_true, cond_false, eq_self, argE, Env.get, Env.push, ev, evs, evo, retV, Value.cells, Value.oneCell', setR, overR, fillL, zl, places, allSizes, heldC, ne_eq, Int.reduceLE, Int.reduceLT, Int.reduceEq, Int.reduceNe, Int.reduceToNat, Int.cast_ofNat_Int, Nat.reduceMul, Nat.reduceLeDiff, reduceIte, Nat.reduceEqDiff, Nat.reduceAdd, ↓reduceIte, Tryz.vcT, F, h.cell0, gets, vsD, if_true, if_false, Bool.false_eq_true,  MapV.cells, slS, cellsAt, Holds_nil, Holds_cons, es, beq_self_eq_true, decide_true])
    | (refine str_rule F.2.2.2.2.2.1 ?_; replace h := Zd h; have F := Zf4 h; try simp -dsimp only [↓vcA, vcB, vcD, ↓pureT_lenS, ↓iteT, ↓iteF, cond_true, cond_false, eq_self, argE, Env.get, Env.push, ev, evs, evo, retV, Value.cells, Value.oneCell', setR, overR, fillL, zl, places, allSizes, heldC, ne_eq, Int.reduceLE, Int.reduceLT, Int.reduceEq, Int.reduceNe, Int.reduceToNat, Int.cast_ofNat_Int, Nat.reduceMul, Nat.reduceLeDiff, reduceIte, Nat.reduceEqDiff, Nat.reduceAdd, ↓reduceIte, Tryz.vcT, F, h.cell0, gets, vsD, if_true, if_false, Bool.false_eq_true,  MapV.cells, slS, cellsAt, Holds_nil, Holds_cons, es, beq_self_eq_true, decide_true])
    | (refine aw h ?_; clear h F; intro _ h; replace h := Zd h; have F := Zf4 h; try simp -dsimp only [↓vcA, vcB, vcD, ↓pureT_lenS, ↓iteT, ↓iteF, cond_true, cond_false, eq_self, argE, Env.get, Env.push, ev, evs, evo, retV, Value.cells, Value.oneCell', setR, overR, fillL, zl, places, allSizes, heldC, ne_eq, Int.reduceLE, Int.reduceLT, Int.reduceEq, Int.reduceNe, Int.reduceToNat, Int.cast_ofNat_Int, Nat.reduceMul, Nat.reduceLeDiff, reduceIte, Nat.reduceEqDiff, Nat.reduceAdd, ↓reduceIte, Tryz.vcT, F, h.cell0, gets, vsD, if_true, if_false, Bool.false_eq_true,  MapV.cells, slS, cellsAt, Holds_nil, Holds_cons, es, beq_self_eq_true, decide_true])
    | exact h.done)
  all_goals trace_state
end Go.Proofs.YtnhgjgoglmadnaaGreat
