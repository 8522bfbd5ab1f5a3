/- Caches: the law of what is swept, as a contract. No statement of the seat is proved here. -/
import Derived.Test.YtfkdfnookacgiaaCa6
import Derived.Test.YtfkdfnookacgiaaDec
set_option linter.unusedVariables false
set_option linter.unusedSimpArgs false
namespace Go.Proofs.Ytfkdfnookacgiaa
open Go
attribute [local irreducible] Wp
theorem lowC_dig {n : Nat} (h : n < 10) : lowC (digB n) = digB n := by
  unfold lowC
  have : (digB n).toNat = 48 + n := by simp [digB]; omega
  rw [if_neg (by omega)]
theorem lowB_dec {n : Nat} (h : n < 100) : lowB (decB n) = decB n := by
  unfold decB lowB
  split
  · simp [lowC_dig (by omega : n < 10)]
  · simp [lowC_dig (by omega : n / 10 < 10), lowC_dig (by omega : n % 10 < 10)]
def kI (i : Nat) : Ck := ⟨decB i, 1⟩
theorem kI_inj {i j : Nat} (hi : i < 100) (hj : j < 100) (h : kI i = kI j) : i = j := decB_inj hi hj (congrArg Ck.name h)
theorem decB_len (i : Nat) : (decB i).length ≤ 2 := by unfold decB; split <;> simp
/-- The lifetimes that stand in the list. -/
def tl (l : List Int) (m : Int) (i : Nat) : Int := 1 + aroundZ (l.getD i 0) m
theorem tl_get {l : List Int} {m : Int} {i : Nat} (h : i < l.length) : tl l m i = 1 + aroundZ l[i] m := by unfold tl; simp [h]
theorem tl_range (l : List Int) (m : Int) (hm : 1 ≤ m) (i : Nat) : 1 ≤ tl l m i ∧ tl l m i ≤ m := by
  unfold tl
  have := around_range (l.getD i 0) m hm
  omega
/-- What was put of the first i. -/
def PutsOf (l : List Int) (n : Int) (i : Nat) (m : CaM) : Prop := (m.map fun x => (x.1, x.2.till)).Perm ((List.range i).map fun j => (kI j, tl l n j))
theorem PutsOf.len {l : List Int} {n : Int} {i : Nat} {m : CaM} (h : PutsOf l n i m) : m.length = i := by have := h.length_eq; simpa using this
theorem PutsOf.mem {l : List Int} {n : Int} {i : Nat} {m : CaM} (h : PutsOf l n i m) {x : Ck × Cv} (hx : x ∈ m) : ∃ j, j < i ∧ x.1 = kI j ∧ x.2.till = tl l n j := by
  have : (x.1, x.2.till) ∈ m.map fun x => (x.1, x.2.till) := List.mem_map.2 ⟨x, hx, rfl⟩
  obtain ⟨j, hj, e⟩ := List.mem_map.1 (h.mem_iff.1 this)
  simp only [Prod.mk.injEq] at e
  exact ⟨j, List.mem_range.1 hj, e.1.symm, e.2.symm⟩
theorem PutsOf.new {l : List Int} {n : Int} {i : Nat} {m : CaM} (h : PutsOf l n i m) (hi : i < 100) : ∀ x ∈ m, ¬ kI i = x.1 := fun x hx e => by
  obtain ⟨j, hj, e2, _⟩ := h.mem hx
  have := kI_inj hi (by omega) (e.trans e2)
  omega
theorem PutsOf.nd {l : List Int} {n : Int} {i : Nat} {m : CaM} (h : PutsOf l n i m) (hi : i ≤ 100) : NdC m := by
  unfold NdC
  have h2 := h.map (·.1)
  rw [List.map_map, List.map_map] at h2
  have e : m.map ((fun x : Ck × Int => x.1) ∘ fun x : Ck × Cv => (x.1, x.2.till)) = m.map (·.1) := rfl
  rw [e] at h2
  refine h2.nodup_iff.2 ?_
  rw [List.nodup_iff_pairwise_ne, List.pairwise_map]
  refine List.Pairwise.imp_of_mem (fun {a b} ha hb hab e => ?_) (List.nodup_iff_pairwise_ne.1 (List.nodup_range (n := i)))
  exact hab (kI_inj (by have := List.mem_range.1 ha; omega) (by have := List.mem_range.1 hb; omega) e)
theorem PutsOf.put {l : List Int} {n : Int} {i : Nat} {m : CaM} (h : PutsOf l n i m) (hi : i < 100) (cv : Cv) (hcv : cv.till = tl l n i) : PutsOf l n (i + 1) (mput (kI i) cv m) := by
  unfold PutsOf
  have h1 := (mputC_perm (kI i) cv m (h.nd (by omega))).map (fun x => (x.1, x.2.till))
  have h2 : (m.filter fun x => decide (¬ kI i = x.1)) = m := by rw [List.filter_eq_self]; intro x hx; exact decide_eq_true (h.new hi x hx)
  rw [h2, List.map_cons, hcv] at h1
  rw [List.range_succ, List.map_append]
  exact h1.trans ((h.cons _).trans (List.perm_append_comm (l₁ := [(kI i, tl l n i)])))
def overN (l : List Int) (n now : Int) (i : Nat) : Nat := (List.range i).countP fun j => decide (tl l n j ≤ now)
theorem overN_succ (l : List Int) (n now : Int) (i : Nat) : overN l n now (i + 1) = overN l n now i + if tl l n i ≤ now then 1 else 0 := by
  unfold overN
  rw [List.range_succ, List.countP_append]
  congr 1
  by_cases h : tl l n i ≤ now <;> simp [h]
theorem overN_le (l : List Int) (n now : Int) (i : Nat) : overN l n now i ≤ i := by
  have := List.countP_le_length (p := fun j => decide (tl l n j ≤ now)) (l := List.range i)
  simpa [overN] using this
theorem PutsOf.over {l : List Int} {n now : Int} {i : Nat} {m : CaM} (h : PutsOf l n i m) : (overC now m).length + overN l n now i = i := by
  have h1 : m.countP (fun x => decide (x.2.till ≤ now)) = overN l n now i := by
    have := h.countP_eq (p := fun x : Ck × Int => decide (x.2 ≤ now))
    rw [List.countP_map, List.countP_map] at this
    exact this
  have h2 := List.length_eq_countP_add_countP (p := fun x : Ck × Cv => decide (x.2.till ≤ now)) (l := m)
  have h3 : (overC now m).length = m.countP (fun x => !(decide (x.2.till ≤ now))) := by unfold overC; rw [List.countP_eq_length_filter]
  rw [h.len] at h2
  rw [h3]
  have h4 : m.countP (fun x => !(decide (x.2.till ≤ now))) = m.countP (fun x => decide ¬decide (x.2.till ≤ now) = true) := by
    congr 1; funext x; by_cases hx : x.2.till ≤ now <;> simp [hx]
  omega
theorem overC_twice (now : Int) (m : CaM) : overC now (overC now m) = overC now m := by unfold overC; rw [List.filter_filter]; congr 1; funext x; simp
theorem PutsOf.has {l : List Int} {n now : Int} {i : Nat} {m : CaM} (h : PutsOf l n i m) (hi : i ≤ 100) {j : Nat} (hj : j < i) : (mget (kI j) (overC now m)).isSome = decide (now < tl l n j) := by
  have hnd := (h.nd hi)
  have hmem : (kI j, tl l n j) ∈ m.map fun x => (x.1, x.2.till) := h.mem_iff.2 (List.mem_map.2 ⟨j, List.mem_range.2 hj, rfl⟩)
  obtain ⟨x, hx, e⟩ := List.mem_map.1 hmem
  simp only [Prod.mk.injEq] at e
  by_cases ht : now < tl l n j
  · have hin : x ∈ overC now m := List.mem_filter.2 ⟨hx, by simp [e.2]; omega⟩
    have := (hnd.sub List.filter_sublist : NdC (overC now m)).get hin
    rw [← e.1, this]; simp [ht]
  · have : (mget (kI j) (overC now m)).isSome = false := by
      refine mgetC_none.2 fun y hy e2 => ?_
      obtain ⟨hym, hyt⟩ := List.mem_filter.1 hy
      have : y = x := by
        have a1 := hnd.get hym
        have a2 := hnd.get hx
        rw [← e2, ← e.1, a2] at a1
        injection a1 with a1
        exact Prod.ext (e2.symm.trans e.1.symm) a1.symm
      subst this
      rw [e.2] at hyt
      simp at hyt; omega
    rw [this]; simp [ht]

set_option maxRecDepth 4000 in
theorem law10_Sweeps (l : List Int) (vl : Value) (now0 : Int) (g : G) (hr : Rdx g El.int vl l) (hels : ∀ x ∈ l, -9223372036854775808 ≤ x ∧ x ≤ 9223372036854775807) (hn0 : -9223372036854775808 ≤ now0 ∧ now0 ≤ 9223372036854775807) :
    Fn Try.prog 4 [vl, .int .i64 now0] g [] fun u _ => u = .bool true := by
  refine enterG [] [51, 52] Try.func4 rfl Try.ntmps4 rfl (by simp) fun g1 hv ho => ?_
  replace hr := hr.seen hv ho
  obtain ⟨cl, hcl, hr⟩ := hr
  have hlm := hr.isSl.le
  repeat (first|refine q1 ?_|refine q2 ?_|refine q3 ?_|refine q4 ?_|refine q5 ?_|refine q6 ?_|refine w_seq ?_|refine w_region ?_|refine w_ops_nil ?_|refine w_skip ?_|refine w_block ?_|refine w_blk ?_|refine q7 ?_|refine q8 ?_|refine q9 ?_)
  refine w_callF (vs := [.int .i64 64]) rfl (cache_New 64 g1) rfl fun u h1 hs1 hR => ?_
  obtain ⟨p, rfl, hb⟩ := hR
  have hst : Step [] [51, 52] g1 h1 := hs1.mono (by simp) (by simp)
  rw [show roomZ 64 = 64 by decide] at hb
  replace hr := hr.go hs1
  repeat (first|refine q1 ?_|refine q2 ?_|refine q3 ?_|refine q4 ?_|refine q5 ?_|refine q6 ?_|refine w_seq ?_|refine w_region ?_|refine w_ops_nil ?_|refine w_skip ?_|refine w_block ?_|refine w_blk ?_|refine q7 ?_|refine q8 ?_|refine q9 ?_)
  refine w_ptrEqNil rfl rfl rfl ?_
  repeat (first|refine q1 ?_|refine q2 ?_|refine q3 ?_|refine q4 ?_|refine q5 ?_|refine q6 ?_|refine w_seq ?_|refine w_region ?_|refine w_ops_nil ?_|refine w_skip ?_|refine w_block ?_|refine w_blk ?_|refine q7 ?_|refine q8 ?_|refine q9 ?_)
  refine w_cond rfl (fun h => by cases h) (fun _ => ?_)
  repeat (first|refine q1 ?_|refine q2 ?_|refine q3 ?_|refine q4 ?_|refine q5 ?_|refine q6 ?_|refine w_seq ?_|refine w_region ?_|refine w_ops_nil ?_|refine w_skip ?_|refine w_block ?_|refine w_blk ?_|refine q7 ?_|refine q8 ?_|refine q9 ?_)
  refine w_callF (vs := [.int .i64 now0, .int .i64 120]) rfl (ref01_Around now0 120 h1 hn0 (by omega)) rfl fun u h2 hs2 hu => ?_
  subst hu
  have har := around_range now0 120 (by omega)
  generalize aroundZ now0 120 = now at har
  replace hst := hst.go hs2; replace hr := hr.go hs2; replace hb := hb.go hs2
  repeat (first|refine q1 ?_|refine q2 ?_|refine q3 ?_|refine q4 ?_|refine q5 ?_|refine q6 ?_|refine w_seq ?_|refine w_region ?_|refine w_ops_nil ?_|refine w_skip ?_|refine w_block ?_|refine w_blk ?_|refine q7 ?_|refine q8 ?_|refine q9 ?_)
  refine w_lenSl hr.isSl rfl rfl ?_
  refine w_min rfl rfl rfl ?_
  obtain ⟨n, hn⟩ : ∃ n, min l.length 20 = n := ⟨_, rfl⟩
  refine w_known 21 (.int .i64 (n : Int)) rfl (congrArg (Value.int .i64) (by omega)) ?_
  clear hs1 hs2
  repeat (first|refine q1 ?_|refine q2 ?_|refine q3 ?_|refine q4 ?_|refine q5 ?_|refine q6 ?_|refine w_seq ?_|refine w_region ?_|refine w_ops_nil ?_|refine w_skip ?_|refine w_blk ?_|refine q7 ?_|refine q8 ?_|refine q9 ?_)
  refine w_cut (ι := Unit) (fun _ => [(0, vl), (1, .int .i64 now), (5, .pointer (some ⟨p, 0, none⟩)), (6, .int .i64 (overN l 100 now n : Int)), (7, .int .i64 (n : Int))])
    (fun _ w => ∃ h m, h.w = w ∧ Step [] [51, 52] h2 h ∧ Cm h p 64 m ∧ PutsOf l 100 n m) ?_ ?_
  · repeat (first|refine q1 ?_|refine q2 ?_|refine q3 ?_|refine q4 ?_|refine q5 ?_|refine q6 ?_|refine w_seq ?_|refine w_region ?_|refine w_ops_nil ?_|refine w_skip ?_|refine w_block ?_|refine w_blk ?_|refine q7 ?_|refine q8 ?_|refine q9 ?_)
    refine w_loop (ι := Nat) (fun i => [(0, vl), (1, .int .i64 now), (5, .pointer (some ⟨p, 0, none⟩)), (6, .int .i64 (overN l 100 now i : Int)), (7, .int .i64 (n : Int)), (8, .int .i64 (i : Int))])
      (fun i w => ∃ h m, h.w = w ∧ Step [] [51, 52] h2 h ∧ Cm h p 64 m ∧ PutsOf l 100 i m ∧ i ≤ n) (fun i => n - i) 0 ⟨h2, [], rfl, Step.refl _ _ _, hb, List.Perm.refl _, by omega⟩ ⟨rfl, rfl, rfl, rfl, rfl, rfl, trivial⟩ ?_
    clear hb
    rintro i _ ⟨h, m, rfl, hst2, hb, hpu, hi⟩
    replace hst := hst.go hst2; replace hr := hr.go hst2
    have hol := overN_le l 100 now i
    repeat (first|refine q1 ?_|refine q2 ?_|refine q3 ?_|refine q4 ?_|refine q5 ?_|refine q6 ?_|refine w_seq ?_|refine w_region ?_|refine w_ops_nil ?_|refine w_skip ?_|refine w_block ?_|refine w_blk ?_|refine q7 ?_|refine q8 ?_|refine q9 ?_)
    refine w_condP rfl (fun hlt => ?_) (fun hlt => ?_)
    · have hlt : i < n := by omega
      have hltl : i < l.length := by omega
      have hgk : l[((i : Int)).toNat]? = some l[i] := by simp [hltl]
      have hkr := hels l[i] (List.getElem_mem hltl)
      have htl := tl_get (m := 100) hltl
      have htr := tl_range l 100 (by omega) i
      have hon := overN_succ l 100 now i
      repeat (first|refine q1 ?_|refine q2 ?_|refine q3 ?_|refine q4 ?_|refine q5 ?_|refine q6 ?_|refine w_seq ?_|refine w_region ?_|refine w_ops_nil ?_|refine w_skip ?_|refine w_block ?_|refine w_blk ?_|refine q7 ?_|refine q8 ?_|refine q9 ?_)
      refine w_idx hr rfl rfl (by omega) (by omega) rfl ?_
      refine w_loadE (i := ((i : Int)).toNat) (y := l[i]) hr rfl hgk rfl rfl ?_
      refine w_callF (vs := [.int .i64 l[i], .int .i64 100]) rfl (ref01_Around l[i] 100 h hkr (by omega)) rfl fun u h3 hs3 hu => ?_
      subst hu
      replace hst := hst.go hs3; replace hst2 := hst2.go hs3; replace hr := hr.go hs3; replace hb := hb.go hs3
      have ha100 := around_range l[i] 100 (by omega)
      repeat (first|refine q1 ?_|refine q2 ?_|refine q3 ?_|refine q4 ?_|refine q5 ?_|refine q6 ?_|refine w_seq ?_|refine w_region ?_|refine w_ops_nil ?_|refine w_skip ?_|refine w_block ?_|refine w_blk ?_|refine q7 ?_|refine q8 ?_|refine q9 ?_)
      refine w_known 9 (.int .i64 (tl l 100 i)) rfl (congrArg (Value.int .i64) htl.symm) ?_
      repeat (first|refine q1 ?_|refine q2 ?_|refine q3 ?_|refine q4 ?_|refine q5 ?_|refine q6 ?_|refine w_seq ?_|refine w_region ?_|refine w_ops_nil ?_|refine w_skip ?_|refine w_block ?_|refine w_blk ?_|refine q7 ?_|refine q8 ?_|refine q9 ?_)
      refine w_callF (vs := [.int .i64 (i : Int)]) rfl (ref01_Dec i h3 (by omega)) rfl fun u h4 hs4 hu => ?_
      subst hu
      replace hst := hst.go hs4; replace hst2 := hst2.go hs4; replace hr := hr.go hs4; replace hb := hb.go hs4
      have hdl := decB_len i
      repeat (first|refine q1 ?_|refine q2 ?_|refine q3 ?_|refine q4 ?_|refine q5 ?_|refine q6 ?_|refine w_seq ?_|refine w_region ?_|refine w_ops_nil ?_|refine w_skip ?_|refine w_block ?_|refine w_blk ?_|refine q7 ?_|refine q8 ?_|refine q9 ?_)
      refine w_callF (vs := [.pointer (some ⟨p, 0, none⟩), str (decB i), .int .i64 1, .slice none 0 0, .int .i64 (tl l 100 i), .int .i64 0]) rfl
        (Cache_Put p 64 m (decB i) 1 [] (.slice none 0 0) (tl l 100 i) 0 h4 hb (hpu.nd (by omega)) (by rw [hpu.len]; omega) (by omega) (by omega) ⟨0, by omega, Rd.nil _ _ _ none 0 (by decide)⟩ (by simp) (by omega) (kI i) (by rw [lowB_dec (by omega)]; rfl)) rfl fun u h5 hs5 hR => ?_
      unfold PutC at hR
      rw [if_neg (by omega), pre_no (by rw [hpu.len]; omega)] at hR
      obtain ⟨cv, _, hct, rfl, hb⟩ := hR
      replace hpu := hpu.put (by omega) cv (by rw [hct]; omega)
      have hb : Cm h5 p 64 (mput (kI i) cv m) := hb
      replace hst := hst.go hs5; replace hst2 := hst2.go hs5; replace hr := hr.go hs5
      repeat (first|refine q1 ?_|refine q2 ?_|refine q3 ?_|refine q4 ?_|refine q5 ?_|refine q6 ?_|refine w_seq ?_|refine w_region ?_|refine w_ops_nil ?_|refine w_skip ?_|refine w_block ?_|refine w_blk ?_|refine q7 ?_|refine q8 ?_|refine q9 ?_)
      refine w_condP rfl (fun hx => ?_) (fun hx => ?_)
      · rw [if_pos hx] at hon
        repeat (first|refine q1 ?_|refine q2 ?_|refine q3 ?_|refine q4 ?_|refine q5 ?_|refine q6 ?_|refine w_seq ?_|refine w_region ?_|refine w_ops_nil ?_|refine w_skip ?_|refine w_block ?_|refine w_blk ?_|refine q7 ?_|refine q8 ?_|refine q9 ?_)
        exact w_again (i + 1) (by omega) ⟨h5, _, rfl, hst2, hb, hpu, by omega⟩ ⟨rfl, rfl, rfl, congrArg (fun z => some (Value.int .i64 z)) (by rw [hon]; push_cast; rfl), rfl, rfl, trivial⟩
      · rw [if_neg hx] at hon
        repeat (first|refine q1 ?_|refine q2 ?_|refine q3 ?_|refine q4 ?_|refine q5 ?_|refine q6 ?_|refine w_seq ?_|refine w_region ?_|refine w_ops_nil ?_|refine w_skip ?_|refine w_block ?_|refine w_blk ?_|refine q7 ?_|refine q8 ?_|refine q9 ?_)
        exact w_again (i + 1) (by omega) ⟨h5, _, rfl, hst2, hb, hpu, by omega⟩ ⟨rfl, rfl, rfl, congrArg (fun z => some (Value.int .i64 z)) (by rw [hon]; rfl), rfl, rfl, trivial⟩
    · have e : i = n := by omega
      subst e
      repeat (first|refine q1 ?_|refine q2 ?_|refine q3 ?_|refine q4 ?_|refine q5 ?_|refine q6 ?_|refine w_seq ?_|refine w_region ?_|refine w_ops_nil ?_|refine w_skip ?_|refine w_block ?_|refine w_blk ?_|refine q7 ?_|refine q8 ?_|refine q9 ?_)
      exact w_meet () ⟨h, m, rfl, hst2, hb, hpu⟩ ⟨rfl, rfl, rfl, rfl, rfl, trivial⟩
  clear hb
  rintro _ _ ⟨h, m, rfl, hst2, hb, hpu⟩
  replace hst := hst.go hst2; replace hr := hr.go hst2
  have hov := hpu.over (now := now)
  have hml := hpu.len
  have hnd := hpu.nd (by omega)
  repeat (first|refine q1 ?_|refine q2 ?_|refine q3 ?_|refine q4 ?_|refine q5 ?_|refine q6 ?_|refine w_seq ?_|refine w_region ?_|refine w_ops_nil ?_|refine w_skip ?_|refine w_block ?_|refine w_blk ?_|refine q7 ?_|refine q8 ?_|refine q9 ?_)
  refine w_callF (vs := [.pointer (some ⟨p, 0, none⟩), .int .i64 now]) rfl (Cache_Sweep p 64 m now h hb hnd (by omega)) rfl fun u h3 hs3 hR => ?_
  obtain ⟨rfl, hb⟩ := hR
  replace hst := hst.go hs3; replace hr := hr.go hs3
  repeat (first|refine q1 ?_|refine q2 ?_|refine q3 ?_|refine q4 ?_|refine q5 ?_|refine q6 ?_|refine w_seq ?_|refine w_region ?_|refine w_ops_nil ?_|refine w_skip ?_|refine w_block ?_|refine w_blk ?_|refine q7 ?_|refine q8 ?_|refine q9 ?_)
  refine w_known 48 (.bool false) rfl (congrArg Value.bool (decide_eq_false (fun h => h (by omega)))) ?_
  repeat (first|refine q1 ?_|refine q2 ?_|refine q3 ?_|refine q4 ?_|refine q5 ?_|refine q6 ?_|refine w_seq ?_|refine w_region ?_|refine w_ops_nil ?_|refine w_skip ?_|refine w_block ?_|refine w_blk ?_|refine q7 ?_|refine q8 ?_|refine q9 ?_)
  refine w_callF (vs := [.pointer (some ⟨p, 0, none⟩), .int .i64 now]) rfl (Cache_Sweep p 64 (overC now m) now h3 hb (hnd.sub List.filter_sublist) (by omega)) rfl fun u h4 hs4 hR => ?_
  obtain ⟨rfl, hb⟩ := hR
  rw [overC_twice] at hb ⊢
  replace hst := hst.go hs4; replace hr := hr.go hs4
  repeat (first|refine q1 ?_|refine q2 ?_|refine q3 ?_|refine q4 ?_|refine q5 ?_|refine q6 ?_|refine w_seq ?_|refine w_region ?_|refine w_ops_nil ?_|refine w_skip ?_|refine w_block ?_|refine w_blk ?_|refine q7 ?_|refine q8 ?_|refine q9 ?_)
  refine w_known 54 (.bool false) rfl (congrArg Value.bool (decide_eq_false (fun h => h (by omega)))) ?_
  repeat (first|refine q1 ?_|refine q2 ?_|refine q3 ?_|refine q4 ?_|refine q5 ?_|refine q6 ?_|refine w_seq ?_|refine w_region ?_|refine w_ops_nil ?_|refine w_skip ?_|refine w_block ?_|refine w_blk ?_|refine q7 ?_|refine q8 ?_|refine q9 ?_)
  refine w_callF (vs := [.pointer (some ⟨p, 0, none⟩)]) rfl (Cache_Len p 64 (overC now m) h4 hb) rfl fun u h5 hs5 hu => ?_
  subst hu
  replace hst := hst.go hs5; replace hr := hr.go hs5; replace hb := hb.go hs5
  repeat (first|refine q1 ?_|refine q2 ?_|refine q3 ?_|refine q4 ?_|refine q5 ?_|refine q6 ?_|refine w_seq ?_|refine w_region ?_|refine w_ops_nil ?_|refine w_skip ?_|refine w_block ?_|refine w_blk ?_|refine q7 ?_|refine q8 ?_|refine q9 ?_)
  refine w_known 61 (.bool false) rfl (congrArg Value.bool (decide_eq_false (fun h => h (by omega)))) ?_
  repeat (first|refine q1 ?_|refine q2 ?_|refine q3 ?_|refine q4 ?_|refine q5 ?_|refine q6 ?_|refine w_seq ?_|refine w_region ?_|refine w_ops_nil ?_|refine w_skip ?_|refine w_block ?_|refine w_blk ?_|refine q7 ?_|refine q8 ?_|refine q9 ?_)
  refine w_loop (ι := Nat) (fun i => [(0, vl), (1, .int .i64 now), (5, .pointer (some ⟨p, 0, none⟩)), (7, .int .i64 (n : Int)), (10, .int .i64 (i : Int))])
    (fun i w => ∃ h : G, h.w = w ∧ Step [] [51, 52] h5 h ∧ Cm h p 64 (overC now m) ∧ i ≤ n) (fun i => n - i) 0 ⟨h5, rfl, Step.refl _ _ _, hb, by omega⟩ ⟨rfl, rfl, rfl, rfl, rfl, trivial⟩ ?_
  clear hb
  rintro i _ ⟨h, rfl, hst2, hb, hi⟩
  replace hst := hst.go hst2; replace hr := hr.go hst2
  repeat (first|refine q1 ?_|refine q2 ?_|refine q3 ?_|refine q4 ?_|refine q5 ?_|refine q6 ?_|refine w_seq ?_|refine w_region ?_|refine w_ops_nil ?_|refine w_skip ?_|refine w_block ?_|refine w_blk ?_|refine q7 ?_|refine q8 ?_|refine q9 ?_)
  refine w_condP rfl (fun hlt => ?_) (fun hlt => ?_)
  · have hlt : i < n := by omega
    have hltl : i < l.length := by omega
    have hgk : l[((i : Int)).toNat]? = some l[i] := by simp [hltl]
    have hkr := hels l[i] (List.getElem_mem hltl)
    have htl := tl_get (m := 100) hltl
    have htr := tl_range l 100 (by omega) i
    repeat (first|refine q1 ?_|refine q2 ?_|refine q3 ?_|refine q4 ?_|refine q5 ?_|refine q6 ?_|refine w_seq ?_|refine w_region ?_|refine w_ops_nil ?_|refine w_skip ?_|refine w_block ?_|refine w_blk ?_|refine q7 ?_|refine q8 ?_|refine q9 ?_)
    refine w_idx hr rfl rfl (by omega) (by omega) rfl ?_
    refine w_loadE (i := ((i : Int)).toNat) (y := l[i]) hr rfl hgk rfl rfl ?_
    refine w_callF (vs := [.int .i64 l[i], .int .i64 100]) rfl (ref01_Around l[i] 100 h hkr (by omega)) rfl fun u h6 hs6 hu => ?_
    subst hu
    replace hst := hst.go hs6; replace hst2 := hst2.go hs6; replace hr := hr.go hs6; replace hb := hb.go hs6
    have ha100 := around_range l[i] 100 (by omega)
    repeat (first|refine q1 ?_|refine q2 ?_|refine q3 ?_|refine q4 ?_|refine q5 ?_|refine q6 ?_|refine w_seq ?_|refine w_region ?_|refine w_ops_nil ?_|refine w_skip ?_|refine w_block ?_|refine w_blk ?_|refine q7 ?_|refine q8 ?_|refine q9 ?_)
    refine w_known 11 (.int .i64 (tl l 100 i)) rfl (congrArg (Value.int .i64) htl.symm) ?_
    repeat (first|refine q1 ?_|refine q2 ?_|refine q3 ?_|refine q4 ?_|refine q5 ?_|refine q6 ?_|refine w_seq ?_|refine w_region ?_|refine w_ops_nil ?_|refine w_skip ?_|refine w_block ?_|refine w_blk ?_|refine q7 ?_|refine q8 ?_|refine q9 ?_)
    refine w_callF (vs := [.int .i64 (i : Int)]) rfl (ref01_Dec i h6 (by omega)) rfl fun u h7 hs7 hu => ?_
    subst hu
    replace hst := hst.go hs7; replace hst2 := hst2.go hs7; replace hr := hr.go hs7; replace hb := hb.go hs7
    have hdl := decB_len i
    have hhas := hpu.has (now := now) (by omega) hlt
    refine w_callF (vs := [.pointer (some ⟨p, 0, none⟩), str (decB i), .int .i64 1]) rfl (Cache_Until p 64 (overC now m) (decB i) 1 h7 hb (by omega)) rfl fun u h8 hs8 hu => ?_
    rw [lowB_dec (by omega), show (⟨decB i, 1⟩ : Ck) = kI i from rfl, hhas] at hu
    subst hu
    replace hst := hst.go hs8; replace hst2 := hst2.go hs8; replace hr := hr.go hs8; replace hb := hb.go hs8
    repeat (first|refine q1 ?_|refine q2 ?_|refine q3 ?_|refine q4 ?_|refine q5 ?_|refine q6 ?_|refine w_seq ?_|refine w_region ?_|refine w_ops_nil ?_|refine w_skip ?_|refine w_block ?_|refine w_blk ?_|refine q7 ?_|refine q8 ?_|refine q9 ?_)
    refine w_known 13 (.bool (decide (now < tl l 100 i))) rfl rfl ?_
    repeat (first|refine q1 ?_|refine q2 ?_|refine q3 ?_|refine q4 ?_|refine q5 ?_|refine q6 ?_|refine w_seq ?_|refine w_region ?_|refine w_ops_nil ?_|refine w_skip ?_|refine w_block ?_|refine w_blk ?_|refine q7 ?_|refine q8 ?_|refine q9 ?_)
    refine w_neBool rfl rfl rfl ?_
    refine w_known 84 (.bool false) rfl (congrArg Value.bool (decide_eq_false (fun h => h rfl))) ?_
    repeat (first|refine q1 ?_|refine q2 ?_|refine q3 ?_|refine q4 ?_|refine q5 ?_|refine q6 ?_|refine w_seq ?_|refine w_region ?_|refine w_ops_nil ?_|refine w_skip ?_|refine w_block ?_|refine w_blk ?_|refine q7 ?_|refine q8 ?_|refine q9 ?_)
    exact w_again (i + 1) (by omega) ⟨h8, rfl, hst2, hb, by omega⟩ ⟨rfl, rfl, rfl, rfl, rfl, trivial⟩
  · repeat (first|refine q1 ?_|refine q2 ?_|refine q3 ?_|refine q4 ?_|refine q5 ?_|refine q6 ?_|refine w_seq ?_|refine w_region ?_|refine w_ops_nil ?_|refine w_skip ?_|refine w_block ?_|refine w_blk ?_|refine q7 ?_|refine q8 ?_|refine q9 ?_)
    refine w_callF rfl (law10_lives h) rfl fun u h9 hs9 hu => ?_
    subst hu
    repeat (first|refine q1 ?_|refine q2 ?_|refine q3 ?_|refine q4 ?_|refine q5 ?_|refine q6 ?_|refine w_seq ?_|refine w_region ?_|refine w_ops_nil ?_|refine w_skip ?_|refine w_block ?_|refine w_blk ?_|refine q7 ?_|refine q8 ?_|refine q9 ?_)
    exact w_retG (res1 rfl rfl) (hst.go hs9) fun h' _ => rfl
end Go.Proofs.Ytfkdfnookacgiaa
