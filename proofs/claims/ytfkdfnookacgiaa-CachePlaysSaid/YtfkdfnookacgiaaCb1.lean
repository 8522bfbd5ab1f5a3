/- Caches: the reference's New, Find, cut, Sweep, Get. No statement of the seat is proved here. -/
import Derived.Test.YtfkdfnookacgiaaCa9
set_option linter.unusedVariables false
set_option linter.unusedSimpArgs false
namespace Go.Proofs.Ytfkdfnookacgiaa
open Go
attribute [local irreducible] Wp

theorem Rd.base {α : Type} {E : El α} {g : G} {c : Nat} {v : Value} {l : List α} (hr : Rd g c E v l) {i : Nat} (hi : i < l.length) : ∃ a, elemA v 0 = some a := by
  obtain ⟨A, cap, rfl, _, _, h⟩ := hr
  rcases h with rfl | ⟨a, rfl, _⟩
  · simp at hi
  · exact ⟨_, rfl⟩
/-- The reference's entry. -/
def El.ce : El (Ck × Cv) := ⟨4, true, fun x => [Go.Proofs.Ytfkdfnookacgiaa.str x.1.name, .int .i64 x.1.type_, x.2.sl.1, .int .i64 x.2.till], fun _ => rfl, fun h => (by cases h), by decide, by
  intro x u hu
  simp only [List.mem_cons, List.not_mem_nil, or_false] at hu
  rcases hu with h | h | h | h
  · subst h; rfl
  · subst h; rfl
  · subst h; exact x.2.sl.2
  · subst h; rfl⟩
/-- The place of a key; below 0: it has none. -/
def findC (k : Ck) : CaM → Int
  | [] => -1
  | x :: l => if x.1 = k then 0 else if findC k l = -1 then -1 else findC k l + 1
theorem findC_ge (k : Ck) : ∀ l, -1 ≤ findC k l
  | [] => by simp [findC]
  | x :: l => by have := findC_ge k l; rw [findC]; split <;> (try split) <;> omega
theorem findC_lt (k : Ck) : ∀ l, findC k l < l.length
  | [] => by simp [findC]
  | x :: l => by have := findC_lt k l; rw [findC]; simp only [List.length_cons]; split <;> (try split) <;> omega
theorem findC_skip (k : Ck) : ∀ (l : CaM) (i : Nat), (∀ j x, j < i → l[j]? = some x → ¬ x.1 = k) → i ≤ l.length → findC k l = if findC k (l.drop i) = -1 then -1 else findC k (l.drop i) + i
  | l, 0, _, _ => by rw [List.drop_zero]; split <;> simp_all
  | [], i + 1, _, h => by simp at h
  | x :: l, i + 1, h, hi => by
    have ih := findC_skip k l i (fun j y hj hy => h (j + 1) y (by omega) (by simpa using hy)) (by simpa using hi)
    have hg := findC_ge k (l.drop i)
    rw [List.drop_succ_cons, findC, if_neg (h 0 x (by omega) rfl), ih]
    split
    · simp
    · rw [if_neg (by omega)]; push_cast; omega

theorem ref10_Find (room : Int) (L : CaM) (vL : Value) (name : List UInt8) (t : Int) (k : Ck) (hk : (⟨lowB name, t⟩ : Ck) = k) (g : G) (hr : Rd g 0 El.ce vL L) (hn : name.length ≤ 1000000) :
    Fn Try.prog 25 [.agg #[.int .i64 room, vL], str name, .int .i64 t] g [] fun u _ => u = .int .i64 (findC k L) := by
  refine enterG [] [41] Try.func25 rfl Try.ntmps25 rfl (by simp) fun g1 hv ho => ?_
  replace hr := hr.view hv (.inl rfl)
  have hlm := hr.isSl.le
  repeat (first|refine q1 ?_|refine q2 ?_|refine q3 ?_|refine q4 ?_|refine q5 ?_|refine q6 ?_|refine w_seq ?_|refine w_region ?_|refine w_ops_nil ?_|refine w_skip ?_|refine w_block ?_|refine w_blk ?_|refine q7 ?_|refine q8 ?_|refine q9 ?_)
  refine w_box 41 (vs := [.int .i64 room, vL]) rfl rfl rfl fun h1 b1 hs1 hc1 => ?_
  have hst : Step [] [41] g1 h1 := hs1.nil
  replace hr := hr.go hs1
  repeat (first|refine q1 ?_|refine q2 ?_|refine q3 ?_|refine q4 ?_|refine q5 ?_|refine q6 ?_|refine w_seq ?_|refine w_region ?_|refine w_ops_nil ?_|refine w_skip ?_|refine w_block ?_|refine w_blk ?_|refine q7 ?_|refine q8 ?_|refine q9 ?_)
  refine w_loop (ι := Nat) (fun i => [(1, str name), (2, .int .i64 t), (3, .pointer (some ⟨b1, 0, none⟩)), (7, .int .i64 (i : Int))])
    (fun i w => ∃ h : G, h.w = w ∧ Step [] [] h1 h ∧ i ≤ L.length ∧ ∀ j x, j < i → L[j]? = some x → ¬ x.1 = k) (fun i => L.length - i) 0 ⟨h1, rfl, Step.refl _ _ _, by omega, fun j x hj => by omega⟩ ⟨rfl, rfl, rfl, rfl, trivial⟩ ?_
  rintro i _ ⟨h, rfl, hst2, hi, hall⟩
  replace hst := hst.go hst2; replace hc1 := hc1.go hst2; replace hr := hr.go hst2
  repeat (first|refine q1 ?_|refine q2 ?_|refine q3 ?_|refine q4 ?_|refine q5 ?_|refine q6 ?_|refine w_seq ?_|refine w_region ?_|refine w_ops_nil ?_|refine w_skip ?_|refine w_block ?_|refine w_blk ?_|refine q7 ?_|refine q8 ?_|refine q9 ?_)
  refine w_fldA (by decide) rfl rfl ?_
  refine w_load1 (v := vL) hc1 rfl rfl rfl rfl ?_
  refine w_lenSl hr.isSl rfl rfl ?_
  repeat (first|refine q1 ?_|refine q2 ?_|refine q3 ?_|refine q4 ?_|refine q5 ?_|refine q6 ?_|refine w_seq ?_|refine w_region ?_|refine w_ops_nil ?_|refine w_skip ?_|refine w_block ?_|refine w_blk ?_|refine q7 ?_|refine q8 ?_|refine q9 ?_)
  refine w_condP rfl (fun hlt => ?_) (fun hlt => ?_)
  · have hlt : i < L.length := by omega
    have hgi : L[i]? = some L[i] := List.getElem?_eq_getElem hlt
    have hyes : ∀ (e : L[i].1 = k), findC k L = i := fun e => by
      rw [findC_skip k L i hall hi, List.drop_eq_getElem_cons hlt, findC, if_pos e]; simp
    have hno : ∀ (e : ¬ L[i].1 = k) j x, j < i + 1 → L[j]? = some x → ¬ x.1 = k := fun e0 j x hj hy => by
      by_cases e : j = i
      · subst e; rw [hgi] at hy; injection hy with hy; subst hy; exact e0
      · exact hall j x (by omega) hy
    have hkk : L[i].1 = k ↔ L[i].1.name = lowB name ∧ L[i].1.type_ = t := by
      rw [← hk]
      constructor
      · intro e; rw [e]; exact ⟨rfl, rfl⟩
      · rintro ⟨e1, e2⟩
        cases hx : L[i].1 with
        | mk a b => rw [hx] at e1 e2; dsimp only at e1 e2; rw [e1, e2]
    repeat (first|refine q1 ?_|refine q2 ?_|refine q3 ?_|refine q4 ?_|refine q5 ?_|refine q6 ?_|refine w_seq ?_|refine w_region ?_|refine w_ops_nil ?_|refine w_skip ?_|refine w_block ?_|refine w_blk ?_|refine q7 ?_|refine q8 ?_|refine q9 ?_)
    refine d_begin none [] (by kernel_rfl) fun g2 hsd => ?_
    replace hst := hst.go hsd; replace hst2 := hst2.go hsd; replace hc1 := hc1.go hsd; replace hr := hr.go hsd
    refine d_read 0 calm_ret rfl (by kernel_rfl) rfl  (fun h hs => r_fldA (by decide) rfl) ?_
    refine d_read 1 calm_ret rfl (by kernel_rfl) rfl  (fun h hs => r_load1 (v := vL) (hc1.go hs) rfl rfl rfl) ?_
    refine d_pure 2 calm_ret rfl (by kernel_rfl) rfl rfl ?_
    refine d_read 3 calm_ret rfl (by kernel_rfl) rfl  (fun h hs => r_idx (hr.go hs) rfl rfl (by omega) (by omega)) ?_
    refine d_read 4 calm_ret rfl (by kernel_rfl) rfl  (fun h hs => r_fldE (hr.base hlt) (by decide) rfl) ?_
    refine d_read 5 calm_ret rfl (by kernel_rfl) rfl  (fun h hs => r_loadEF (i := i) (off := 0) (y := L[i]) (u := str L[i].1.name) (hr.go hs) rfl hgi rfl rfl) ?_
    refine d_pure 6 calm_ret rfl (by kernel_rfl) rfl rfl ?_
    refine d_exec1 7 (by kernel_rfl) rfl ?_
    refine w_callF (vs := [str name]) rfl (ref01_Lower name g2 hn) rfl fun u k1 hk1 hu => ?_
    subst hu
    repeat (first|refine q1 ?_|refine q2 ?_|refine q3 ?_|refine q4 ?_|refine q5 ?_|refine q6 ?_|refine w_seq ?_|refine w_region ?_|refine w_ops_nil ?_|refine w_skip ?_|refine w_block ?_|refine w_blk ?_|refine q7 ?_|refine q8 ?_|refine q9 ?_)
    refine d_next (fun _ => ⟨k1, rfl, hk1⟩) ?_
    refine d_pure 8 calm_ret rfl (by kernel_rfl) rfl rfl ?_; refine d_pure 9 calm_ret rfl (by kernel_rfl) rfl rfl ?_
    refine d_splitP 24 rfl (fun hp => ?_) (fun hp => ?_)
    · refine d_readG 10 calm_ret rfl rfl rfl (by kernel_rfl) rfl  (fun h hs => r_fldA (by decide) rfl) ?_
      refine d_readG 11 calm_ret rfl rfl rfl (by kernel_rfl) rfl  (fun h hs => r_load1 (v := vL) (hc1.go hs) rfl rfl rfl) ?_
      refine d_guard_pure 12 calm_ret rfl rfl rfl (by kernel_rfl) rfl rfl ?_
      refine d_readG 13 calm_ret rfl rfl rfl (by kernel_rfl) rfl  (fun h hs => r_idx (hr.go hs) rfl rfl (by omega) (by omega)) ?_
      refine d_readG 14 calm_ret rfl rfl rfl (by kernel_rfl) rfl  (fun h hs => r_fldE (hr.base hlt) (by decide) rfl) ?_
      refine d_readG 15 calm_ret rfl rfl rfl (by kernel_rfl) rfl  (fun h hs => r_loadEF (i := i) (off := 1) (y := L[i]) (u := .int .i64 L[i].1.type_) (hr.go hs) rfl hgi rfl rfl) ?_
      refine d_guard_pure 16 calm_ret rfl rfl rfl (by kernel_rfl) rfl rfl ?_; refine d_guard_pure 17 calm_ret rfl rfl rfl (by kernel_rfl) rfl rfl ?_
      refine d_pure 18 calm_ret rfl (by kernel_rfl) rfl rfl ?_
      refine d_done (by kernel_rfl) ?_
      repeat (first|refine q1 ?_|refine q2 ?_|refine q3 ?_|refine q4 ?_|refine q5 ?_|refine q6 ?_|refine w_seq ?_|refine w_region ?_|refine w_ops_nil ?_|refine w_skip ?_|refine w_block ?_|refine w_blk ?_|refine q7 ?_|refine q8 ?_|refine q9 ?_)
      refine w_condP rfl (fun hx => ?_) (fun hx => ?_)
      · repeat (first|refine q1 ?_|refine q2 ?_|refine q3 ?_|refine q4 ?_|refine q5 ?_|refine q6 ?_|refine w_seq ?_|refine w_region ?_|refine w_ops_nil ?_|refine w_skip ?_|refine w_block ?_|refine w_blk ?_|refine q7 ?_|refine q8 ?_|refine q9 ?_)
        refine w_retG (res1 rfl rfl) (hst.go hk1) fun h' _ => congrArg (Value.int .i64) ?_
        exact (hyes (hkk.2 ⟨hp, hx⟩)).symm
      · repeat (first|refine q1 ?_|refine q2 ?_|refine q3 ?_|refine q4 ?_|refine q5 ?_|refine q6 ?_|refine w_seq ?_|refine w_region ?_|refine w_ops_nil ?_|refine w_skip ?_|refine w_block ?_|refine w_blk ?_|refine q7 ?_|refine q8 ?_|refine q9 ?_)
        exact w_again (i + 1) (by omega) ⟨k1, rfl, hst2.go hk1, by omega, hno (fun e => hx (hkk.1 e).2)⟩ ⟨rfl, rfl, rfl, rfl, trivial⟩
    · refine d_guard_no 10 calm_ret rfl rfl rfl (by kernel_rfl) rfl ?_; refine d_guard_no 11 calm_ret rfl rfl rfl (by kernel_rfl) rfl ?_; refine d_guard_no 12 calm_ret rfl rfl rfl (by kernel_rfl) rfl ?_; refine d_guard_no 13 calm_ret rfl rfl rfl (by kernel_rfl) rfl ?_; refine d_guard_no 14 calm_ret rfl rfl rfl (by kernel_rfl) rfl ?_; refine d_guard_no 15 calm_ret rfl rfl rfl (by kernel_rfl) rfl ?_; refine d_guard_no 16 calm_ret rfl rfl rfl (by kernel_rfl) rfl ?_; refine d_guard_no 17 calm_ret rfl rfl rfl (by kernel_rfl) rfl ?_
      refine d_pure 18 calm_ret rfl (by kernel_rfl) rfl rfl ?_
      refine d_done (by kernel_rfl) ?_
      refine w_cond rfl (fun h => by cases h) (fun _ => ?_)
      repeat (first|refine q1 ?_|refine q2 ?_|refine q3 ?_|refine q4 ?_|refine q5 ?_|refine q6 ?_|refine w_seq ?_|refine w_region ?_|refine w_ops_nil ?_|refine w_skip ?_|refine w_block ?_|refine w_blk ?_|refine q7 ?_|refine q8 ?_|refine q9 ?_)
      exact w_again (i + 1) (by omega) ⟨k1, rfl, hst2.go hk1, by omega, hno (fun e => hp (hkk.1 e).1)⟩ ⟨rfl, rfl, rfl, rfl, trivial⟩
  · have e : i = L.length := by omega
    subst e
    repeat (first|refine q1 ?_|refine q2 ?_|refine q3 ?_|refine q4 ?_|refine q5 ?_|refine q6 ?_|refine w_seq ?_|refine w_region ?_|refine w_ops_nil ?_|refine w_skip ?_|refine w_block ?_|refine w_blk ?_|refine q7 ?_|refine q8 ?_|refine q9 ?_)
    refine w_retG (res1 rfl rfl) hst fun h' _ => congrArg (Value.int .i64) ?_
    rw [findC_skip k L L.length hall hi, List.drop_length]; rfl
theorem ref10_cut (L : CaM) (vL : Value) (i : Nat) (g : G) (hr : Rd g 0 El.ce vL L) (hi : i < L.length) (hL : L.length ≤ 1000000) : Fn Try.prog 26 [vL, .int .i64 (i : Int)] g [] fun u h => Rd h 0 El.ce u (L.eraseIdx i) := by
  refine enterG [] [45] Try.func26 rfl Try.ntmps26 rfl (by simp) fun g1 hv ho => ?_
  replace hr := hr.view hv (.inl rfl)
  repeat (first|refine q1 ?_|refine q2 ?_|refine q3 ?_|refine q4 ?_|refine q5 ?_|refine q6 ?_|refine w_seq ?_|refine w_region ?_|refine w_ops_nil ?_|refine w_skip ?_|refine w_block ?_|refine w_blk ?_|refine q7 ?_|refine q8 ?_|refine q9 ?_)
  refine w_cut_ (a := 0) (b := i) hr rfl rfl ⟨_, rfl, rfl⟩ (by omega) (by omega) rfl fun hr1 => ?_
  refine w_append (Own.nil g1 45 El.ce 33) hr1 rfl rfl rfl (by decide) (by simp; omega) rfl fun h1 v1 hs1 ho1 => ?_
  replace hr := hr.go hs1
  repeat (first|refine q1 ?_|refine q2 ?_|refine q3 ?_|refine q4 ?_|refine q5 ?_|refine q6 ?_|refine w_seq ?_|refine w_region ?_|refine w_ops_nil ?_|refine w_skip ?_|refine w_block ?_|refine w_blk ?_|refine q7 ?_|refine q8 ?_|refine q9 ?_)
  refine w_cut_ (a := i + 1) (b := L.length) hr rfl ⟨_, rfl, by omega⟩ rfl (by omega) (by omega) rfl fun hr2 => ?_
  refine w_append ho1 hr2 rfl rfl rfl (by decide) (by simp; omega) rfl fun h2 v2 hs2 ho2 => ?_
  repeat (first|refine q1 ?_|refine q2 ?_|refine q3 ?_|refine q4 ?_|refine q5 ?_|refine q6 ?_|refine w_seq ?_|refine w_region ?_|refine w_ops_nil ?_|refine w_skip ?_|refine w_block ?_|refine w_blk ?_|refine q7 ?_|refine q8 ?_|refine q9 ?_)
  obtain ⟨h3, hw3, hs3, hr3⟩ := ho2.freeze (by decide)
  rw [← hw3]
  refine w_retG (res1 rfl rfl) ((hs1.go hs2).go hs3) fun h' hv' => ?_
  have e : [] ++ (L.take i).drop 0 ++ (L.take L.length).drop (i + 1) = L.eraseIdx i := by rw [List.eraseIdx_eq_take_drop_succ]; simp
  rw [← e]
  exact hr3.view hv' (.inl rfl)
theorem ref10_New (room : Int) (g : G) : Fn Try.prog 9 [.int .i64 room] g [] fun u h => u = .agg #[.int .i64 (roomZ room), .slice none 0 0] := by
  refine enterG [] [42] Try.func9 rfl Try.ntmps9 rfl (by simp) fun g1 hv ho => ?_
  repeat (first|refine q1 ?_|refine q2 ?_|refine q3 ?_|refine q4 ?_|refine q5 ?_|refine q6 ?_|refine w_seq ?_|refine w_region ?_|refine w_ops_nil ?_|refine w_skip ?_|refine w_block ?_|refine w_blk ?_|refine q7 ?_|refine q8 ?_|refine q9 ?_)
  refine w_alloc 42 (vs := [.int .i64 0, .slice none 0 0]) rfl rfl fun h1 b1 hs1 hc1 => ?_
  repeat (first|refine q1 ?_|refine q2 ?_|refine q3 ?_|refine q4 ?_|refine q5 ?_|refine q6 ?_|refine w_seq ?_|refine w_region ?_|refine w_ops_nil ?_|refine w_skip ?_|refine w_block ?_|refine w_blk ?_|refine q7 ?_|refine q8 ?_|refine q9 ?_)
  refine w_max rfl rfl rfl ?_
  refine w_min rfl rfl rfl ?_
  refine w_build (vs := [(0, .int .i64 (min (max room 1) 64))]) (r := [.int .i64 (min (max room 1) 64), .slice none 0 0]) rfl rfl rfl ?_
  refine w_store (us := [.int .i64 (min (max room 1) 64), .slice none 0 0]) (vs' := [.int .i64 (min (max room 1) 64), .slice none 0 0]) hc1 rfl rfl rfl rfl (by
    intro u hu
    simp only [List.mem_cons, List.not_mem_nil, or_false] at hu
    rcases hu with rfl | rfl <;> rfl) (show 0 + 2 ≤ 2 by decide) rfl fun h2 hb2 hs2 hc2 => ?_
  repeat (first|refine q1 ?_|refine q2 ?_|refine q3 ?_|refine q4 ?_|refine q5 ?_|refine q6 ?_|refine w_seq ?_|refine w_region ?_|refine w_ops_nil ?_|refine w_skip ?_|refine w_block ?_|refine w_blk ?_|refine q7 ?_|refine q8 ?_|refine q9 ?_)
  exact w_retG (resCs hc2 rfl rfl rfl rfl) ((hs1.mono (by simp) (by simp)).go hs2) fun h' _ => rfl

theorem oneTwo {room : Int} {v : Value} (hv : v.oneCell' = true) : ∀ u ∈ [Value.int .i64 room, v], u.oneCell' = true := by
  intro u hu
  simp only [List.mem_cons, List.not_mem_nil, or_false] at hu
  rcases hu with rfl | rfl
  · rfl
  · exact hv
theorem ref10_Sweep (room : Int) (L : CaM) (vL : Value) (now : Int) (g : G) (hr : Rd g 0 El.ce vL L) (hL : L.length ≤ 1000) :
    Fn Try.prog 27 [.agg #[.int .i64 room, vL], .int .i64 now] g [] fun u h => ∃ v', u = .tuple #[.agg #[.int .i64 room, v'], .int .i64 ((L.length : Int) - (overC now L).length)] ∧ Rd h 0 El.ce v' (overC now L) := by
  refine enterG [] [41, 42, 45] Try.func27 rfl Try.ntmps27 rfl (by simp) fun g1 hv ho => ?_
  replace hr := hr.view hv (.inl rfl)
  have hFeq : ∀ m : CaM, (m.filter fun x => decide (now < x.2.till)) = overC now m := fun m => by
    unfold overC
    refine List.filter_congr fun x _ => ?_
    by_cases h : x.2.till ≤ now
    · simp [h]
    · simp [h]; omega
  have hF : ∀ m : CaM, (overC now m).length ≤ m.length := fun m => List.length_filter_le _ _
  repeat (first|refine q1 ?_|refine q2 ?_|refine q3 ?_|refine q4 ?_|refine q5 ?_|refine q6 ?_|refine w_seq ?_|refine w_region ?_|refine w_ops_nil ?_|refine w_skip ?_|refine w_block ?_|refine w_blk ?_|refine q7 ?_|refine q8 ?_|refine q9 ?_)
  refine w_box 41 (vs := [.int .i64 room, vL]) rfl rfl rfl fun h1 b2 hs1 hc2 => ?_
  have hst : Step [] [41, 42, 45] g1 h1 := hs1.nil
  replace hr := hr.go hs1
  repeat (first|refine q1 ?_|refine q2 ?_|refine q3 ?_|refine q4 ?_|refine q5 ?_|refine q6 ?_|refine w_seq ?_|refine w_region ?_|refine w_ops_nil ?_|refine w_skip ?_|refine w_block ?_|refine w_blk ?_|refine q7 ?_|refine q8 ?_|refine q9 ?_)
  refine w_alloc 42 (vs := [.int .i64 0, .slice none 0 0]) rfl rfl fun h3 b4 hs3 hc4 => ?_
  replace hst := hst.go hs3; replace hc2 := hc2.go hs3; replace hr := hr.go hs3
  repeat (first|refine q1 ?_|refine q2 ?_|refine q3 ?_|refine q4 ?_|refine q5 ?_|refine q6 ?_|refine w_seq ?_|refine w_region ?_|refine w_ops_nil ?_|refine w_skip ?_|refine w_block ?_|refine w_blk ?_|refine q7 ?_|refine q8 ?_|refine q9 ?_)
  refine w_loop (ι := Value × Nat) (fun x => [(1, .int .i64 now), (2, .pointer (some ⟨b2, 0, none⟩)), (4, .pointer (some ⟨b4, 0, none⟩)), (6, x.1), (7, .int .i64 (x.2 : Int))])
    (fun x w => ∃ h : G, h.w = w ∧ Step [] [45] h3 h ∧ Own h 45 El.ce 33 x.1 (overC now (L.take x.2)) ∧ x.2 ≤ L.length) (fun x => L.length - x.2)
    (.slice none 0 0, 0) ⟨h3, rfl, Step.refl _ _ _, Own.nil _ _ _ _, by dsimp only; omega⟩ ⟨rfl, rfl, rfl, rfl, rfl, trivial⟩ ?_
  rintro ⟨vO, i⟩ _ ⟨h, rfl, hst2, hown, hi⟩
  dsimp only at hst2 hown hi ⊢
  replace hst := hst.go hst2; replace hc2 := hc2.go hst2; replace hc4 := hc4.go hst2; replace hr := hr.go hst2
  have hFi := hF (L.take i)
  rw [List.length_take] at hFi
  repeat (first|refine q1 ?_|refine q2 ?_|refine q3 ?_|refine q4 ?_|refine q5 ?_|refine q6 ?_|refine w_seq ?_|refine w_region ?_|refine w_ops_nil ?_|refine w_skip ?_|refine w_block ?_|refine w_blk ?_|refine q7 ?_|refine q8 ?_|refine q9 ?_)
  refine w_fldA (by decide) rfl rfl ?_
  refine w_load1 (v := vL) hc2 rfl rfl rfl rfl ?_
  refine w_lenSl hr.isSl rfl rfl ?_
  repeat (first|refine q1 ?_|refine q2 ?_|refine q3 ?_|refine q4 ?_|refine q5 ?_|refine q6 ?_|refine w_seq ?_|refine w_region ?_|refine w_ops_nil ?_|refine w_skip ?_|refine w_block ?_|refine w_blk ?_|refine q7 ?_|refine q8 ?_|refine q9 ?_)
  refine w_condP rfl (fun hlt => ?_) (fun hlt => ?_)
  · have hlt : i < L.length := by omega
    have hgi : L[i]? = some L[i] := List.getElem?_eq_getElem hlt
    have hover : overC now (L.take (i + 1)) = overC now (L.take i) ++ overC now [L[i]] := by rw [List.take_succ_eq_append_getElem hlt]; unfold overC; rw [List.filter_append]
    repeat (first|refine q1 ?_|refine q2 ?_|refine q3 ?_|refine q4 ?_|refine q5 ?_|refine q6 ?_|refine w_seq ?_|refine w_region ?_|refine w_ops_nil ?_|refine w_skip ?_|refine w_block ?_|refine w_blk ?_|refine q7 ?_|refine q8 ?_|refine q9 ?_)
    refine w_fldA (by decide) rfl rfl ?_
    refine w_load1 (v := vL) hc2 rfl rfl rfl rfl ?_
    repeat (first|refine q1 ?_|refine q2 ?_|refine q3 ?_|refine q4 ?_|refine q5 ?_|refine q6 ?_|refine w_seq ?_|refine w_region ?_|refine w_ops_nil ?_|refine w_skip ?_|refine w_block ?_|refine w_blk ?_|refine q7 ?_|refine q8 ?_|refine q9 ?_)
    refine w_idx hr rfl rfl (by omega) (by omega) rfl ?_
    refine w_fldE (hr.base hlt) (by decide) rfl rfl ?_
    refine w_loadEF (i := i) (off := 3) (y := L[i]) (u := .int .i64 L[i].2.till) hr rfl hgi rfl rfl rfl ?_
    repeat (first|refine q1 ?_|refine q2 ?_|refine q3 ?_|refine q4 ?_|refine q5 ?_|refine q6 ?_|refine w_seq ?_|refine w_region ?_|refine w_ops_nil ?_|refine w_skip ?_|refine w_block ?_|refine w_blk ?_|refine q7 ?_|refine q8 ?_|refine q9 ?_)
    refine w_condP rfl (fun hx => ?_) (fun hx => ?_)
    · repeat (first|refine q1 ?_|refine q2 ?_|refine q3 ?_|refine q4 ?_|refine q5 ?_|refine q6 ?_|refine w_seq ?_|refine w_region ?_|refine w_ops_nil ?_|refine w_skip ?_|refine w_block ?_|refine w_blk ?_|refine q7 ?_|refine q8 ?_|refine q9 ?_)
      refine w_fldA (by decide) rfl rfl ?_
      refine w_load1 (v := vL) hc2 rfl rfl rfl rfl ?_
      repeat (first|refine q1 ?_|refine q2 ?_|refine q3 ?_|refine q4 ?_|refine q5 ?_|refine q6 ?_|refine w_seq ?_|refine w_region ?_|refine w_ops_nil ?_|refine w_skip ?_|refine w_block ?_|refine w_blk ?_|refine q7 ?_|refine q8 ?_|refine q9 ?_)
      refine w_idx hr rfl rfl (by omega) (by omega) rfl ?_
      refine w_loadE (i := i) (y := L[i]) hr rfl hgi rfl rfl ?_
      refine w_buildSlR El.ce [L[i]] rfl rfl rfl rfl fun h4 v4 hs4 hr4 => ?_
      refine w_append (hown.go hs4) hr4 rfl rfl rfl (by decide) (by simp only [List.length_cons, List.length_nil]; omega) rfl fun h5 v5 hs5 ho5 => ?_
      repeat (first|refine q1 ?_|refine q2 ?_|refine q3 ?_|refine q4 ?_|refine q5 ?_|refine q6 ?_|refine w_seq ?_|refine w_region ?_|refine w_ops_nil ?_|refine w_skip ?_|refine w_block ?_|refine w_blk ?_|refine q7 ?_|refine q8 ?_|refine q9 ?_)
      refine w_again (v5, i + 1) (by dsimp only; omega) ⟨h5, rfl, (hst2.go hs4).go hs5, ?_, by dsimp only; omega⟩ ⟨rfl, rfl, rfl, rfl, rfl, trivial⟩
      dsimp only
      rw [hover, ← hFeq [L[i]], show ([L[i]].filter fun x => decide (now < x.2.till)) = [L[i]] from by simp [hx]]
      exact ho5
    · repeat (first|refine q1 ?_|refine q2 ?_|refine q3 ?_|refine q4 ?_|refine q5 ?_|refine q6 ?_|refine w_seq ?_|refine w_region ?_|refine w_ops_nil ?_|refine w_skip ?_|refine w_block ?_|refine w_blk ?_|refine q7 ?_|refine q8 ?_|refine q9 ?_)
      refine w_again (vO, i + 1) (by dsimp only; omega) ⟨h, rfl, hst2, ?_, by dsimp only; omega⟩ ⟨rfl, rfl, rfl, rfl, rfl, trivial⟩
      dsimp only
      rw [hover, ← hFeq [L[i]], show ([L[i]].filter fun x => decide (now < x.2.till)) = [] from by simp [hx], List.append_nil]
      exact hown
  · have e : i = L.length := by omega
    subst e
    rw [List.take_length] at hown
    have hFL := hF L
    repeat (first|refine q1 ?_|refine q2 ?_|refine q3 ?_|refine q4 ?_|refine q5 ?_|refine q6 ?_|refine w_seq ?_|refine w_region ?_|refine w_ops_nil ?_|refine w_skip ?_|refine w_block ?_|refine w_blk ?_|refine q7 ?_|refine q8 ?_|refine q9 ?_)
    refine w_fldA (by decide) rfl rfl ?_
    refine w_load1 (v := vL) hc2 rfl rfl rfl rfl ?_
    refine w_lenSl hr.isSl rfl rfl ?_
    repeat (first|refine q1 ?_|refine q2 ?_|refine q3 ?_|refine q4 ?_|refine q5 ?_|refine q6 ?_|refine w_seq ?_|refine w_region ?_|refine w_ops_nil ?_|refine w_skip ?_|refine w_block ?_|refine w_blk ?_|refine q7 ?_|refine q8 ?_|refine q9 ?_)
    refine w_lenSl hown.isSl rfl rfl ?_
    repeat (first|refine q1 ?_|refine q2 ?_|refine q3 ?_|refine q4 ?_|refine q5 ?_|refine q6 ?_|refine w_seq ?_|refine w_region ?_|refine w_ops_nil ?_|refine w_skip ?_|refine w_block ?_|refine w_blk ?_|refine q7 ?_|refine q8 ?_|refine q9 ?_)
    obtain ⟨h7, hw7, hs7, hr7⟩ := hown.freeze (by decide)
    rw [← hw7]
    replace hst := hst.go hs7; replace hc2 := hc2.go hs7; replace hc4 := hc4.go hs7
    refine w_fldA (by decide) rfl rfl ?_
    refine w_store1 hc2 rfl rfl hr7.isSl.one (show 1 < 2 by decide) fun h9 hb9 hs9 hc2 => ?_
    replace hst := hst.go hs9; replace hc4 := hc4.go hs9; replace hr7 := hr7.go hs9
    repeat (first|refine q1 ?_|refine q2 ?_|refine q3 ?_|refine q4 ?_|refine q5 ?_|refine q6 ?_|refine w_seq ?_|refine w_region ?_|refine w_ops_nil ?_|refine w_skip ?_|refine w_block ?_|refine w_blk ?_|refine q7 ?_|refine q8 ?_|refine q9 ?_)
    refine w_loadS (us := [.int .i64 room, vO]) hc2 rfl rfl rfl rfl rfl ?_
    repeat (first|refine q1 ?_|refine q2 ?_|refine q3 ?_|refine q4 ?_|refine q5 ?_|refine q6 ?_|refine w_seq ?_|refine w_region ?_|refine w_ops_nil ?_|refine w_skip ?_|refine w_block ?_|refine w_blk ?_|refine q7 ?_|refine q8 ?_|refine q9 ?_)
    refine w_store (us := [.int .i64 room, vO]) (vs' := [.int .i64 room, vO]) hc4 rfl rfl rfl rfl (oneTwo hr7.isSl.one) (show 0 + 2 ≤ 2 by decide) rfl fun h10 hb10 hs10 hc4 => ?_
    replace hst := hst.go hs10; replace hr7 := hr7.go hs10
    repeat (first|refine q1 ?_|refine q2 ?_|refine q3 ?_|refine q4 ?_|refine q5 ?_|refine q6 ?_|refine w_seq ?_|refine w_region ?_|refine w_ops_nil ?_|refine w_skip ?_|refine w_block ?_|refine w_blk ?_|refine q7 ?_|refine q8 ?_|refine q9 ?_)
    exact w_retG (resCs1 hc4 rfl rfl rfl rfl rfl) hst fun h' hv' => ⟨vO, rfl, hr7.view hv' (.inl rfl)⟩
theorem findC_get (k : Ck) : ∀ (L : CaM), (findC k L = -1 ∧ mget k L = none) ∨ (0 ≤ findC k L ∧ ∃ v, L[(findC k L).toNat]? = some (k, v) ∧ mget k L = some v)
  | [] => .inl ⟨rfl, rfl⟩
  | x :: L => by
    have ih := findC_get k L
    rw [findC, mget]
    by_cases h : x.1 = k
    · rw [if_pos h, if_pos h.symm]
      exact .inr ⟨by omega, x.2, by simp [← h], rfl⟩
    · rw [if_neg h, if_neg (show ¬ k = x.1 from fun e => h e.symm)]
      rcases ih with ⟨h1, h2⟩ | ⟨h1, v, h2, h3⟩
      · rw [if_pos h1]; exact .inl ⟨rfl, h2⟩
      · rw [if_neg (by omega), show (findC k L + 1).toNat = (findC k L).toNat + 1 by omega]
        exact .inr ⟨by omega, v, by simpa using h2, h3⟩
theorem findC_some (k : Ck) (L : CaM) : 0 ≤ findC k L ↔ (mget k L).isSome = true := by
  rcases findC_get k L with ⟨h1, h2⟩ | ⟨h1, v, h2, h3⟩
  · rw [h2]; simp; omega
  · rw [h3]; simp; exact h1
/-- What Get of the reference answers: the slice that was put. -/
def slC (m : CaM) (k : Ck) (now : Int) : Value := if hitC m k now then (getD m k).sl.1 else .slice none 0 0
theorem ref10_Get (room : Int) (L : CaM) (vL : Value) (name : List UInt8) (t now : Int) (k : Ck) (hk : (⟨lowB name, t⟩ : Ck) = k) (g : G) (hr : Rd g 0 El.ce vL L) (hn : name.length ≤ 1000000) :
    Fn Try.prog 33 [.agg #[.int .i64 room, vL], str name, .int .i64 t, .int .i64 now] g [] fun u _ => u = .tuple #[slC L k now, .bool (hitC L k now)] := by
  refine enterG [] [41] Try.func33 rfl Try.ntmps33 rfl (by simp) fun g1 hv ho => ?_
  replace hr := hr.view hv (.inl rfl)
  repeat (first|refine q1 ?_|refine q2 ?_|refine q3 ?_|refine q4 ?_|refine q5 ?_|refine q6 ?_|refine w_seq ?_|refine w_region ?_|refine w_ops_nil ?_|refine w_skip ?_|refine w_block ?_|refine w_blk ?_|refine q7 ?_|refine q8 ?_|refine q9 ?_)
  refine w_box 41 (vs := [.int .i64 room, vL]) rfl rfl rfl fun h1 b1 hs1 hc1 => ?_
  have hst : Step [] [41] g1 h1 := hs1.nil
  replace hr := hr.go hs1
  repeat (first|refine q1 ?_|refine q2 ?_|refine q3 ?_|refine q4 ?_|refine q5 ?_|refine q6 ?_|refine w_seq ?_|refine w_region ?_|refine w_ops_nil ?_|refine w_skip ?_|refine w_block ?_|refine w_blk ?_|refine q7 ?_|refine q8 ?_|refine q9 ?_)
  refine w_loadS (us := [.int .i64 room, vL]) hc1 rfl rfl rfl rfl rfl ?_
  repeat (first|refine q1 ?_|refine q2 ?_|refine q3 ?_|refine q4 ?_|refine q5 ?_|refine q6 ?_|refine w_seq ?_|refine w_region ?_|refine w_ops_nil ?_|refine w_skip ?_|refine w_block ?_|refine w_blk ?_|refine q7 ?_|refine q8 ?_|refine q9 ?_)
  refine w_callF rfl (ref10_Find room L vL name t k hk h1 hr hn) rfl fun u h6 hs6 hu => ?_
  subst hu
  replace hst := hst.go hs6; replace hc1 := hc1.go hs6; replace hr := hr.go hs6
  repeat (first|refine q1 ?_|refine q2 ?_|refine q3 ?_|refine q4 ?_|refine q5 ?_|refine q6 ?_|refine w_seq ?_|refine w_region ?_|refine w_ops_nil ?_|refine w_skip ?_|refine w_block ?_|refine w_blk ?_|refine q7 ?_|refine q8 ?_|refine q9 ?_)
  refine w_condP rfl (fun hf => ?_) (fun hf => ?_)
  · repeat (first|refine q1 ?_|refine q2 ?_|refine q3 ?_|refine q4 ?_|refine q5 ?_|refine q6 ?_|refine w_seq ?_|refine w_region ?_|refine w_ops_nil ?_|refine w_skip ?_|refine w_block ?_|refine w_blk ?_|refine q7 ?_|refine q8 ?_|refine q9 ?_)
    refine w_retG (res2 rfl rfl rfl) hst fun h' _ => ?_
    rcases findC_get k L with ⟨h1, h2⟩ | ⟨h1, v, h2, h3⟩
    · unfold slC; rw [hit_none h2]; rfl
    · omega
  · rcases findC_get k L with ⟨h1, h2⟩ | ⟨h1, v, h2, h3⟩
    · omega
    · obtain ⟨i, hi⟩ := Int.eq_ofNat_of_zero_le h1
      rw [hi] at h2
      have h2 : L[i]? = some (k, v) := by simpa using h2
      obtain ⟨hlt, _⟩ := List.getElem?_eq_some_iff.1 h2
      rw [hi]
      have hh := hit_some h3 now
      have hd : getD L k = v := by unfold getD; rw [h3]; rfl
      repeat (first|refine q1 ?_|refine q2 ?_|refine q3 ?_|refine q4 ?_|refine q5 ?_|refine q6 ?_|refine w_seq ?_|refine w_region ?_|refine w_ops_nil ?_|refine w_skip ?_|refine w_block ?_|refine w_blk ?_|refine q7 ?_|refine q8 ?_|refine q9 ?_)
      refine w_fldA (by decide) rfl rfl ?_
      refine w_load1 (v := vL) hc1 rfl rfl rfl rfl ?_
      repeat (first|refine q1 ?_|refine q2 ?_|refine q3 ?_|refine q4 ?_|refine q5 ?_|refine q6 ?_|refine w_seq ?_|refine w_region ?_|refine w_ops_nil ?_|refine w_skip ?_|refine w_block ?_|refine w_blk ?_|refine q7 ?_|refine q8 ?_|refine q9 ?_)
      refine w_idx hr rfl rfl (by omega) (by omega) rfl ?_
      refine w_fldE (hr.base hlt) (by decide) rfl rfl ?_
      refine w_loadEF (i := i) (off := 3) (y := (k, v)) (u := .int .i64 v.till) hr rfl h2 rfl rfl rfl ?_
      repeat (first|refine q1 ?_|refine q2 ?_|refine q3 ?_|refine q4 ?_|refine q5 ?_|refine q6 ?_|refine w_seq ?_|refine w_region ?_|refine w_ops_nil ?_|refine w_skip ?_|refine w_block ?_|refine w_blk ?_|refine q7 ?_|refine q8 ?_|refine q9 ?_)
      refine w_condP rfl (fun hx => ?_) (fun hx => ?_)
      · rw [decide_eq_false (by omega)] at hh
        repeat (first|refine q1 ?_|refine q2 ?_|refine q3 ?_|refine q4 ?_|refine q5 ?_|refine q6 ?_|refine w_seq ?_|refine w_region ?_|refine w_ops_nil ?_|refine w_skip ?_|refine w_block ?_|refine w_blk ?_|refine q7 ?_|refine q8 ?_|refine q9 ?_)
        refine w_retG (res2 rfl rfl rfl) hst fun h' _ => ?_
        unfold slC; rw [hh]; rfl
      · rw [decide_eq_true (by omega)] at hh
        repeat (first|refine q1 ?_|refine q2 ?_|refine q3 ?_|refine q4 ?_|refine q5 ?_|refine q6 ?_|refine w_seq ?_|refine w_region ?_|refine w_ops_nil ?_|refine w_skip ?_|refine w_block ?_|refine w_blk ?_|refine q7 ?_|refine q8 ?_|refine q9 ?_)
        refine w_fldA (by decide) rfl rfl ?_
        refine w_load1 (v := vL) hc1 rfl rfl rfl rfl ?_
        repeat (first|refine q1 ?_|refine q2 ?_|refine q3 ?_|refine q4 ?_|refine q5 ?_|refine q6 ?_|refine w_seq ?_|refine w_region ?_|refine w_ops_nil ?_|refine w_skip ?_|refine w_block ?_|refine w_blk ?_|refine q7 ?_|refine q8 ?_|refine q9 ?_)
        refine w_idx hr rfl rfl (by omega) (by omega) rfl ?_
        refine w_fldE (hr.base hlt) (by decide) rfl rfl ?_
        refine w_loadEF (i := i) (off := 2) (y := (k, v)) (u := v.sl.1) hr rfl h2 rfl rfl rfl ?_
        repeat (first|refine q1 ?_|refine q2 ?_|refine q3 ?_|refine q4 ?_|refine q5 ?_|refine q6 ?_|refine w_seq ?_|refine w_region ?_|refine w_ops_nil ?_|refine w_skip ?_|refine w_block ?_|refine w_blk ?_|refine q7 ?_|refine q8 ?_|refine q9 ?_)
        refine w_retG (res2 rfl rfl rfl) hst fun h' _ => ?_
        unfold slC; rw [hh, hd]; rfl
end Go.Proofs.Ytfkdfnookacgiaa
