/- Grants: the reference's book where room is left. No statement of the seat is proved here. -/
import Derived.Test.YtkgbodmlmeholaaGr7
import Derived.Test.YtkgbodmlmeholaaMap2
set_option linter.unusedVariables false
set_option linter.unusedSimpArgs false
namespace Go.Proofs.Ytkgbodmlmeholaa
open Go
attribute [local irreducible] Wp

theorem Rd.base {α : Type} {E : El α} {g : G} {c : Nat} {v : Value} {l : List α} (hr : Rd g c E v l) {i : Nat} (hi : i < l.length) : ∃ a, elemA v 0 = some a := by
  obtain ⟨A, cap, rfl, _, _, h⟩ := hr
  rcases h with rfl | ⟨a, rfl, _⟩
  · simp at hi
  · exact ⟨_, rfl⟩
def El.gr : El (Ky × Int) := ⟨25, true, fun x => El.ky.enc x.1 ++ [.int .i64 x.2], fun x => by rw [List.length_append, El.ky.len]; rfl, fun h => (by cases h), by decide, by
  intro x u hu
  rcases List.mem_append.1 hu with h | h
  · exact El.ky.flat _ _ h
  · simp only [List.mem_cons, List.not_mem_nil, or_false] at h; subst h; rfl⟩
/-- The place of a key; below 0: it has none. -/
def findK (k : Ky) : BkM → Int
  | [] => -1
  | x :: l => if x.1 = k then 0 else if findK k l = -1 then -1 else findK k l + 1
theorem findK_ge (k : Ky) : ∀ l, -1 ≤ findK k l
  | [] => by simp [findK]
  | x :: l => by have := findK_ge k l; rw [findK]; split <;> (try split) <;> omega
theorem findK_lt (k : Ky) : ∀ l, findK k l < l.length
  | [] => by simp [findK]
  | x :: l => by have := findK_lt k l; rw [findK]; simp only [List.length_cons]; split <;> (try split) <;> omega
theorem findK_skip (k : Ky) : ∀ (l : BkM) (i : Nat), (∀ j x, j < i → l[j]? = some x → ¬ x.1 = k) → i ≤ l.length → findK k l = if findK k (l.drop i) = -1 then -1 else findK k (l.drop i) + i
  | l, 0, _, _ => by rw [List.drop_zero]; split <;> simp_all
  | [], i + 1, _, h => by simp at h
  | x :: l, i + 1, h, hi => by
    have ih := findK_skip k l i (fun j y hj hy => h (j + 1) y (by omega) (by simpa using hy)) (by simpa using hi)
    have hg := findK_ge k (l.drop i)
    rw [List.drop_succ_cons, findK, if_neg (h 0 x (by omega) rfl), ih]
    split
    · simp
    · rw [if_neg (by omega)]; push_cast; omega

theorem ref18_Find (room : Int) (L : BkM) (vL : Value) (k : Ky) (g : G) (hr : Rd g 0 El.gr vL L) : Fn Try.prog 32 [.agg #[.int .i64 room, vL], El.ky.val k] g [] fun u _ => u = .int .i64 (findK k L) := by
  refine enterG [] [41, 42] Try.func32 rfl Try.ntmps32 rfl (by simp) fun g1 hv ho => ?_
  replace hr := hr.view hv (.inl rfl)
  have hlm := hr.isSl.le
  repeat (first|refine q1 ?_|refine q2 ?_|refine q3 ?_|refine q4 ?_|refine q5 ?_|refine q6 ?_|refine w_seq ?_|refine w_region ?_|refine w_ops_nil ?_|refine w_skip ?_|refine w_block ?_|refine w_blk ?_|refine q7 ?_|refine q8 ?_|refine q9 ?_)
  refine w_box 41 (vs := [.int .i64 room, vL]) rfl rfl rfl fun h1 b1 hs1 hc1 => ?_
  have hst : Step [] [41, 42] g1 h1 := hs1.nil
  repeat (first|refine q1 ?_|refine q2 ?_|refine q3 ?_|refine q4 ?_|refine q5 ?_|refine q6 ?_|refine w_seq ?_|refine w_region ?_|refine w_ops_nil ?_|refine w_skip ?_|refine w_block ?_|refine w_blk ?_|refine q7 ?_|refine q8 ?_|refine q9 ?_)
  refine w_box 42 (vs := El.ky.enc k) rfl rfl rfl fun h2 b2 hs2 hc2 => ?_
  replace hr := hr.go hs1
  replace hst := hst.go hs2; replace hc1 := hc1.go hs2; replace hr := hr.go hs2
  repeat (first|refine q1 ?_|refine q2 ?_|refine q3 ?_|refine q4 ?_|refine q5 ?_|refine q6 ?_|refine w_seq ?_|refine w_region ?_|refine w_ops_nil ?_|refine w_skip ?_|refine w_block ?_|refine w_blk ?_|refine q7 ?_|refine q8 ?_|refine q9 ?_)
  refine w_loop (ι := Nat) (fun i => [(2, .pointer (some ⟨b1, 0, none⟩)), (3, .pointer (some ⟨b2, 0, none⟩)), (5, .int .i64 (i : Int))])
    (fun i w => ∃ h : G, h.w = w ∧ Step [] [] h2 h ∧ i ≤ L.length ∧ ∀ j x, j < i → L[j]? = some x → ¬ x.1 = k) (fun i => L.length - i) 0 ⟨h2, rfl, Step.refl _ _ _, by omega, fun j x hj => by omega⟩ ⟨rfl, rfl, rfl, trivial⟩ ?_
  rintro i _ ⟨h, rfl, hst2, hi, hall⟩
  replace hst := hst.go hst2; replace hc1 := hc1.go hst2; replace hc2 := hc2.go hst2; replace hr := hr.go hst2
  repeat (first|refine q1 ?_|refine q2 ?_|refine q3 ?_|refine q4 ?_|refine q5 ?_|refine q6 ?_|refine w_seq ?_|refine w_region ?_|refine w_ops_nil ?_|refine w_skip ?_|refine w_block ?_|refine w_blk ?_|refine q7 ?_|refine q8 ?_|refine q9 ?_)
  refine w_fldA (by decide) rfl rfl ?_
  refine w_load1 (v := vL) hc1 rfl rfl rfl rfl ?_
  refine w_lenSl hr.isSl rfl rfl ?_
  repeat (first|refine q1 ?_|refine q2 ?_|refine q3 ?_|refine q4 ?_|refine q5 ?_|refine q6 ?_|refine w_seq ?_|refine w_region ?_|refine w_ops_nil ?_|refine w_skip ?_|refine w_block ?_|refine w_blk ?_|refine q7 ?_|refine q8 ?_|refine q9 ?_)
  refine w_condP rfl (fun hlt => ?_) (fun hlt => ?_)
  · have hlt : i < L.length := by omega
    repeat (first|refine q1 ?_|refine q2 ?_|refine q3 ?_|refine q4 ?_|refine q5 ?_|refine q6 ?_|refine w_seq ?_|refine w_region ?_|refine w_ops_nil ?_|refine w_skip ?_|refine w_block ?_|refine w_blk ?_|refine q7 ?_|refine q8 ?_|refine q9 ?_)
    refine d_begin none [] (by kernel_rfl) fun g2 hsd => ?_
    replace hst := hst.go hsd; replace hst2 := hst2.go hsd; replace hc1 := hc1.go hsd; replace hc2 := hc2.go hsd; replace hr := hr.go hsd
    refine d_read 0 calm_ret rfl (by kernel_rfl) rfl  (fun h hs => r_fldA (by decide) rfl) ?_
    refine d_read 1 calm_ret rfl (by kernel_rfl) rfl  (fun h hs => r_load1 (v := vL) (hc1.go hs) rfl rfl rfl) ?_
    refine d_pure 2 calm_ret rfl (by kernel_rfl) rfl rfl ?_
    refine d_read 3 calm_ret rfl (by kernel_rfl) rfl  (fun h hs => r_idx (hr.go hs) rfl rfl (by omega) (by omega)) ?_
    refine d_read 4 calm_ret rfl (by kernel_rfl) rfl  (fun h hs => r_fldE (hr.base hlt) (by decide) rfl) ?_
    refine d_read 5 calm_ret rfl (by kernel_rfl) rfl  (fun h hs => r_loadES (i := i) (off := 0) (y := L[i]) (us := El.ky.enc L[i].1) (hr.go hs) rfl (by simp [hlt]) rfl rfl rfl) ?_
    refine d_read 6 calm_ret rfl (by kernel_rfl) rfl  (fun h hs => r_load (us := El.ky.enc k) (hc2.go hs) rfl rfl rfl (fun e => by cases e)) ?_
    refine d_read 7 calm_ret rfl (by kernel_rfl) rfl  (fun h hs => r_eqS (E := El.ky) (a := L[i].1) (b := k) rfl rfl rfl) ?_
    refine d_done (by kernel_rfl) ?_
    repeat (first|refine q1 ?_|refine q2 ?_|refine q3 ?_|refine q4 ?_|refine q5 ?_|refine q6 ?_|refine w_seq ?_|refine w_region ?_|refine w_ops_nil ?_|refine w_skip ?_|refine w_block ?_|refine w_blk ?_|refine q7 ?_|refine q8 ?_|refine q9 ?_)
    refine w_condP rfl (fun hx => ?_) (fun hx => ?_)
    · repeat (first|refine q1 ?_|refine q2 ?_|refine q3 ?_|refine q4 ?_|refine q5 ?_|refine q6 ?_|refine w_seq ?_|refine w_region ?_|refine w_ops_nil ?_|refine w_skip ?_|refine w_block ?_|refine w_blk ?_|refine q7 ?_|refine q8 ?_|refine q9 ?_)
      refine w_retG (res1 rfl rfl) hst fun h' _ => congrArg (Value.int .i64) ?_
      rw [findK_skip k L i hall hi, List.drop_eq_getElem_cons hlt, findK, if_pos hx]; simp
    · repeat (first|refine q1 ?_|refine q2 ?_|refine q3 ?_|refine q4 ?_|refine q5 ?_|refine q6 ?_|refine w_seq ?_|refine w_region ?_|refine w_ops_nil ?_|refine w_skip ?_|refine w_block ?_|refine w_blk ?_|refine q7 ?_|refine q8 ?_|refine q9 ?_)
      refine w_again (i + 1) (by omega) ⟨g2, rfl, hst2, by omega, fun j x hj hy => ?_⟩ ⟨rfl, rfl, rfl, trivial⟩
      by_cases e : j = i
      · subst e; rw [List.getElem?_eq_getElem hlt] at hy; injection hy with hy; subst hy; exact hx
      · exact hall j x (by omega) hy
  · have e : i = L.length := by omega
    subst e
    repeat (first|refine q1 ?_|refine q2 ?_|refine q3 ?_|refine q4 ?_|refine q5 ?_|refine q6 ?_|refine w_seq ?_|refine w_region ?_|refine w_ops_nil ?_|refine w_skip ?_|refine w_block ?_|refine w_blk ?_|refine q7 ?_|refine q8 ?_|refine q9 ?_)
    refine w_retG (res1 rfl rfl) hst fun h' _ => congrArg (Value.int .i64) ?_
    rw [findK_skip k L L.length hall hi, List.drop_length]; rfl
theorem ref18_cut (L : BkM) (vL : Value) (i : Nat) (g : G) (hr : Rd g 0 El.gr vL L) (hi : i < L.length) (hL : L.length ≤ 1000000) : Fn Try.prog 33 [vL, .int .i64 (i : Int)] g [] fun u h => Rd h 0 El.gr u (L.eraseIdx i) := by
  refine enterG [] [45] Try.func33 rfl Try.ntmps33 rfl (by simp) fun g1 hv ho => ?_
  replace hr := hr.view hv (.inl rfl)
  repeat (first|refine q1 ?_|refine q2 ?_|refine q3 ?_|refine q4 ?_|refine q5 ?_|refine q6 ?_|refine w_seq ?_|refine w_region ?_|refine w_ops_nil ?_|refine w_skip ?_|refine w_block ?_|refine w_blk ?_|refine q7 ?_|refine q8 ?_|refine q9 ?_)
  refine w_cut_ (a := 0) (b := i) hr rfl rfl ⟨_, rfl, rfl⟩ (by omega) (by omega) rfl fun hr1 => ?_
  refine w_append (Own.nil g1 45 El.gr 48) hr1 rfl rfl rfl (by decide) (by simp; omega) rfl fun h1 v1 hs1 ho1 => ?_
  replace hr := hr.go hs1
  repeat (first|refine q1 ?_|refine q2 ?_|refine q3 ?_|refine q4 ?_|refine q5 ?_|refine q6 ?_|refine w_seq ?_|refine w_region ?_|refine w_ops_nil ?_|refine w_skip ?_|refine w_block ?_|refine w_blk ?_|refine q7 ?_|refine q8 ?_|refine q9 ?_)
  refine w_cut_ (a := i + 1) (b := L.length) hr rfl ⟨_, rfl, by omega⟩ rfl (by omega) (by omega) rfl fun hr2 => ?_
  refine w_append ho1 hr2 rfl rfl rfl (by decide) (by simp; omega) rfl fun h2 v2 hs2 ho2 => ?_
  repeat (first|refine q1 ?_|refine q2 ?_|refine q3 ?_|refine q4 ?_|refine q5 ?_|refine q6 ?_|refine w_seq ?_|refine w_region ?_|refine w_ops_nil ?_|refine w_skip ?_|refine w_block ?_|refine w_blk ?_|refine q7 ?_|refine q8 ?_|refine q9 ?_)
  obtain ⟨h3, hw3, hs3, hr3⟩ := ho2.freeze (by decide)
  rw [← hw3]
  refine w_retG (res1 rfl rfl) ((hs1.go hs2).go hs3) fun h' hv' => ?_
  have e : [] ++ (L.take i).drop 0 ++ (L.take L.length).drop (i + 1) = L.eraseIdx i := by rw [List.eraseIdx_eq_take_drop_succ]; simp
  rw [← e]
  exact hr3.view hv' (.inl rfl)
theorem ref18_New (room : Int) (g : G) : Fn Try.prog 15 [.int .i64 room] g [] fun u h => u = .agg #[.int .i64 (roomZ room), .slice none 0 0] := by
  refine enterG [] [42] Try.func15 rfl Try.ntmps15 rfl (by simp) fun g1 hv ho => ?_
  repeat (first|refine q1 ?_|refine q2 ?_|refine q3 ?_|refine q4 ?_|refine q5 ?_|refine q6 ?_|refine w_seq ?_|refine w_region ?_|refine w_ops_nil ?_|refine w_skip ?_|refine w_block ?_|refine w_blk ?_|refine q7 ?_|refine q8 ?_|refine q9 ?_)
  refine w_alloc 42 (vs := [.int .i64 0, .slice none 0 0]) rfl rfl fun h1 b1 hs1 hc1 => ?_
  repeat (first|refine q1 ?_|refine q2 ?_|refine q3 ?_|refine q4 ?_|refine q5 ?_|refine q6 ?_|refine w_seq ?_|refine w_region ?_|refine w_ops_nil ?_|refine w_skip ?_|refine w_block ?_|refine w_blk ?_|refine q7 ?_|refine q8 ?_|refine q9 ?_)
  refine w_max rfl rfl rfl ?_
  refine w_min rfl rfl rfl ?_
  refine w_build (vs := [(0, .int .i64 (min (max room 1) 64))]) (r := [.int .i64 (min (max room 1) 64), .slice none 0 0]) rfl rfl rfl ?_
  refine w_store (us := [.int .i64 (min (max room 1) 64), .slice none 0 0]) (vs' := [.int .i64 (min (max room 1) 64), .slice none 0 0]) hc1 rfl rfl rfl rfl (by
    intro u hu
    simp only [List.mem_cons, List.not_mem_nil, or_false] at hu
    rcases hu with rfl | rfl <;> rfl) (show 0 + 2 ≤ 2 by decide) rfl fun h2 hb2 hs2 hc2 => ?_
  repeat (first|refine q1 ?_|refine q2 ?_|refine q3 ?_|refine q4 ?_|refine q5 ?_|refine q6 ?_|refine w_seq ?_|refine w_region ?_|refine w_ops_nil ?_|refine w_skip ?_|refine w_block ?_|refine w_blk ?_|refine q7 ?_|refine q8 ?_|refine q9 ?_)
  exact w_retG (resCs hc2 rfl rfl rfl rfl) ((hs1.mono (by simp) (by simp)).go hs2) fun h' _ => rfl
end Go.Proofs.Ytkgbodmlmeholaa
