/- Names of hosts: the program's functions that only read. No statement of the seat is proved here. -/
import Derived.Test.YtnfokdhgajanpaaLab1
set_option linter.unusedVariables false
namespace Go.Proofs.Ytnfokdhgajanpaa
open Go
attribute [local irreducible] Wp

theorem splitB_cons_ne {c x : UInt8} {r h : List UInt8} {t : List (List UInt8)} (hx : ¬ x = c) (e : splitB c r = h :: t) : splitB c (x :: r) = (x :: h) :: t := by
  rw [splitB, if_neg hx, e]
theorem splitB_snoc_hit (c : UInt8) : ∀ l : List UInt8, splitB c (l ++ [c]) = splitB c l ++ [[]]
  | [] => by simp [splitB]
  | x :: r => by
    have ih := splitB_snoc_hit c r
    by_cases hx : x = c
    · simp [splitB, hx, ih]
    · cases h : splitB c r with
      | nil => exact absurd h (splitB_ne _ _)
      | cons a t =>
        rw [h] at ih
        rw [List.cons_append, splitB_cons_ne hx ih, splitB_cons_ne hx h]; rfl
theorem splitB_snoc_miss (c y : UInt8) (hy : ¬ y = c) : ∀ (l : List UInt8), splitB c (l ++ [y]) = (splitB c l).set ((splitB c l).length - 1) (((splitB c l)[(splitB c l).length - 1]?).getD [] ++ [y])
  | [] => by simp [splitB, hy]
  | x :: r => by
    have ih := splitB_snoc_miss c y hy r
    cases h : splitB c r with
    | nil => exact absurd h (splitB_ne _ _)
    | cons a t =>
      rw [h] at ih
      by_cases hx : x = c
      · rw [List.cons_append, splitB, if_pos hx, ih, splitB, if_pos hx, h]
        simp
      · rw [splitB_cons_ne hx h, List.cons_append]
        cases t with
        | nil =>
          simp at ih
          rw [splitB_cons_ne hx ih]; simp
        | cons b t =>
          simp at ih
          rw [splitB_cons_ne hx ih]; simp

theorem text_Split (s : List UInt8) (c : UInt8) (g : G) (hs : s.length ≤ 1000000000) : Fn Try.prog 78 [str s, bv c] g [] fun v h => Rd h 0 El.str v (splitB c s) := by
  refine enterG [] [2] Try.func78 rfl Try.ntmps78 rfl (by simp) fun g1 hv ho => ?_
  repeat (first|refine q1 ?_|refine q2 ?_|refine q3 ?_|refine q4 ?_|refine q5 ?_|refine q6 ?_|refine w_seq ?_|refine w_region ?_|refine w_ops_nil ?_|refine w_skip ?_|refine w_block ?_|refine w_blk ?_|refine q7 ?_|refine q8 ?_|refine q9 ?_)
  refine w_buildSl 2 El.str [[]] rfl rfl rfl rfl fun h1 v1 hs1 ho1 => ?_
  repeat (first|refine q1 ?_|refine q2 ?_|refine q3 ?_|refine q4 ?_|refine q5 ?_|refine q6 ?_|refine w_seq ?_|refine w_region ?_|refine w_ops_nil ?_|refine w_skip ?_|refine w_block ?_|refine w_blk ?_|refine q7 ?_|refine q8 ?_|refine q9 ?_)
  refine w_loop (ι := Value × Nat) (fun x => [(0, str s), (1, bv c), (5, x.1), (9, .int .i64 (s.length : Int)), (10, .int .i64 (x.2 : Int))])
    (fun x w => ∃ h : G, h.w = w ∧ Step [] [2] g1 h ∧ Own h 2 El.str 9 x.1 (splitB c (s.take x.2)) ∧ x.2 ≤ s.length) (fun x => s.length - x.2)
    (v1, 0) ⟨h1, rfl, hs1.nil, ho1, by simp⟩ ⟨rfl, rfl, rfl, rfl, rfl, trivial⟩ ?_
  rintro ⟨v, i⟩ _ ⟨h, rfl, hst, hown, hi⟩
  dsimp only at hst hown hi ⊢
  have hll := splitB_length c (s.take i)
  have hne := List.length_pos_iff.2 (splitB_ne c (s.take i))
  have htl : (s.take i).length ≤ s.length := by rw [List.length_take]; omega
  repeat (first|refine q1 ?_|refine q2 ?_|refine q3 ?_|refine q4 ?_|refine q5 ?_|refine q6 ?_|refine w_seq ?_|refine w_region ?_|refine w_ops_nil ?_|refine w_skip ?_|refine w_block ?_|refine w_blk ?_|refine q7 ?_|refine q8 ?_|refine q9 ?_)
  refine w_condP rfl (fun hc => ?_) (fun hc => ?_)
  · have hlt : i < s.length := by omega
    repeat (first|refine q1 ?_|refine q2 ?_|refine q3 ?_|refine q4 ?_|refine q5 ?_|refine q6 ?_|refine w_seq ?_|refine w_region ?_|refine w_ops_nil ?_|refine w_skip ?_|refine w_block ?_|refine w_blk ?_|refine q7 ?_|refine q8 ?_|refine q9 ?_)
    refine w_indexStr (b := s[i]) rfl rfl (by omega) (by simp [hlt]) rfl ?_
    repeat (first|refine q1 ?_|refine q2 ?_|refine q3 ?_|refine q4 ?_|refine q5 ?_|refine q6 ?_|refine w_seq ?_|refine w_region ?_|refine w_ops_nil ?_|refine w_skip ?_|refine w_block ?_|refine w_blk ?_|refine q7 ?_|refine q8 ?_|refine q9 ?_)
    refine w_condP rfl (fun hb => ?_) (fun hb => ?_)
    · have hcb : s[i] = c := by
        have : (s[i].toNat : Int) = (c.toNat : Int) := hb
        exact UInt8.toNat_inj.1 (by omega)
      repeat (first|refine q1 ?_|refine q2 ?_|refine q3 ?_|refine q4 ?_|refine q5 ?_|refine q6 ?_|refine w_seq ?_|refine w_region ?_|refine w_ops_nil ?_|refine w_skip ?_|refine w_block ?_|refine w_blk ?_|refine q7 ?_|refine q8 ?_|refine q9 ?_)
      refine w_buildSlR El.str [[]] rfl rfl rfl rfl fun h2 v2 hs2 hr2 => ?_
      refine w_append (hown.go hs2) hr2 rfl rfl rfl (by decide) (by simp; omega) rfl fun h3 v3 hs3 ho3 => ?_
      repeat (first|refine q1 ?_|refine q2 ?_|refine q3 ?_|refine q4 ?_|refine q5 ?_|refine q6 ?_|refine w_seq ?_|refine w_region ?_|refine w_ops_nil ?_|refine w_skip ?_|refine w_block ?_|refine w_blk ?_|refine q7 ?_|refine q8 ?_|refine q9 ?_)
      refine w_again (v3, i + 1) (by simp; omega) ⟨h3, rfl, (hst.go hs2).go hs3, ?_, by dsimp only; omega⟩ ⟨rfl, rfl, rfl, rfl, rfl, trivial⟩
      dsimp only
      rw [List.take_succ_eq_append_getElem hlt, hcb, splitB_snoc_hit]
      exact ho3
    · have hcb : ¬ s[i] = c := fun e => hb (by rw [e])
      repeat (first|refine q1 ?_|refine q2 ?_|refine q3 ?_|refine q4 ?_|refine q5 ?_|refine q6 ?_|refine w_seq ?_|refine w_region ?_|refine w_ops_nil ?_|refine w_skip ?_|refine w_block ?_|refine w_blk ?_|refine q7 ?_|refine q8 ?_|refine q9 ?_)
      refine d_begin (some 13) [] (by kernel_rfl) fun g2 hs2 => ?_
      replace hown := hown.go hs2; replace hst := hst.go hs2
      refine d_pure 0 calm_ret rfl (by kernel_rfl) rfl rfl ?_; refine d_pure 1 calm_ret rfl (by kernel_rfl) rfl rfl ?_
      refine d_read 2 calm_ret rfl (by kernel_rfl) rfl  (fun h hs => r_lenSl hown.isSl rfl) ?_
      refine d_read 3 calm_ret rfl (by kernel_rfl) rfl  (fun h hs => r_sub rfl rfl (by omega)) ?_
      refine d_known 24 (.int .i64 (((splitB c (s.take i)).length - 1 : Nat) : Int)) rfl (congrArg (Value.int .i64) (by omega)) ?_
      obtain ⟨y, hy⟩ : ∃ y, (splitB c (s.take i))[(splitB c (s.take i)).length - 1]? = some y := ⟨_, List.getElem?_eq_getElem (by omega)⟩
      have hyl := len_le_flatten _ _ _ hy
      have hyf := splitB_flat c (s.take i)
      refine d_read 4 calm_ret rfl (by kernel_rfl) rfl  (fun h hs => r_idx (hown.go hs).rd rfl rfl (by omega) (by omega)) ?_
      refine d_read 5 calm_ret rfl (by kernel_rfl) rfl  (fun h hs => r_loadE (i := (splitB c (s.take i)).length - 1) (hown.go hs).rd rfl hy rfl) ?_
      refine d_pure 6 calm_ret rfl (by kernel_rfl) rfl rfl ?_; refine d_pure 7 calm_ret rfl (by kernel_rfl) rfl rfl ?_; refine d_pure 8 calm_ret rfl (by kernel_rfl) rfl rfl ?_
      refine d_read 9 calm_ret rfl (by kernel_rfl) rfl  (fun h hs => r_add rfl rfl (by omega)) ?_
      refine d_read 10 calm_ret rfl (by kernel_rfl) rfl  (fun h hs => r_sliceStr (a := i) (b := i + 1) rfl ⟨_, _, rfl, rfl⟩ ⟨_, _, rfl, rfl⟩ (by omega) (by omega)) ?_
      refine d_read 11 calm_ret rfl (by kernel_rfl) rfl  (fun h hs => r_concat rfl rfl (by simp; omega)) ?_
      refine d_read 12 calm_ret rfl (by kernel_rfl) rfl  (fun h hs => r_idx (hown.go hs).rd rfl rfl (by omega) (by omega)) ?_
      refine d_exec1 13 (by kernel_rfl) rfl ?_
      refine w_storeE (i := (splitB c (s.take i)).length - 1) (y := y ++ (s.take (i + 1)).drop i) hown rfl rfl (by omega) fun h3 hs3 ho3 => ?_
      repeat (first|refine q1 ?_|refine q2 ?_|refine q3 ?_|refine q4 ?_|refine q5 ?_|refine q6 ?_|refine w_seq ?_|refine w_region ?_|refine w_ops_nil ?_|refine w_skip ?_|refine w_block ?_|refine w_blk ?_|refine q7 ?_|refine q8 ?_|refine q9 ?_)
      refine d_over (by kernel_rfl) ?_
      refine d_done (by kernel_rfl) ?_
      repeat (first|refine q1 ?_|refine q2 ?_|refine q3 ?_|refine q4 ?_|refine q5 ?_|refine q6 ?_|refine w_seq ?_|refine w_region ?_|refine w_ops_nil ?_|refine w_skip ?_|refine w_block ?_|refine w_blk ?_|refine q7 ?_|refine q8 ?_|refine q9 ?_)
      refine w_again (v, i + 1) (by simp; omega) ⟨h3, rfl, hst.go hs3, ?_, by dsimp only; omega⟩ ⟨rfl, rfl, rfl, rfl, rfl, trivial⟩
      dsimp only
      rw [List.take_succ_eq_append_getElem hlt, splitB_snoc_miss _ _ hcb, hy]
      rw [List.take_succ_eq_append_getElem hlt, List.drop_append, List.drop_eq_nil_of_le (by rw [List.length_take]; omega), show i - (s.take i).length = 0 by rw [List.length_take]; omega] at ho3
      exact ho3
  · have : i = s.length := by omega
    subst this
    repeat (first|refine q1 ?_|refine q2 ?_|refine q3 ?_|refine q4 ?_|refine q5 ?_|refine q6 ?_|refine w_seq ?_|refine w_region ?_|refine w_ops_nil ?_|refine w_skip ?_|refine w_block ?_|refine w_blk ?_|refine q7 ?_|refine q8 ?_|refine q9 ?_)
    obtain ⟨h4, hw4, hs4, hr4⟩ := hown.freeze (by decide)
    rw [← hw4]
    refine w_retG (res1 rfl rfl) (hst.go hs4) fun h' hv' => ?_
    rw [List.take_length] at hr4
    exact hr4.view hv' (.inl rfl)

theorem label_Labels (s : List UInt8) (g : G) (hs : s.length ≤ 1000000000) : Fn Try.prog 42 [str s] g [] fun v h => Rd h 0 El.str v (labelsB s) := by
  refine enterG [] [2] Try.func42 rfl Try.ntmps42 rfl (by simp) fun g1 hv ho => ?_
  repeat (first|refine q1 ?_|refine q2 ?_|refine q3 ?_|refine q4 ?_|refine q5 ?_|refine q6 ?_|refine w_seq ?_|refine w_region ?_|refine w_ops_nil ?_|refine w_skip ?_|refine w_block ?_|refine w_blk ?_|refine q7 ?_|refine q8 ?_|refine q9 ?_)
  refine w_condP rfl (fun hc => ?_) (fun hc => ?_)
  · have hc : s = [] := hc
    subst hc
    repeat (first|refine q1 ?_|refine q2 ?_|refine q3 ?_|refine q4 ?_|refine q5 ?_|refine q6 ?_|refine w_seq ?_|refine w_region ?_|refine w_ops_nil ?_|refine w_skip ?_|refine w_block ?_|refine w_blk ?_|refine q7 ?_|refine q8 ?_|refine q9 ?_)
    exact w_retG (res1 rfl rfl) (Step.refl _ _ _) fun h' _ => Rd.nil _ _ _ none 0 (by decide)
  · have hc : ¬ s = [] := hc
    repeat (first|refine q1 ?_|refine q2 ?_|refine q3 ?_|refine q4 ?_|refine q5 ?_|refine q6 ?_|refine w_seq ?_|refine w_region ?_|refine w_ops_nil ?_|refine w_skip ?_|refine w_block ?_|refine w_blk ?_|refine q7 ?_|refine q8 ?_|refine q9 ?_)
    refine w_callF rfl (text_Split s 46 g1 hs) rfl fun v h hs1 hr => ?_
    repeat (first|refine q1 ?_|refine q2 ?_|refine q3 ?_|refine q4 ?_|refine q5 ?_|refine q6 ?_|refine w_seq ?_|refine w_region ?_|refine w_ops_nil ?_|refine w_skip ?_|refine w_block ?_|refine w_blk ?_|refine q7 ?_|refine q8 ?_|refine q9 ?_)
    refine w_retG (res1 rfl rfl) hs1.nil fun h' hv' => ?_
    rw [labelsB, if_neg hc]
    exact hr.view hv' (.inl rfl)
end Go.Proofs.Ytnfokdhgajanpaa
