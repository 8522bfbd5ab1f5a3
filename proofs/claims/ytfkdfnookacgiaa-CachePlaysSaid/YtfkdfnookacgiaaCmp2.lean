/- cmp.Compare, cmp.Or. No statement of the seat is proved here. -/
import Derived.Test.YtfkdfnookacgiaaCmp
import Derived.Test.YtfkdfnookacgiaaTypes
set_option linter.unusedVariables false
set_option linter.unusedSimpArgs false
namespace Go.Proofs.Ytfkdfnookacgiaa
open Go
attribute [local irreducible] Wp

theorem isNaN_str (x : List UInt8) (g : G) : Fn Try.prog 51 [str x] g [] fun u _ => u = .bool false := by
  refine enterG [] [] Try.func51 rfl Try.ntmps51 rfl (by simp) fun g1 hv ho => ?_
  repeat (first|refine q1 ?_|refine q2 ?_|refine q3 ?_|refine q4 ?_|refine q5 ?_|refine q6 ?_|refine w_seq ?_|refine w_region ?_|refine w_ops_nil ?_|refine w_skip ?_|refine w_block ?_|refine w_blk ?_|refine q7 ?_|refine q8 ?_|refine q9 ?_)
  exact w_retG (res1 rfl rfl) (Step.refl _ _ _) fun h' _ => congrArg Value.bool (decide_eq_false (fun h => h rfl))
theorem isNaN_int (x : Int) (g : G) : Fn Try.prog 47 [.int .i64 x] g [] fun u _ => u = .bool false := by
  refine enterG [] [] Try.func47 rfl Try.ntmps47 rfl (by simp) fun g1 hv ho => ?_
  repeat (first|refine q1 ?_|refine q2 ?_|refine q3 ?_|refine q4 ?_|refine q5 ?_|refine q6 ?_|refine w_seq ?_|refine w_region ?_|refine w_ops_nil ?_|refine w_skip ?_|refine w_block ?_|refine w_blk ?_|refine q7 ?_|refine q8 ?_|refine q9 ?_)
  exact w_retG (res1 rfl rfl) (Step.refl _ _ _) fun h' _ => congrArg Value.bool (decide_eq_false (fun h => h rfl))
theorem cmp_str (x y : List UInt8) (g : G) : Fn Try.prog 45 [str x, str y] g [] fun u _ => u = .int .i64 (cmpS x y) := by
  refine enterG [] [] Try.func45 rfl Try.ntmps45 rfl (by simp) fun g1 hv ho => ?_
  repeat (first|refine q1 ?_|refine q2 ?_|refine q3 ?_|refine q4 ?_|refine q5 ?_|refine q6 ?_|refine w_seq ?_|refine w_region ?_|refine w_ops_nil ?_|refine w_skip ?_|refine w_block ?_|refine w_blk ?_|refine q7 ?_|refine q8 ?_|refine q9 ?_)
  refine w_callF rfl (isNaN_str x g1) rfl fun u h1 hs1 hu => ?_
  subst hu
  repeat (first|refine q1 ?_|refine q2 ?_|refine q3 ?_|refine q4 ?_|refine q5 ?_|refine q6 ?_|refine w_seq ?_|refine w_region ?_|refine w_ops_nil ?_|refine w_skip ?_|refine w_block ?_|refine w_blk ?_|refine q7 ?_|refine q8 ?_|refine q9 ?_)
  refine w_callF rfl (isNaN_str y h1) rfl fun u h2 hs2 hu => ?_
  subst hu
  have hst := hs1.go hs2
  repeat (first|refine q1 ?_|refine q2 ?_|refine q3 ?_|refine q4 ?_|refine q5 ?_|refine q6 ?_|refine w_seq ?_|refine w_region ?_|refine w_ops_nil ?_|refine w_skip ?_|refine w_block ?_|refine w_blk ?_|refine q7 ?_|refine q8 ?_|refine q9 ?_)
  refine w_cond rfl (fun h => ?_) (fun h => ?_)
  · have h : Op.bytesLess x y = true := h
    repeat (first|refine q1 ?_|refine q2 ?_|refine q3 ?_|refine q4 ?_|refine q5 ?_|refine q6 ?_|refine w_seq ?_|refine w_region ?_|refine w_ops_nil ?_|refine w_skip ?_|refine w_block ?_|refine w_blk ?_|refine q7 ?_|refine q8 ?_|refine q9 ?_)
    refine w_retG (res1 rfl rfl) hst fun h' _ => congrArg (Value.int .i64) ?_
    rw [less_cmp, decide_eq_true_eq] at h
    exact h.symm
  · have h : ¬ Op.bytesLess x y = true := by intro e; rw [show Op.bytesLess x y = false from h] at e; cases e
    have he := cmpS_not h
    repeat (first|refine q1 ?_|refine q2 ?_|refine q3 ?_|refine q4 ?_|refine q5 ?_|refine q6 ?_|refine w_seq ?_|refine w_region ?_|refine w_ops_nil ?_|refine w_skip ?_|refine w_block ?_|refine w_blk ?_|refine q7 ?_|refine q8 ?_|refine q9 ?_)
    refine w_cond rfl (fun h2 => ?_) (fun h2 => ?_)
    · have h2 : (!(Op.bytesLess x y || decide (x = y))) = true := h2
      repeat (first|refine q1 ?_|refine q2 ?_|refine q3 ?_|refine q4 ?_|refine q5 ?_|refine q6 ?_|refine w_seq ?_|refine w_region ?_|refine w_ops_nil ?_|refine w_skip ?_|refine w_block ?_|refine w_blk ?_|refine q7 ?_|refine q8 ?_|refine q9 ?_)
      refine w_retG (res1 rfl rfl) hst fun h' _ => congrArg (Value.int .i64) ?_
      have : ¬ x = y := by intro e; simp [e] at h2
      rw [he, if_neg this]
    · have h2 : (!(Op.bytesLess x y || decide (x = y))) = false := h2
      repeat (first|refine q1 ?_|refine q2 ?_|refine q3 ?_|refine q4 ?_|refine q5 ?_|refine q6 ?_|refine w_seq ?_|refine w_region ?_|refine w_ops_nil ?_|refine w_skip ?_|refine w_block ?_|refine w_blk ?_|refine q7 ?_|refine q8 ?_|refine q9 ?_)
      refine w_retG (res1 rfl rfl) hst fun h' _ => congrArg (Value.int .i64) ?_
      have : x = y := by
        simp only [Bool.not_eq_false', Bool.or_eq_true, decide_eq_true_eq] at h2
        exact h2.resolve_left h
      rw [he, if_pos this]
theorem cmp_int (x y : Int) (g : G) : Fn Try.prog 40 [.int .i64 x, .int .i64 y] g [] fun u _ => u = .int .i64 (cmpI x y) := by
  refine enterG [] [] Try.func40 rfl Try.ntmps40 rfl (by simp) fun g1 hv ho => ?_
  repeat (first|refine q1 ?_|refine q2 ?_|refine q3 ?_|refine q4 ?_|refine q5 ?_|refine q6 ?_|refine w_seq ?_|refine w_region ?_|refine w_ops_nil ?_|refine w_skip ?_|refine w_block ?_|refine w_blk ?_|refine q7 ?_|refine q8 ?_|refine q9 ?_)
  refine w_callF rfl (isNaN_int x g1) rfl fun u h1 hs1 hu => ?_
  subst hu
  repeat (first|refine q1 ?_|refine q2 ?_|refine q3 ?_|refine q4 ?_|refine q5 ?_|refine q6 ?_|refine w_seq ?_|refine w_region ?_|refine w_ops_nil ?_|refine w_skip ?_|refine w_block ?_|refine w_blk ?_|refine q7 ?_|refine q8 ?_|refine q9 ?_)
  refine w_callF rfl (isNaN_int y h1) rfl fun u h2 hs2 hu => ?_
  subst hu
  have hst := hs1.go hs2
  repeat (first|refine q1 ?_|refine q2 ?_|refine q3 ?_|refine q4 ?_|refine q5 ?_|refine q6 ?_|refine w_seq ?_|refine w_region ?_|refine w_ops_nil ?_|refine w_skip ?_|refine w_block ?_|refine w_blk ?_|refine q7 ?_|refine q8 ?_|refine q9 ?_)
  refine w_condP rfl (fun h => ?_) (fun h => ?_)
  · repeat (first|refine q1 ?_|refine q2 ?_|refine q3 ?_|refine q4 ?_|refine q5 ?_|refine q6 ?_|refine w_seq ?_|refine w_region ?_|refine w_ops_nil ?_|refine w_skip ?_|refine w_block ?_|refine w_blk ?_|refine q7 ?_|refine q8 ?_|refine q9 ?_)
    exact w_retG (res1 rfl rfl) hst fun h' _ => by rw [cmpI, if_pos h]
  · repeat (first|refine q1 ?_|refine q2 ?_|refine q3 ?_|refine q4 ?_|refine q5 ?_|refine q6 ?_|refine w_seq ?_|refine w_region ?_|refine w_ops_nil ?_|refine w_skip ?_|refine w_block ?_|refine w_blk ?_|refine q7 ?_|refine q8 ?_|refine q9 ?_)
    refine w_condP rfl (fun h2 => ?_) (fun h2 => ?_)
    · repeat (first|refine q1 ?_|refine q2 ?_|refine q3 ?_|refine q4 ?_|refine q5 ?_|refine q6 ?_|refine w_seq ?_|refine w_region ?_|refine w_ops_nil ?_|refine w_skip ?_|refine w_block ?_|refine w_blk ?_|refine q7 ?_|refine q8 ?_|refine q9 ?_)
      exact w_retG (res1 rfl rfl) hst fun h' _ => by rw [cmpI, if_neg h, if_pos h2]
    · repeat (first|refine q1 ?_|refine q2 ?_|refine q3 ?_|refine q4 ?_|refine q5 ?_|refine q6 ?_|refine w_seq ?_|refine w_region ?_|refine w_ops_nil ?_|refine w_skip ?_|refine w_block ?_|refine w_blk ?_|refine q7 ?_|refine q8 ?_|refine q9 ?_)
      exact w_retG (res1 rfl rfl) hst fun h' _ => by rw [cmpI, if_neg h, if_neg h2]
def orL : List Int → Int
  | [] => 0
  | a :: l => orI a (orL l)
theorem orL_skip : ∀ (l : List Int) (i : Nat), (∀ j x, j < i → l[j]? = some x → x = 0) → i ≤ l.length → orL l = orL (l.drop i)
  | l, 0, _, _ => rfl
  | [], i + 1, _, h => by simp at h
  | a :: l, i + 1, h, hi => by
    rw [List.drop_succ_cons, ← orL_skip l i (fun j x hj hx => h (j + 1) x (by omega) (by simpa using hx)) (by simpa using hi), orL, h 0 a (by omega) rfl, orI, if_neg (by simp)]
theorem cmp_Or (l : List Int) (g : G) {v : Value} (hr : Rd g 0 El.int v l) : Fn Try.prog 44 [v] g [] fun u _ => u = .int .i64 (orL l) := by
  refine enterG [] [] Try.func44 rfl Try.ntmps44 rfl (by simp) fun g1 hv ho => ?_
  replace hr := hr.view hv (.inl rfl)
  have hlm := hr.isSl.le
  repeat (first|refine q1 ?_|refine q2 ?_|refine q3 ?_|refine q4 ?_|refine q5 ?_|refine q6 ?_|refine w_seq ?_|refine w_region ?_|refine w_ops_nil ?_|refine w_skip ?_|refine w_block ?_|refine w_blk ?_|refine q7 ?_|refine q8 ?_|refine q9 ?_)
  refine w_lenSl hr.isSl rfl rfl ?_
  repeat (first|refine q1 ?_|refine q2 ?_|refine q3 ?_|refine q4 ?_|refine q5 ?_|refine q6 ?_|refine w_seq ?_|refine w_region ?_|refine w_ops_nil ?_|refine w_skip ?_|refine w_block ?_|refine w_blk ?_|refine q7 ?_|refine q8 ?_|refine q9 ?_)
  refine w_loop (ι := Nat) (fun i => [(3, .int .i64 0), (6, v), (7, .int .i64 (l.length : Int)), (8, .int .i64 (i : Int))])
    (fun i w => ∃ h : G, h.w = w ∧ Step [] [] g1 h ∧ i ≤ l.length ∧ ∀ j x, j < i → l[j]? = some x → x = 0) (fun i => l.length - i) 0 ⟨g1, rfl, Step.refl _ _ _, by omega, fun j x hj => by omega⟩ ⟨rfl, rfl, rfl, rfl, trivial⟩ ?_
  rintro i _ ⟨h, rfl, hst, hi, hall⟩
  replace hr := hr.go hst
  repeat (first|refine q1 ?_|refine q2 ?_|refine q3 ?_|refine q4 ?_|refine q5 ?_|refine q6 ?_|refine w_seq ?_|refine w_region ?_|refine w_ops_nil ?_|refine w_skip ?_|refine w_block ?_|refine w_blk ?_|refine q7 ?_|refine q8 ?_|refine q9 ?_)
  refine w_condP rfl (fun hc => ?_) (fun hc => ?_)
  · have hlt : i < l.length := by omega
    repeat (first|refine q1 ?_|refine q2 ?_|refine q3 ?_|refine q4 ?_|refine q5 ?_|refine q6 ?_|refine w_seq ?_|refine w_region ?_|refine w_ops_nil ?_|refine w_skip ?_|refine w_block ?_|refine w_blk ?_|refine q7 ?_|refine q8 ?_|refine q9 ?_)
    refine w_idx hr rfl rfl (by omega) (by omega) rfl ?_
    refine w_loadE (i := i) (y := l[i]) hr rfl (by simp [hlt]) rfl rfl ?_
    repeat (first|refine q1 ?_|refine q2 ?_|refine q3 ?_|refine q4 ?_|refine q5 ?_|refine q6 ?_|refine w_seq ?_|refine w_region ?_|refine w_ops_nil ?_|refine w_skip ?_|refine w_block ?_|refine w_blk ?_|refine q7 ?_|refine q8 ?_|refine q9 ?_)
    refine w_condP rfl (fun hx => ?_) (fun hx => ?_)
    · repeat (first|refine q1 ?_|refine q2 ?_|refine q3 ?_|refine q4 ?_|refine q5 ?_|refine q6 ?_|refine w_seq ?_|refine w_region ?_|refine w_ops_nil ?_|refine w_skip ?_|refine w_block ?_|refine w_blk ?_|refine q7 ?_|refine q8 ?_|refine q9 ?_)
      refine w_retG (res1 rfl rfl) hst fun h' _ => congrArg (Value.int .i64) ?_
      rw [orL_skip l i hall hi, List.drop_eq_getElem_cons hlt, orL, orI, if_pos hx]
    · repeat (first|refine q1 ?_|refine q2 ?_|refine q3 ?_|refine q4 ?_|refine q5 ?_|refine q6 ?_|refine w_seq ?_|refine w_region ?_|refine w_ops_nil ?_|refine w_skip ?_|refine w_block ?_|refine w_blk ?_|refine q7 ?_|refine q8 ?_|refine q9 ?_)
      refine w_again (i + 1) (by omega) ⟨h, rfl, hst, by omega, fun j x hj hy => ?_⟩ ⟨rfl, rfl, rfl, rfl, trivial⟩
      by_cases e : j = i
      · subst e; rw [List.getElem?_eq_getElem hlt] at hy; injection hy with hy; subst hy; exact Decidable.not_not.1 hx
      · exact hall j x (by omega) hy
  · have e : i = l.length := by omega
    subst e
    repeat (first|refine q1 ?_|refine q2 ?_|refine q3 ?_|refine q4 ?_|refine q5 ?_|refine q6 ?_|refine w_seq ?_|refine w_region ?_|refine w_ops_nil ?_|refine w_skip ?_|refine w_block ?_|refine w_blk ?_|refine q7 ?_|refine q8 ?_|refine q9 ?_)
    refine w_retG (res1 rfl rfl) hst fun h' _ => congrArg (Value.int .i64) ?_
    rw [orL_skip l l.length hall hi, List.drop_length]; rfl
theorem orI_zero (a : Int) : orI a 0 = a := by unfold orI; split <;> omega

end Go.Proofs.Ytfkdfnookacgiaa
