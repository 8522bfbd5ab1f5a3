/- strings.Join with a separator of one byte. No statement of the seat is proved here. -/
import Derived.Test.YtnfokdhgajanpaaBld
import Derived.Test.YtnfokdhgajanpaaLab1
set_option linter.unusedVariables false
namespace Go.Proofs.Ytnfokdhgajanpaa
open Go
attribute [local irreducible] Wp

theorem joinB_len1 (c : UInt8) : ∀ l : List (List UInt8), l ≠ [] → (joinB [c] l).length = l.flatten.length + (l.length - 1)
  | [], h => absurd rfl h
  | [x], _ => by simp [joinB]
  | x :: y :: r, _ => by
    have ih := joinB_len1 c (y :: r) (by simp)
    simp only [joinB, List.length_append, List.flatten_cons, List.length_cons, List.length_nil] at ih ⊢
    omega

theorem strings_Join1 (l : List (List UInt8)) (c : UInt8) (g : G) {cc : Nat} {v : Value} (hr : Rd g cc El.str v l) (hb : l.flatten.length + l.length ≤ 1000000000) :
    Fn Try.prog 46 [v, str [c]] g [] fun u _ => u = str (joinB [c] l) := by
  refine enterG [] [31, 32] Try.func46 rfl Try.ntmps46 rfl (by simp) fun g1 hv ho => ?_
  obtain ⟨c', hc', hr1⟩ := hr.seen hv ho (by simp)
  repeat (first|refine q1 ?_|refine q2 ?_|refine q3 ?_|refine q4 ?_|refine q5 ?_|refine q6 ?_|refine w_seq ?_|refine w_region ?_|refine w_ops_nil ?_|refine w_skip ?_|refine w_block ?_|refine w_blk ?_|refine q7 ?_|refine q8 ?_|refine q9 ?_)
  refine w_lenSl hr1.isSl rfl rfl ?_
  repeat (first|refine q1 ?_|refine q2 ?_|refine q3 ?_|refine q4 ?_|refine q5 ?_|refine q6 ?_|refine w_seq ?_|refine w_region ?_|refine w_ops_nil ?_|refine w_skip ?_|refine w_block ?_|refine w_blk ?_|refine q7 ?_|refine q8 ?_|refine q9 ?_)
  refine w_condP rfl (fun h0 => ?_) (fun h0 => ?_)
  · have : l = [] := List.eq_nil_of_length_eq_zero (by omega)
    subst this
    repeat (first|refine q1 ?_|refine q2 ?_|refine q3 ?_|refine q4 ?_|refine q5 ?_|refine q6 ?_|refine w_seq ?_|refine w_region ?_|refine w_ops_nil ?_|refine w_skip ?_|refine w_block ?_|refine w_blk ?_|refine q7 ?_|refine q8 ?_|refine q9 ?_)
    exact w_retG (res1 rfl rfl) (Step.refl _ _ _) fun h' _ => rfl
  repeat (first|refine q1 ?_|refine q2 ?_|refine q3 ?_|refine q4 ?_|refine q5 ?_|refine q6 ?_|refine w_seq ?_|refine w_region ?_|refine w_ops_nil ?_|refine w_skip ?_|refine w_block ?_|refine w_blk ?_|refine q7 ?_|refine q8 ?_|refine q9 ?_)
  refine w_condP rfl (fun h1 => ?_) (fun h1 => ?_)
  · obtain ⟨x, rfl⟩ := List.length_eq_one_iff.1 (show l.length = 1 by omega)
    repeat (first|refine q1 ?_|refine q2 ?_|refine q3 ?_|refine q4 ?_|refine q5 ?_|refine q6 ?_|refine w_seq ?_|refine w_region ?_|refine w_ops_nil ?_|refine w_skip ?_|refine w_block ?_|refine w_blk ?_|refine q7 ?_|refine q8 ?_|refine q9 ?_)
    refine w_idx hr1 rfl rfl (by omega) (by simp) rfl ?_
    refine w_loadE (i := 0) (y := x) hr1 rfl rfl rfl rfl ?_
    repeat (first|refine q1 ?_|refine q2 ?_|refine q3 ?_|refine q4 ?_|refine q5 ?_|refine q6 ?_|refine w_seq ?_|refine w_region ?_|refine w_ops_nil ?_|refine w_skip ?_|refine w_block ?_|refine w_blk ?_|refine q7 ?_|refine q8 ?_|refine q9 ?_)
    exact w_retG (res1 rfl rfl) (Step.refl _ _ _) fun h' _ => rfl
  have hne : l ≠ [] := by intro e; subst e; simp at h0
  repeat (first|refine q1 ?_|refine q2 ?_|refine q3 ?_|refine q4 ?_|refine q5 ?_|refine q6 ?_|refine w_seq ?_|refine w_region ?_|refine w_ops_nil ?_|refine w_skip ?_|refine w_block ?_|refine w_blk ?_|refine q7 ?_|refine q8 ?_|refine q9 ?_)
  refine w_known 21 (.int .i64 1) rfl rfl ?_
  repeat (first|refine q1 ?_|refine q2 ?_|refine q3 ?_|refine q4 ?_|refine q5 ?_|refine q6 ?_|refine w_seq ?_|refine w_region ?_|refine w_ops_nil ?_|refine w_skip ?_|refine w_block ?_|refine w_blk ?_|refine q7 ?_|refine q8 ?_|refine q9 ?_)
  refine w_condT rfl ?_
  repeat (first|refine q1 ?_|refine q2 ?_|refine q3 ?_|refine q4 ?_|refine q5 ?_|refine q6 ?_|refine w_seq ?_|refine w_region ?_|refine w_ops_nil ?_|refine w_skip ?_|refine w_block ?_|refine w_blk ?_|refine q7 ?_|refine q8 ?_|refine q9 ?_)
  refine w_known 24 (.int .i64 1) rfl rfl ?_
  refine w_lenSl hr1.isSl rfl rfl ?_
  repeat (first|refine q1 ?_|refine q2 ?_|refine q3 ?_|refine q4 ?_|refine q5 ?_|refine q6 ?_|refine w_seq ?_|refine w_region ?_|refine w_ops_nil ?_|refine w_skip ?_|refine w_block ?_|refine w_blk ?_|refine q7 ?_|refine q8 ?_|refine q9 ?_)
  have hq : (2 : Int) ≤ 9223372036854775807 / ((l.length : Int) - 1) := Int.le_ediv_of_mul_le (by omega) (by omega)
  refine w_quo rfl rfl (by omega) rfl ?_
  repeat (first|refine q1 ?_|refine q2 ?_|refine q3 ?_|refine q4 ?_|refine o5 ?_|refine o6 ?_|refine w_seq ?_|refine w_region ?_|refine w_ops_nil ?_|refine w_skip ?_|refine w_block ?_|refine w_blk ?_|refine q7 ?_|refine o8 ?_|refine o9 ?_)
  refine w_known 33 (.int .i64 1) rfl rfl ?_
  repeat (first|refine q1 ?_|refine q2 ?_|refine q3 ?_|refine q4 ?_|refine q5 ?_|refine q6 ?_|refine w_seq ?_|refine w_region ?_|refine w_ops_nil ?_|refine w_skip ?_|refine w_block ?_|refine w_blk ?_|refine q7 ?_|refine q8 ?_|refine q9 ?_)
  refine w_lenSl hr1.isSl rfl rfl ?_
  repeat (first|refine q1 ?_|refine q2 ?_|refine q3 ?_|refine q4 ?_|refine q5 ?_|refine q6 ?_|refine w_seq ?_|refine w_region ?_|refine w_ops_nil ?_|refine w_skip ?_|refine w_block ?_|refine w_blk ?_|refine q7 ?_|refine q8 ?_|refine q9 ?_)
  refine w_mul rfl rfl (by omega) rfl ?_
  repeat (first|refine q1 ?_|refine q2 ?_|refine q3 ?_|refine q4 ?_|refine q5 ?_|refine q6 ?_|refine w_seq ?_|refine w_region ?_|refine w_ops_nil ?_|refine w_skip ?_|refine w_block ?_|refine w_blk ?_|refine q7 ?_|refine q8 ?_|refine q9 ?_)
  refine w_known 5 (.int .i64 ((l.length - 1 : Nat) : Int)) rfl (congrArg (Value.int .i64) (by omega)) ?_
  refine w_lenSl hr1.isSl rfl rfl ?_
  repeat (first|refine q1 ?_|refine q2 ?_|refine q3 ?_|refine q4 ?_|refine q5 ?_|refine q6 ?_|refine w_seq ?_|refine w_region ?_|refine w_ops_nil ?_|refine w_skip ?_|refine w_block ?_|refine w_blk ?_|refine q7 ?_|refine q8 ?_|refine q9 ?_)
  refine w_loop (ι := Nat) (fun i => [(0, v), (1, str [c]), (39, v), (40, .int .i64 (l.length : Int)), (5, .int .i64 ((l.length - 1 + (l.take i).flatten.length : Nat) : Int)), (41, .int .i64 (i : Int))])
    (fun i w => w = g1.w ∧ i ≤ l.length) (fun i => l.length - i) 0 ⟨rfl, by omega⟩ ⟨rfl, rfl, rfl, rfl, rfl, rfl, trivial⟩ ?_
  · rintro i _ ⟨rfl, hi⟩
    have hf := flatten_take l i
    repeat (first|refine q1 ?_|refine q2 ?_|refine q3 ?_|refine q4 ?_|refine q5 ?_|refine q6 ?_|refine w_seq ?_|refine w_region ?_|refine w_ops_nil ?_|refine w_skip ?_|refine w_block ?_|refine w_blk ?_|refine q7 ?_|refine q8 ?_|refine q9 ?_)
    refine w_condP rfl (fun hc => ?_) (fun hc => ?_)
    · have hlt : i < l.length := by omega
      have hle := len_le_flatten l i l[i] (by simp [hlt])
      repeat (first|refine q1 ?_|refine q2 ?_|refine q3 ?_|refine q4 ?_|refine q5 ?_|refine q6 ?_|refine w_seq ?_|refine w_region ?_|refine w_ops_nil ?_|refine w_skip ?_|refine w_block ?_|refine w_blk ?_|refine q7 ?_|refine q8 ?_|refine q9 ?_)
      refine w_idx hr1 rfl rfl (by omega) (by simp; omega) rfl ?_
      refine w_loadE (i := i) (y := l[i]) hr1 rfl (by simp [hlt]) rfl rfl ?_
      repeat (first|refine q1 ?_|refine q2 ?_|refine q3 ?_|refine q4 ?_|refine o5 ?_|refine o6 ?_|refine w_seq ?_|refine w_region ?_|refine w_ops_nil ?_|refine w_skip ?_|refine w_block ?_|refine w_blk ?_|refine q7 ?_|refine o8 ?_|refine o9 ?_)
      refine w_again (i + 1) (by omega) ⟨rfl, by omega⟩ ⟨rfl, rfl, rfl, rfl, ?_, rfl, trivial⟩
      rw [List.take_succ_eq_append_getElem hlt, List.flatten_append, List.length_append]
      simp only [List.flatten_cons, List.flatten_nil, List.append_nil]
      refine congrArg some (congrArg (Value.int .i64) ?_)
      omega
    · have : i = l.length := by omega
      subst this
      rw [List.take_length]
      repeat (first|refine q1 ?_|refine q2 ?_|refine q3 ?_|refine q4 ?_|refine q5 ?_|refine q6 ?_|refine w_seq ?_|refine w_region ?_|refine w_ops_nil ?_|refine w_skip ?_|refine w_block ?_|refine w_blk ?_|refine q7 ?_|refine q8 ?_|refine q9 ?_)
      refine w_alloc 31 (vs := [.pointer none, .slice none 0 0]) rfl rfl fun h1 b hs1 hc1 => ?_
      replace hr1 := hr1.go hs1
      repeat (first|refine q1 ?_|refine q2 ?_|refine q3 ?_|refine q4 ?_|refine q5 ?_|refine q6 ?_|refine w_seq ?_|refine w_region ?_|refine w_ops_nil ?_|refine w_skip ?_|refine w_block ?_|refine w_blk ?_|refine q7 ?_|refine q8 ?_|refine q9 ?_)
      refine w_callF rfl (Builder_Grow b _ none h1 hc1 (.inl rfl) (by omega) (by omega)) rfl fun _ h2 hs2 hR => ?_
      obtain ⟨vb, hc2, ho2⟩ := hR
      replace hr1 := hr1.go hs2
      repeat (first|refine q1 ?_|refine q2 ?_|refine q3 ?_|refine q4 ?_|refine q5 ?_|refine q6 ?_|refine w_seq ?_|refine w_region ?_|refine w_ops_nil ?_|refine w_skip ?_|refine w_block ?_|refine w_blk ?_|refine q7 ?_|refine q8 ?_|refine q9 ?_)
      have hl0 := len_le_flatten l 0 (l[0]) (by simp)
      refine w_idx hr1 rfl rfl (by omega) (by simp <;> omega) rfl ?_
      refine w_loadE (i := 0) (y := l[0]) hr1 rfl (by simp) rfl rfl ?_
      refine w_callF rfl (Builder_WriteString b [] l[0] vb h2 hc2 ho2 (by simp <;> omega)) rfl fun _ h3 hs3 hR => ?_
      obtain ⟨vb3, hc3, ho3⟩ := hR
      replace hr1 := hr1.go hs3
      repeat (first|refine q1 ?_|refine q2 ?_|refine q3 ?_|refine q4 ?_|refine q5 ?_|refine q6 ?_|refine w_seq ?_|refine w_region ?_|refine w_ops_nil ?_|refine w_skip ?_|refine w_block ?_|refine w_blk ?_|refine q7 ?_|refine q8 ?_|refine q9 ?_)
      refine w_cut_ (a := 1) (b := l.length) hr1 rfl ⟨_, rfl, rfl⟩ rfl (by omega) (by omega) rfl fun hr4 => ?_
      rw [List.take_length] at hr4
      refine w_lenSl hr4.isSl rfl rfl ?_
      repeat (first|refine q1 ?_|refine q2 ?_|refine q3 ?_|refine q4 ?_|refine q5 ?_|refine q6 ?_|refine w_seq ?_|refine w_region ?_|refine w_ops_nil ?_|refine w_skip ?_|refine w_block ?_|refine w_blk ?_|refine q7 ?_|refine q8 ?_|refine q9 ?_)
      refine w_loop (ι := Nat) (fun i => [(0, v), (1, str [c]), (8, .pointer (some ⟨b, 0, none⟩)), (63, cutV v El.str.sz 1 l.length), (64, .int .i64 ((l.drop 1).length : Int)), (65, .int .i64 (i : Int))])
        (fun i w => ∃ h vb, h.w = w ∧ Step [] [31, 32] g1 h ∧ i ≤ (l.drop 1).length ∧ Rd h c' El.str (cutV v El.str.sz 1 l.length) (l.drop 1) ∧ Cell h 31 b 123 [.pointer (some ⟨b, 0, none⟩), vb] ∧ Own h 32 El.u8 5 vb (joinB [c] (l.take (i + 1))))
        (fun i => (l.drop 1).length - i) 0 ⟨h3, vb3, rfl, ((hs1.mono (by simp) (by simp)).go hs2).go hs3, by omega, hr4, hc3, ?_⟩ ⟨rfl, rfl, rfl, rfl, rfl, rfl, trivial⟩ ?_
      · cases l with
        | nil => exact absurd rfl hne
        | cons x r => simpa [joinB] using ho3
      clear hc3 ho3 hr4 hs1 hs2 hs3
      rintro i _ ⟨h, vb, rfl, hst, hi, hr4, hc, ho⟩
      rw [List.length_drop] at hi
      have hjl := joinB_len1 c (l.take (i + 1)) (by simp; exact hne)
      have hfl := flatten_take l (i + 1)
      simp only [List.length_take] at hjl
      repeat (first|refine q1 ?_|refine q2 ?_|refine q3 ?_|refine q4 ?_|refine q5 ?_|refine q6 ?_|refine w_seq ?_|refine w_region ?_|refine w_ops_nil ?_|refine w_skip ?_|refine w_block ?_|refine w_blk ?_|refine q7 ?_|refine q8 ?_|refine q9 ?_)
      have hdl : (l.drop 1).length = l.length - 1 := List.length_drop
      refine w_condP rfl (fun hx => ?_) (fun hx => ?_)
      · have hlt : i + 1 < l.length := by omega
        have hle := len_le_flatten l (i + 1) l[i + 1] (by simp [hlt])
        repeat (first|refine q1 ?_|refine q2 ?_|refine q3 ?_|refine q4 ?_|refine q5 ?_|refine q6 ?_|refine w_seq ?_|refine w_region ?_|refine w_ops_nil ?_|refine w_skip ?_|refine w_block ?_|refine w_blk ?_|refine q7 ?_|refine q8 ?_|refine q9 ?_)
        refine w_idx hr4 rfl rfl (by omega) (by simp; omega) rfl ?_
        refine w_loadE (i := i) (y := l[i + 1]) hr4 rfl (by rw [List.getElem?_drop, Nat.add_comm]; simp [hlt]) rfl rfl ?_
        repeat (first|refine q1 ?_|refine q2 ?_|refine q3 ?_|refine q4 ?_|refine q5 ?_|refine q6 ?_|refine w_seq ?_|refine w_region ?_|refine w_ops_nil ?_|refine w_skip ?_|refine w_block ?_|refine w_blk ?_|refine q7 ?_|refine q8 ?_|refine q9 ?_)
        refine w_callF rfl (Builder_WriteString b _ [c] vb h hc ho (by simp; omega)) rfl fun _ h5 hs5 hR => ?_
        obtain ⟨vb5, hc5, ho5⟩ := hR
        replace hr4 := hr4.go hs5
        repeat (first|refine q1 ?_|refine q2 ?_|refine q3 ?_|refine q4 ?_|refine q5 ?_|refine q6 ?_|refine w_seq ?_|refine w_region ?_|refine w_ops_nil ?_|refine w_skip ?_|refine w_block ?_|refine w_blk ?_|refine q7 ?_|refine q8 ?_|refine q9 ?_)
        refine w_callF rfl (Builder_WriteString b _ l[i + 1] vb5 h5 hc5 ho5 (by simp; omega)) rfl fun _ h6 hs6 hR => ?_
        obtain ⟨vb6, hc6, ho6⟩ := hR
        replace hr4 := hr4.go hs6
        repeat (first|refine q1 ?_|refine q2 ?_|refine q3 ?_|refine q4 ?_|refine q5 ?_|refine q6 ?_|refine w_seq ?_|refine w_region ?_|refine w_ops_nil ?_|refine w_skip ?_|refine w_block ?_|refine w_blk ?_|refine q7 ?_|refine q8 ?_|refine q9 ?_)
        refine w_again (i + 1) (by simp only [List.length_drop]; omega) ⟨h6, vb6, rfl, (hst.go hs5).go hs6, by simp only [List.length_drop]; omega, hr4, hc6, ?_⟩ ⟨rfl, rfl, rfl, rfl, rfl, rfl, trivial⟩
        rw [List.take_succ_eq_append_getElem hlt, joinB_snoc _ _ _ (by simp; exact hne)]
        exact ho6
      · have hie : i + 1 = l.length := by omega
        rw [hie, List.take_length] at ho hjl
        repeat (first|refine q1 ?_|refine q2 ?_|refine q3 ?_|refine q4 ?_|refine q5 ?_|refine q6 ?_|refine w_seq ?_|refine w_region ?_|refine w_ops_nil ?_|refine w_skip ?_|refine w_block ?_|refine w_blk ?_|refine q7 ?_|refine q8 ?_|refine q9 ?_)
        refine w_callF rfl (Builder_String b _ _ vb h hc ho (by intro e; rw [e] at hjl; simp at hjl; omega)) rfl fun u h5 hs5 hu => ?_
        subst hu
        repeat (first|refine q1 ?_|refine q2 ?_|refine q3 ?_|refine q4 ?_|refine q5 ?_|refine q6 ?_|refine w_seq ?_|refine w_region ?_|refine w_ops_nil ?_|refine w_skip ?_|refine w_block ?_|refine w_blk ?_|refine q7 ?_|refine q8 ?_|refine q9 ?_)
        exact w_retG (res1 rfl rfl) (hst.go hs5) fun h' _ => rfl
end Go.Proofs.Ytnfokdhgajanpaa
