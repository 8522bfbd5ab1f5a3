/- Small letters: the program's and the reference's Lower; Few. No statement of the seat is proved here. -/
import Derived.Test.YtfkdfnookacgiaaLow
set_option linter.unusedVariables false
set_option linter.unusedSimpArgs false
namespace Go.Proofs.Ytfkdfnookacgiaa
open Go
attribute [local irreducible] Wp
theorem ref01_Few (s : List UInt8) (n : Int) (g : G) (h0 : 0 ≤ n) : Fn Try.prog 19 [str s, .int .i64 n] g [] fun v _ => v = str (s.take n.toNat) := by
  refine enterG [] [] Try.func19 rfl Try.ntmps19 rfl (by simp) fun g1 hv ho => ?_
  repeat (first|refine q1 ?_|refine q2 ?_|refine q3 ?_|refine q4 ?_|refine q5 ?_|refine q6 ?_|refine w_seq ?_|refine w_region ?_|refine w_ops_nil ?_|refine w_skip ?_|refine w_block ?_|refine w_blk ?_|refine q7 ?_|refine q8 ?_|refine q9 ?_)
  refine w_condP rfl (fun hc => ?_) (fun hc => ?_)
  · repeat (first|refine q1 ?_|refine q2 ?_|refine q3 ?_|refine q4 ?_|refine q5 ?_|refine q6 ?_|refine w_seq ?_|refine w_region ?_|refine w_ops_nil ?_|refine w_skip ?_|refine w_block ?_|refine w_blk ?_|refine q7 ?_|refine q8 ?_|refine q9 ?_)
    refine w_sliceStr (a := 0) (b := n.toNat) rfl rfl ⟨_, _, rfl, by omega⟩ (by omega) (by omega) rfl ?_
    repeat (first|refine q1 ?_|refine q2 ?_|refine q3 ?_|refine q4 ?_|refine q5 ?_|refine q6 ?_|refine w_seq ?_|refine w_region ?_|refine w_ops_nil ?_|refine w_skip ?_|refine w_block ?_|refine w_blk ?_|refine q7 ?_|refine q8 ?_|refine q9 ?_)
    exact w_retG (res1 rfl rfl) (Step.refl _ _ _) fun h' _ => by simp [str]
  · repeat (first|refine q1 ?_|refine q2 ?_|refine q3 ?_|refine q4 ?_|refine q5 ?_|refine q6 ?_|refine w_seq ?_|refine w_region ?_|refine w_ops_nil ?_|refine w_skip ?_|refine w_block ?_|refine w_blk ?_|refine q7 ?_|refine q8 ?_|refine q9 ?_)
    exact w_retG (res1 rfl rfl) (Step.refl _ _ _) fun h' _ => by rw [List.take_of_length_le (by omega)]

theorem u8_lt (c : UInt8) : c.toNat < 256 := c.toNat_lt
theorem text_upper (n : Int) (g : G) : Fn Try.prog 46 [.int .i32 n] g [] fun u _ => u = .bool (decide (65 ≤ n ∧ n ≤ 90)) := by
  refine enterG [] [] Try.func46 rfl Try.ntmps46 rfl (by simp) fun g1 hv ho => ?_
  repeat (first|refine q1 ?_|refine q2 ?_|refine q3 ?_|refine q4 ?_|refine q5 ?_|refine q6 ?_|refine w_seq ?_|refine w_region ?_|refine w_ops_nil ?_|refine w_skip ?_|refine w_block ?_|refine w_blk ?_|refine q7 ?_|refine q8 ?_|refine q9 ?_)
  refine w_splitP 5 rfl (fun h => ?_) (fun h => ?_)
  · repeat (first|refine q1 ?_|refine q2 ?_|refine q3 ?_|refine q4 ?_|refine q5 ?_|refine q6 ?_|refine w_seq ?_|refine w_region ?_|refine w_ops_nil ?_|refine w_skip ?_|refine w_block ?_|refine w_blk ?_|refine q7 ?_|refine q8 ?_|refine q9 ?_)
    exact w_retG (res1 rfl rfl) (Step.refl _ _ _) fun h' _ => by simp [h]
  · repeat (first|refine q1 ?_|refine q2 ?_|refine q3 ?_|refine q4 ?_|refine q5 ?_|refine q6 ?_|refine w_seq ?_|refine w_region ?_|refine w_ops_nil ?_|refine w_skip ?_|refine w_block ?_|refine w_blk ?_|refine q7 ?_|refine q8 ?_|refine q9 ?_)
    exact w_retG (res1 rfl rfl) (Step.refl _ _ _) fun h' _ => by simp [h]
theorem low_set (s : List UInt8) (i : Nat) (h : i < s.length) : (lowB (s.take i) ++ s.drop i).set i (lowC s[i]) = lowB (s.take (i + 1)) ++ s.drop (i + 1) := by
  have hl : (lowB (s.take i)).length = i := by rw [lowB_len, List.length_take]; omega
  rw [List.set_append, if_neg (by omega), hl, Nat.sub_self, List.drop_eq_getElem_cons h, List.set_cons_zero, List.take_succ_eq_append_getElem h]
  unfold lowB
  rw [List.map_append]
  simp
theorem low_get (s : List UInt8) (i : Nat) (h : i < s.length) : (lowB (s.take i) ++ s.drop i)[i]? = some s[i] := by
  have hl : (lowB (s.take i)).length = i := by rw [lowB_len, List.length_take]; omega
  rw [List.getElem?_append_right (by omega), hl, Nat.sub_self, List.drop_eq_getElem_cons h]
  rfl
theorem low_len (s : List UInt8) (i : Nat) (h : i ≤ s.length) : (lowB (s.take i) ++ s.drop i).length = s.length := by
  rw [List.length_append, lowB_len, List.length_take, List.length_drop]; omega
theorem text_Lower (s : List UInt8) (g : G) (hs : s.length ≤ 1000000) : Fn Try.prog 37 [str s] g [] fun u _ => u = str (lowB s) := by
  refine enterG [] [41] Try.func37 rfl Try.ntmps37 rfl (by simp) fun g1 hv ho => ?_
  repeat (first|refine q1 ?_|refine q2 ?_|refine q3 ?_|refine q4 ?_|refine q5 ?_|refine q6 ?_|refine w_seq ?_|refine w_region ?_|refine w_ops_nil ?_|refine w_skip ?_|refine w_block ?_|refine w_blk ?_|refine q7 ?_|refine q8 ?_|refine q9 ?_)
  refine w_s2bM 41 rfl (by omega) rfl fun h1 b cap hs1 hcap hcm hmu => ?_
  have hst : Step [] [41] g1 h1 := hs1.nil
  repeat (first|refine q1 ?_|refine q2 ?_|refine q3 ?_|refine q4 ?_|refine q5 ?_|refine q6 ?_|refine w_seq ?_|refine w_region ?_|refine w_ops_nil ?_|refine w_skip ?_|refine w_block ?_|refine w_blk ?_|refine q7 ?_|refine q8 ?_|refine q9 ?_)
  refine w_lenSl (hmu.rd hcap hcm).isSl rfl rfl ?_
  repeat (first|refine q1 ?_|refine q2 ?_|refine q3 ?_|refine q4 ?_|refine q5 ?_|refine q6 ?_|refine w_seq ?_|refine w_region ?_|refine w_ops_nil ?_|refine w_skip ?_|refine w_blk ?_|refine q7 ?_|refine q8 ?_|refine q9 ?_)
  refine w_cut (ι := Unit) (fun _ => [(3, .slice (some ⟨b, 0, none⟩) s.length cap)]) (fun _ w => ∃ h : G, h.w = w ∧ Step [] [41] g1 h ∧ MuB h 41 b (lowB s)) ?_ ?_
  · repeat (first|refine q1 ?_|refine q2 ?_|refine q3 ?_|refine q4 ?_|refine q5 ?_|refine q6 ?_|refine w_seq ?_|refine w_region ?_|refine w_ops_nil ?_|refine w_skip ?_|refine w_block ?_|refine w_blk ?_|refine q7 ?_|refine q8 ?_|refine q9 ?_)
    refine w_loop (ι := Nat) (fun i => [(3, .slice (some ⟨b, 0, none⟩) s.length cap), (8, .slice (some ⟨b, 0, none⟩) s.length cap), (9, .int .i64 (s.length : Int)), (10, .int .i64 (i : Int))])
      (fun i w => ∃ h : G, h.w = w ∧ Step [] [41] g1 h ∧ MuB h 41 b (lowB (s.take i) ++ s.drop i) ∧ i ≤ s.length) (fun i => s.length - i) 0 ⟨h1, rfl, hst, hmu, by omega⟩ ⟨rfl, rfl, rfl, rfl, trivial⟩ ?_
    clear hmu hst
    rintro i _ ⟨h, rfl, hst, hmu, hi⟩
    have hll := low_len s i hi
    have hrd := hmu.rd (cap := cap) (by omega) hcm
    rw [hll] at hrd
    repeat (first|refine q1 ?_|refine q2 ?_|refine q3 ?_|refine q4 ?_|refine q5 ?_|refine q6 ?_|refine w_seq ?_|refine w_region ?_|refine w_ops_nil ?_|refine w_skip ?_|refine w_block ?_|refine w_blk ?_|refine q7 ?_|refine q8 ?_|refine q9 ?_)
    refine w_condP rfl (fun hlt => ?_) (fun hlt => ?_)
    · have hlt : i < s.length := by omega
      have hget := low_get s i hlt
      have hset := low_set s i hlt
      generalize hc : s[i] = c at hget hset
      have hc256 := u8_lt c
      repeat (first|refine q1 ?_|refine q2 ?_|refine q3 ?_|refine q4 ?_|refine q5 ?_|refine q6 ?_|refine w_seq ?_|refine w_region ?_|refine w_ops_nil ?_|refine w_skip ?_|refine w_block ?_|refine w_blk ?_|refine q7 ?_|refine q8 ?_|refine q9 ?_)
      refine w_idx hrd rfl rfl (by omega) (by omega) rfl ?_
      refine w_loadE (i := i) (y := c) hrd rfl hget rfl rfl ?_
      repeat (first|refine q1 ?_|refine q2 ?_|refine q3 ?_|refine q4 ?_|refine q5 ?_|refine q6 ?_|refine w_seq ?_|refine w_region ?_|refine w_ops_nil ?_|refine w_skip ?_|refine w_block ?_|refine w_blk ?_|refine q7 ?_|refine q8 ?_|refine q9 ?_)
      refine w_conv rfl rfl ?_
      refine w_known 16 (.int .i32 (c.toNat : Int)) rfl (congrArg (Value.int .i32) (by simp [IntKind.wrap, IntKind.signed, IntKind.bits]; omega)) ?_
      refine w_callF (vs := [.int .i32 (c.toNat : Int)]) rfl (text_upper (c.toNat : Int) h) rfl fun u h2 hs2 hu => ?_
      subst hu
      replace hmu := hmu.go hs2
      replace hrd := hrd.go hs2
      replace hst := hst.go hs2
      repeat (first|refine q1 ?_|refine q2 ?_|refine q3 ?_|refine q4 ?_|refine q5 ?_|refine q6 ?_|refine w_seq ?_|refine w_region ?_|refine w_ops_nil ?_|refine w_skip ?_|refine w_block ?_|refine w_blk ?_|refine q7 ?_|refine q8 ?_|refine q9 ?_)
      refine w_condP rfl (fun hx => ?_) (fun hx => ?_)
      · have el : lowC c = c + 32 := by unfold lowC; rw [if_pos hx]
        rw [el] at hset
        repeat (first|refine q1 ?_|refine q2 ?_|refine q3 ?_|refine q4 ?_|refine q5 ?_|refine q6 ?_|refine w_seq ?_|refine w_region ?_|refine w_ops_nil ?_|refine w_skip ?_|refine w_block ?_|refine w_blk ?_|refine q7 ?_|refine q8 ?_|refine q9 ?_)
        refine w_addW rfl rfl rfl ?_
        refine w_subW rfl rfl rfl ?_
        refine w_known 22 (bv (c + 32)) rfl (congrArg (Value.int .u8) (by simp [IntKind.wrap, IntKind.signed, IntKind.bits, UInt8.toNat_add]; omega)) ?_
        refine w_idx hrd rfl rfl (by omega) (by omega) rfl ?_
        refine w_storeB (i := i) (y := c + 32) hmu rfl rfl (by omega) fun h3 hs3 hmu => ?_
        rw [hset] at hmu
        repeat (first|refine q1 ?_|refine q2 ?_|refine q3 ?_|refine q4 ?_|refine q5 ?_|refine q6 ?_|refine w_seq ?_|refine w_region ?_|refine w_ops_nil ?_|refine w_skip ?_|refine w_block ?_|refine w_blk ?_|refine q7 ?_|refine q8 ?_|refine q9 ?_)
        exact w_again (i + 1) (by omega) ⟨h3, rfl, hst.go hs3, hmu, by omega⟩ ⟨rfl, rfl, rfl, rfl, trivial⟩
      · have el : lowC c = c := by unfold lowC; rw [if_neg hx]
        rw [el] at hset
        have e2 : (lowB (s.take i) ++ s.drop i).set i c = lowB (s.take i) ++ s.drop i := by
          apply List.ext_getElem?
          intro j
          rw [List.getElem?_set]
          by_cases e : i = j
          · subst e; rw [if_pos rfl, if_pos (by omega), hget]
          · rw [if_neg e]
        rw [← e2, hset] at hmu
        repeat (first|refine q1 ?_|refine q2 ?_|refine q3 ?_|refine q4 ?_|refine q5 ?_|refine q6 ?_|refine w_seq ?_|refine w_region ?_|refine w_ops_nil ?_|refine w_skip ?_|refine w_block ?_|refine w_blk ?_|refine q7 ?_|refine q8 ?_|refine q9 ?_)
        exact w_again (i + 1) (by omega) ⟨h2, rfl, hst, hmu, by omega⟩ ⟨rfl, rfl, rfl, rfl, trivial⟩
    · have e : i = s.length := by omega
      subst e
      rw [List.take_length, List.drop_length, List.append_nil] at hmu
      repeat (first|refine q1 ?_|refine q2 ?_|refine q3 ?_|refine q4 ?_|refine q5 ?_|refine q6 ?_|refine w_seq ?_|refine w_region ?_|refine w_ops_nil ?_|refine w_skip ?_|refine w_block ?_|refine w_blk ?_|refine q7 ?_|refine q8 ?_|refine q9 ?_)
      exact w_meet () ⟨h, rfl, hst, hmu⟩ ⟨rfl, trivial⟩
  clear hmu hst
  rintro _ _ ⟨h, rfl, hst, hmu⟩
  have hrd := hmu.rd (cap := cap) (by rw [lowB_len]; exact hcap) hcm
  rw [lowB_len] at hrd
  repeat (first|refine q1 ?_|refine q2 ?_|refine q3 ?_|refine q4 ?_|refine q5 ?_|refine q6 ?_|refine w_seq ?_|refine w_region ?_|refine w_ops_nil ?_|refine w_skip ?_|refine w_block ?_|refine w_blk ?_|refine q7 ?_|refine q8 ?_|refine q9 ?_)
  refine w_b2s hrd rfl rfl ?_
  repeat (first|refine q1 ?_|refine q2 ?_|refine q3 ?_|refine q4 ?_|refine q5 ?_|refine q6 ?_|refine w_seq ?_|refine w_region ?_|refine w_ops_nil ?_|refine w_skip ?_|refine w_block ?_|refine w_blk ?_|refine q7 ?_|refine q8 ?_|refine q9 ?_)
  exact w_retG (res1 rfl rfl) hst fun h' _ => rfl
theorem ref01_Lower (s : List UInt8) (g : G) (hs : s.length ≤ 1000000) : Fn Try.prog 21 [str s] g [] fun u _ => u = str (lowB s) := by
  refine enterG [] [41] Try.func21 rfl Try.ntmps21 rfl (by simp) fun g1 hv ho => ?_
  repeat (first|refine q1 ?_|refine q2 ?_|refine q3 ?_|refine q4 ?_|refine q5 ?_|refine q6 ?_|refine w_seq ?_|refine w_region ?_|refine w_ops_nil ?_|refine w_skip ?_|refine w_blk ?_|refine q7 ?_|refine q8 ?_|refine q9 ?_)
  refine w_cut (ι := Value) (fun v => [(3, v)]) (fun v w => ∃ h : G, h.w = w ∧ Step [] [41] g1 h ∧ Own h 41 El.u8 5 v (lowB s)) ?_ ?_
  · repeat (first|refine q1 ?_|refine q2 ?_|refine q3 ?_|refine q4 ?_|refine q5 ?_|refine q6 ?_|refine w_seq ?_|refine w_region ?_|refine w_ops_nil ?_|refine w_skip ?_|refine w_block ?_|refine w_blk ?_|refine q7 ?_|refine q8 ?_|refine q9 ?_)
    refine w_loop (ι := Value × Nat) (fun x => [(0, str s), (3, x.1), (4, .int .i64 (x.2 : Int))])
      (fun x w => ∃ h : G, h.w = w ∧ Step [] [41] g1 h ∧ Own h 41 El.u8 5 x.1 (lowB (s.take x.2)) ∧ x.2 ≤ s.length) (fun x => s.length - x.2) (.slice none 0 0, 0) ⟨g1, rfl, Step.refl _ _ _, Own.nil _ _ _ _, by dsimp only; omega⟩ ⟨rfl, rfl, rfl, trivial⟩ ?_
    rintro ⟨vO, i⟩ _ ⟨h, rfl, hst, hown, hi⟩
    dsimp only at hst hown hi ⊢
    repeat (first|refine q1 ?_|refine q2 ?_|refine q3 ?_|refine q4 ?_|refine q5 ?_|refine q6 ?_|refine w_seq ?_|refine w_region ?_|refine w_ops_nil ?_|refine w_skip ?_|refine w_block ?_|refine w_blk ?_|refine q7 ?_|refine q8 ?_|refine q9 ?_)
    refine w_condP rfl (fun hlt => ?_) (fun hlt => ?_)
    · have hlt : i < s.length := by omega
      have htk : lowB (s.take (i + 1)) = lowB (s.take i) ++ [lowC s[i]] := by unfold lowB; rw [List.take_succ_eq_append_getElem hlt, List.map_append]; rfl
      have hgi : s[((i : Int)).toNat]? = some s[i] := by simp [hlt]
      generalize hc : s[i] = c at htk hgi
      have hc256 := u8_lt c
      have hol : (lowB (s.take i)).length ≤ 1000000 := by rw [lowB_len, List.length_take]; omega
      repeat (first|refine q1 ?_|refine q2 ?_|refine q3 ?_|refine q4 ?_|refine q5 ?_|refine q6 ?_|refine w_seq ?_|refine w_region ?_|refine w_ops_nil ?_|refine w_skip ?_|refine w_block ?_|refine w_blk ?_|refine q7 ?_|refine q8 ?_|refine q9 ?_)
      refine w_indexStr (b := c) rfl rfl (by omega) hgi rfl ?_
      repeat (first | refine q1 ?_ | refine w_ops_nil ?_ | refine w_seq ?_)
      refine w_cut (ι := Bool) (fun b => [(0, str s), (3, vO), (4, .int .i64 (i : Int)), (5, bv c), (20, .bool b)]) (fun b w => w = h.w ∧ b = decide (65 ≤ (c.toNat : Int) ∧ (c.toNat : Int) ≤ 90)) ?_ ?_
      · repeat (first|refine q1 ?_|refine q2 ?_|refine q3 ?_|refine q4 ?_|refine q5 ?_|refine q6 ?_|refine w_seq ?_|refine w_region ?_|refine w_ops_nil ?_|refine w_skip ?_|refine w_block ?_|refine w_blk ?_|refine q7 ?_|refine q8 ?_|refine q9 ?_)
        refine w_splitP 17 rfl (fun hx => ?_) (fun hx => ?_)
        · repeat (first|refine q1 ?_|refine q2 ?_|refine q3 ?_|refine q4 ?_|refine q5 ?_|refine q6 ?_|refine w_seq ?_|refine w_region ?_|refine w_ops_nil ?_|refine w_skip ?_|refine w_block ?_|refine w_blk ?_|refine q7 ?_|refine q8 ?_|refine q9 ?_)
          exact w_meet (decide ((c.toNat : Int) ≤ 90)) ⟨rfl, by simp [hx]⟩ ⟨rfl, rfl, rfl, rfl, rfl, trivial⟩
        · repeat (first|refine q1 ?_|refine q2 ?_|refine q3 ?_|refine q4 ?_|refine q5 ?_|refine q6 ?_|refine w_seq ?_|refine w_region ?_|refine w_ops_nil ?_|refine w_skip ?_|refine w_block ?_|refine w_blk ?_|refine q7 ?_|refine q8 ?_|refine q9 ?_)
          exact w_meet false ⟨rfl, by simp [hx]⟩ ⟨rfl, rfl, rfl, rfl, rfl, trivial⟩
      rintro b _ ⟨rfl, hb⟩
      refine w_cut (ι := Unit) (fun _ => [(0, str s), (3, vO), (4, .int .i64 (i : Int)), (5, bv (lowC c))]) (fun _ w => w = h.w) ?_ ?_
      · refine w_cond rfl (fun hx => ?_) (fun hx => ?_)
        · rw [hx] at hb
          have el : lowC c = c + 32 := by unfold lowC; rw [if_pos (of_decide_eq_true hb.symm)]
          repeat (first|refine q1 ?_|refine q2 ?_|refine q3 ?_|refine q4 ?_|refine q5 ?_|refine q6 ?_|refine w_seq ?_|refine w_region ?_|refine w_ops_nil ?_|refine w_skip ?_|refine w_block ?_|refine w_blk ?_|refine q7 ?_|refine q8 ?_|refine q9 ?_)
          refine w_addW rfl rfl rfl ?_
          refine w_known 22 (bv (c + 32)) rfl (congrArg (Value.int .u8) (by simp [IntKind.wrap, IntKind.signed, IntKind.bits, UInt8.toNat_add])) ?_
          repeat (first|refine q1 ?_|refine q2 ?_|refine q3 ?_|refine q4 ?_|refine q5 ?_|refine q6 ?_|refine w_seq ?_|refine w_region ?_|refine w_ops_nil ?_|refine w_skip ?_|refine w_block ?_|refine w_blk ?_|refine q7 ?_|refine q8 ?_|refine q9 ?_)
          exact w_meet () rfl ⟨rfl, rfl, rfl, by rw [el]; rfl, trivial⟩
        · rw [hx] at hb
          have el : lowC c = c := by unfold lowC; rw [if_neg (of_decide_eq_false hb.symm)]
          repeat (first|refine q1 ?_|refine q2 ?_|refine q3 ?_|refine q4 ?_|refine q5 ?_|refine q6 ?_|refine w_seq ?_|refine w_region ?_|refine w_ops_nil ?_|refine w_skip ?_|refine w_block ?_|refine w_blk ?_|refine q7 ?_|refine q8 ?_|refine q9 ?_)
          exact w_meet () rfl ⟨rfl, rfl, rfl, by rw [el]; rfl, trivial⟩
      rintro _ _ rfl
      repeat (first|refine q1 ?_|refine q2 ?_|refine q3 ?_|refine q4 ?_|refine q5 ?_|refine q6 ?_|refine w_seq ?_|refine w_region ?_|refine w_ops_nil ?_|refine w_skip ?_|refine w_block ?_|refine w_blk ?_|refine q7 ?_|refine q8 ?_|refine q9 ?_)
      refine w_buildSlR El.u8 [lowC c] rfl rfl rfl rfl fun h4 v4 hs4 hr4 => ?_
      refine w_append (hown.go hs4) hr4 rfl rfl rfl (by decide) (by simp only [List.length_cons, List.length_nil]; omega) rfl fun h5 v5 hs5 ho5 => ?_
      repeat (first|refine q1 ?_|refine q2 ?_|refine q3 ?_|refine q4 ?_|refine q5 ?_|refine q6 ?_|refine w_seq ?_|refine w_region ?_|refine w_ops_nil ?_|refine w_skip ?_|refine w_block ?_|refine w_blk ?_|refine q7 ?_|refine q8 ?_|refine q9 ?_)
      refine w_again (v5, i + 1) (by dsimp only; omega) ⟨h5, rfl, (hst.go hs4).go hs5, ?_, by dsimp only; omega⟩ ⟨rfl, rfl, rfl, trivial⟩
      dsimp only
      rw [htk]
      exact ho5
    · have e : i = s.length := by omega
      subst e
      rw [List.take_length] at hown
      repeat (first|refine q1 ?_|refine q2 ?_|refine q3 ?_|refine q4 ?_|refine q5 ?_|refine q6 ?_|refine w_seq ?_|refine w_region ?_|refine w_ops_nil ?_|refine w_skip ?_|refine w_block ?_|refine w_blk ?_|refine q7 ?_|refine q8 ?_|refine q9 ?_)
      exact w_meet vO ⟨h, rfl, hst, hown⟩ ⟨rfl, trivial⟩
  rintro v _ ⟨h, rfl, hst, hown⟩
  repeat (first|refine q1 ?_|refine q2 ?_|refine q3 ?_|refine q4 ?_|refine q5 ?_|refine q6 ?_|refine w_seq ?_|refine w_region ?_|refine w_ops_nil ?_|refine w_skip ?_|refine w_block ?_|refine w_blk ?_|refine q7 ?_|refine q8 ?_|refine q9 ?_)
  refine w_b2s hown.rd rfl rfl ?_
  repeat (first|refine q1 ?_|refine q2 ?_|refine q3 ?_|refine q4 ?_|refine q5 ?_|refine q6 ?_|refine w_seq ?_|refine w_region ?_|refine w_ops_nil ?_|refine w_skip ?_|refine w_block ?_|refine w_blk ?_|refine q7 ?_|refine q8 ?_|refine q9 ?_)
  exact w_retG (res1 rfl rfl) hst fun h' _ => rfl
end Go.Proofs.Ytfkdfnookacgiaa
