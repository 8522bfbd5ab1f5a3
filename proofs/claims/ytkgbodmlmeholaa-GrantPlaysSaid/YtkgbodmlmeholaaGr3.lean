/- Grants: the reference's row of keys; the program's book. No statement of the seat is proved here. -/
import Derived.Test.YtkgbodmlmeholaaGr2
set_option linter.unusedVariables false
set_option linter.unusedSimpArgs false
namespace Go.Proofs.Ytkgbodmlmeholaa
open Go
attribute [local irreducible] Wp

theorem ref18_texts (x y : List UInt8) (g : G) : Fn Try.prog 29 [str x, str y] g [] fun u _ => u = .int .i64 (cmpS x y) := by
  refine enterG [] [] Try.func29 rfl Try.ntmps29 rfl (by simp) fun g1 hv ho => ?_
  repeat (first|refine q1 ?_|refine q2 ?_|refine q3 ?_|refine q4 ?_|refine q5 ?_|refine q6 ?_|refine w_seq ?_|refine w_region ?_|refine w_ops_nil ?_|refine w_skip ?_|refine w_block ?_|refine w_blk ?_|refine q7 ?_|refine q8 ?_|refine q9 ?_)
  refine w_cond rfl (fun h => ?_) (fun h => ?_)
  · have h : Op.bytesLess x y = true := h
    repeat (first|refine q1 ?_|refine q2 ?_|refine q3 ?_|refine q4 ?_|refine q5 ?_|refine q6 ?_|refine w_seq ?_|refine w_region ?_|refine w_ops_nil ?_|refine w_skip ?_|refine w_block ?_|refine w_blk ?_|refine q7 ?_|refine q8 ?_|refine q9 ?_)
    refine w_retG (res1 rfl rfl) (Step.refl _ _ _) fun h' _ => congrArg (Value.int .i64) ?_
    rw [less_cmp, decide_eq_true_eq] at h
    exact h.symm
  · have h : ¬ Op.bytesLess x y = true := by intro e; rw [show Op.bytesLess x y = false from h] at e; cases e
    have he := cmpS_not h
    repeat (first|refine q1 ?_|refine q2 ?_|refine q3 ?_|refine q4 ?_|refine q5 ?_|refine q6 ?_|refine w_seq ?_|refine w_region ?_|refine w_ops_nil ?_|refine w_skip ?_|refine w_block ?_|refine w_blk ?_|refine q7 ?_|refine q8 ?_|refine q9 ?_)
    refine w_cond rfl (fun h2 => ?_) (fun h2 => ?_)
    · have h2 : (!(Op.bytesLess x y || decide (x = y))) = true := h2
      repeat (first|refine q1 ?_|refine q2 ?_|refine q3 ?_|refine q4 ?_|refine q5 ?_|refine q6 ?_|refine w_seq ?_|refine w_region ?_|refine w_ops_nil ?_|refine w_skip ?_|refine w_block ?_|refine w_blk ?_|refine q7 ?_|refine q8 ?_|refine q9 ?_)
      refine w_retG (res1 rfl rfl) (Step.refl _ _ _) fun h' _ => congrArg (Value.int .i64) ?_
      have : ¬ x = y := by intro e; simp [e] at h2
      rw [he, if_neg this]
    · have h2 : (!(Op.bytesLess x y || decide (x = y))) = false := h2
      repeat (first|refine q1 ?_|refine q2 ?_|refine q3 ?_|refine q4 ?_|refine q5 ?_|refine q6 ?_|refine w_seq ?_|refine w_region ?_|refine w_ops_nil ?_|refine w_skip ?_|refine w_block ?_|refine w_blk ?_|refine q7 ?_|refine q8 ?_|refine q9 ?_)
      refine w_retG (res1 rfl rfl) (Step.refl _ _ _) fun h' _ => congrArg (Value.int .i64) ?_
      have : x = y := by
        simp only [Bool.not_eq_false', Bool.or_eq_true, decide_eq_true_eq] at h2
        exact h2.resolve_left h
      rw [he, if_pos this]
theorem ref18_origin (a b : Og) (g : G) : Fn Try.prog 28 [El.og.val a, El.og.val b] g [] fun u _ => u = .int .i64 (cmpO a b) := by
  refine enterG [] [41, 42] Try.func28 rfl Try.ntmps28 rfl (by simp) fun g1 hv ho => ?_
  repeat (first|refine q1 ?_|refine q2 ?_|refine q3 ?_|refine q4 ?_|refine q5 ?_|refine q6 ?_|refine w_seq ?_|refine w_region ?_|refine w_ops_nil ?_|refine w_skip ?_|refine w_block ?_|refine w_blk ?_|refine q7 ?_|refine q8 ?_|refine q9 ?_)
  refine w_box 41 (vs := El.og.enc a) rfl rfl rfl fun h1 b1 hs1 hc1 => ?_
  have hst : Step [] [41, 42] g1 h1 := hs1.nil
  repeat (first|refine q1 ?_|refine q2 ?_|refine q3 ?_|refine q4 ?_|refine q5 ?_|refine q6 ?_|refine w_seq ?_|refine w_region ?_|refine w_ops_nil ?_|refine w_skip ?_|refine w_block ?_|refine w_blk ?_|refine q7 ?_|refine q8 ?_|refine q9 ?_)
  refine w_box 42 (vs := El.og.enc b) rfl rfl rfl fun h2 b2 hs2 hc2 => ?_
  replace hst := hst.go hs2; replace hc1 := hc1.go hs2
  repeat (first|refine q1 ?_|refine q2 ?_|refine q3 ?_|refine q4 ?_|refine q5 ?_|refine q6 ?_|refine w_seq ?_|refine w_region ?_|refine w_ops_nil ?_|refine w_skip ?_|refine w_block ?_|refine w_blk ?_|refine q7 ?_|refine q8 ?_|refine q9 ?_)
  refine w_fldA (by decide) rfl rfl ?_
  refine w_load1 (v := str a.scheme) hc1 rfl rfl rfl rfl ?_
  refine w_fldA (by decide) rfl rfl ?_
  refine w_load1 (v := str b.scheme) hc2 rfl rfl rfl rfl ?_
  refine w_callF rfl (ref18_texts a.scheme b.scheme h2) rfl fun u h3 hs3 hu => ?_
  subst hu
  replace hst := hst.go hs3; replace hc1 := hc1.go hs3; replace hc2 := hc2.go hs3
  repeat (first|refine q1 ?_|refine q2 ?_|refine q3 ?_|refine q4 ?_|refine q5 ?_|refine q6 ?_|refine w_seq ?_|refine w_region ?_|refine w_ops_nil ?_|refine w_skip ?_|refine w_block ?_|refine w_blk ?_|refine q7 ?_|refine q8 ?_|refine q9 ?_)
  refine w_condP rfl (fun k => ?_) (fun k => ?_)
  · repeat (first|refine q1 ?_|refine q2 ?_|refine q3 ?_|refine q4 ?_|refine q5 ?_|refine q6 ?_|refine w_seq ?_|refine w_region ?_|refine w_ops_nil ?_|refine w_skip ?_|refine w_block ?_|refine w_blk ?_|refine q7 ?_|refine q8 ?_|refine q9 ?_)
    exact w_retG (res1 rfl rfl) hst fun h' _ => by rw [cmpO, orI, if_pos k]
  have k := Decidable.not_not.1 k
  repeat (first|refine q1 ?_|refine q2 ?_|refine q3 ?_|refine q4 ?_|refine q5 ?_|refine q6 ?_|refine w_seq ?_|refine w_region ?_|refine w_ops_nil ?_|refine w_skip ?_|refine w_block ?_|refine w_blk ?_|refine q7 ?_|refine q8 ?_|refine q9 ?_)
  refine w_fldA (by decide) rfl rfl ?_
  refine w_load1 (v := str a.host) hc1 rfl rfl rfl rfl ?_
  refine w_fldA (by decide) rfl rfl ?_
  refine w_load1 (v := str b.host) hc2 rfl rfl rfl rfl ?_
  refine w_callF rfl (ref18_texts a.host b.host h3) rfl fun u h4 hs4 hu => ?_
  subst hu
  replace hst := hst.go hs4; replace hc1 := hc1.go hs4; replace hc2 := hc2.go hs4
  repeat (first|refine q1 ?_|refine q2 ?_|refine q3 ?_|refine q4 ?_|refine q5 ?_|refine q6 ?_|refine w_seq ?_|refine w_region ?_|refine w_ops_nil ?_|refine w_skip ?_|refine w_block ?_|refine w_blk ?_|refine q7 ?_|refine q8 ?_|refine q9 ?_)
  refine w_condP rfl (fun k2 => ?_) (fun k2 => ?_)
  · repeat (first|refine q1 ?_|refine q2 ?_|refine q3 ?_|refine q4 ?_|refine q5 ?_|refine q6 ?_|refine w_seq ?_|refine w_region ?_|refine w_ops_nil ?_|refine w_skip ?_|refine w_block ?_|refine w_blk ?_|refine q7 ?_|refine q8 ?_|refine q9 ?_)
    exact w_retG (res1 rfl rfl) hst fun h' _ => by rw [cmpO, orI, if_neg (by omega), orI, if_pos k2]
  have k2 := Decidable.not_not.1 k2
  have e : cmpO a b = cmpI a.port b.port := by rw [cmpO, orI, if_neg (by omega), orI, if_neg (by omega)]
  repeat (first|refine q1 ?_|refine q2 ?_|refine q3 ?_|refine q4 ?_|refine q5 ?_|refine q6 ?_|refine w_seq ?_|refine w_region ?_|refine w_ops_nil ?_|refine w_skip ?_|refine w_block ?_|refine w_blk ?_|refine q7 ?_|refine q8 ?_|refine q9 ?_)
  refine w_fldA (by decide) rfl rfl ?_
  refine w_load1 (v := .int .i64 a.port) hc1 rfl rfl rfl rfl ?_
  refine w_fldA (by decide) rfl rfl ?_
  refine w_load1 (v := .int .i64 b.port) hc2 rfl rfl rfl rfl ?_
  repeat (first|refine q1 ?_|refine q2 ?_|refine q3 ?_|refine q4 ?_|refine q5 ?_|refine q6 ?_|refine w_seq ?_|refine w_region ?_|refine w_ops_nil ?_|refine w_skip ?_|refine w_block ?_|refine w_blk ?_|refine q7 ?_|refine q8 ?_|refine q9 ?_)
  refine w_condP rfl (fun h => ?_) (fun h => ?_)
  · repeat (first|refine q1 ?_|refine q2 ?_|refine q3 ?_|refine q4 ?_|refine q5 ?_|refine q6 ?_|refine w_seq ?_|refine w_region ?_|refine w_ops_nil ?_|refine w_skip ?_|refine w_block ?_|refine w_blk ?_|refine q7 ?_|refine q8 ?_|refine q9 ?_)
    exact w_retG (res1 rfl rfl) hst fun h' _ => by rw [e, cmpI, if_pos h]
  · repeat (first|refine q1 ?_|refine q2 ?_|refine q3 ?_|refine q4 ?_|refine q5 ?_|refine q6 ?_|refine w_seq ?_|refine w_region ?_|refine w_ops_nil ?_|refine w_skip ?_|refine w_block ?_|refine w_blk ?_|refine q7 ?_|refine q8 ?_|refine q9 ?_)
    refine w_fldA (by decide) rfl rfl ?_
    refine w_load1 (v := .int .i64 a.port) hc1 rfl rfl rfl rfl ?_
    refine w_fldA (by decide) rfl rfl ?_
    refine w_load1 (v := .int .i64 b.port) hc2 rfl rfl rfl rfl ?_
    repeat (first|refine q1 ?_|refine q2 ?_|refine q3 ?_|refine q4 ?_|refine q5 ?_|refine q6 ?_|refine w_seq ?_|refine w_region ?_|refine w_ops_nil ?_|refine w_skip ?_|refine w_block ?_|refine w_blk ?_|refine q7 ?_|refine q8 ?_|refine q9 ?_)
    refine w_condP rfl (fun h2 => ?_) (fun h2 => ?_)
    · repeat (first|refine q1 ?_|refine q2 ?_|refine q3 ?_|refine q4 ?_|refine q5 ?_|refine q6 ?_|refine w_seq ?_|refine w_region ?_|refine w_ops_nil ?_|refine w_skip ?_|refine w_block ?_|refine w_blk ?_|refine q7 ?_|refine q8 ?_|refine q9 ?_)
      exact w_retG (res1 rfl rfl) hst fun h' _ => by rw [e, cmpI, if_neg h, if_pos h2]
    · repeat (first|refine q1 ?_|refine q2 ?_|refine q3 ?_|refine q4 ?_|refine q5 ?_|refine q6 ?_|refine w_seq ?_|refine w_region ?_|refine w_ops_nil ?_|refine w_skip ?_|refine w_block ?_|refine w_blk ?_|refine q7 ?_|refine q8 ?_|refine q9 ?_)
      exact w_retG (res1 rfl rfl) hst fun h' _ => by rw [e, cmpI, if_neg h, if_neg h2]
theorem bytes16_get (x : Fin 16 → UInt8) : ∀ (i : Nat) (h : i < 16), (bytes16 x)[i]'(by simpa [bytes16] using h) = x ⟨i, h⟩ := by
  intro i h
  match i, h with
  | 0, _ => rfl | 1, _ => rfl | 2, _ => rfl | 3, _ => rfl | 4, _ => rfl | 5, _ => rfl | 6, _ => rfl | 7, _ => rfl
  | 8, _ => rfl | 9, _ => rfl | 10, _ => rfl | 11, _ => rfl | 12, _ => rfl | 13, _ => rfl | 14, _ => rfl | 15, _ => rfl
  | n + 16, h => omega
theorem drop16 (x : Fin 16 → UInt8) (i : Nat) (h : i < 16) : (bytes16 x).drop i = x ⟨i, h⟩ :: (bytes16 x).drop (i + 1) := by
  rw [List.drop_eq_getElem_cons (by simpa [bytes16] using h), bytes16_get x i h]
theorem cmp_drop (x y : Fin 16 → UInt8) : ∀ i, i ≤ 16 → (∀ j (h : j < 16), j < i → x ⟨j, h⟩ = y ⟨j, h⟩) → cmpS (bytes16 x) (bytes16 y) = cmpS ((bytes16 x).drop i) ((bytes16 y).drop i)
  | 0, _, _ => rfl
  | i + 1, hi, h => by
    rw [cmp_drop x y i (by omega) (fun j hj hji => h j hj (by omega)), drop16 x i (by omega), drop16 y i (by omega), h i (by omega) (by omega)]
    show Lib.compareBytes _ _ = Lib.compareBytes _ _
    rw [Lib.compareBytes, if_neg (UInt8.lt_irrefl _), if_neg (UInt8.lt_irrefl _)]
theorem ref04_Compare (a b : Ad) (g : G) : Fn Try.prog 30 [El.ad.val a, El.ad.val b] g [] fun u _ => u = .int .i64 (cmpA a b) := by
  refine enterG [] [41, 42] Try.func30 rfl Try.ntmps30 rfl (by simp) fun g1 hv ho => ?_
  repeat (first|refine q1 ?_|refine q2 ?_|refine q3 ?_|refine q4 ?_|refine q5 ?_|refine q6 ?_|refine w_seq ?_|refine w_region ?_|refine w_ops_nil ?_|refine w_skip ?_|refine w_block ?_|refine w_blk ?_|refine q7 ?_|refine q8 ?_|refine q9 ?_)
  refine w_box 41 (vs := El.ad.enc a) rfl rfl rfl fun h1 b1 hs1 hc1 => ?_
  have hst : Step [] [41, 42] g1 h1 := hs1.nil
  repeat (first|refine q1 ?_|refine q2 ?_|refine q3 ?_|refine q4 ?_|refine q5 ?_|refine q6 ?_|refine w_seq ?_|refine w_region ?_|refine w_ops_nil ?_|refine w_skip ?_|refine w_block ?_|refine w_blk ?_|refine q7 ?_|refine q8 ?_|refine q9 ?_)
  refine w_box 42 (vs := El.ad.enc b) rfl rfl rfl fun h2 b2 hs2 hc2 => ?_
  replace hst := hst.go hs2; replace hc1 := hc1.go hs2
  repeat (first|refine q1 ?_|refine q2 ?_|refine q3 ?_|refine q4 ?_|refine q5 ?_|refine q6 ?_|refine w_seq ?_|refine w_region ?_|refine w_ops_nil ?_|refine w_skip ?_|refine w_block ?_|refine w_blk ?_|refine q7 ?_|refine q8 ?_|refine q9 ?_)
  refine w_fldA (by decide) rfl rfl ?_
  refine w_load1 (v := .int .i64 a.fam) hc1 rfl rfl rfl rfl ?_
  refine w_fldA (by decide) rfl rfl ?_
  refine w_load1 (v := .int .i64 b.fam) hc2 rfl rfl rfl rfl ?_
  repeat (first|refine q1 ?_|refine q2 ?_|refine q3 ?_|refine q4 ?_|refine q5 ?_|refine q6 ?_|refine w_seq ?_|refine w_region ?_|refine w_ops_nil ?_|refine w_skip ?_|refine w_block ?_|refine w_blk ?_|refine q7 ?_|refine q8 ?_|refine q9 ?_)
  refine w_condP rfl (fun k => ?_) (fun k => ?_)
  · have k : ¬ a.fam = b.fam := k
    have e : cmpA a b = cmpI a.fam b.fam := by rw [cmpA, orI, if_pos (by rw [ne_eq, isCmpI.eq]; exact k)]
    repeat (first|refine q1 ?_|refine q2 ?_|refine q3 ?_|refine q4 ?_|refine q5 ?_|refine q6 ?_|refine w_seq ?_|refine w_region ?_|refine w_ops_nil ?_|refine w_skip ?_|refine w_block ?_|refine w_blk ?_|refine q7 ?_|refine q8 ?_|refine q9 ?_)
    refine w_fldA (by decide) rfl rfl ?_
    refine w_load1 (v := .int .i64 a.fam) hc1 rfl rfl rfl rfl ?_
    refine w_fldA (by decide) rfl rfl ?_
    refine w_load1 (v := .int .i64 b.fam) hc2 rfl rfl rfl rfl ?_
    repeat (first|refine q1 ?_|refine q2 ?_|refine q3 ?_|refine q4 ?_|refine q5 ?_|refine q6 ?_|refine w_seq ?_|refine w_region ?_|refine w_ops_nil ?_|refine w_skip ?_|refine w_block ?_|refine w_blk ?_|refine q7 ?_|refine q8 ?_|refine q9 ?_)
    refine w_condP rfl (fun h => ?_) (fun h => ?_)
    · repeat (first|refine q1 ?_|refine q2 ?_|refine q3 ?_|refine q4 ?_|refine q5 ?_|refine q6 ?_|refine w_seq ?_|refine w_region ?_|refine w_ops_nil ?_|refine w_skip ?_|refine w_block ?_|refine w_blk ?_|refine q7 ?_|refine q8 ?_|refine q9 ?_)
      exact w_retG (res1 rfl rfl) hst fun h' _ => by rw [e, cmpI, if_pos h]
    · repeat (first|refine q1 ?_|refine q2 ?_|refine q3 ?_|refine q4 ?_|refine q5 ?_|refine q6 ?_|refine w_seq ?_|refine w_region ?_|refine w_ops_nil ?_|refine w_skip ?_|refine w_block ?_|refine w_blk ?_|refine q7 ?_|refine q8 ?_|refine q9 ?_)
      exact w_retG (res1 rfl rfl) hst fun h' _ => by rw [e, cmpI, if_neg h, if_pos (by omega)]
  have k := Decidable.not_not.1 k
  have e : cmpA a b = cmpS (bytes16 a.b) (bytes16 b.b) := by rw [cmpA, orI, if_neg (by rw [ne_eq, Decidable.not_not, isCmpI.eq]; exact k)]
  repeat (first|refine q1 ?_|refine q2 ?_|refine q3 ?_|refine q4 ?_|refine q5 ?_|refine q6 ?_|refine w_seq ?_|refine w_region ?_|refine w_ops_nil ?_|refine w_skip ?_|refine w_block ?_|refine w_blk ?_|refine q7 ?_|refine q8 ?_|refine q9 ?_)
  refine w_loop (ι := Nat) (fun i => [(2, .pointer (some ⟨b1, 0, none⟩)), (3, .pointer (some ⟨b2, 0, none⟩)), (5, .int .i64 (i : Int))])
    (fun i w => ∃ h : G, h.w = w ∧ Step [] [] h2 h ∧ i ≤ 16 ∧ ∀ j (h : j < 16), j < i → a.b ⟨j, h⟩ = b.b ⟨j, h⟩) (fun i => 16 - i) 0 ⟨h2, rfl, Step.refl _ _ _, by omega, fun j _ hj => by omega⟩ ⟨rfl, rfl, rfl, trivial⟩ ?_
  rintro i _ ⟨h, rfl, hst2, hi, hall⟩
  replace hst := hst.go hst2; replace hc1 := hc1.go hst2; replace hc2 := hc2.go hst2
  repeat (first|refine q1 ?_|refine q2 ?_|refine q3 ?_|refine q4 ?_|refine q5 ?_|refine q6 ?_|refine w_seq ?_|refine w_region ?_|refine w_ops_nil ?_|refine w_skip ?_|refine w_block ?_|refine w_blk ?_|refine q7 ?_|refine q8 ?_|refine q9 ?_)
  refine w_condP rfl (fun hlt => ?_) (fun hlt => ?_)
  · have hlt : i < 16 := by omega
    have hcd := cmp_drop a.b b.b i hi hall
    rw [drop16 a.b i hlt, drop16 b.b i hlt] at hcd
    have g1' : (El.ad.enc a)[0 + 1 + (i : Int).toNat * 1]? = some (bv (a.b ⟨i, hlt⟩)) := by rw [show 0 + 1 + (i : Int).toNat * 1 = i + 1 by omega]; exact cells16_get a.b i hlt
    have g2' : (El.ad.enc b)[0 + 1 + (i : Int).toNat * 1]? = some (bv (b.b ⟨i, hlt⟩)) := by rw [show 0 + 1 + (i : Int).toNat * 1 = i + 1 by omega]; exact cells16_get b.b i hlt
    generalize hx : a.b ⟨i, hlt⟩ = x at hcd g1'
    generalize hy : b.b ⟨i, hlt⟩ = y at hcd g2'
    repeat (first|refine q1 ?_|refine q2 ?_|refine q3 ?_|refine q4 ?_|refine q5 ?_|refine q6 ?_|refine w_seq ?_|refine w_region ?_|refine w_ops_nil ?_|refine w_skip ?_|refine w_block ?_|refine w_blk ?_|refine q7 ?_|refine q8 ?_|refine q9 ?_)
    refine d_begin none [] (by kernel_rfl) fun g2 hsd => ?_
    replace hst := hst.go hsd; replace hst2 := hst2.go hsd; replace hc1 := hc1.go hsd; replace hc2 := hc2.go hsd
    refine d_pure 0 calm_ret rfl (by kernel_rfl) rfl rfl ?_
    refine d_read 1 calm_ret rfl (by kernel_rfl) rfl  (fun h hs => r_fldA (by decide) rfl) ?_
    refine d_read 2 calm_ret rfl (by kernel_rfl) rfl  (fun h hs => r_idxA rfl rfl (by omega) (by omega)) ?_
    refine d_read 3 calm_ret rfl (by kernel_rfl) rfl  (fun h hs => r_load1 (v := bv x) (hc1.go hs) rfl g1' rfl) ?_
    refine d_pure 4 calm_ret rfl (by kernel_rfl) rfl rfl ?_
    refine d_read 5 calm_ret rfl (by kernel_rfl) rfl  (fun h hs => r_fldA (by decide) rfl) ?_
    refine d_read 6 calm_ret rfl (by kernel_rfl) rfl  (fun h hs => r_idxA rfl rfl (by omega) (by omega)) ?_
    refine d_read 7 calm_ret rfl (by kernel_rfl) rfl  (fun h hs => r_load1 (v := bv y) (hc2.go hs) rfl g2' rfl) ?_
    refine d_pure 8 calm_ret rfl (by kernel_rfl) rfl rfl ?_
    refine d_done (by kernel_rfl) ?_
    repeat (first|refine q1 ?_|refine q2 ?_|refine q3 ?_|refine q4 ?_|refine q5 ?_|refine q6 ?_|refine w_seq ?_|refine w_region ?_|refine w_ops_nil ?_|refine w_skip ?_|refine w_block ?_|refine w_blk ?_|refine q7 ?_|refine q8 ?_|refine q9 ?_)
    refine w_condP (p := (x.toNat : Int) < (y.toNat : Int)) rfl (fun hl => ?_) (fun hl => ?_)
    · have hl : x < y := UInt8.lt_iff_toNat_lt.2 (by omega)
      repeat (first|refine q1 ?_|refine q2 ?_|refine q3 ?_|refine q4 ?_|refine q5 ?_|refine q6 ?_|refine w_seq ?_|refine w_region ?_|refine w_ops_nil ?_|refine w_skip ?_|refine w_block ?_|refine w_blk ?_|refine q7 ?_|refine q8 ?_|refine q9 ?_)
      refine w_retG (res1 rfl rfl) hst fun h' _ => congrArg (Value.int .i64) ?_
      rw [e, hcd]
      show _ = Lib.compareBytes _ _
      rw [Lib.compareBytes, if_pos hl]
    have hl : ¬ x < y := fun q => hl (by have := UInt8.lt_iff_toNat_lt.1 q; omega)
    repeat (first|refine q1 ?_|refine q2 ?_|refine q3 ?_|refine q4 ?_|refine q5 ?_|refine q6 ?_|refine w_seq ?_|refine w_region ?_|refine w_ops_nil ?_|refine w_skip ?_|refine w_block ?_|refine w_blk ?_|refine q7 ?_|refine q8 ?_|refine q9 ?_)
    refine d_begin none [] (by kernel_rfl) fun g3 hsd3 => ?_
    replace hst := hst.go hsd3; replace hst2 := hst2.go hsd3; replace hc1 := hc1.go hsd3; replace hc2 := hc2.go hsd3
    refine d_pure 0 calm_ret rfl (by kernel_rfl) rfl rfl ?_
    refine d_read 1 calm_ret rfl (by kernel_rfl) rfl  (fun h hs => r_fldA (by decide) rfl) ?_
    refine d_read 2 calm_ret rfl (by kernel_rfl) rfl  (fun h hs => r_idxA rfl rfl (by omega) (by omega)) ?_
    refine d_read 3 calm_ret rfl (by kernel_rfl) rfl  (fun h hs => r_load1 (v := bv x) (hc1.go hs) rfl g1' rfl) ?_
    refine d_pure 4 calm_ret rfl (by kernel_rfl) rfl rfl ?_
    refine d_read 5 calm_ret rfl (by kernel_rfl) rfl  (fun h hs => r_fldA (by decide) rfl) ?_
    refine d_read 6 calm_ret rfl (by kernel_rfl) rfl  (fun h hs => r_idxA rfl rfl (by omega) (by omega)) ?_
    refine d_read 7 calm_ret rfl (by kernel_rfl) rfl  (fun h hs => r_load1 (v := bv y) (hc2.go hs) rfl g2' rfl) ?_
    refine d_pure 8 calm_ret rfl (by kernel_rfl) rfl rfl ?_
    refine d_done (by kernel_rfl) ?_
    repeat (first|refine q1 ?_|refine q2 ?_|refine q3 ?_|refine q4 ?_|refine q5 ?_|refine q6 ?_|refine w_seq ?_|refine w_region ?_|refine w_ops_nil ?_|refine w_skip ?_|refine w_block ?_|refine w_blk ?_|refine q7 ?_|refine q8 ?_|refine q9 ?_)
    refine w_condP (p := (y.toNat : Int) < (x.toNat : Int)) rfl (fun hg => ?_) (fun hg => ?_)
    · have hg : y < x := UInt8.lt_iff_toNat_lt.2 (by omega)
      repeat (first|refine q1 ?_|refine q2 ?_|refine q3 ?_|refine q4 ?_|refine q5 ?_|refine q6 ?_|refine w_seq ?_|refine w_region ?_|refine w_ops_nil ?_|refine w_skip ?_|refine w_block ?_|refine w_blk ?_|refine q7 ?_|refine q8 ?_|refine q9 ?_)
      refine w_retG (res1 rfl rfl) hst fun h' _ => congrArg (Value.int .i64) ?_
      rw [e, hcd]
      show _ = Lib.compareBytes _ _
      rw [Lib.compareBytes, if_neg hl, if_pos hg]
    have hg : ¬ y < x := fun q => hg (by have := UInt8.lt_iff_toNat_lt.1 q; omega)
    have hxy : x = y := UInt8.le_antisymm (UInt8.not_lt.1 hg) (UInt8.not_lt.1 hl)
    repeat (first|refine q1 ?_|refine q2 ?_|refine q3 ?_|refine q4 ?_|refine q5 ?_|refine q6 ?_|refine w_seq ?_|refine w_region ?_|refine w_ops_nil ?_|refine w_skip ?_|refine w_block ?_|refine w_blk ?_|refine q7 ?_|refine q8 ?_|refine q9 ?_)
    refine w_again (i + 1) (by omega) ⟨g3, rfl, hst2, by omega, fun j hj hji => ?_⟩ ⟨rfl, rfl, rfl, trivial⟩
    by_cases ej : j = i
    · subst ej; rw [hx, hy, hxy]
    · exact hall j hj (by omega)
  · have ei : i = 16 := by omega
    subst ei
    repeat (first|refine q1 ?_|refine q2 ?_|refine q3 ?_|refine q4 ?_|refine q5 ?_|refine q6 ?_|refine w_seq ?_|refine w_region ?_|refine w_ops_nil ?_|refine w_skip ?_|refine w_block ?_|refine w_blk ?_|refine q7 ?_|refine q8 ?_|refine q9 ?_)
    refine w_retG (res1 rfl rfl) hst fun h' _ => congrArg (Value.int .i64) ?_
    rw [e, isCmpS.eq _ _ |>.2]
    have : a.b = b.b := funext fun j => hall j.val j.isLt j.isLt
    rw [this]
theorem ref18_Compare (a b : Ky) (g : G) : Fn Try.prog 9 [El.ky.val a, El.ky.val b] g [] fun u _ => u = .int .i64 (cmpK a b) := by
  refine enterG [] [41, 42] Try.func9 rfl Try.ntmps9 rfl (by simp) fun g1 hv ho => ?_
  repeat (first|refine q1 ?_|refine q2 ?_|refine q3 ?_|refine q4 ?_|refine q5 ?_|refine q6 ?_|refine w_seq ?_|refine w_region ?_|refine w_ops_nil ?_|refine w_skip ?_|refine w_block ?_|refine w_blk ?_|refine q7 ?_|refine q8 ?_|refine q9 ?_)
  refine w_box 41 (vs := El.ky.enc a) rfl rfl rfl fun h1 b1 hs1 hc1 => ?_
  have hst : Step [] [41, 42] g1 h1 := hs1.nil
  repeat (first|refine q1 ?_|refine q2 ?_|refine q3 ?_|refine q4 ?_|refine q5 ?_|refine q6 ?_|refine w_seq ?_|refine w_region ?_|refine w_ops_nil ?_|refine w_skip ?_|refine w_block ?_|refine w_blk ?_|refine q7 ?_|refine q8 ?_|refine q9 ?_)
  refine w_box 42 (vs := El.ky.enc b) rfl rfl rfl fun h2 b2 hs2 hc2 => ?_
  replace hst := hst.go hs2; replace hc1 := hc1.go hs2
  repeat (first|refine q1 ?_|refine q2 ?_|refine q3 ?_|refine q4 ?_|refine q5 ?_|refine q6 ?_|refine w_seq ?_|refine w_region ?_|refine w_ops_nil ?_|refine w_skip ?_|refine w_block ?_|refine w_blk ?_|refine q7 ?_|refine q8 ?_|refine q9 ?_)
  refine w_fldA (by decide) rfl rfl ?_
  refine w_loadS (us := El.og.enc a.page) hc1 rfl rfl rfl rfl rfl ?_
  refine w_fldA (by decide) rfl rfl ?_
  refine w_loadS (us := El.og.enc b.page) hc2 rfl rfl rfl rfl rfl ?_
  refine w_callF rfl (ref18_origin a.page b.page h2) rfl fun u h3 hs3 hu => ?_
  subst hu
  replace hst := hst.go hs3; replace hc1 := hc1.go hs3; replace hc2 := hc2.go hs3
  repeat (first|refine q1 ?_|refine q2 ?_|refine q3 ?_|refine q4 ?_|refine q5 ?_|refine q6 ?_|refine w_seq ?_|refine w_region ?_|refine w_ops_nil ?_|refine w_skip ?_|refine w_block ?_|refine w_blk ?_|refine q7 ?_|refine q8 ?_|refine q9 ?_)
  refine w_condP rfl (fun k => ?_) (fun k => ?_)
  · repeat (first|refine q1 ?_|refine q2 ?_|refine q3 ?_|refine q4 ?_|refine q5 ?_|refine q6 ?_|refine w_seq ?_|refine w_region ?_|refine w_ops_nil ?_|refine w_skip ?_|refine w_block ?_|refine w_blk ?_|refine q7 ?_|refine q8 ?_|refine q9 ?_)
    exact w_retG (res1 rfl rfl) hst fun h' _ => by rw [cmpK, orI, if_pos k]
  have k := Decidable.not_not.1 k
  repeat (first|refine q1 ?_|refine q2 ?_|refine q3 ?_|refine q4 ?_|refine q5 ?_|refine q6 ?_|refine w_seq ?_|refine w_region ?_|refine w_ops_nil ?_|refine w_skip ?_|refine w_block ?_|refine w_blk ?_|refine q7 ?_|refine q8 ?_|refine q9 ?_)
  refine w_fldA (by decide) rfl rfl ?_
  refine w_loadS (us := El.og.enc a.to) hc1 rfl rfl rfl rfl rfl ?_
  refine w_fldA (by decide) rfl rfl ?_
  refine w_loadS (us := El.og.enc b.to) hc2 rfl rfl rfl rfl rfl ?_
  refine w_callF rfl (ref18_origin a.to b.to h3) rfl fun u h4 hs4 hu => ?_
  subst hu
  replace hst := hst.go hs4; replace hc1 := hc1.go hs4; replace hc2 := hc2.go hs4
  repeat (first|refine q1 ?_|refine q2 ?_|refine q3 ?_|refine q4 ?_|refine q5 ?_|refine q6 ?_|refine w_seq ?_|refine w_region ?_|refine w_ops_nil ?_|refine w_skip ?_|refine w_block ?_|refine w_blk ?_|refine q7 ?_|refine q8 ?_|refine q9 ?_)
  refine w_condP rfl (fun k2 => ?_) (fun k2 => ?_)
  · repeat (first|refine q1 ?_|refine q2 ?_|refine q3 ?_|refine q4 ?_|refine q5 ?_|refine q6 ?_|refine w_seq ?_|refine w_region ?_|refine w_ops_nil ?_|refine w_skip ?_|refine w_block ?_|refine w_blk ?_|refine q7 ?_|refine q8 ?_|refine q9 ?_)
    exact w_retG (res1 rfl rfl) hst fun h' _ => by rw [cmpK, orI, if_neg (by omega), orI, if_pos k2]
  have k2 := Decidable.not_not.1 k2
  repeat (first|refine q1 ?_|refine q2 ?_|refine q3 ?_|refine q4 ?_|refine q5 ?_|refine q6 ?_|refine w_seq ?_|refine w_region ?_|refine w_ops_nil ?_|refine w_skip ?_|refine w_block ?_|refine w_blk ?_|refine q7 ?_|refine q8 ?_|refine q9 ?_)
  refine w_fldA (by decide) rfl rfl ?_
  refine w_load1 (v := str a.meth) hc1 rfl rfl rfl rfl ?_
  refine w_fldA (by decide) rfl rfl ?_
  refine w_load1 (v := str b.meth) hc2 rfl rfl rfl rfl ?_
  refine w_callF rfl (ref18_texts a.meth b.meth h4) rfl fun u h5 hs5 hu => ?_
  subst hu
  replace hst := hst.go hs5; replace hc1 := hc1.go hs5; replace hc2 := hc2.go hs5
  repeat (first|refine q1 ?_|refine q2 ?_|refine q3 ?_|refine q4 ?_|refine q5 ?_|refine q6 ?_|refine w_seq ?_|refine w_region ?_|refine w_ops_nil ?_|refine w_skip ?_|refine w_block ?_|refine w_blk ?_|refine q7 ?_|refine q8 ?_|refine q9 ?_)
  refine w_condP rfl (fun k3 => ?_) (fun k3 => ?_)
  · repeat (first|refine q1 ?_|refine q2 ?_|refine q3 ?_|refine q4 ?_|refine q5 ?_|refine q6 ?_|refine w_seq ?_|refine w_region ?_|refine w_ops_nil ?_|refine w_skip ?_|refine w_block ?_|refine w_blk ?_|refine q7 ?_|refine q8 ?_|refine q9 ?_)
    exact w_retG (res1 rfl rfl) hst fun h' _ => by rw [cmpK, orI, if_neg (by omega), orI, if_neg (by omega), orI, if_pos k3]
  have k3 := Decidable.not_not.1 k3
  repeat (first|refine q1 ?_|refine q2 ?_|refine q3 ?_|refine q4 ?_|refine q5 ?_|refine q6 ?_|refine w_seq ?_|refine w_region ?_|refine w_ops_nil ?_|refine w_skip ?_|refine w_block ?_|refine w_blk ?_|refine q7 ?_|refine q8 ?_|refine q9 ?_)
  refine w_fldA (by decide) rfl rfl ?_
  refine w_loadS (us := El.ad.enc a.addr) hc1 rfl rfl rfl rfl rfl ?_
  refine w_fldA (by decide) rfl rfl ?_
  refine w_loadS (us := El.ad.enc b.addr) hc2 rfl rfl rfl rfl rfl ?_
  refine w_callF rfl (ref04_Compare a.addr b.addr h5) rfl fun u h6 hs6 hu => ?_
  subst hu
  repeat (first|refine q1 ?_|refine q2 ?_|refine q3 ?_|refine q4 ?_|refine q5 ?_|refine q6 ?_|refine w_seq ?_|refine w_region ?_|refine w_ops_nil ?_|refine w_skip ?_|refine w_block ?_|refine w_blk ?_|refine q7 ?_|refine q8 ?_|refine q9 ?_)
  exact w_retG (res1 rfl rfl) (hst.go hs6) fun h' _ => by rw [cmpK, orI, if_neg (by omega), orI, if_neg (by omega), orI, if_neg (by omega)]
end Go.Proofs.Ytkgbodmlmeholaa
