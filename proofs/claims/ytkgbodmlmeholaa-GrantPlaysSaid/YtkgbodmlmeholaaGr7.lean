/- Grants: the law of one grant, as a contract. No statement of the seat is proved here. -/
import Derived.Test.YtkgbodmlmeholaaGr6
set_option linter.unusedVariables false
set_option linter.unusedSimpArgs false
namespace Go.Proofs.Ytkgbodmlmeholaa
open Go
attribute [local irreducible] Wp

theorem hold_one (k o : Ky) (t now : Int) : holdB [(k, t)] o now = if o = k then decide (now < t) else false := by
  unfold holdB
  by_cases h : o = k
  · simp [mget, h]
  · simp [mget, h]
theorem law18_Once (k o : Ky) (until_ now_ : Int) (g : G) (hu0 : -9223372036854775808 ≤ until_ ∧ until_ ≤ 9223372036854775807) (hn0 : -9223372036854775808 ≤ now_ ∧ now_ ≤ 9223372036854775807) :
    Fn Try.prog 4 [El.ky.val k, El.ky.val o, .int .i64 until_, .int .i64 now_] g [] fun u _ => u = .bool true := by
  refine enterG [] [51, 52, 41, 42, 43] Try.func4 rfl Try.ntmps4 rfl (by simp) fun g1 hv ho => ?_
  repeat (first|refine q1 ?_|refine q2 ?_|refine q3 ?_|refine q4 ?_|refine q5 ?_|refine q6 ?_|refine w_seq ?_|refine w_region ?_|refine w_ops_nil ?_|refine w_skip ?_|refine w_block ?_|refine w_blk ?_|refine q7 ?_|refine q8 ?_|refine q9 ?_)
  refine w_box 41 (vs := El.ky.enc k) rfl rfl rfl fun h1 b1 hs1 hc1 => ?_
  have hst : Step [] [51, 52, 41, 42, 43] g1 h1 := hs1.nil
  repeat (first|refine q1 ?_|refine q2 ?_|refine q3 ?_|refine q4 ?_|refine q5 ?_|refine q6 ?_|refine w_seq ?_|refine w_region ?_|refine w_ops_nil ?_|refine w_skip ?_|refine w_block ?_|refine w_blk ?_|refine q7 ?_|refine q8 ?_|refine q9 ?_)
  refine w_box 42 (vs := El.ky.enc o) rfl rfl rfl fun h2 b2 hs2 hc2 => ?_
  replace hst := hst.go hs2; replace hc1 := hc1.go hs2
  repeat (first|refine q1 ?_|refine q2 ?_|refine q3 ?_|refine q4 ?_|refine q5 ?_|refine q6 ?_|refine w_seq ?_|refine w_region ?_|refine w_ops_nil ?_|refine w_skip ?_|refine w_block ?_|refine w_blk ?_|refine q7 ?_|refine q8 ?_|refine q9 ?_)
  refine w_callF rfl (ref01_Around until_ 10000 h2 hu0 (by omega)) rfl fun u h3 hs3 hu => ?_
  subst hu
  obtain ⟨a1, a2⟩ := around_range until_ 10000 (by omega)
  generalize aroundZ until_ 10000 = t at a1 a2
  replace hst := hst.go hs3; replace hc1 := hc1.go hs3; replace hc2 := hc2.go hs3
  repeat (first|refine q1 ?_|refine q2 ?_|refine q3 ?_|refine q4 ?_|refine q5 ?_|refine q6 ?_|refine w_seq ?_|refine w_region ?_|refine w_ops_nil ?_|refine w_skip ?_|refine w_block ?_|refine w_blk ?_|refine q7 ?_|refine q8 ?_|refine q9 ?_)
  refine w_callF rfl (ref01_Around now_ 10000 h3 hn0 (by omega)) rfl fun u h4 hs4 hu => ?_
  subst hu
  obtain ⟨a3, a4⟩ := around_range now_ 10000 (by omega)
  generalize aroundZ now_ 10000 = now at a3 a4
  replace hst := hst.go hs4; replace hc1 := hc1.go hs4; replace hc2 := hc2.go hs4
  repeat (first|refine q1 ?_|refine q2 ?_|refine q3 ?_|refine q4 ?_|refine q5 ?_|refine q6 ?_|refine w_seq ?_|refine w_region ?_|refine w_ops_nil ?_|refine w_skip ?_|refine w_block ?_|refine w_blk ?_|refine q7 ?_|refine q8 ?_|refine q9 ?_)
  refine w_callF rfl (grant_New 4 h4) rfl fun u h5 hs5 hR => ?_
  obtain ⟨p, rfl, hb⟩ := hR
  replace hst := hst.go hs5; replace hc1 := hc1.go hs5; replace hc2 := hc2.go hs5
  repeat (first|refine q1 ?_|refine q2 ?_|refine q3 ?_|refine q4 ?_|refine q5 ?_|refine q6 ?_|refine w_seq ?_|refine w_region ?_|refine w_ops_nil ?_|refine w_skip ?_|refine w_block ?_|refine w_blk ?_|refine q7 ?_|refine q8 ?_|refine q9 ?_)
  refine w_ptrEqNil rfl rfl rfl ?_
  repeat (first|refine q1 ?_|refine q2 ?_|refine q3 ?_|refine q4 ?_|refine q5 ?_|refine q6 ?_|refine w_seq ?_|refine w_region ?_|refine w_ops_nil ?_|refine w_skip ?_|refine w_block ?_|refine w_blk ?_|refine q7 ?_|refine q8 ?_|refine q9 ?_)
  refine w_cond rfl (fun h => by cases h) (fun _ => ?_)
  repeat (first|refine q1 ?_|refine q2 ?_|refine q3 ?_|refine q4 ?_|refine q5 ?_|refine q6 ?_|refine w_seq ?_|refine w_region ?_|refine w_ops_nil ?_|refine w_skip ?_|refine w_block ?_|refine w_blk ?_|refine q7 ?_|refine q8 ?_|refine q9 ?_)
  refine w_loadS (us := El.ky.enc k) hc1 rfl rfl rfl rfl rfl ?_
  repeat (first|refine q1 ?_|refine q2 ?_|refine q3 ?_|refine q4 ?_|refine q5 ?_|refine q6 ?_|refine w_seq ?_|refine w_region ?_|refine w_ops_nil ?_|refine w_skip ?_|refine w_block ?_|refine w_blk ?_|refine q7 ?_|refine q8 ?_|refine q9 ?_)
  refine w_callF rfl (Book_Put p (roomZ 4) [] k t now h5 hb (.inr (by decide))) rfl fun u h6 hs6 hR => ?_
  obtain ⟨rfl, hb⟩ := hR
  replace hst := hst.go hs6; replace hc1 := hc1.go hs6; replace hc2 := hc2.go hs6
  repeat (first|refine q1 ?_|refine q2 ?_|refine q3 ?_|refine q4 ?_|refine q5 ?_|refine q6 ?_|refine w_seq ?_|refine w_region ?_|refine w_ops_nil ?_|refine w_skip ?_|refine w_block ?_|refine w_blk ?_|refine q7 ?_|refine q8 ?_|refine q9 ?_)
  refine w_alloc 43 (vs := El.ky.enc Ky.zero) rfl rfl fun h7 b7 hs7 hc7 => ?_
  replace hst := hst.go hs7; replace hc1 := hc1.go hs7; replace hc2 := hc2.go hs7; replace hb := hb.go hs7
  repeat (first|refine q1 ?_|refine q2 ?_|refine q3 ?_|refine q4 ?_|refine q5 ?_|refine q6 ?_|refine w_seq ?_|refine w_region ?_|refine w_ops_nil ?_|refine w_skip ?_|refine w_block ?_|refine w_blk ?_|refine q7 ?_|refine q8 ?_|refine q9 ?_)
  refine w_store (us := El.ky.enc Ky.zero) (vs' := El.ky.enc Ky.zero) hc7 rfl rfl rfl rfl (El.ky.flat _) (show 0 + 24 ≤ 24 by decide) rfl fun h8 hb8 hs8 hc8 => ?_
  replace hst := hst.go hs8; replace hc1 := hc1.go hs8; replace hc2 := hc2.go hs8; replace hb := hb.go hs8
  generalize hm : (if t ≤ now then [] else mput k t []) = m at hb
  have e1 : holdB m k now = decide (now < t) := by
    rw [← hm]
    by_cases h : t ≤ now
    · rw [if_pos h, decide_eq_false (by omega)]; rfl
    · rw [if_neg h]
      show holdB [(k, t)] k now = _
      rw [hold_one, if_pos rfl]
  have e2 : holdB m k t = false := by
    rw [← hm]
    by_cases h : t ≤ now
    · rw [if_pos h]; rfl
    · rw [if_neg h]
      show holdB [(k, t)] k t = _
      rw [hold_one, if_pos rfl, decide_eq_false (by omega)]
  have e3 : holdB m o now = (decide (now < t) && decide (o = k)) := by
    rw [← hm]
    by_cases h : t ≤ now
    · rw [if_pos h, decide_eq_false (show ¬ now < t by omega)]; rfl
    · rw [if_neg h]
      show holdB [(k, t)] o now = _
      rw [hold_one]
      by_cases h2 : o = k
      · rw [if_pos h2, decide_eq_true h2, Bool.and_true]
      · rw [if_neg h2, decide_eq_false h2, Bool.and_false]
  clear hs3 hs4 hs5 hs6 hs7 hs8 hb8
  repeat (first|refine q1 ?_|refine q2 ?_|refine q3 ?_|refine q4 ?_|refine q5 ?_|refine q6 ?_|refine w_seq ?_|refine w_region ?_|refine w_ops_nil ?_|refine w_skip ?_|refine w_block ?_|refine w_blk ?_|refine q7 ?_|refine q8 ?_|refine q9 ?_)
  refine w_loadS (us := El.ky.enc k) hc1 rfl rfl rfl rfl rfl ?_
  repeat (first|refine q1 ?_|refine q2 ?_|refine q3 ?_|refine q4 ?_|refine q5 ?_|refine q6 ?_|refine w_seq ?_|refine w_region ?_|refine w_ops_nil ?_|refine w_skip ?_|refine w_block ?_|refine w_blk ?_|refine q7 ?_|refine q8 ?_|refine q9 ?_)
  refine w_callF rfl (Book_Holds p (roomZ 4) m k now h8 hb) rfl fun u k1 hs1 hu => ?_
  rw [e1] at hu
  subst hu
  replace hst := hst.go hs1; replace hc1 := hc1.go hs1; replace hc2 := hc2.go hs1; replace hb := hb.go hs1
  repeat (first|refine q1 ?_|refine q2 ?_|refine q3 ?_|refine q4 ?_|refine q5 ?_|refine q6 ?_|refine w_seq ?_|refine w_region ?_|refine w_ops_nil ?_|refine w_skip ?_|refine w_block ?_|refine w_blk ?_|refine q7 ?_|refine q8 ?_|refine q9 ?_)
  refine w_neBool rfl rfl rfl ?_
  refine w_known 36 (.bool false) rfl (congrArg Value.bool (decide_eq_false (fun h => h rfl))) ?_
  repeat (first|refine q1 ?_|refine q2 ?_|refine q3 ?_|refine q4 ?_|refine q5 ?_|refine q6 ?_|refine w_seq ?_|refine w_region ?_|refine w_ops_nil ?_|refine w_skip ?_|refine w_block ?_|refine w_blk ?_|refine q7 ?_|refine q8 ?_|refine q9 ?_)
  refine w_loadS (us := El.ky.enc k) hc1 rfl rfl rfl rfl rfl ?_
  repeat (first|refine q1 ?_|refine q2 ?_|refine q3 ?_|refine q4 ?_|refine q5 ?_|refine q6 ?_|refine w_seq ?_|refine w_region ?_|refine w_ops_nil ?_|refine w_skip ?_|refine w_block ?_|refine w_blk ?_|refine q7 ?_|refine q8 ?_|refine q9 ?_)
  refine w_callF rfl (Book_Holds p (roomZ 4) m k t k1 hb) rfl fun u k2 hs2 hu => ?_
  rw [e2] at hu
  subst hu
  replace hst := hst.go hs2; replace hc1 := hc1.go hs2; replace hc2 := hc2.go hs2; replace hb := hb.go hs2
  repeat (first|refine q1 ?_|refine q2 ?_|refine q3 ?_|refine q4 ?_|refine q5 ?_|refine q6 ?_|refine w_seq ?_|refine w_region ?_|refine w_ops_nil ?_|refine w_skip ?_|refine w_block ?_|refine w_blk ?_|refine q7 ?_|refine q8 ?_|refine q9 ?_)
  refine w_loadS (us := El.ky.enc o) hc2 rfl rfl rfl rfl rfl ?_
  repeat (first|refine q1 ?_|refine q2 ?_|refine q3 ?_|refine q4 ?_|refine q5 ?_|refine q6 ?_|refine w_seq ?_|refine w_region ?_|refine w_ops_nil ?_|refine w_skip ?_|refine w_block ?_|refine w_blk ?_|refine q7 ?_|refine q8 ?_|refine q9 ?_)
  refine w_callF rfl (Book_Holds p (roomZ 4) m o now k2 hb) rfl fun u k3 hs3 hu => ?_
  rw [e3] at hu
  replace hst := hst.go hs3; replace hc1 := hc1.go hs3; replace hc2 := hc2.go hs3; replace hb := hb.go hs3
  by_cases hnt : now < t
  · rw [decide_eq_true hnt, Bool.true_and] at hu
    subst hu
    repeat (first|refine q1 ?_|refine q2 ?_|refine q3 ?_|refine q4 ?_|refine q5 ?_|refine q6 ?_|refine w_seq ?_|refine w_region ?_|refine w_ops_nil ?_|refine w_skip ?_|refine w_block ?_|refine w_blk ?_|refine q7 ?_|refine q8 ?_|refine q9 ?_)
    refine w_known 51 (.bool true) rfl (congrArg Value.bool (decide_eq_true hnt)) ?_
    repeat (first|refine q1 ?_|refine q2 ?_|refine q3 ?_|refine q4 ?_|refine q5 ?_|refine q6 ?_|refine w_seq ?_|refine w_region ?_|refine w_ops_nil ?_|refine w_skip ?_|refine w_block ?_|refine w_blk ?_|refine q7 ?_|refine q8 ?_|refine q9 ?_)
    refine w_loadS (us := El.ky.enc o) hc2 rfl rfl rfl rfl rfl ?_
    repeat (first|refine q1 ?_|refine q2 ?_|refine q3 ?_|refine q4 ?_|refine q5 ?_|refine q6 ?_|refine w_seq ?_|refine w_region ?_|refine w_ops_nil ?_|refine w_skip ?_|refine w_block ?_|refine w_blk ?_|refine q7 ?_|refine q8 ?_|refine q9 ?_)
    refine w_loadS (us := El.ky.enc k) hc1 rfl rfl rfl rfl rfl ?_
    repeat (first|refine q1 ?_|refine q2 ?_|refine q3 ?_|refine q4 ?_|refine q5 ?_|refine q6 ?_|refine w_seq ?_|refine w_region ?_|refine w_ops_nil ?_|refine w_skip ?_|refine w_block ?_|refine w_blk ?_|refine q7 ?_|refine q8 ?_|refine q9 ?_)
    refine w_eqS (E := El.ky) (a := o) (b := k) rfl rfl rfl rfl ?_
    repeat (first|refine q1 ?_|refine q2 ?_|refine q3 ?_|refine q4 ?_|refine q5 ?_|refine q6 ?_|refine w_seq ?_|refine w_region ?_|refine w_ops_nil ?_|refine w_skip ?_|refine w_block ?_|refine w_blk ?_|refine q7 ?_|refine q8 ?_|refine q9 ?_)
    refine w_eqBool rfl rfl rfl ?_
    refine w_known 56 (.bool true) rfl (congrArg Value.bool (decide_eq_true rfl)) ?_
    repeat (first|refine q1 ?_|refine q2 ?_|refine q3 ?_|refine q4 ?_|refine q5 ?_|refine q6 ?_|refine w_seq ?_|refine w_region ?_|refine w_ops_nil ?_|refine w_skip ?_|refine w_block ?_|refine w_blk ?_|refine q7 ?_|refine q8 ?_|refine q9 ?_)
    refine w_callF rfl (law18_lives k3) rfl fun u k4 hs4 hu => ?_
    subst hu
    repeat (first|refine q1 ?_|refine q2 ?_|refine q3 ?_|refine q4 ?_|refine q5 ?_|refine q6 ?_|refine w_seq ?_|refine w_region ?_|refine w_ops_nil ?_|refine w_skip ?_|refine w_block ?_|refine w_blk ?_|refine q7 ?_|refine q8 ?_|refine q9 ?_)
    exact w_retG (res1 rfl rfl) (hst.go hs4) fun h' _ => rfl
  · rw [decide_eq_false hnt, Bool.false_and] at hu
    subst hu
    repeat (first|refine q1 ?_|refine q2 ?_|refine q3 ?_|refine q4 ?_|refine q5 ?_|refine q6 ?_|refine w_seq ?_|refine w_region ?_|refine w_ops_nil ?_|refine w_skip ?_|refine w_block ?_|refine w_blk ?_|refine q7 ?_|refine q8 ?_|refine q9 ?_)
    refine w_known 51 (.bool false) rfl (congrArg Value.bool (decide_eq_false hnt)) ?_
    repeat (first|refine q1 ?_|refine q2 ?_|refine q3 ?_|refine q4 ?_|refine q5 ?_|refine q6 ?_|refine w_seq ?_|refine w_region ?_|refine w_ops_nil ?_|refine w_skip ?_|refine w_block ?_|refine w_blk ?_|refine q7 ?_|refine q8 ?_|refine q9 ?_)
    refine w_eqBool rfl rfl rfl ?_
    refine w_known 56 (.bool true) rfl (congrArg Value.bool (decide_eq_true rfl)) ?_
    repeat (first|refine q1 ?_|refine q2 ?_|refine q3 ?_|refine q4 ?_|refine q5 ?_|refine q6 ?_|refine w_seq ?_|refine w_region ?_|refine w_ops_nil ?_|refine w_skip ?_|refine w_block ?_|refine w_blk ?_|refine q7 ?_|refine q8 ?_|refine q9 ?_)
    refine w_callF rfl (law18_lives k3) rfl fun u k4 hs4 hu => ?_
    subst hu
    repeat (first|refine q1 ?_|refine q2 ?_|refine q3 ?_|refine q4 ?_|refine q5 ?_|refine q6 ?_|refine w_seq ?_|refine w_region ?_|refine w_ops_nil ?_|refine w_skip ?_|refine w_block ?_|refine w_blk ?_|refine q7 ?_|refine q8 ?_|refine q9 ?_)
    exact w_retG (res1 rfl rfl) (hst.go hs4) fun h' _ => rfl
end Go.Proofs.Ytkgbodmlmeholaa
