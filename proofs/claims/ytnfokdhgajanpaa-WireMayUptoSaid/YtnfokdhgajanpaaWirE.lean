/- The law of which messages may be, as a contract. No statement of the seat is proved here. -/
import Derived.Test.YtnfokdhgajanpaaWirB
set_option linter.unusedVariables false
set_option linter.unusedSimpArgs false
namespace Go.Proofs.Ytnfokdhgajanpaa
open Go

def fewM (m : Ms) : Ms := ⟨m.id, m.flags, m.asked.take 3, m.ans.take 3, m.auth.take 3, m.more.take 3⟩
theorem law09_fewM (m : Ms) (vs : List Value) (g : G) (hm : Ms0 g vs m) : Fn Try.prog 21 [.agg vs.toArray] g [] fun u h => ∃ vs, u = .agg vs.toArray ∧ Ms0 h vs (fewM m) := by
  refine enterG [] [41, 42] Try.func21 rfl Try.ntmps21 rfl (by simp) fun g1 hv ho => ?_
  replace hm := hm.view hv
  obtain ⟨vq, va, vu, vm, rfl, hq, ha, hu, hmo⟩ := hm
  repeat (first | ((with_reducible refine q0 ?_); first | refine q1 ?_ | ((with_reducible refine gate_bin ?_); first | refine q2 ?_ | refine q3 ?_) | ((with_reducible refine gate_len ?_); refine q4 ?_) | ((with_reducible refine gate_guard ?_); first | refine q5 ?_ | refine q6 ?_)) | (with_reducible first | refine w_seq ?_ | refine w_region ?_ | refine w_ops_nil ?_ | refine w_skip ?_ | refine w_block ?_ | refine w_blk ?_) | ((with_reducible refine gate_exit ?_); refine q7 ?_) | ((with_reducible refine gate_cond ?_); first | refine q8 ?_ | refine q9 ?_))
  refine w_box 41 (vs := [.int .i64 m.id, .int .i64 m.flags, vq, va, vu, vm]) rfl rfl rfl fun h1 b1 hs1 hc1 => ?_
  have hst : Step [] [41, 42] g1 h1 := hs1.nil
  replace hq := hq.go hs1; replace ha := ha.go hs1; replace hu := hu.go hs1; replace hmo := hmo.go hs1
  repeat (first | ((with_reducible refine q0 ?_); first | refine q1 ?_ | ((with_reducible refine gate_bin ?_); first | refine q2 ?_ | refine q3 ?_) | ((with_reducible refine gate_len ?_); refine q4 ?_) | ((with_reducible refine gate_guard ?_); first | refine q5 ?_ | refine q6 ?_)) | (with_reducible first | refine w_seq ?_ | refine w_region ?_ | refine w_ops_nil ?_ | refine w_skip ?_ | refine w_block ?_ | refine w_blk ?_) | ((with_reducible refine gate_exit ?_); refine q7 ?_) | ((with_reducible refine gate_cond ?_); first | refine q8 ?_ | refine q9 ?_))
  refine w_alloc 42 (vs := msZ) rfl rfl fun h2 b2 hs2 hc2 => ?_
  replace hst := hst.go hs2; replace hq := hq.go hs2; replace ha := ha.go hs2; replace hu := hu.go hs2; replace hmo := hmo.go hs2; replace hc1 := hc1.go hs2
  clear hs1 hs2
  repeat (first | ((with_reducible refine q0 ?_); first | refine q1 ?_ | ((with_reducible refine gate_bin ?_); first | refine q2 ?_ | refine q3 ?_) | ((with_reducible refine gate_len ?_); refine q4 ?_) | ((with_reducible refine gate_guard ?_); first | refine q5 ?_ | refine q6 ?_)) | (with_reducible first | refine w_seq ?_ | refine w_region ?_ | refine w_ops_nil ?_ | refine w_skip ?_ | refine w_block ?_ | refine w_blk ?_) | ((with_reducible refine gate_exit ?_); refine q7 ?_) | ((with_reducible refine gate_cond ?_); first | refine q8 ?_ | refine q9 ?_))
  refine w_fldA (by decide) rfl rfl ?_
  refine w_load1 (v := vq) hc1 rfl rfl rfl rfl ?_
  refine w_lenSl hq.isSl rfl rfl ?_
  repeat (first | ((with_reducible refine q0 ?_); first | refine q1 ?_ | ((with_reducible refine gate_bin ?_); first | refine q2 ?_ | refine q3 ?_) | ((with_reducible refine gate_len ?_); refine q4 ?_) | ((with_reducible refine gate_guard ?_); first | refine q5 ?_ | refine q6 ?_)) | (with_reducible first | refine w_seq ?_ | refine w_region ?_ | refine w_ops_nil ?_ | refine w_skip ?_ | refine w_block ?_ | refine w_blk ?_) | ((with_reducible refine gate_exit ?_); refine q7 ?_) | ((with_reducible refine gate_cond ?_); first | refine q8 ?_ | refine q9 ?_))
  refine w_cut (ι := Unit) (fun _ => [(1, .pointer (some ⟨b1, 0, none⟩)), (2, .pointer (some ⟨b2, 0, none⟩))])
    (fun _ w => ∃ h v10, h.w = w ∧ Step [] [41, 42] g1 h ∧ Cell h 41 b1 46 [.int .i64 m.id, .int .i64 m.flags, v10, va, vu, vm] ∧ Cell h 42 b2 46 msZ ∧ Rd h 0 El.qn v10 (m.asked.take 3) ∧ Rd h 0 El.rc va m.ans ∧ Rd h 0 El.rc vu m.auth ∧ Rd h 0 El.rc vm m.more) ?_ ?_
  · refine w_condP rfl (fun hl => ?_) (fun hl => ?_)
    · repeat (first | ((with_reducible refine q0 ?_); first | refine q1 ?_ | ((with_reducible refine gate_bin ?_); first | refine q2 ?_ | refine q3 ?_) | ((with_reducible refine gate_len ?_); refine q4 ?_) | ((with_reducible refine gate_guard ?_); first | refine q5 ?_ | refine q6 ?_)) | (with_reducible first | refine w_seq ?_ | refine w_region ?_ | refine w_ops_nil ?_ | refine w_skip ?_ | refine w_block ?_ | refine w_blk ?_) | ((with_reducible refine gate_exit ?_); refine q7 ?_) | ((with_reducible refine gate_cond ?_); first | refine q8 ?_ | refine q9 ?_))
      refine w_fldA (by decide) rfl rfl ?_
      refine w_load1 (v := vq) hc1 rfl rfl rfl rfl ?_
      have hr := hq
      refine w_cut_ (a := 0) (b := 3) hr rfl rfl ⟨_, rfl, rfl⟩ (by omega) (by omega) rfl fun hr2 => ?_
      rw [List.drop_zero] at hr2
      repeat (first | ((with_reducible refine q0 ?_); first | refine q1 ?_ | ((with_reducible refine gate_bin ?_); first | refine q2 ?_ | refine q3 ?_) | ((with_reducible refine gate_len ?_); refine q4 ?_) | ((with_reducible refine gate_guard ?_); first | refine q5 ?_ | refine q6 ?_)) | (with_reducible first | refine w_seq ?_ | refine w_region ?_ | refine w_ops_nil ?_ | refine w_skip ?_ | refine w_block ?_ | refine w_blk ?_) | ((with_reducible refine gate_exit ?_); refine q7 ?_) | ((with_reducible refine gate_cond ?_); first | refine q8 ?_ | refine q9 ?_))
      refine w_fldA (by decide) rfl rfl ?_
      refine w_store1 hc1 rfl rfl hr2.isSl.one (by simp) fun h9 hb9 hs9 hc9 => ?_
      repeat (first | ((with_reducible refine q0 ?_); first | refine q1 ?_ | ((with_reducible refine gate_bin ?_); first | refine q2 ?_ | refine q3 ?_) | ((with_reducible refine gate_len ?_); refine q4 ?_) | ((with_reducible refine gate_guard ?_); first | refine q5 ?_ | refine q6 ?_)) | (with_reducible first | refine w_seq ?_ | refine w_region ?_ | refine w_ops_nil ?_ | refine w_skip ?_ | refine w_block ?_ | refine w_blk ?_) | ((with_reducible refine gate_exit ?_); refine q7 ?_) | ((with_reducible refine gate_cond ?_); first | refine q8 ?_ | refine q9 ?_))
      exact w_meet () ⟨h9, _, rfl, hst.go hs9, hc9, hc2.go hs9, hr2.go hs9, ha.go hs9, hu.go hs9, hmo.go hs9⟩ ⟨rfl, rfl, trivial⟩
    · repeat (first | ((with_reducible refine q0 ?_); first | refine q1 ?_ | ((with_reducible refine gate_bin ?_); first | refine q2 ?_ | refine q3 ?_) | ((with_reducible refine gate_len ?_); refine q4 ?_) | ((with_reducible refine gate_guard ?_); first | refine q5 ?_ | refine q6 ?_)) | (with_reducible first | refine w_seq ?_ | refine w_region ?_ | refine w_ops_nil ?_ | refine w_skip ?_ | refine w_block ?_ | refine w_blk ?_) | ((with_reducible refine gate_exit ?_); refine q7 ?_) | ((with_reducible refine gate_cond ?_); first | refine q8 ?_ | refine q9 ?_))
      rw [← List.take_of_length_le (show m.asked.length ≤ 3 by omega)] at hq
      exact w_meet () ⟨_, _, rfl, hst, hc1, hc2, hq, ha, hu, hmo⟩ ⟨rfl, rfl, trivial⟩
  clear hst hc1 hc2 hq ha hu hmo
  rintro _ _ ⟨h, v10, rfl, hst, hc1, hc2, hq, ha, hu, hmo⟩
  repeat (first | ((with_reducible refine q0 ?_); first | refine q1 ?_ | ((with_reducible refine gate_bin ?_); first | refine q2 ?_ | refine q3 ?_) | ((with_reducible refine gate_len ?_); refine q4 ?_) | ((with_reducible refine gate_guard ?_); first | refine q5 ?_ | refine q6 ?_)) | (with_reducible first | refine w_seq ?_ | refine w_region ?_ | refine w_ops_nil ?_ | refine w_skip ?_ | refine w_block ?_ | refine w_blk ?_) | ((with_reducible refine gate_exit ?_); refine q7 ?_) | ((with_reducible refine gate_cond ?_); first | refine q8 ?_ | refine q9 ?_))
  refine w_fldA (by decide) rfl rfl ?_
  refine w_load1 (v := va) hc1 rfl rfl rfl rfl ?_
  refine w_lenSl ha.isSl rfl rfl ?_
  repeat (first | ((with_reducible refine q0 ?_); first | refine q1 ?_ | ((with_reducible refine gate_bin ?_); first | refine q2 ?_ | refine q3 ?_) | ((with_reducible refine gate_len ?_); refine q4 ?_) | ((with_reducible refine gate_guard ?_); first | refine q5 ?_ | refine q6 ?_)) | (with_reducible first | refine w_seq ?_ | refine w_region ?_ | refine w_ops_nil ?_ | refine w_skip ?_ | refine w_block ?_ | refine w_blk ?_) | ((with_reducible refine gate_exit ?_); refine q7 ?_) | ((with_reducible refine gate_cond ?_); first | refine q8 ?_ | refine q9 ?_))
  refine w_cut (ι := Unit) (fun _ => [(1, .pointer (some ⟨b1, 0, none⟩)), (2, .pointer (some ⟨b2, 0, none⟩))])
    (fun _ w => ∃ h v11, h.w = w ∧ Step [] [41, 42] g1 h ∧ Cell h 41 b1 46 [.int .i64 m.id, .int .i64 m.flags, v10, v11, vu, vm] ∧ Cell h 42 b2 46 msZ ∧ Rd h 0 El.qn v10 (m.asked.take 3) ∧ Rd h 0 El.rc v11 (m.ans.take 3) ∧ Rd h 0 El.rc vu m.auth ∧ Rd h 0 El.rc vm m.more) ?_ ?_
  · refine w_condP rfl (fun hl => ?_) (fun hl => ?_)
    · repeat (first | ((with_reducible refine q0 ?_); first | refine q1 ?_ | ((with_reducible refine gate_bin ?_); first | refine q2 ?_ | refine q3 ?_) | ((with_reducible refine gate_len ?_); refine q4 ?_) | ((with_reducible refine gate_guard ?_); first | refine q5 ?_ | refine q6 ?_)) | (with_reducible first | refine w_seq ?_ | refine w_region ?_ | refine w_ops_nil ?_ | refine w_skip ?_ | refine w_block ?_ | refine w_blk ?_) | ((with_reducible refine gate_exit ?_); refine q7 ?_) | ((with_reducible refine gate_cond ?_); first | refine q8 ?_ | refine q9 ?_))
      refine w_fldA (by decide) rfl rfl ?_
      refine w_load1 (v := va) hc1 rfl rfl rfl rfl ?_
      have hr := ha
      refine w_cut_ (a := 0) (b := 3) hr rfl rfl ⟨_, rfl, rfl⟩ (by omega) (by omega) rfl fun hr2 => ?_
      rw [List.drop_zero] at hr2
      repeat (first | ((with_reducible refine q0 ?_); first | refine q1 ?_ | ((with_reducible refine gate_bin ?_); first | refine q2 ?_ | refine q3 ?_) | ((with_reducible refine gate_len ?_); refine q4 ?_) | ((with_reducible refine gate_guard ?_); first | refine q5 ?_ | refine q6 ?_)) | (with_reducible first | refine w_seq ?_ | refine w_region ?_ | refine w_ops_nil ?_ | refine w_skip ?_ | refine w_block ?_ | refine w_blk ?_) | ((with_reducible refine gate_exit ?_); refine q7 ?_) | ((with_reducible refine gate_cond ?_); first | refine q8 ?_ | refine q9 ?_))
      refine w_fldA (by decide) rfl rfl ?_
      refine w_store1 hc1 rfl rfl hr2.isSl.one (by simp) fun h9 hb9 hs9 hc9 => ?_
      repeat (first | ((with_reducible refine q0 ?_); first | refine q1 ?_ | ((with_reducible refine gate_bin ?_); first | refine q2 ?_ | refine q3 ?_) | ((with_reducible refine gate_len ?_); refine q4 ?_) | ((with_reducible refine gate_guard ?_); first | refine q5 ?_ | refine q6 ?_)) | (with_reducible first | refine w_seq ?_ | refine w_region ?_ | refine w_ops_nil ?_ | refine w_skip ?_ | refine w_block ?_ | refine w_blk ?_) | ((with_reducible refine gate_exit ?_); refine q7 ?_) | ((with_reducible refine gate_cond ?_); first | refine q8 ?_ | refine q9 ?_))
      exact w_meet () ⟨h9, _, rfl, hst.go hs9, hc9, hc2.go hs9, hq.go hs9, hr2.go hs9, hu.go hs9, hmo.go hs9⟩ ⟨rfl, rfl, trivial⟩
    · repeat (first | ((with_reducible refine q0 ?_); first | refine q1 ?_ | ((with_reducible refine gate_bin ?_); first | refine q2 ?_ | refine q3 ?_) | ((with_reducible refine gate_len ?_); refine q4 ?_) | ((with_reducible refine gate_guard ?_); first | refine q5 ?_ | refine q6 ?_)) | (with_reducible first | refine w_seq ?_ | refine w_region ?_ | refine w_ops_nil ?_ | refine w_skip ?_ | refine w_block ?_ | refine w_blk ?_) | ((with_reducible refine gate_exit ?_); refine q7 ?_) | ((with_reducible refine gate_cond ?_); first | refine q8 ?_ | refine q9 ?_))
      rw [← List.take_of_length_le (show m.ans.length ≤ 3 by omega)] at ha
      exact w_meet () ⟨_, _, rfl, hst, hc1, hc2, hq, ha, hu, hmo⟩ ⟨rfl, rfl, trivial⟩
  clear hst hc1 hc2 hq ha hu hmo
  rintro _ _ ⟨h, v11, rfl, hst, hc1, hc2, hq, ha, hu, hmo⟩
  repeat (first | ((with_reducible refine q0 ?_); first | refine q1 ?_ | ((with_reducible refine gate_bin ?_); first | refine q2 ?_ | refine q3 ?_) | ((with_reducible refine gate_len ?_); refine q4 ?_) | ((with_reducible refine gate_guard ?_); first | refine q5 ?_ | refine q6 ?_)) | (with_reducible first | refine w_seq ?_ | refine w_region ?_ | refine w_ops_nil ?_ | refine w_skip ?_ | refine w_block ?_ | refine w_blk ?_) | ((with_reducible refine gate_exit ?_); refine q7 ?_) | ((with_reducible refine gate_cond ?_); first | refine q8 ?_ | refine q9 ?_))
  refine w_fldA (by decide) rfl rfl ?_
  refine w_load1 (v := vu) hc1 rfl rfl rfl rfl ?_
  refine w_lenSl hu.isSl rfl rfl ?_
  repeat (first | ((with_reducible refine q0 ?_); first | refine q1 ?_ | ((with_reducible refine gate_bin ?_); first | refine q2 ?_ | refine q3 ?_) | ((with_reducible refine gate_len ?_); refine q4 ?_) | ((with_reducible refine gate_guard ?_); first | refine q5 ?_ | refine q6 ?_)) | (with_reducible first | refine w_seq ?_ | refine w_region ?_ | refine w_ops_nil ?_ | refine w_skip ?_ | refine w_block ?_ | refine w_blk ?_) | ((with_reducible refine gate_exit ?_); refine q7 ?_) | ((with_reducible refine gate_cond ?_); first | refine q8 ?_ | refine q9 ?_))
  refine w_cut (ι := Unit) (fun _ => [(1, .pointer (some ⟨b1, 0, none⟩)), (2, .pointer (some ⟨b2, 0, none⟩))])
    (fun _ w => ∃ h v12, h.w = w ∧ Step [] [41, 42] g1 h ∧ Cell h 41 b1 46 [.int .i64 m.id, .int .i64 m.flags, v10, v11, v12, vm] ∧ Cell h 42 b2 46 msZ ∧ Rd h 0 El.qn v10 (m.asked.take 3) ∧ Rd h 0 El.rc v11 (m.ans.take 3) ∧ Rd h 0 El.rc v12 (m.auth.take 3) ∧ Rd h 0 El.rc vm m.more) ?_ ?_
  · refine w_condP rfl (fun hl => ?_) (fun hl => ?_)
    · repeat (first | ((with_reducible refine q0 ?_); first | refine q1 ?_ | ((with_reducible refine gate_bin ?_); first | refine q2 ?_ | refine q3 ?_) | ((with_reducible refine gate_len ?_); refine q4 ?_) | ((with_reducible refine gate_guard ?_); first | refine q5 ?_ | refine q6 ?_)) | (with_reducible first | refine w_seq ?_ | refine w_region ?_ | refine w_ops_nil ?_ | refine w_skip ?_ | refine w_block ?_ | refine w_blk ?_) | ((with_reducible refine gate_exit ?_); refine q7 ?_) | ((with_reducible refine gate_cond ?_); first | refine q8 ?_ | refine q9 ?_))
      refine w_fldA (by decide) rfl rfl ?_
      refine w_load1 (v := vu) hc1 rfl rfl rfl rfl ?_
      have hr := hu
      refine w_cut_ (a := 0) (b := 3) hr rfl rfl ⟨_, rfl, rfl⟩ (by omega) (by omega) rfl fun hr2 => ?_
      rw [List.drop_zero] at hr2
      repeat (first | ((with_reducible refine q0 ?_); first | refine q1 ?_ | ((with_reducible refine gate_bin ?_); first | refine q2 ?_ | refine q3 ?_) | ((with_reducible refine gate_len ?_); refine q4 ?_) | ((with_reducible refine gate_guard ?_); first | refine q5 ?_ | refine q6 ?_)) | (with_reducible first | refine w_seq ?_ | refine w_region ?_ | refine w_ops_nil ?_ | refine w_skip ?_ | refine w_block ?_ | refine w_blk ?_) | ((with_reducible refine gate_exit ?_); refine q7 ?_) | ((with_reducible refine gate_cond ?_); first | refine q8 ?_ | refine q9 ?_))
      refine w_fldA (by decide) rfl rfl ?_
      refine w_store1 hc1 rfl rfl hr2.isSl.one (by simp) fun h9 hb9 hs9 hc9 => ?_
      repeat (first | ((with_reducible refine q0 ?_); first | refine q1 ?_ | ((with_reducible refine gate_bin ?_); first | refine q2 ?_ | refine q3 ?_) | ((with_reducible refine gate_len ?_); refine q4 ?_) | ((with_reducible refine gate_guard ?_); first | refine q5 ?_ | refine q6 ?_)) | (with_reducible first | refine w_seq ?_ | refine w_region ?_ | refine w_ops_nil ?_ | refine w_skip ?_ | refine w_block ?_ | refine w_blk ?_) | ((with_reducible refine gate_exit ?_); refine q7 ?_) | ((with_reducible refine gate_cond ?_); first | refine q8 ?_ | refine q9 ?_))
      exact w_meet () ⟨h9, _, rfl, hst.go hs9, hc9, hc2.go hs9, hq.go hs9, ha.go hs9, hr2.go hs9, hmo.go hs9⟩ ⟨rfl, rfl, trivial⟩
    · repeat (first | ((with_reducible refine q0 ?_); first | refine q1 ?_ | ((with_reducible refine gate_bin ?_); first | refine q2 ?_ | refine q3 ?_) | ((with_reducible refine gate_len ?_); refine q4 ?_) | ((with_reducible refine gate_guard ?_); first | refine q5 ?_ | refine q6 ?_)) | (with_reducible first | refine w_seq ?_ | refine w_region ?_ | refine w_ops_nil ?_ | refine w_skip ?_ | refine w_block ?_ | refine w_blk ?_) | ((with_reducible refine gate_exit ?_); refine q7 ?_) | ((with_reducible refine gate_cond ?_); first | refine q8 ?_ | refine q9 ?_))
      rw [← List.take_of_length_le (show m.auth.length ≤ 3 by omega)] at hu
      exact w_meet () ⟨_, _, rfl, hst, hc1, hc2, hq, ha, hu, hmo⟩ ⟨rfl, rfl, trivial⟩
  clear hst hc1 hc2 hq ha hu hmo
  rintro _ _ ⟨h, v12, rfl, hst, hc1, hc2, hq, ha, hu, hmo⟩
  repeat (first | ((with_reducible refine q0 ?_); first | refine q1 ?_ | ((with_reducible refine gate_bin ?_); first | refine q2 ?_ | refine q3 ?_) | ((with_reducible refine gate_len ?_); refine q4 ?_) | ((with_reducible refine gate_guard ?_); first | refine q5 ?_ | refine q6 ?_)) | (with_reducible first | refine w_seq ?_ | refine w_region ?_ | refine w_ops_nil ?_ | refine w_skip ?_ | refine w_block ?_ | refine w_blk ?_) | ((with_reducible refine gate_exit ?_); refine q7 ?_) | ((with_reducible refine gate_cond ?_); first | refine q8 ?_ | refine q9 ?_))
  refine w_fldA (by decide) rfl rfl ?_
  refine w_load1 (v := vm) hc1 rfl rfl rfl rfl ?_
  refine w_lenSl hmo.isSl rfl rfl ?_
  repeat (first | ((with_reducible refine q0 ?_); first | refine q1 ?_ | ((with_reducible refine gate_bin ?_); first | refine q2 ?_ | refine q3 ?_) | ((with_reducible refine gate_len ?_); refine q4 ?_) | ((with_reducible refine gate_guard ?_); first | refine q5 ?_ | refine q6 ?_)) | (with_reducible first | refine w_seq ?_ | refine w_region ?_ | refine w_ops_nil ?_ | refine w_skip ?_ | refine w_block ?_ | refine w_blk ?_) | ((with_reducible refine gate_exit ?_); refine q7 ?_) | ((with_reducible refine gate_cond ?_); first | refine q8 ?_ | refine q9 ?_))
  refine w_cut (ι := Unit) (fun _ => [(1, .pointer (some ⟨b1, 0, none⟩)), (2, .pointer (some ⟨b2, 0, none⟩))])
    (fun _ w => ∃ h v13, h.w = w ∧ Step [] [41, 42] g1 h ∧ Cell h 41 b1 46 [.int .i64 m.id, .int .i64 m.flags, v10, v11, v12, v13] ∧ Cell h 42 b2 46 msZ ∧ Rd h 0 El.qn v10 (m.asked.take 3) ∧ Rd h 0 El.rc v11 (m.ans.take 3) ∧ Rd h 0 El.rc v12 (m.auth.take 3) ∧ Rd h 0 El.rc v13 (m.more.take 3)) ?_ ?_
  · refine w_condP rfl (fun hl => ?_) (fun hl => ?_)
    · repeat (first | ((with_reducible refine q0 ?_); first | refine q1 ?_ | ((with_reducible refine gate_bin ?_); first | refine q2 ?_ | refine q3 ?_) | ((with_reducible refine gate_len ?_); refine q4 ?_) | ((with_reducible refine gate_guard ?_); first | refine q5 ?_ | refine q6 ?_)) | (with_reducible first | refine w_seq ?_ | refine w_region ?_ | refine w_ops_nil ?_ | refine w_skip ?_ | refine w_block ?_ | refine w_blk ?_) | ((with_reducible refine gate_exit ?_); refine q7 ?_) | ((with_reducible refine gate_cond ?_); first | refine q8 ?_ | refine q9 ?_))
      refine w_fldA (by decide) rfl rfl ?_
      refine w_load1 (v := vm) hc1 rfl rfl rfl rfl ?_
      have hr := hmo
      refine w_cut_ (a := 0) (b := 3) hr rfl rfl ⟨_, rfl, rfl⟩ (by omega) (by omega) rfl fun hr2 => ?_
      rw [List.drop_zero] at hr2
      repeat (first | ((with_reducible refine q0 ?_); first | refine q1 ?_ | ((with_reducible refine gate_bin ?_); first | refine q2 ?_ | refine q3 ?_) | ((with_reducible refine gate_len ?_); refine q4 ?_) | ((with_reducible refine gate_guard ?_); first | refine q5 ?_ | refine q6 ?_)) | (with_reducible first | refine w_seq ?_ | refine w_region ?_ | refine w_ops_nil ?_ | refine w_skip ?_ | refine w_block ?_ | refine w_blk ?_) | ((with_reducible refine gate_exit ?_); refine q7 ?_) | ((with_reducible refine gate_cond ?_); first | refine q8 ?_ | refine q9 ?_))
      refine w_fldA (by decide) rfl rfl ?_
      refine w_store1 hc1 rfl rfl hr2.isSl.one (by simp) fun h9 hb9 hs9 hc9 => ?_
      repeat (first | ((with_reducible refine q0 ?_); first | refine q1 ?_ | ((with_reducible refine gate_bin ?_); first | refine q2 ?_ | refine q3 ?_) | ((with_reducible refine gate_len ?_); refine q4 ?_) | ((with_reducible refine gate_guard ?_); first | refine q5 ?_ | refine q6 ?_)) | (with_reducible first | refine w_seq ?_ | refine w_region ?_ | refine w_ops_nil ?_ | refine w_skip ?_ | refine w_block ?_ | refine w_blk ?_) | ((with_reducible refine gate_exit ?_); refine q7 ?_) | ((with_reducible refine gate_cond ?_); first | refine q8 ?_ | refine q9 ?_))
      exact w_meet () ⟨h9, _, rfl, hst.go hs9, hc9, hc2.go hs9, hq.go hs9, ha.go hs9, hu.go hs9, hr2.go hs9⟩ ⟨rfl, rfl, trivial⟩
    · repeat (first | ((with_reducible refine q0 ?_); first | refine q1 ?_ | ((with_reducible refine gate_bin ?_); first | refine q2 ?_ | refine q3 ?_) | ((with_reducible refine gate_len ?_); refine q4 ?_) | ((with_reducible refine gate_guard ?_); first | refine q5 ?_ | refine q6 ?_)) | (with_reducible first | refine w_seq ?_ | refine w_region ?_ | refine w_ops_nil ?_ | refine w_skip ?_ | refine w_block ?_ | refine w_blk ?_) | ((with_reducible refine gate_exit ?_); refine q7 ?_) | ((with_reducible refine gate_cond ?_); first | refine q8 ?_ | refine q9 ?_))
      rw [← List.take_of_length_le (show m.more.length ≤ 3 by omega)] at hmo
      exact w_meet () ⟨_, _, rfl, hst, hc1, hc2, hq, ha, hu, hmo⟩ ⟨rfl, rfl, trivial⟩
  clear hst hc1 hc2 hq ha hu hmo
  rintro _ _ ⟨h, v13, rfl, hst, hc1, hc2, hq, ha, hu, hmo⟩
  have hM : Ms0 h [.int .i64 m.id, .int .i64 m.flags, v10, v11, v12, v13] (fewM m) := ⟨_, _, _, _, rfl, hq, ha, hu, hmo⟩
  repeat (first | ((with_reducible refine q0 ?_); first | refine q1 ?_ | ((with_reducible refine gate_bin ?_); first | refine q2 ?_ | refine q3 ?_) | ((with_reducible refine gate_len ?_); refine q4 ?_) | ((with_reducible refine gate_guard ?_); first | refine q5 ?_ | refine q6 ?_)) | (with_reducible first | refine w_seq ?_ | refine w_region ?_ | refine w_ops_nil ?_ | refine w_skip ?_ | refine w_block ?_ | refine w_blk ?_) | ((with_reducible refine gate_exit ?_); refine q7 ?_) | ((with_reducible refine gate_cond ?_); first | refine q8 ?_ | refine q9 ?_))
  refine w_loadS (us := [.int .i64 m.id, .int .i64 m.flags, v10, v11, v12, v13]) hc1 rfl rfl rfl rfl rfl ?_
  refine w_store (us := [.int .i64 m.id, .int .i64 m.flags, v10, v11, v12, v13]) (vs' := [.int .i64 m.id, .int .i64 m.flags, v10, v11, v12, v13]) hc2 rfl rfl rfl rfl hM.r.one (show 0 + 6 ≤ 6 by decide) rfl fun h5 hb5 hs5 hc5 => ?_
  replace hM := hM.go hs5
  repeat (first | ((with_reducible refine q0 ?_); first | refine q1 ?_ | ((with_reducible refine gate_bin ?_); first | refine q2 ?_ | refine q3 ?_) | ((with_reducible refine gate_len ?_); refine q4 ?_) | ((with_reducible refine gate_guard ?_); first | refine q5 ?_ | refine q6 ?_)) | (with_reducible first | refine w_seq ?_ | refine w_region ?_ | refine w_ops_nil ?_ | refine w_skip ?_ | refine w_block ?_ | refine w_blk ?_) | ((with_reducible refine gate_exit ?_); refine q7 ?_) | ((with_reducible refine gate_cond ?_); first | refine q8 ?_ | refine q9 ?_))
  refine w_retG (resCs hc5 rfl rfl rfl rfl) (hst.go hs5) fun h' hv' => ⟨_, rfl, hM.view hv'⟩

/-- The made message, with one record more. -/
def oneM (m : Ms) : Ms := { goodMs m with ans := (m.ans.take 3).map goodRc ++ (m.ans.take 3).take 1 }
theorem few_ok {m : Ms} (h : MsOk m) : MsOk (fewM m) := by
  obtain ⟨h1, h2, h3, h4⟩ := h
  exact ⟨fun q hq => h1 q (List.mem_of_mem_take hq), fun r hr => h2 r (List.mem_of_mem_take hr), fun r hr => h3 r (List.mem_of_mem_take hr), fun r hr => h4 r (List.mem_of_mem_take hr)⟩
theorem few_small {m : Ms} (h : msMay (fewM m)) : Small (fewM m) := by
  refine small_of h (by simp only [fewM, List.length_take]; omega) ?_
  simp only [allR, fewM, List.length_append, List.length_take]; omega
theorem one_ok {m : Ms} (h : MsOk m) : MsOk (oneM m) := by
  obtain ⟨g1, g2, g3, g4⟩ := msMay_ok (good_ms m)
  refine ⟨g1, fun r hr => ?_, g3, g4⟩
  rcases List.mem_append.1 hr with hr | hr
  · exact g2 r hr
  · exact h.2.1 r (List.mem_of_mem_take (List.mem_of_mem_take hr))
theorem one_small {m : Ms} (h : msMay (oneM m)) : Small (oneM m) := by
  refine small_of h (by simp only [oneM, goodMs, List.length_map, List.length_take]; omega) ?_
  simp only [allR, oneM, goodMs, List.length_append, List.length_map, List.length_take]; omega
theorem take1 {α : Type} : ∀ (l : List α) (h : 0 < l.length), l.take 1 = [l[0]]
  | x :: l, _ => by simp
theorem mem2 {α : Type} {P : α → Prop} {x y z : α} (hx : P x) (hy : P y) {i : Nat} (h : [x, y][i]? = some z) : P z := by
  match i, h with
  | 0, h => injection h with h; subst h; exact hx
  | 1, h => injection h with h; subst h; exact hy

set_option maxRecDepth 4000 in
theorem law09_May (m : Ms) (vs : List Value) (g : G) (hm : Ms0 g vs m) (hok : MsOk m) : Fn Try.prog 4 [.agg vs.toArray] g [] fun u _ => u = .bool true := by
  refine enterG [] [31, 41, 42, 43] Try.func4 rfl Try.ntmps4 rfl (by simp) fun g1 hv ho => ?_
  replace hm := hm.view hv
  obtain ⟨vq, va, vu, vm, rfl, _⟩ := id hm
  let cs : List Value := [.int .i64 m.id, .int .i64 m.flags, vq, va, vu, vm]
  repeat (first | ((with_reducible refine q0 ?_); first | refine q1 ?_ | ((with_reducible refine gate_bin ?_); first | refine q2 ?_ | refine q3 ?_) | ((with_reducible refine gate_len ?_); refine q4 ?_) | ((with_reducible refine gate_guard ?_); first | refine q5 ?_ | refine q6 ?_)) | (with_reducible first | refine w_seq ?_ | refine w_region ?_ | refine w_ops_nil ?_ | refine w_skip ?_ | refine w_block ?_ | refine w_blk ?_) | ((with_reducible refine gate_exit ?_); refine q7 ?_) | ((with_reducible refine gate_cond ?_); first | refine q8 ?_ | refine q9 ?_))
  refine w_box 41 (vs := cs) rfl rfl rfl fun h1 b1 hs1 hc1 => ?_
  have hst : Step [] [31, 41, 42, 43] g1 h1 := hs1.nil
  replace hm := hm.go hs1
  repeat (first | ((with_reducible refine q0 ?_); first | refine q1 ?_ | ((with_reducible refine gate_bin ?_); first | refine q2 ?_ | refine q3 ?_) | ((with_reducible refine gate_len ?_); refine q4 ?_) | ((with_reducible refine gate_guard ?_); first | refine q5 ?_ | refine q6 ?_)) | (with_reducible first | refine w_seq ?_ | refine w_region ?_ | refine w_ops_nil ?_ | refine w_skip ?_ | refine w_block ?_ | refine w_blk ?_) | ((with_reducible refine gate_exit ?_); refine q7 ?_) | ((with_reducible refine gate_cond ?_); first | refine q8 ?_ | refine q9 ?_))
  refine w_callF rfl (law09_lives h1) rfl fun u h2 hs2 hu => ?_
  subst hu
  replace hst := hst.go hs2; replace hm := hm.go hs2; replace hc1 := hc1.go hs2
  clear hs1 hs2
  repeat (first | ((with_reducible refine q0 ?_); first | refine q1 ?_ | ((with_reducible refine gate_bin ?_); first | refine q2 ?_ | refine q3 ?_) | ((with_reducible refine gate_len ?_); refine q4 ?_) | ((with_reducible refine gate_guard ?_); first | refine q5 ?_ | refine q6 ?_)) | (with_reducible first | refine w_seq ?_ | refine w_region ?_ | refine w_ops_nil ?_ | refine w_skip ?_ | refine w_block ?_ | refine w_blk ?_) | ((with_reducible refine gate_exit ?_); refine q7 ?_) | ((with_reducible refine gate_cond ?_); first | refine q8 ?_ | refine q9 ?_))
  refine w_loadS (us := cs) hc1 rfl rfl rfl rfl rfl ?_
  refine w_callF rfl (law09_fewM m cs h2 hm) rfl fun u h3 hs3 hR => ?_
  obtain ⟨ws, rfl, hF⟩ := hR
  replace hst := hst.go hs3; replace hm := hm.go hs3; replace hc1 := hc1.go hs3
  obtain ⟨fq, fa, fu, fm, rfl, _, hfa, _⟩ := id hF
  let fs : List Value := [.int .i64 m.id, .int .i64 m.flags, fq, fa, fu, fm]
  replace hF : Ms0 h3 fs (fewM m) := hF
  repeat (first | ((with_reducible refine q0 ?_); first | refine q1 ?_ | ((with_reducible refine gate_bin ?_); first | refine q2 ?_ | refine q3 ?_) | ((with_reducible refine gate_len ?_); refine q4 ?_) | ((with_reducible refine gate_guard ?_); first | refine q5 ?_ | refine q6 ?_)) | (with_reducible first | refine w_seq ?_ | refine w_region ?_ | refine w_ops_nil ?_ | refine w_skip ?_ | refine w_block ?_ | refine w_blk ?_) | ((with_reducible refine gate_exit ?_); refine q7 ?_) | ((with_reducible refine gate_cond ?_); first | refine q8 ?_ | refine q9 ?_))
  refine w_alloc 42 (vs := msZ) rfl rfl fun h4 b3 hs4 hc3 => ?_
  replace hst := hst.go hs4; replace hm := hm.go hs4; replace hc1 := hc1.go hs4; replace hF := hF.go hs4; replace hfa := hfa.go hs4
  repeat (first | ((with_reducible refine q0 ?_); first | refine q1 ?_ | ((with_reducible refine gate_bin ?_); first | refine q2 ?_ | refine q3 ?_) | ((with_reducible refine gate_len ?_); refine q4 ?_) | ((with_reducible refine gate_guard ?_); first | refine q5 ?_ | refine q6 ?_)) | (with_reducible first | refine w_seq ?_ | refine w_region ?_ | refine w_ops_nil ?_ | refine w_skip ?_ | refine w_block ?_ | refine w_blk ?_) | ((with_reducible refine gate_exit ?_); refine q7 ?_) | ((with_reducible refine gate_cond ?_); first | refine q8 ?_ | refine q9 ?_))
  refine w_store (us := fs) (vs' := fs) hc3 rfl rfl rfl rfl hF.r.one (show 0 + 6 ≤ 6 by decide) rfl fun h5 hb5 hs5 hc3 => ?_
  replace hst := hst.go hs5; replace hm := hm.go hs5; replace hc1 := hc1.go hs5; replace hF := hF.go hs5; replace hfa := hfa.go hs5
  clear hs3 hs4 hs5 hb5
  repeat (first | ((with_reducible refine q0 ?_); first | refine q1 ?_ | ((with_reducible refine gate_bin ?_); first | refine q2 ?_ | refine q3 ?_) | ((with_reducible refine gate_len ?_); refine q4 ?_) | ((with_reducible refine gate_guard ?_); first | refine q5 ?_ | refine q6 ?_)) | (with_reducible first | refine w_seq ?_ | refine w_region ?_ | refine w_ops_nil ?_ | refine w_skip ?_ | refine w_block ?_ | refine w_blk ?_) | ((with_reducible refine gate_exit ?_); refine q7 ?_) | ((with_reducible refine gate_cond ?_); first | refine q8 ?_ | refine q9 ?_))
  refine w_loadS (us := cs) hc1 rfl rfl rfl rfl rfl ?_
  refine w_callF rfl (ref09_Good m cs h5 hm.r hok) rfl fun u h6 hs6 hR => ?_
  obtain ⟨ws, rfl, hO⟩ := hR
  obtain ⟨gq, ga, gu, gm, rfl, hgq, hga, hgu, hgm⟩ := hO
  replace hst := hst.go hs6; replace hm := hm.go hs6; replace hF := hF.go hs6; replace hfa := hfa.go hs6; replace hc3 := hc3.go hs6
  clear hc1
  repeat (first | ((with_reducible refine q0 ?_); first | refine q1 ?_ | ((with_reducible refine gate_bin ?_); first | refine q2 ?_ | refine q3 ?_) | ((with_reducible refine gate_len ?_); refine q4 ?_) | ((with_reducible refine gate_guard ?_); first | refine q5 ?_ | refine q6 ?_)) | (with_reducible first | refine w_seq ?_ | refine w_region ?_ | refine w_ops_nil ?_ | refine w_skip ?_ | refine w_block ?_ | refine w_blk ?_) | ((with_reducible refine gate_exit ?_); refine q7 ?_) | ((with_reducible refine gate_cond ?_); first | refine q8 ?_ | refine q9 ?_))
  refine w_alloc 43 (vs := msZ) rfl rfl fun h7 b4 hs7 hc4 => ?_
  replace hst := hst.go hs7; replace hm := hm.go hs7; replace hF := hF.go hs7; replace hfa := hfa.go hs7; replace hc3 := hc3.go hs7; replace hgq := hgq.go hs7; replace hga := hga.go hs7; replace hgu := hgu.go hs7; replace hgm := hgm.go hs7
  obtain ⟨qa, qc, rfl, _⟩ := hgq.isSl
  obtain ⟨aa, ac, rfl, _⟩ := hga.isSl
  obtain ⟨ua, uc, rfl, _⟩ := hgu.isSl
  obtain ⟨ma, mc, rfl, _⟩ := hgm.isSl
  let gs : List Value := [.int .i64 (goodMs m).id, .int .i64 (goodMs m).flags, .slice qa (goodMs m).asked.length qc, .slice aa (goodMs m).ans.length ac, .slice ua (goodMs m).auth.length uc, .slice ma (goodMs m).more.length mc]
  have hgs1 : ∀ u ∈ gs, u.oneCell' = true := by
    intro u hu
    simp only [gs, List.mem_cons, List.not_mem_nil, or_false] at hu
    rcases hu with rfl | rfl | rfl | rfl | rfl | rfl <;> rfl
  repeat (first | ((with_reducible refine q0 ?_); first | refine q1 ?_ | ((with_reducible refine gate_bin ?_); first | refine q2 ?_ | refine q3 ?_) | ((with_reducible refine gate_len ?_); refine q4 ?_) | ((with_reducible refine gate_guard ?_); first | refine q5 ?_ | refine q6 ?_)) | (with_reducible first | refine w_seq ?_ | refine w_region ?_ | refine w_ops_nil ?_ | refine w_skip ?_ | refine w_block ?_ | refine w_blk ?_) | ((with_reducible refine gate_exit ?_); refine q7 ?_) | ((with_reducible refine gate_cond ?_); first | refine q8 ?_ | refine q9 ?_))
  refine w_store (us := gs) (vs' := gs) hc4 rfl rfl rfl rfl hgs1 (show 0 + 6 ≤ 6 by decide) rfl fun h8 hb8 hs8 hc4 => ?_
  replace hst := hst.go hs8; replace hm := hm.go hs8; replace hF := hF.go hs8; replace hfa := hfa.go hs8; replace hc3 := hc3.go hs8; replace hgq := hgq.go hs8; replace hga := hga.go hs8; replace hgu := hgu.go hs8; replace hgm := hgm.go hs8
  clear hs6 hs7 hs8 hb8 hgs1
  repeat (first | ((with_reducible refine q0 ?_); first | refine q1 ?_ | ((with_reducible refine gate_bin ?_); first | refine q2 ?_ | refine q3 ?_) | ((with_reducible refine gate_len ?_); refine q4 ?_) | ((with_reducible refine gate_guard ?_); first | refine q5 ?_ | refine q6 ?_)) | (with_reducible first | refine w_seq ?_ | refine w_region ?_ | refine w_ops_nil ?_ | refine w_skip ?_ | refine w_block ?_ | refine w_blk ?_) | ((with_reducible refine gate_exit ?_); refine q7 ?_) | ((with_reducible refine gate_cond ?_); first | refine q8 ?_ | refine q9 ?_))
  refine w_fldA (by decide) rfl rfl ?_
  refine w_load1 (v := fa) hc3 rfl rfl rfl rfl ?_
  refine w_lenSl hfa.isSl rfl rfl ?_
  repeat (first | ((with_reducible refine q0 ?_); first | refine q1 ?_ | ((with_reducible refine gate_bin ?_); first | refine q2 ?_ | refine q3 ?_) | ((with_reducible refine gate_len ?_); refine q4 ?_) | ((with_reducible refine gate_guard ?_); first | refine q5 ?_ | refine q6 ?_)) | (with_reducible first | refine w_seq ?_ | refine w_region ?_ | refine w_ops_nil ?_ | refine w_skip ?_ | refine w_block ?_ | refine w_blk ?_) | ((with_reducible refine gate_exit ?_); refine q7 ?_) | ((with_reducible refine gate_cond ?_); first | refine q8 ?_ | refine q9 ?_))
  refine w_cut (ι := Unit) (fun _ => [(3, .pointer (some ⟨b3, 0, none⟩)), (4, .pointer (some ⟨b4, 0, none⟩))])
    (fun _ w => ∃ h v, h.w = w ∧ Step [] [31, 41, 42, 43] h8 h ∧ Cell h 42 b3 46 fs ∧ Cell h 43 b4 46 [.int .i64 (goodMs m).id, .int .i64 (goodMs m).flags, .slice qa (goodMs m).asked.length qc, v, .slice ua (goodMs m).auth.length uc, .slice ma (goodMs m).more.length mc] ∧ Own h 31 El.rc 52 v (oneM m).ans) ?_ ?_
  · refine w_condP rfl (fun hl => ?_) (fun hl => ?_)
    · have hl0 : 0 < (fewM m).ans.length := by omega
      repeat (first | ((with_reducible refine q0 ?_); first | refine q1 ?_ | ((with_reducible refine gate_bin ?_); first | refine q2 ?_ | refine q3 ?_) | ((with_reducible refine gate_len ?_); refine q4 ?_) | ((with_reducible refine gate_guard ?_); first | refine q5 ?_ | refine q6 ?_)) | (with_reducible first | refine w_seq ?_ | refine w_region ?_ | refine w_ops_nil ?_ | refine w_skip ?_ | refine w_block ?_ | refine w_blk ?_) | ((with_reducible refine gate_exit ?_); refine q7 ?_) | ((with_reducible refine gate_cond ?_); first | refine q8 ?_ | refine q9 ?_))
      refine d_begin (some 7) [31] (by kernel_rfl) fun g2 hsd => ?_
      replace hga := hga.go hsd
      have hsd0 : Step [] [31, 41, 42, 43] h8 g2 := hsd.nil
      replace hfa := hfa.go hsd; replace hc3 := hc3.go hsd; replace hc4 := hc4.go hsd
      refine d_read 0 calm_ret rfl (by kernel_rfl) rfl  (fun h hs => r_fldA (by decide) rfl) ?_
      refine d_read 1 calm_ret rfl (by kernel_rfl) rfl  (fun h hs => r_load1 (v := .slice aa (goodMs m).ans.length ac) (hc4.go hs) rfl rfl rfl) ?_
      refine d_read 2 calm_ret rfl (by kernel_rfl) rfl  (fun h hs => r_fldA (by decide) rfl) ?_
      refine d_read 3 calm_ret rfl (by kernel_rfl) rfl  (fun h hs => r_load1 (v := fa) (hc3.go hs) rfl rfl rfl) ?_
      refine d_read 4 calm_ret rfl (by kernel_rfl) rfl  (fun h hs => r_idx (hfa.go hs) rfl rfl (by omega) (by simpa using hl0)) ?_
      refine d_read 5 calm_ret rfl (by kernel_rfl) rfl  (fun h hs => r_loadE (i := 0) (y := (fewM m).ans[0]) (hfa.go hs) rfl (by simp [hl0]) rfl) ?_
      refine d_exec1 6 (by kernel_rfl) rfl ?_
      refine w_buildSlR El.rc [(fewM m).ans[0]] rfl rfl rfl rfl fun k1 v1 hs1 hr1 => ?_
      repeat (first | ((with_reducible refine q0 ?_); first | refine q1 ?_ | ((with_reducible refine gate_bin ?_); first | refine q2 ?_ | refine q3 ?_) | ((with_reducible refine gate_len ?_); refine q4 ?_) | ((with_reducible refine gate_guard ?_); first | refine q5 ?_ | refine q6 ?_)) | (with_reducible first | refine w_seq ?_ | refine w_region ?_ | refine w_ops_nil ?_ | refine w_skip ?_ | refine w_block ?_ | refine w_blk ?_) | ((with_reducible refine gate_exit ?_); refine q7 ?_) | ((with_reducible refine gate_cond ?_); first | refine q8 ?_ | refine q9 ?_))
      refine d_next (fun _ => ⟨k1, rfl, hs1.nil⟩) ?_
      refine d_exec1 7 (by kernel_rfl) rfl ?_
      refine w_append (hga.go hs1) hr1 rfl rfl rfl (by decide) (by simp only [goodMs, List.length_map, List.length_take, List.length_cons, List.length_nil]; omega) rfl fun k2 v2 hs2 ho2 => ?_
      have hss : Step [] [31] g2 k2 := hs1.nil.go hs2
      replace hc3 := hc3.go hss; replace hc4 := hc4.go hss
      replace hsd0 := hsd0.go hss
      repeat (first | ((with_reducible refine q0 ?_); first | refine q1 ?_ | ((with_reducible refine gate_bin ?_); first | refine q2 ?_ | refine q3 ?_) | ((with_reducible refine gate_len ?_); refine q4 ?_) | ((with_reducible refine gate_guard ?_); first | refine q5 ?_ | refine q6 ?_)) | (with_reducible first | refine w_seq ?_ | refine w_region ?_ | refine w_ops_nil ?_ | refine w_skip ?_ | refine w_block ?_ | refine w_blk ?_) | ((with_reducible refine gate_exit ?_); refine q7 ?_) | ((with_reducible refine gate_cond ?_); first | refine q8 ?_ | refine q9 ?_))
      refine d_over (by kernel_rfl) ?_
      refine d_phase none [43] (by kernel_rfl) ?_
      refine d_read 8 calm_ret rfl (by kernel_rfl) rfl  (fun h hs => r_fldA (by decide) rfl) ?_
      refine d_exec1 9 (by kernel_rfl) rfl ?_
      refine w_store1 hc4 rfl rfl ho2.isSl.one (show 3 < 6 by decide) fun k3 hb3 hs3 hc4 => ?_
      repeat (first | ((with_reducible refine q0 ?_); first | refine q1 ?_ | ((with_reducible refine gate_bin ?_); first | refine q2 ?_ | refine q3 ?_) | ((with_reducible refine gate_len ?_); refine q4 ?_) | ((with_reducible refine gate_guard ?_); first | refine q5 ?_ | refine q6 ?_)) | (with_reducible first | refine w_seq ?_ | refine w_region ?_ | refine w_ops_nil ?_ | refine w_skip ?_ | refine w_block ?_ | refine w_blk ?_) | ((with_reducible refine gate_exit ?_); refine q7 ?_) | ((with_reducible refine gate_cond ?_); first | refine q8 ?_ | refine q9 ?_))
      refine d_next (fun _ => ⟨k3, rfl, hs3⟩) ?_
      refine d_done (by kernel_rfl) ?_
      have e1 : (m.ans.take 3).take 1 = [(fewM m).ans[0]] := take1 (m.ans.take 3) hl0
      refine w_meet () ⟨k3, _, rfl, hsd0.go hs3, hc3.go hs3, hc4, ?_⟩ ⟨rfl, rfl, trivial⟩
      have := ho2.go hs3
      simp only [oneM, e1]
      exact this
    · repeat (first | ((with_reducible refine q0 ?_); first | refine q1 ?_ | ((with_reducible refine gate_bin ?_); first | refine q2 ?_ | refine q3 ?_) | ((with_reducible refine gate_len ?_); refine q4 ?_) | ((with_reducible refine gate_guard ?_); first | refine q5 ?_ | refine q6 ?_)) | (with_reducible first | refine w_seq ?_ | refine w_region ?_ | refine w_ops_nil ?_ | refine w_skip ?_ | refine w_block ?_ | refine w_blk ?_) | ((with_reducible refine gate_exit ?_); refine q7 ?_) | ((with_reducible refine gate_cond ?_); first | refine q8 ?_ | refine q9 ?_))
      refine w_meet () ⟨h8, _, rfl, Step.refl _ _ _, hc3, hc4, ?_⟩ ⟨rfl, rfl, trivial⟩
      have : m.ans.take 3 = [] := List.eq_nil_of_length_eq_zero (by have : (fewM m).ans = m.ans.take 3 := rfl; rw [← this]; omega)
      have e2 : (oneM m).ans = (goodMs m).ans := by simp [oneM, goodMs, this]
      rw [e2]
      exact hga
  clear hc3 hc4 hga
  rintro _ _ ⟨h, v, rfl, hst2, hc3, hc4, hga⟩
  obtain ⟨h9, hw9, hs9, hra⟩ := hga.freeze (by decide)
  rw [← hw9]
  clear hw9 hga
  replace hst2 := hst2.go hs9
  replace hc3 := hc3.go hs9; replace hc4 := hc4.go hs9
  replace hst := hst.go hst2; replace hF := hF.go hst2; replace hgq := hgq.go hst2; replace hgu := hgu.go hst2; replace hgm := hgm.go hst2
  clear hst2 hs9 hm hfa
  have hO : Ms0 h9 [.int .i64 (goodMs m).id, .int .i64 (goodMs m).flags, .slice qa (goodMs m).asked.length qc, v, .slice ua (goodMs m).auth.length uc, .slice ma (goodMs m).more.length mc] (oneM m) := ⟨_, _, _, _, rfl, hgq, hra, hgu, hgm⟩
  have hfl := hF.r.one
  have x1 : ∃ x : Int × Int × V1 × V1 × V1 × V1, El.msV.enc x = fs := ⟨(m.id, m.flags, ⟨fq, hfl _ (by simp [fs])⟩, ⟨fa, hfl _ (by simp [fs])⟩, ⟨fu, hfl _ (by simp [fs])⟩, ⟨fm, hfl _ (by simp [fs])⟩), rfl⟩
  have x2 : ∃ x : Int × Int × V1 × V1 × V1 × V1, El.msV.enc x = [.int .i64 (goodMs m).id, .int .i64 (goodMs m).flags, .slice qa (goodMs m).asked.length qc, v, .slice ua (goodMs m).auth.length uc, .slice ma (goodMs m).more.length mc] :=
    ⟨((goodMs m).id, (goodMs m).flags, ⟨_, rfl⟩, ⟨v, hra.isSl.one⟩, ⟨_, rfl⟩, ⟨_, rfl⟩), rfl⟩
  obtain ⟨x1, e1⟩ := x1
  obtain ⟨x2, e2⟩ := x2
  rw [← e1] at hF hc3
  rw [← e2] at hO hc4
  clear hgq hgu hgm hra
  repeat (first | ((with_reducible refine q0 ?_); first | refine q1 ?_ | ((with_reducible refine gate_bin ?_); first | refine q2 ?_ | refine q3 ?_) | ((with_reducible refine gate_len ?_); refine q4 ?_) | ((with_reducible refine gate_guard ?_); first | refine q5 ?_ | refine q6 ?_)) | (with_reducible first | refine w_seq ?_ | refine w_region ?_ | refine w_ops_nil ?_ | refine w_skip ?_ | refine w_block ?_ | refine w_blk ?_) | ((with_reducible refine gate_exit ?_); refine q7 ?_) | ((with_reducible refine gate_cond ?_); first | refine q8 ?_ | refine q9 ?_))
  refine w_loadS (us := El.msV.enc x1) hc3 rfl rfl rfl rfl rfl ?_
  refine w_loadS (us := El.msV.enc x2) hc4 rfl rfl rfl rfl rfl ?_
  refine w_buildSlR El.msV [x1, x2] rfl rfl rfl rfl fun k vl hsk hl => ?_
  replace hst := hst.go hsk; replace hF := hF.go hsk; replace hO := hO.go hsk
  clear hc3 hc4 hsk
  repeat (first | ((with_reducible refine q0 ?_); first | refine q1 ?_ | ((with_reducible refine gate_bin ?_); first | refine q2 ?_ | refine q3 ?_) | ((with_reducible refine gate_len ?_); refine q4 ?_) | ((with_reducible refine gate_guard ?_); first | refine q5 ?_ | refine q6 ?_)) | (with_reducible first | refine w_seq ?_ | refine w_region ?_ | refine w_ops_nil ?_ | refine w_skip ?_ | refine w_block ?_ | refine w_blk ?_) | ((with_reducible refine gate_exit ?_); refine q7 ?_) | ((with_reducible refine gate_cond ?_); first | refine q8 ?_ | refine q9 ?_))
  refine w_loop (ι := Nat) (fun i => [(5, vl), (6, .int .i64 (i : Int))]) (fun i w => ∃ h : G, h.w = w ∧ Step [] [] k h ∧ i ≤ 2) (fun i => 2 - i) 0 ⟨k, rfl, Step.refl _ _ _, by omega⟩ ⟨rfl, rfl, trivial⟩ ?_
  rintro i _ ⟨h, rfl, hst2, hi⟩
  replace hst := hst.go hst2; replace hF := hF.go hst2; replace hO := hO.go hst2; replace hl := hl.go hst2
  repeat (first | ((with_reducible refine q0 ?_); first | refine q1 ?_ | ((with_reducible refine gate_bin ?_); first | refine q2 ?_ | refine q3 ?_) | ((with_reducible refine gate_len ?_); refine q4 ?_) | ((with_reducible refine gate_guard ?_); first | refine q5 ?_ | refine q6 ?_)) | (with_reducible first | refine w_seq ?_ | refine w_region ?_ | refine w_ops_nil ?_ | refine w_skip ?_ | refine w_block ?_ | refine w_blk ?_) | ((with_reducible refine gate_exit ?_); refine q7 ?_) | ((with_reducible refine gate_cond ?_); first | refine q8 ?_ | refine q9 ?_))
  refine w_condP rfl (fun hlt => ?_) (fun hlt => ?_)
  · obtain ⟨x, hx⟩ : ∃ x, [x1, x2][i]? = some x := ⟨[x1, x2][i]'(by simp only [List.length_cons, List.length_nil]; omega), List.getElem?_eq_getElem _⟩
    obtain ⟨y, hy, hyok, hysm⟩ : ∃ y, Ms0 h (El.msV.enc x) y ∧ MsOk y ∧ (msMay y → Small y) :=
      mem2 (P := fun x => ∃ y, Ms0 h (El.msV.enc x) y ∧ MsOk y ∧ (msMay y → Small y)) ⟨_, hF, few_ok hok, few_small⟩ ⟨_, hO, one_ok hok, one_small⟩ hx
    have hlen2 : i < [x1, x2].length := by simp only [List.length_cons, List.length_nil]; omega
    clear hF hO
    repeat (first | ((with_reducible refine q0 ?_); first | refine q1 ?_ | ((with_reducible refine gate_bin ?_); first | refine q2 ?_ | refine q3 ?_) | ((with_reducible refine gate_len ?_); refine q4 ?_) | ((with_reducible refine gate_guard ?_); first | refine q5 ?_ | refine q6 ?_)) | (with_reducible first | refine w_seq ?_ | refine w_region ?_ | refine w_ops_nil ?_ | refine w_skip ?_ | refine w_block ?_ | refine w_blk ?_) | ((with_reducible refine gate_exit ?_); refine q7 ?_) | ((with_reducible refine gate_cond ?_); first | refine q8 ?_ | refine q9 ?_))
    refine w_idx hl rfl rfl (by omega) (by omega) rfl ?_
    refine w_loadE (i := i) (y := x) hl rfl hx rfl rfl ?_
    refine w_callF rfl (ref09_May y (El.msV.enc x) h hy.r hyok) rfl fun u k1 hs1 hu1 => ?_
    replace hst := hst.go hs1; replace hst2 := hst2.go hs1; replace hl := hl.go hs1; replace hy := hy.go hs1
    repeat (first | ((with_reducible refine q0 ?_); first | refine q1 ?_ | ((with_reducible refine gate_bin ?_); first | refine q2 ?_ | refine q3 ?_) | ((with_reducible refine gate_len ?_); refine q4 ?_) | ((with_reducible refine gate_guard ?_); first | refine q5 ?_ | refine q6 ?_)) | (with_reducible first | refine w_seq ?_ | refine w_region ?_ | refine w_ops_nil ?_ | refine w_skip ?_ | refine w_block ?_ | refine w_blk ?_) | ((with_reducible refine gate_exit ?_); refine q7 ?_) | ((with_reducible refine gate_cond ?_); first | refine q8 ?_ | refine q9 ?_))
    refine w_idx hl rfl rfl (by omega) (by omega) rfl ?_
    refine w_loadE (i := i) (y := x) hl rfl hx rfl rfl ?_
    refine w_callF rfl (wire_Write y (El.msV.enc x) k1 hy.r hyok hysm) rfl fun u2 k2 hs2 hR => ?_
    obtain ⟨vb, rfl, hb⟩ := hR
    replace hst := hst.go hs2; replace hst2 := hst2.go hs2; replace hl := hl.go hs2; replace hy := hy.go hs2
    repeat (first | ((with_reducible refine q0 ?_); first | refine q1 ?_ | ((with_reducible refine gate_bin ?_); first | refine q2 ?_ | refine q3 ?_) | ((with_reducible refine gate_len ?_); refine q4 ?_) | ((with_reducible refine gate_guard ?_); first | refine q5 ?_ | refine q6 ?_)) | (with_reducible first | refine w_seq ?_ | refine w_region ?_ | refine w_ops_nil ?_ | refine w_skip ?_ | refine w_block ?_ | refine w_blk ?_) | ((with_reducible refine gate_exit ?_); refine q7 ?_) | ((with_reducible refine gate_cond ?_); first | refine q8 ?_ | refine q9 ?_))
    refine w_idx hl rfl rfl (by omega) (by omega) rfl ?_
    refine w_loadE (i := i) (y := x) hl rfl hx rfl rfl ?_
    refine w_callF rfl (wire_May y (El.msV.enc x) k2 hy.r hyok) rfl fun u3 k3 hs3 hu3 => ?_
    replace hst := hst.go hs3; replace hst2 := hst2.go hs3; replace hl := hl.go hs3; replace hy := hy.go hs3; replace hb := hb.go hs3
    clear hs1 hs2 hs3
    by_cases hp : msMay y
    · rw [decide_eq_true hp] at hu1 hu3
      subst hu1 hu3
      by_cases h12 : (msW y).length ≤ 1232
      · rw [wrB, if_pos hp, if_pos h12] at hb ⊢
        dsimp only at hb ⊢
        repeat (first | ((with_reducible refine q0 ?_); first | refine q1 ?_ | ((with_reducible refine gate_bin ?_); first | refine q2 ?_ | refine q3 ?_) | ((with_reducible refine gate_len ?_); refine q4 ?_) | ((with_reducible refine gate_guard ?_); first | refine q5 ?_ | refine q6 ?_)) | (with_reducible first | refine w_seq ?_ | refine w_region ?_ | refine w_ops_nil ?_ | refine w_skip ?_ | refine w_block ?_ | refine w_blk ?_) | ((with_reducible refine gate_exit ?_); refine q7 ?_) | ((with_reducible refine gate_cond ?_); first | refine q8 ?_ | refine q9 ?_))
        refine w_neBool rfl rfl rfl ?_
        repeat (first | ((with_reducible refine q0 ?_); first | refine q1 ?_ | ((with_reducible refine gate_bin ?_); first | refine q2 ?_ | refine q3 ?_) | ((with_reducible refine gate_len ?_); refine q4 ?_) | ((with_reducible refine gate_guard ?_); first | refine q5 ?_ | refine q6 ?_)) | (with_reducible first | refine w_seq ?_ | refine w_region ?_ | refine w_ops_nil ?_ | refine w_skip ?_ | refine w_block ?_ | refine w_blk ?_) | ((with_reducible refine gate_exit ?_); refine q7 ?_) | ((with_reducible refine gate_cond ?_); first | refine q8 ?_ | refine q9 ?_))
        refine w_eqBool rfl rfl rfl ?_
        repeat (first | ((with_reducible refine q0 ?_); first | refine q1 ?_ | ((with_reducible refine gate_bin ?_); first | refine q2 ?_ | refine q3 ?_) | ((with_reducible refine gate_len ?_); refine q4 ?_) | ((with_reducible refine gate_guard ?_); first | refine q5 ?_ | refine q6 ?_)) | (with_reducible first | refine w_seq ?_ | refine w_region ?_ | refine w_ops_nil ?_ | refine w_skip ?_ | refine w_block ?_ | refine w_blk ?_) | ((with_reducible refine gate_exit ?_); refine q7 ?_) | ((with_reducible refine gate_cond ?_); first | refine q8 ?_ | refine q9 ?_))
        refine w_idx hl rfl rfl (by omega) (by omega) rfl ?_
        repeat (first | ((with_reducible refine q0 ?_); first | refine q1 ?_ | ((with_reducible refine gate_bin ?_); first | refine q2 ?_ | refine q3 ?_) | ((with_reducible refine gate_len ?_); refine q4 ?_) | ((with_reducible refine gate_guard ?_); first | refine q5 ?_ | refine q6 ?_)) | (with_reducible first | refine w_seq ?_ | refine w_region ?_ | refine w_ops_nil ?_ | refine w_skip ?_ | refine w_block ?_ | refine w_blk ?_) | ((with_reducible refine gate_exit ?_); refine q7 ?_) | ((with_reducible refine gate_cond ?_); first | refine q8 ?_ | refine q9 ?_))
        refine w_loadE (i := i) (y := x) hl rfl hx rfl rfl ?_
        repeat (first | ((with_reducible refine q0 ?_); first | refine q1 ?_ | ((with_reducible refine gate_bin ?_); first | refine q2 ?_ | refine q3 ?_) | ((with_reducible refine gate_len ?_); refine q4 ?_) | ((with_reducible refine gate_guard ?_); first | refine q5 ?_ | refine q6 ?_)) | (with_reducible first | refine w_seq ?_ | refine w_region ?_ | refine w_ops_nil ?_ | refine w_skip ?_ | refine w_block ?_ | refine w_blk ?_) | ((with_reducible refine gate_exit ?_); refine q7 ?_) | ((with_reducible refine gate_cond ?_); first | refine q8 ?_ | refine q9 ?_))
        refine w_callF rfl (ref09_Write y (El.msV.enc x) k3 hy.r hp (hysm hp)) rfl fun u4 k4 hs4 hr4 => ?_
        repeat (first | ((with_reducible refine q0 ?_); first | refine q1 ?_ | ((with_reducible refine gate_bin ?_); first | refine q2 ?_ | refine q3 ?_) | ((with_reducible refine gate_len ?_); refine q4 ?_) | ((with_reducible refine gate_guard ?_); first | refine q5 ?_ | refine q6 ?_)) | (with_reducible first | refine w_seq ?_ | refine w_region ?_ | refine w_ops_nil ?_ | refine w_skip ?_ | refine w_block ?_ | refine w_blk ?_) | ((with_reducible refine gate_exit ?_); refine q7 ?_) | ((with_reducible refine gate_cond ?_); first | refine q8 ?_ | refine q9 ?_))
        refine w_lenSl hr4.isSl rfl rfl ?_
        repeat (first | ((with_reducible refine q0 ?_); first | refine q1 ?_ | ((with_reducible refine gate_bin ?_); first | refine q2 ?_ | refine q3 ?_) | ((with_reducible refine gate_len ?_); refine q4 ?_) | ((with_reducible refine gate_guard ?_); first | refine q5 ?_ | refine q6 ?_)) | (with_reducible first | refine w_seq ?_ | refine w_region ?_ | refine w_ops_nil ?_ | refine w_skip ?_ | refine w_block ?_ | refine w_blk ?_) | ((with_reducible refine gate_exit ?_); refine q7 ?_) | ((with_reducible refine gate_cond ?_); first | refine q8 ?_ | refine q9 ?_))
        refine w_known 81 (.bool true) rfl (congrArg Value.bool (decide_eq_true (by omega))) ?_
        repeat (first | ((with_reducible refine q0 ?_); first | refine q1 ?_ | ((with_reducible refine gate_bin ?_); first | refine q2 ?_ | refine q3 ?_) | ((with_reducible refine gate_len ?_); refine q4 ?_) | ((with_reducible refine gate_guard ?_); first | refine q5 ?_ | refine q6 ?_)) | (with_reducible first | refine w_seq ?_ | refine w_region ?_ | refine w_ops_nil ?_ | refine w_skip ?_ | refine w_block ?_ | refine w_blk ?_) | ((with_reducible refine gate_exit ?_); refine q7 ?_) | ((with_reducible refine gate_cond ?_); first | refine q8 ?_ | refine q9 ?_))
        refine w_neBool rfl rfl rfl ?_
        repeat (first | ((with_reducible refine q0 ?_); first | refine q1 ?_ | ((with_reducible refine gate_bin ?_); first | refine q2 ?_ | refine q3 ?_) | ((with_reducible refine gate_len ?_); refine q4 ?_) | ((with_reducible refine gate_guard ?_); first | refine q5 ?_ | refine q6 ?_)) | (with_reducible first | refine w_seq ?_ | refine w_region ?_ | refine w_ops_nil ?_ | refine w_skip ?_ | refine w_block ?_ | refine w_blk ?_) | ((with_reducible refine gate_exit ?_); refine q7 ?_) | ((with_reducible refine gate_cond ?_); first | refine q8 ?_ | refine q9 ?_))
        exact w_again (i + 1) (by omega) ⟨k4, rfl, hst2.go hs4, by omega⟩ ⟨rfl, rfl, trivial⟩
      · rw [wrB, if_pos hp, if_neg h12] at hb ⊢
        dsimp only at hb ⊢
        repeat (first | ((with_reducible refine q0 ?_); first | refine q1 ?_ | ((with_reducible refine gate_bin ?_); first | refine q2 ?_ | refine q3 ?_) | ((with_reducible refine gate_len ?_); refine q4 ?_) | ((with_reducible refine gate_guard ?_); first | refine q5 ?_ | refine q6 ?_)) | (with_reducible first | refine w_seq ?_ | refine w_region ?_ | refine w_ops_nil ?_ | refine w_skip ?_ | refine w_block ?_ | refine w_blk ?_) | ((with_reducible refine gate_exit ?_); refine q7 ?_) | ((with_reducible refine gate_cond ?_); first | refine q8 ?_ | refine q9 ?_))
        refine w_neBool rfl rfl rfl ?_
        repeat (first | ((with_reducible refine q0 ?_); first | refine q1 ?_ | ((with_reducible refine gate_bin ?_); first | refine q2 ?_ | refine q3 ?_) | ((with_reducible refine gate_len ?_); refine q4 ?_) | ((with_reducible refine gate_guard ?_); first | refine q5 ?_ | refine q6 ?_)) | (with_reducible first | refine w_seq ?_ | refine w_region ?_ | refine w_ops_nil ?_ | refine w_skip ?_ | refine w_block ?_ | refine w_blk ?_) | ((with_reducible refine gate_exit ?_); refine q7 ?_) | ((with_reducible refine gate_cond ?_); first | refine q8 ?_ | refine q9 ?_))
        refine w_eqBool rfl rfl rfl ?_
        repeat (first | ((with_reducible refine q0 ?_); first | refine q1 ?_ | ((with_reducible refine gate_bin ?_); first | refine q2 ?_ | refine q3 ?_) | ((with_reducible refine gate_len ?_); refine q4 ?_) | ((with_reducible refine gate_guard ?_); first | refine q5 ?_ | refine q6 ?_)) | (with_reducible first | refine w_seq ?_ | refine w_region ?_ | refine w_ops_nil ?_ | refine w_skip ?_ | refine w_block ?_ | refine w_blk ?_) | ((with_reducible refine gate_exit ?_); refine q7 ?_) | ((with_reducible refine gate_cond ?_); first | refine q8 ?_ | refine q9 ?_))
        refine w_lenSl hb.isSl rfl rfl ?_
        repeat (first | ((with_reducible refine q0 ?_); first | refine q1 ?_ | ((with_reducible refine gate_bin ?_); first | refine q2 ?_ | refine q3 ?_) | ((with_reducible refine gate_len ?_); refine q4 ?_) | ((with_reducible refine gate_guard ?_); first | refine q5 ?_ | refine q6 ?_)) | (with_reducible first | refine w_seq ?_ | refine w_region ?_ | refine w_ops_nil ?_ | refine w_skip ?_ | refine w_block ?_ | refine w_blk ?_) | ((with_reducible refine gate_exit ?_); refine q7 ?_) | ((with_reducible refine gate_cond ?_); first | refine q8 ?_ | refine q9 ?_))
        refine w_idx hl rfl rfl (by omega) (by omega) rfl ?_
        repeat (first | ((with_reducible refine q0 ?_); first | refine q1 ?_ | ((with_reducible refine gate_bin ?_); first | refine q2 ?_ | refine q3 ?_) | ((with_reducible refine gate_len ?_); refine q4 ?_) | ((with_reducible refine gate_guard ?_); first | refine q5 ?_ | refine q6 ?_)) | (with_reducible first | refine w_seq ?_ | refine w_region ?_ | refine w_ops_nil ?_ | refine w_skip ?_ | refine w_block ?_ | refine w_blk ?_) | ((with_reducible refine gate_exit ?_); refine q7 ?_) | ((with_reducible refine gate_cond ?_); first | refine q8 ?_ | refine q9 ?_))
        refine w_loadE (i := i) (y := x) hl rfl hx rfl rfl ?_
        repeat (first | ((with_reducible refine q0 ?_); first | refine q1 ?_ | ((with_reducible refine gate_bin ?_); first | refine q2 ?_ | refine q3 ?_) | ((with_reducible refine gate_len ?_); refine q4 ?_) | ((with_reducible refine gate_guard ?_); first | refine q5 ?_ | refine q6 ?_)) | (with_reducible first | refine w_seq ?_ | refine w_region ?_ | refine w_ops_nil ?_ | refine w_skip ?_ | refine w_block ?_ | refine w_blk ?_) | ((with_reducible refine gate_exit ?_); refine q7 ?_) | ((with_reducible refine gate_cond ?_); first | refine q8 ?_ | refine q9 ?_))
        refine w_callF rfl (ref09_Write y (El.msV.enc x) k3 hy.r hp (hysm hp)) rfl fun u4 k4 hs4 hr4 => ?_
        repeat (first | ((with_reducible refine q0 ?_); first | refine q1 ?_ | ((with_reducible refine gate_bin ?_); first | refine q2 ?_ | refine q3 ?_) | ((with_reducible refine gate_len ?_); refine q4 ?_) | ((with_reducible refine gate_guard ?_); first | refine q5 ?_ | refine q6 ?_)) | (with_reducible first | refine w_seq ?_ | refine w_region ?_ | refine w_ops_nil ?_ | refine w_skip ?_ | refine w_block ?_ | refine w_blk ?_) | ((with_reducible refine gate_exit ?_); refine q7 ?_) | ((with_reducible refine gate_cond ?_); first | refine q8 ?_ | refine q9 ?_))
        refine w_lenSl hr4.isSl rfl rfl ?_
        repeat (first | ((with_reducible refine q0 ?_); first | refine q1 ?_ | ((with_reducible refine gate_bin ?_); first | refine q2 ?_ | refine q3 ?_) | ((with_reducible refine gate_len ?_); refine q4 ?_) | ((with_reducible refine gate_guard ?_); first | refine q5 ?_ | refine q6 ?_)) | (with_reducible first | refine w_seq ?_ | refine w_region ?_ | refine w_ops_nil ?_ | refine w_skip ?_ | refine w_block ?_ | refine w_blk ?_) | ((with_reducible refine gate_exit ?_); refine q7 ?_) | ((with_reducible refine gate_cond ?_); first | refine q8 ?_ | refine q9 ?_))
        refine w_known 81 (.bool false) rfl (congrArg Value.bool (decide_eq_false (by omega))) ?_
        repeat (first | ((with_reducible refine q0 ?_); first | refine q1 ?_ | ((with_reducible refine gate_bin ?_); first | refine q2 ?_ | refine q3 ?_) | ((with_reducible refine gate_len ?_); refine q4 ?_) | ((with_reducible refine gate_guard ?_); first | refine q5 ?_ | refine q6 ?_)) | (with_reducible first | refine w_seq ?_ | refine w_region ?_ | refine w_ops_nil ?_ | refine w_skip ?_ | refine w_block ?_ | refine w_blk ?_) | ((with_reducible refine gate_exit ?_); refine q7 ?_) | ((with_reducible refine gate_cond ?_); first | refine q8 ?_ | refine q9 ?_))
        refine w_neBool rfl rfl rfl ?_
        repeat (first | ((with_reducible refine q0 ?_); first | refine q1 ?_ | ((with_reducible refine gate_bin ?_); first | refine q2 ?_ | refine q3 ?_) | ((with_reducible refine gate_len ?_); refine q4 ?_) | ((with_reducible refine gate_guard ?_); first | refine q5 ?_ | refine q6 ?_)) | (with_reducible first | refine w_seq ?_ | refine w_region ?_ | refine w_ops_nil ?_ | refine w_skip ?_ | refine w_block ?_ | refine w_blk ?_) | ((with_reducible refine gate_exit ?_); refine q7 ?_) | ((with_reducible refine gate_cond ?_); first | refine q8 ?_ | refine q9 ?_))
        exact w_again (i + 1) (by omega) ⟨k4, rfl, hst2.go hs4, by omega⟩ ⟨rfl, rfl, trivial⟩
    · rw [decide_eq_false hp] at hu1 hu3
      subst hu1 hu3
      rw [wrB, if_neg hp] at hb ⊢
      dsimp only at hb ⊢
      repeat (first | ((with_reducible refine q0 ?_); first | refine q1 ?_ | ((with_reducible refine gate_bin ?_); first | refine q2 ?_ | refine q3 ?_) | ((with_reducible refine gate_len ?_); refine q4 ?_) | ((with_reducible refine gate_guard ?_); first | refine q5 ?_ | refine q6 ?_)) | (with_reducible first | refine w_seq ?_ | refine w_region ?_ | refine w_ops_nil ?_ | refine w_skip ?_ | refine w_block ?_ | refine w_blk ?_) | ((with_reducible refine gate_exit ?_); refine q7 ?_) | ((with_reducible refine gate_cond ?_); first | refine q8 ?_ | refine q9 ?_))
      refine w_neBool rfl rfl rfl ?_
      repeat (first | ((with_reducible refine q0 ?_); first | refine q1 ?_ | ((with_reducible refine gate_bin ?_); first | refine q2 ?_ | refine q3 ?_) | ((with_reducible refine gate_len ?_); refine q4 ?_) | ((with_reducible refine gate_guard ?_); first | refine q5 ?_ | refine q6 ?_)) | (with_reducible first | refine w_seq ?_ | refine w_region ?_ | refine w_ops_nil ?_ | refine w_skip ?_ | refine w_block ?_ | refine w_blk ?_) | ((with_reducible refine gate_exit ?_); refine q7 ?_) | ((with_reducible refine gate_cond ?_); first | refine q8 ?_ | refine q9 ?_))
      refine w_eqBool rfl rfl rfl ?_
      repeat (first | ((with_reducible refine q0 ?_); first | refine q1 ?_ | ((with_reducible refine gate_bin ?_); first | refine q2 ?_ | refine q3 ?_) | ((with_reducible refine gate_len ?_); refine q4 ?_) | ((with_reducible refine gate_guard ?_); first | refine q5 ?_ | refine q6 ?_)) | (with_reducible first | refine w_seq ?_ | refine w_region ?_ | refine w_ops_nil ?_ | refine w_skip ?_ | refine w_block ?_ | refine w_blk ?_) | ((with_reducible refine gate_exit ?_); refine q7 ?_) | ((with_reducible refine gate_cond ?_); first | refine q8 ?_ | refine q9 ?_))
      refine w_lenSl hb.isSl rfl rfl ?_
      repeat (first | ((with_reducible refine q0 ?_); first | refine q1 ?_ | ((with_reducible refine gate_bin ?_); first | refine q2 ?_ | refine q3 ?_) | ((with_reducible refine gate_len ?_); refine q4 ?_) | ((with_reducible refine gate_guard ?_); first | refine q5 ?_ | refine q6 ?_)) | (with_reducible first | refine w_seq ?_ | refine w_region ?_ | refine w_ops_nil ?_ | refine w_skip ?_ | refine w_block ?_ | refine w_blk ?_) | ((with_reducible refine gate_exit ?_); refine q7 ?_) | ((with_reducible refine gate_cond ?_); first | refine q8 ?_ | refine q9 ?_))
      exact w_again (i + 1) (by omega) ⟨k3, rfl, hst2, by omega⟩ ⟨rfl, rfl, trivial⟩
  · repeat (first | ((with_reducible refine q0 ?_); first | refine q1 ?_ | ((with_reducible refine gate_bin ?_); first | refine q2 ?_ | refine q3 ?_) | ((with_reducible refine gate_len ?_); refine q4 ?_) | ((with_reducible refine gate_guard ?_); first | refine q5 ?_ | refine q6 ?_)) | (with_reducible first | refine w_seq ?_ | refine w_region ?_ | refine w_ops_nil ?_ | refine w_skip ?_ | refine w_block ?_ | refine w_blk ?_) | ((with_reducible refine gate_exit ?_); refine q7 ?_) | ((with_reducible refine gate_cond ?_); first | refine q8 ?_ | refine q9 ?_))
    refine w_callF rfl (law09_lives h) rfl fun u k5 hs5 hu => ?_
    subst hu
    repeat (first | ((with_reducible refine q0 ?_); first | refine q1 ?_ | ((with_reducible refine gate_bin ?_); first | refine q2 ?_ | refine q3 ?_) | ((with_reducible refine gate_len ?_); refine q4 ?_) | ((with_reducible refine gate_guard ?_); first | refine q5 ?_ | refine q6 ?_)) | (with_reducible first | refine w_seq ?_ | refine w_region ?_ | refine w_ops_nil ?_ | refine w_skip ?_ | refine w_block ?_ | refine w_blk ?_) | ((with_reducible refine gate_exit ?_); refine q7 ?_) | ((with_reducible refine gate_cond ?_); first | refine q8 ?_ | refine q9 ?_))
    exact w_retG (res1 rfl rfl) (hst.go hs5) fun h' _ => rfl
end Go.Proofs.Ytnfokdhgajanpaa
