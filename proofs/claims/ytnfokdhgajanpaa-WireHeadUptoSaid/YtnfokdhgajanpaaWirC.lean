/- The law of a message's first bytes, as a contract. No statement of the seat is proved here. -/
import Derived.Test.YtnfokdhgajanpaaWirB
set_option linter.unusedVariables false
set_option linter.unusedSimpArgs false
namespace Go.Proofs.Ytnfokdhgajanpaa
open Go

def want6 (m : Ms) : List Int := [m.id, m.flags, (m.asked.length : Int), (m.ans.length : Int), (m.auth.length : Int), (m.more.length : Int)]
theorem back2 (x : Int) (h : 0 ≤ x ∧ x ≤ 65535) : ((UInt8.ofNat (x / 256).toNat).toNat : Int) * 256 + ((UInt8.ofNat (x % 256).toNat).toNat : Int) = x := by
  rw [UInt8.toNat_ofNat', UInt8.toNat_ofNat']
  omega
theorem head_at (m : Ms) (h1 : 0 ≤ m.id ∧ m.id ≤ 65535) (h2 : 0 ≤ m.flags ∧ m.flags ≤ 65535) (h3 : m.asked.length ≤ 65535) (h4 : m.ans.length ≤ 65535) (h5 : m.auth.length ≤ 65535) (h6 : m.more.length ≤ 65535) (i : Nat) (hi : i < 6) :
    ∃ a b : UInt8, (msW m)[2 * i]? = some a ∧ (msW m)[2 * i + 1]? = some b ∧ (want6 m)[i]? = some ((a.toNat : Int) * 256 + (b.toNat : Int)) := by
  have hW : msW m = headB m ++ ((askW m).1 ++ (ansW m (allR m)).1) := by simp [msW, List.append_assoc]
  have e : ∀ k, k < 12 → (msW m)[k]? = (headB m)[k]? := fun k hk => by rw [hW, List.getElem?_append_left (by rw [headB_len]; exact hk)]
  rw [e _ (by omega), e _ (by omega)]
  match i, hi with
  | 0, _ => exact ⟨_, _, rfl, rfl, by rw [back2 _ h1]; rfl⟩
  | 1, _ => exact ⟨_, _, rfl, rfl, by rw [back2 _ h2]; rfl⟩
  | 2, _ => exact ⟨_, _, rfl, rfl, by rw [back2 _ (by omega)]; rfl⟩
  | 3, _ => exact ⟨_, _, rfl, rfl, by rw [back2 _ (by omega)]; rfl⟩
  | 4, _ => exact ⟨_, _, rfl, rfl, by rw [back2 _ (by omega)]; rfl⟩
  | 5, _ => exact ⟨_, _, rfl, rfl, by rw [back2 _ (by omega)]; rfl⟩
theorem msW_len12 (m : Ms) : 12 ≤ (msW m).length := by simp only [msW, List.length_append, headB_len]; omega

theorem law09_Head (m : Ms) (vs : List Value) (g : G) (hm : MsR g vs m) (hok : MsOk m) : Fn Try.prog 5 [.agg vs.toArray] g [] fun u _ => u = .bool true := by
  refine enterG [] [31, 41, 42] Try.func5 rfl Try.ntmps5 rfl (by simp) fun g1 hv ho => ?_
  replace hm := hm.seen hv ho
  repeat (first | ((with_reducible refine q0 ?_); first | refine q1 ?_ | ((with_reducible refine gate_bin ?_); first | refine q2 ?_ | refine q3 ?_) | ((with_reducible refine gate_len ?_); refine q4 ?_) | ((with_reducible refine gate_guard ?_); first | refine q5 ?_ | refine q6 ?_)) | (with_reducible first | refine w_seq ?_ | refine w_region ?_ | refine w_ops_nil ?_ | refine w_skip ?_ | refine w_block ?_ | refine w_blk ?_) | ((with_reducible refine gate_exit ?_); refine q7 ?_) | ((with_reducible refine gate_cond ?_); first | refine q8 ?_ | refine q9 ?_))
  have hvl := hm.len
  refine w_box 41 (vs := vs) rfl rfl rfl fun h1 b1 hs1 hc1 => ?_
  have hst : Step [] [31, 41, 42] g1 h1 := hs1.nil
  replace hm := hm.go hs1
  repeat (first | ((with_reducible refine q0 ?_); first | refine q1 ?_ | ((with_reducible refine gate_bin ?_); first | refine q2 ?_ | refine q3 ?_) | ((with_reducible refine gate_len ?_); refine q4 ?_) | ((with_reducible refine gate_guard ?_); first | refine q5 ?_ | refine q6 ?_)) | (with_reducible first | refine w_seq ?_ | refine w_region ?_ | refine w_ops_nil ?_ | refine w_skip ?_ | refine w_block ?_ | refine w_blk ?_) | ((with_reducible refine gate_exit ?_); refine q7 ?_) | ((with_reducible refine gate_cond ?_); first | refine q8 ?_ | refine q9 ?_))
  refine w_loadS (us := vs) hc1 rfl (by rw [List.drop_zero, List.take_of_length_le (by omega)]) hvl rfl rfl ?_
  refine w_callF rfl (ref09_Good m vs h1 hm hok) rfl fun u h2 hs2 hR => ?_
  obtain ⟨ws, rfl, hO⟩ := hR
  replace hst := hst.go hs2
  obtain ⟨h3, hw3, hs3, hG⟩ := hO.freeze
  rw [← hw3]
  replace hst := hst.go hs3
  have hgm := good_ms m
  have hgs := good_small m
  have hgok := msMay_ok hgm
  have hc : (goodMs m).asked.length ≤ 3 ∧ (goodMs m).ans.length ≤ 3 ∧ (goodMs m).auth.length ≤ 3 ∧ (goodMs m).more.length ≤ 3 := by
    simp only [goodMs, List.length_map, List.length_take]; omega
  generalize goodMs m = gm at hG hgm hgs hgok hc
  clear hm hc1 hs1 hs2 hs3 hO hw3
  obtain ⟨wq, wa, wu, wm, rfl, hq, ha, hu, hmo⟩ := hG
  let cs : List Value := [.int .i64 gm.id, .int .i64 gm.flags, wq, wa, wu, wm]
  have hG : MsR h3 cs gm := ⟨wq, wa, wu, wm, rfl, hq, ha, hu, hmo⟩
  repeat (first | ((with_reducible refine q0 ?_); first | refine q1 ?_ | ((with_reducible refine gate_bin ?_); first | refine q2 ?_ | refine q3 ?_) | ((with_reducible refine gate_len ?_); refine q4 ?_) | ((with_reducible refine gate_guard ?_); first | refine q5 ?_ | refine q6 ?_)) | (with_reducible first | refine w_seq ?_ | refine w_region ?_ | refine w_ops_nil ?_ | refine w_skip ?_ | refine w_block ?_ | refine w_blk ?_) | ((with_reducible refine gate_exit ?_); refine q7 ?_) | ((with_reducible refine gate_cond ?_); first | refine q8 ?_ | refine q9 ?_))
  refine w_alloc 42 (vs := msZ) rfl rfl fun h4 b4 hs4 hc4 => ?_
  replace hst := hst.go hs4; replace hG := hG.go hs4; replace hq := hq.go hs4; replace ha := ha.go hs4; replace hu := hu.go hs4; replace hmo := hmo.go hs4
  repeat (first | ((with_reducible refine q0 ?_); first | refine q1 ?_ | ((with_reducible refine gate_bin ?_); first | refine q2 ?_ | refine q3 ?_) | ((with_reducible refine gate_len ?_); refine q4 ?_) | ((with_reducible refine gate_guard ?_); first | refine q5 ?_ | refine q6 ?_)) | (with_reducible first | refine w_seq ?_ | refine w_region ?_ | refine w_ops_nil ?_ | refine w_skip ?_ | refine w_block ?_ | refine w_blk ?_) | ((with_reducible refine gate_exit ?_); refine q7 ?_) | ((with_reducible refine gate_cond ?_); first | refine q8 ?_ | refine q9 ?_))
  refine w_store (us := cs) (vs' := cs) hc4 rfl rfl rfl rfl hG.one (show 0 + 6 ≤ 6 by decide) rfl fun h5 hb5 hs5 hc5 => ?_
  replace hst := hst.go hs5; replace hG := hG.go hs5; replace hq := hq.go hs5; replace ha := ha.go hs5; replace hu := hu.go hs5; replace hmo := hmo.go hs5
  repeat (first | ((with_reducible refine q0 ?_); first | refine q1 ?_ | ((with_reducible refine gate_bin ?_); first | refine q2 ?_ | refine q3 ?_) | ((with_reducible refine gate_len ?_); refine q4 ?_) | ((with_reducible refine gate_guard ?_); first | refine q5 ?_ | refine q6 ?_)) | (with_reducible first | refine w_seq ?_ | refine w_region ?_ | refine w_ops_nil ?_ | refine w_skip ?_ | refine w_block ?_ | refine w_blk ?_) | ((with_reducible refine gate_exit ?_); refine q7 ?_) | ((with_reducible refine gate_cond ?_); first | refine q8 ?_ | refine q9 ?_))
  refine w_loadS (us := cs) hc5 rfl rfl rfl rfl rfl ?_
  refine w_callF rfl (wire_Write gm cs h5 hG hgok (fun _ => hgs)) rfl fun u h6 hs6 hR => ?_
  obtain ⟨vb, rfl, hb⟩ := hR
  replace hst := hst.go hs6; replace hq := hq.go hs6; replace ha := ha.go hs6; replace hu := hu.go hs6; replace hmo := hmo.go hs6; replace hc5 := hc5.go hs6
  rw [wrB, if_pos hgm] at hb ⊢
  by_cases hlen : (msW gm).length ≤ 1232
  · rw [if_pos hlen] at hb ⊢
    dsimp only at hb ⊢
    repeat (first | ((with_reducible refine q0 ?_); first | refine q1 ?_ | ((with_reducible refine gate_bin ?_); first | refine q2 ?_ | refine q3 ?_) | ((with_reducible refine gate_len ?_); refine q4 ?_) | ((with_reducible refine gate_guard ?_); first | refine q5 ?_ | refine q6 ?_)) | (with_reducible first | refine w_seq ?_ | refine w_region ?_ | refine w_ops_nil ?_ | refine w_skip ?_ | refine w_block ?_ | refine w_blk ?_) | ((with_reducible refine gate_exit ?_); refine q7 ?_) | ((with_reducible refine gate_cond ?_); first | refine q8 ?_ | refine q9 ?_))
    refine w_fldA (by decide) rfl rfl ?_
    refine w_load1 (v := .int .i64 gm.id) hc5 rfl rfl rfl rfl ?_
    refine w_fldA (by decide) rfl rfl ?_
    refine w_load1 (v := .int .i64 gm.flags) hc5 rfl rfl rfl rfl ?_
    refine w_fldA (by decide) rfl rfl ?_
    refine w_load1 (v := wq) hc5 rfl rfl rfl rfl ?_
    refine w_lenSl hq.isSl rfl rfl ?_
    refine w_fldA (by decide) rfl rfl ?_
    refine w_load1 (v := wa) hc5 rfl rfl rfl rfl ?_
    refine w_lenSl ha.isSl rfl rfl ?_
    refine w_fldA (by decide) rfl rfl ?_
    refine w_load1 (v := wu) hc5 rfl rfl rfl rfl ?_
    refine w_lenSl hu.isSl rfl rfl ?_
    refine w_fldA (by decide) rfl rfl ?_
    refine w_load1 (v := wm) hc5 rfl rfl rfl rfl ?_
    refine w_lenSl hmo.isSl rfl rfl ?_
    refine w_buildSlR El.int (want6 gm) rfl rfl rfl rfl fun h7 v7 hs7 hr7 => ?_
    replace hst := hst.go hs7; replace hb := hb.go hs7
    have h12 := msW_len12 gm
    repeat (first | ((with_reducible refine q0 ?_); first | refine q1 ?_ | ((with_reducible refine gate_bin ?_); first | refine q2 ?_ | refine q3 ?_) | ((with_reducible refine gate_len ?_); refine q4 ?_) | ((with_reducible refine gate_guard ?_); first | refine q5 ?_ | refine q6 ?_)) | (with_reducible first | refine w_seq ?_ | refine w_region ?_ | refine w_ops_nil ?_ | refine w_skip ?_ | refine w_block ?_ | refine w_blk ?_) | ((with_reducible refine gate_exit ?_); refine q7 ?_) | ((with_reducible refine gate_cond ?_); first | refine q8 ?_ | refine q9 ?_))
    refine w_lenSl hb.isSl rfl rfl ?_
    repeat (first | ((with_reducible refine q0 ?_); first | refine q1 ?_ | ((with_reducible refine gate_bin ?_); first | refine q2 ?_ | refine q3 ?_) | ((with_reducible refine gate_len ?_); refine q4 ?_) | ((with_reducible refine gate_guard ?_); first | refine q5 ?_ | refine q6 ?_)) | (with_reducible first | refine w_seq ?_ | refine w_region ?_ | refine w_ops_nil ?_ | refine w_skip ?_ | refine w_block ?_ | refine w_blk ?_) | ((with_reducible refine gate_exit ?_); refine q7 ?_) | ((with_reducible refine gate_cond ?_); first | refine q8 ?_ | refine q9 ?_))
    refine w_condP rfl (fun hlt => ?_) (fun hlt => ?_)
    · omega
    have hat := head_at gm hgm.2.1 hgm.2.2.1 (by omega) (by omega) (by omega) (by omega)
    repeat (first | ((with_reducible refine q0 ?_); first | refine q1 ?_ | ((with_reducible refine gate_bin ?_); first | refine q2 ?_ | refine q3 ?_) | ((with_reducible refine gate_len ?_); refine q4 ?_) | ((with_reducible refine gate_guard ?_); first | refine q5 ?_ | refine q6 ?_)) | (with_reducible first | refine w_seq ?_ | refine w_region ?_ | refine w_ops_nil ?_ | refine w_skip ?_ | refine w_block ?_ | refine w_blk ?_) | ((with_reducible refine gate_exit ?_); refine q7 ?_) | ((with_reducible refine gate_cond ?_); first | refine q8 ?_ | refine q9 ?_))
    refine w_loop (ι := Nat) (fun i => [(4, vb), (6, v7), (7, .int .i64 (i : Int))])
      (fun i w => ∃ h : G, h.w = w ∧ Step [] [] h7 h ∧ i ≤ 6) (fun i => 6 - i) 0 ⟨h7, rfl, Step.refl _ _ _, by omega⟩ ⟨rfl, rfl, rfl, trivial⟩ ?_
    rintro i _ ⟨h, rfl, hst2, hi⟩
    replace hst := hst.go hst2; replace hb := hb.go hst2; replace hr7 := hr7.go hst2
    repeat (first | ((with_reducible refine q0 ?_); first | refine q1 ?_ | ((with_reducible refine gate_bin ?_); first | refine q2 ?_ | refine q3 ?_) | ((with_reducible refine gate_len ?_); refine q4 ?_) | ((with_reducible refine gate_guard ?_); first | refine q5 ?_ | refine q6 ?_)) | (with_reducible first | refine w_seq ?_ | refine w_region ?_ | refine w_ops_nil ?_ | refine w_skip ?_ | refine w_block ?_ | refine w_blk ?_) | ((with_reducible refine gate_exit ?_); refine q7 ?_) | ((with_reducible refine gate_cond ?_); first | refine q8 ?_ | refine q9 ?_))
    refine w_condP rfl (fun hlt => ?_) (fun hlt => ?_)
    · obtain ⟨x, y, e1, e2, e3⟩ := hat i (by omega)
      have hx := x.toNat_lt
      have hy := y.toNat_lt
      have hwl : (want6 gm).length = 6 := rfl
      repeat (first | ((with_reducible refine q0 ?_); first | refine q1 ?_ | ((with_reducible refine gate_bin ?_); first | refine q2 ?_ | refine q3 ?_) | ((with_reducible refine gate_len ?_); refine q4 ?_) | ((with_reducible refine gate_guard ?_); first | refine q5 ?_ | refine q6 ?_)) | (with_reducible first | refine w_seq ?_ | refine w_region ?_ | refine w_ops_nil ?_ | refine w_skip ?_ | refine w_block ?_ | refine w_blk ?_) | ((with_reducible refine gate_exit ?_); refine q7 ?_) | ((with_reducible refine gate_cond ?_); first | refine q8 ?_ | refine q9 ?_))
      refine d_begin none [] (by kernel_rfl) fun g2 hsd => ?_
      replace hst := hst.go hsd; replace hb := hb.go hsd; replace hr7 := hr7.go hsd
      refine d_pure 0 calm_ret rfl (by kernel_rfl) rfl rfl ?_; refine d_pure 1 calm_ret rfl (by kernel_rfl) rfl rfl ?_
      refine d_read 2 calm_ret rfl (by kernel_rfl) rfl  (fun h hs => r_mul rfl rfl (by omega)) ?_
      refine d_read 3 calm_ret rfl (by kernel_rfl) rfl  (fun h hs => r_idx (hb.go hs) rfl rfl (by omega) (by omega)) ?_
      refine d_read 4 calm_ret rfl (by kernel_rfl) rfl  (fun h hs => r_loadE (i := 2 * i) (y := x) (hb.go hs) (by rw [show (2 * (i : Int)).toNat = 2 * i by omega]; rfl) e1 rfl) ?_
      refine d_read 5 calm_ret rfl (by kernel_rfl) rfl  (fun h hs => r_conv64 rfl (by omega)) ?_
      refine d_read 6 calm_ret rfl (by kernel_rfl) rfl  (fun h hs => r_mul rfl rfl (by omega)) ?_
      refine d_pure 7 calm_ret rfl (by kernel_rfl) rfl rfl ?_; refine d_pure 8 calm_ret rfl (by kernel_rfl) rfl rfl ?_
      refine d_read 9 calm_ret rfl (by kernel_rfl) rfl  (fun h hs => r_mul rfl rfl (by omega)) ?_
      refine d_read 10 calm_ret rfl (by kernel_rfl) rfl  (fun h hs => r_add rfl rfl (by omega)) ?_
      refine d_read 11 calm_ret rfl (by kernel_rfl) rfl  (fun h hs => r_idx (hb.go hs) rfl rfl (by omega) (by omega)) ?_
      refine d_read 12 calm_ret rfl (by kernel_rfl) rfl  (fun h hs => r_loadE (i := 2 * i + 1) (y := y) (hb.go hs) (by rw [show (2 * (i : Int) + 1).toNat = 2 * i + 1 by omega]; rfl) e2 rfl) ?_
      refine d_read 13 calm_ret rfl (by kernel_rfl) rfl  (fun h hs => r_conv64 rfl (by omega)) ?_
      refine d_read 14 calm_ret rfl (by kernel_rfl) rfl  (fun h hs => r_add rfl rfl (by omega)) ?_
      refine d_pure 15 calm_ret rfl (by kernel_rfl) rfl rfl ?_; refine d_pure 16 calm_ret rfl (by kernel_rfl) rfl rfl ?_
      refine d_read 17 calm_ret rfl (by kernel_rfl) rfl  (fun h hs => r_idx (hr7.go hs) rfl rfl (by omega) (by omega)) ?_
      refine d_read 18 calm_ret rfl (by kernel_rfl) rfl  (fun h hs => r_loadE (i := i) (y := (x.toNat : Int) * 256 + (y.toNat : Int)) (hr7.go hs) rfl e3 rfl) ?_
      refine d_pure 19 calm_ret rfl (by kernel_rfl) rfl rfl ?_
      refine d_done (by kernel_rfl) ?_
      repeat (first | ((with_reducible refine q0 ?_); first | refine q1 ?_ | ((with_reducible refine gate_bin ?_); first | refine q2 ?_ | refine q3 ?_) | ((with_reducible refine gate_len ?_); refine q4 ?_) | ((with_reducible refine gate_guard ?_); first | refine q5 ?_ | refine q6 ?_)) | (with_reducible first | refine w_seq ?_ | refine w_region ?_ | refine w_ops_nil ?_ | refine w_skip ?_ | refine w_block ?_ | refine w_blk ?_) | ((with_reducible refine gate_exit ?_); refine q7 ?_) | ((with_reducible refine gate_cond ?_); first | refine q8 ?_ | refine q9 ?_))
      refine w_condP rfl (fun hne => ?_) (fun hne => ?_)
      · exact absurd rfl hne
      repeat (first | ((with_reducible refine q0 ?_); first | refine q1 ?_ | ((with_reducible refine gate_bin ?_); first | refine q2 ?_ | refine q3 ?_) | ((with_reducible refine gate_len ?_); refine q4 ?_) | ((with_reducible refine gate_guard ?_); first | refine q5 ?_ | refine q6 ?_)) | (with_reducible first | refine w_seq ?_ | refine w_region ?_ | refine w_ops_nil ?_ | refine w_skip ?_ | refine w_block ?_ | refine w_blk ?_) | ((with_reducible refine gate_exit ?_); refine q7 ?_) | ((with_reducible refine gate_cond ?_); first | refine q8 ?_ | refine q9 ?_))
      exact w_again (i + 1) (by omega) ⟨g2, rfl, hst2.go hsd, by omega⟩ ⟨rfl, rfl, rfl, trivial⟩
    · repeat (first | ((with_reducible refine q0 ?_); first | refine q1 ?_ | ((with_reducible refine gate_bin ?_); first | refine q2 ?_ | refine q3 ?_) | ((with_reducible refine gate_len ?_); refine q4 ?_) | ((with_reducible refine gate_guard ?_); first | refine q5 ?_ | refine q6 ?_)) | (with_reducible first | refine w_seq ?_ | refine w_region ?_ | refine w_ops_nil ?_ | refine w_skip ?_ | refine w_block ?_ | refine w_blk ?_) | ((with_reducible refine gate_exit ?_); refine q7 ?_) | ((with_reducible refine gate_cond ?_); first | refine q8 ?_ | refine q9 ?_))
      refine w_callF rfl (law09_lives h) rfl fun u h8 hs8 hu => ?_
      subst hu
      repeat (first | ((with_reducible refine q0 ?_); first | refine q1 ?_ | ((with_reducible refine gate_bin ?_); first | refine q2 ?_ | refine q3 ?_) | ((with_reducible refine gate_len ?_); refine q4 ?_) | ((with_reducible refine gate_guard ?_); first | refine q5 ?_ | refine q6 ?_)) | (with_reducible first | refine w_seq ?_ | refine w_region ?_ | refine w_ops_nil ?_ | refine w_skip ?_ | refine w_block ?_ | refine w_blk ?_) | ((with_reducible refine gate_exit ?_); refine q7 ?_) | ((with_reducible refine gate_cond ?_); first | refine q8 ?_ | refine q9 ?_))
      exact w_retG (res1 rfl rfl) (hst.go hs8) fun h' _ => rfl
  · rw [if_neg hlen]
    dsimp only
    repeat (first | ((with_reducible refine q0 ?_); first | refine q1 ?_ | ((with_reducible refine gate_bin ?_); first | refine q2 ?_ | refine q3 ?_) | ((with_reducible refine gate_len ?_); refine q4 ?_) | ((with_reducible refine gate_guard ?_); first | refine q5 ?_ | refine q6 ?_)) | (with_reducible first | refine w_seq ?_ | refine w_region ?_ | refine w_ops_nil ?_ | refine w_skip ?_ | refine w_block ?_ | refine w_blk ?_) | ((with_reducible refine gate_exit ?_); refine q7 ?_) | ((with_reducible refine gate_cond ?_); first | refine q8 ?_ | refine q9 ?_))
    refine w_callF rfl (law09_lives h6) rfl fun u h8 hs8 hu => ?_
    subst hu
    repeat (first | ((with_reducible refine q0 ?_); first | refine q1 ?_ | ((with_reducible refine gate_bin ?_); first | refine q2 ?_ | refine q3 ?_) | ((with_reducible refine gate_len ?_); refine q4 ?_) | ((with_reducible refine gate_guard ?_); first | refine q5 ?_ | refine q6 ?_)) | (with_reducible first | refine w_seq ?_ | refine w_region ?_ | refine w_ops_nil ?_ | refine w_skip ?_ | refine w_block ?_ | refine w_blk ?_) | ((with_reducible refine gate_exit ?_); refine q7 ?_) | ((with_reducible refine gate_cond ?_); first | refine q8 ?_ | refine q9 ?_))
    exact w_retG (res1 rfl rfl) (hst.go hs8) fun h' _ => rfl
end Go.Proofs.Ytnfokdhgajanpaa
