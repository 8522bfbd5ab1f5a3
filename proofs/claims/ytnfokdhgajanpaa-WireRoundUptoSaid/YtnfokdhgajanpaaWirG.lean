/- The law of what asks and what answers, as a contract. No statement of the seat is proved here. -/
import Derived.Test.YtnfokdhgajanpaaWirF
set_option linter.unusedVariables false
set_option linter.unusedSimpArgs false
namespace Go.Proofs.Ytnfokdhgajanpaa
open Go
attribute [local irreducible] Wp

theorem law09_Asks (id : Int) (name : List UInt8) (kind : Int) (l : List Rc) (v : Value) (g : G) (hr : Rdx g El.rc v l) : Fn Try.prog 8 [.int .i64 id, str name, .int .i64 kind, v] g [] fun u _ => u = .bool true := by
  refine enterG [] [41, 42] Try.func8 rfl Try.ntmps8 rfl (by simp) fun g1 hv ho => ?_
  replace hr := hr.seen hv ho
  repeat (first|refine q1 ?_|refine q2 ?_|refine q3 ?_|refine q4 ?_|refine q5 ?_|refine q6 ?_|refine w_seq ?_|refine w_region ?_|refine w_ops_nil ?_|refine w_skip ?_|refine w_block ?_|refine w_blk ?_|refine q7 ?_|refine q8 ?_|refine q9 ?_)
  refine w_lenSl hr.isSl rfl rfl ?_
  repeat (first|refine q1 ?_|refine q2 ?_|refine q3 ?_|refine q4 ?_|refine q5 ?_|refine q6 ?_|refine w_seq ?_|refine w_region ?_|refine w_ops_nil ?_|refine w_skip ?_|refine w_block ?_|refine w_blk ?_|refine q7 ?_|refine q8 ?_|refine q9 ?_)
  refine w_cut (ι := Value) (fun v => [(0, .int .i64 id), (1, str name), (2, .int .i64 kind), (3, v)]) (fun v w => ∃ h : G, h.w = w ∧ Step [] [41, 42] g1 h ∧ Rdx h El.rc v (l.take 3)) ?_ ?_
  · refine w_condP rfl (fun hl => ?_) (fun hl => ?_)
    · obtain ⟨c, hc, hr1⟩ := hr
      repeat (first|refine q1 ?_|refine q2 ?_|refine q3 ?_|refine q4 ?_|refine q5 ?_|refine q6 ?_|refine w_seq ?_|refine w_region ?_|refine w_ops_nil ?_|refine w_skip ?_|refine w_block ?_|refine w_blk ?_|refine q7 ?_|refine q8 ?_|refine q9 ?_)
      refine w_cut_ (a := 0) (b := 3) hr1 rfl rfl ⟨_, rfl, rfl⟩ (by omega) (by omega) rfl fun hr2 => ?_
      rw [List.drop_zero] at hr2
      repeat (first|refine q1 ?_|refine q2 ?_|refine q3 ?_|refine q4 ?_|refine q5 ?_|refine q6 ?_|refine w_seq ?_|refine w_region ?_|refine w_ops_nil ?_|refine w_skip ?_|refine w_block ?_|refine w_blk ?_|refine q7 ?_|refine q8 ?_|refine q9 ?_)
      exact w_meet _ ⟨g1, rfl, Step.refl _ _ _, hr2.x⟩ ⟨rfl, rfl, rfl, rfl, trivial⟩
    · repeat (first|refine q1 ?_|refine q2 ?_|refine q3 ?_|refine q4 ?_|refine q5 ?_|refine q6 ?_|refine w_seq ?_|refine w_region ?_|refine w_ops_nil ?_|refine w_skip ?_|refine w_block ?_|refine w_blk ?_|refine q7 ?_|refine q8 ?_|refine q9 ?_)
      rw [← List.take_of_length_le (show l.length ≤ 3 by omega)] at hr
      exact w_meet _ ⟨g1, rfl, Step.refl _ _ _, hr⟩ ⟨rfl, rfl, rfl, rfl, trivial⟩
  clear hr
  rintro v2 _ ⟨h, rfl, hst, hr⟩
  have hl3 : (l.take 3).length ≤ 3 := by rw [List.length_take]; omega
  generalize l.take 3 = l3 at hr hl3
  repeat (first|refine q1 ?_|refine q2 ?_|refine q3 ?_|refine q4 ?_|refine q5 ?_|refine q6 ?_|refine w_seq ?_|refine w_region ?_|refine w_ops_nil ?_|refine w_skip ?_|refine w_block ?_|refine w_blk ?_|refine q7 ?_|refine q8 ?_|refine q9 ?_)
  refine w_callF rfl (wire_Ask id name kind h) rfl fun u h1 hs1 hR => ?_
  obtain ⟨ws, rfl, hq⟩ := hR
  replace hst := hst.go hs1; replace hr := hr.go hs1
  obtain ⟨qq, qa, qu, qm, rfl, _⟩ := _root_.id hq
  let cs : List Value := [.int .i64 (askM id name kind).id, .int .i64 (askM id name kind).flags, qq, qa, qu, qm]
  replace hq : MsR h1 cs (askM id name kind) := hq
  repeat (first|refine q1 ?_|refine q2 ?_|refine q3 ?_|refine q4 ?_|refine q5 ?_|refine q6 ?_|refine w_seq ?_|refine w_region ?_|refine w_ops_nil ?_|refine w_skip ?_|refine w_block ?_|refine w_blk ?_|refine q7 ?_|refine q8 ?_|refine q9 ?_)
  refine w_alloc 41 (vs := msZ) rfl rfl fun h2 b2 hs2 hc2 => ?_
  replace hst := hst.go hs2; replace hr := hr.go hs2; replace hq := hq.go hs2
  repeat (first|refine q1 ?_|refine q2 ?_|refine q3 ?_|refine q4 ?_|refine q5 ?_|refine q6 ?_|refine w_seq ?_|refine w_region ?_|refine w_ops_nil ?_|refine w_skip ?_|refine w_block ?_|refine w_blk ?_|refine q7 ?_|refine q8 ?_|refine q9 ?_)
  refine w_store (us := cs) (vs' := cs) hc2 rfl rfl rfl rfl hq.one (show 0 + 6 ≤ 6 by decide) rfl fun h3 hb3 hs3 hc2 => ?_
  replace hst := hst.go hs3; replace hr := hr.go hs3; replace hq := hq.go hs3
  clear hs1 hs2 hs3 hb3
  repeat (first|refine q1 ?_|refine q2 ?_|refine q3 ?_|refine q4 ?_|refine q5 ?_|refine q6 ?_|refine w_seq ?_|refine w_region ?_|refine w_ops_nil ?_|refine w_skip ?_|refine w_block ?_|refine w_blk ?_|refine q7 ?_|refine q8 ?_|refine q9 ?_)
  refine w_loadS (us := cs) hc2 rfl rfl rfl rfl rfl ?_
  repeat (first|refine q1 ?_|refine q2 ?_|refine q3 ?_|refine q4 ?_|refine q5 ?_|refine q6 ?_|refine w_seq ?_|refine w_region ?_|refine w_ops_nil ?_|refine w_skip ?_|refine w_block ?_|refine w_blk ?_|refine q7 ?_|refine q8 ?_|refine q9 ?_)
  refine w_callF rfl (wire_Answer (askM id name kind) l3 cs v2 h3 hq hr (by simp [askM]) (by omega)) rfl fun u h4 hs4 hR => ?_
  obtain ⟨ws, rfl, hA⟩ := hR
  replace hst := hst.go hs4; replace hr := hr.go hs4; replace hq := hq.go hs4; replace hc2 := hc2.go hs4
  obtain ⟨aq, aa, au, am, rfl, _⟩ := _root_.id hA
  let ds : List Value := [.int .i64 (ansM (askM id name kind) l3).id, .int .i64 (ansM (askM id name kind) l3).flags, aq, aa, au, am]
  replace hA : MsR h4 ds (ansM (askM id name kind) l3) := hA
  repeat (first|refine q1 ?_|refine q2 ?_|refine q3 ?_|refine q4 ?_|refine q5 ?_|refine q6 ?_|refine w_seq ?_|refine w_region ?_|refine w_ops_nil ?_|refine w_skip ?_|refine w_block ?_|refine w_blk ?_|refine q7 ?_|refine q8 ?_|refine q9 ?_)
  refine w_alloc 42 (vs := msZ) rfl rfl fun h5 b5 hs5 hc5 => ?_
  replace hst := hst.go hs5; replace hr := hr.go hs5; replace hq := hq.go hs5; replace hc2 := hc2.go hs5; replace hA := hA.go hs5
  repeat (first|refine q1 ?_|refine q2 ?_|refine q3 ?_|refine q4 ?_|refine q5 ?_|refine q6 ?_|refine w_seq ?_|refine w_region ?_|refine w_ops_nil ?_|refine w_skip ?_|refine w_block ?_|refine w_blk ?_|refine q7 ?_|refine q8 ?_|refine q9 ?_)
  refine w_store (us := ds) (vs' := ds) hc5 rfl rfl rfl rfl hA.one (show 0 + 6 ≤ 6 by decide) rfl fun h6 hb6 hs6 hc5 => ?_
  replace hst := hst.go hs6; replace hr := hr.go hs6; replace hq := hq.go hs6; replace hc2 := hc2.go hs6; replace hA := hA.go hs6
  clear hs4 hs5 hs6 hb6
  repeat (first|refine q1 ?_|refine q2 ?_|refine q3 ?_|refine q4 ?_|refine q5 ?_|refine q6 ?_|refine w_seq ?_|refine w_region ?_|refine w_ops_nil ?_|refine w_skip ?_|refine w_block ?_|refine w_blk ?_|refine q7 ?_|refine q8 ?_|refine q9 ?_)
  refine w_build (vs := [(0, str name), (1, .int .i64 kind), (2, .int .i64 1)]) (r := El.qn.enc ⟨name, kind, 1⟩) rfl rfl rfl ?_
  refine w_buildSlR El.qn [⟨name, kind, 1⟩] rfl rfl rfl rfl fun h7 v7 hs7 hr7 => ?_
  replace hst := hst.go hs7; replace hr := hr.go hs7; replace hq := hq.go hs7; replace hc2 := hc2.go hs7; replace hA := hA.go hs7; replace hc5 := hc5.go hs7
  obtain ⟨A7, c7, rfl, _⟩ := hr7.isSl
  obtain ⟨A3, c3, rfl, _⟩ := hr.isSl
  repeat (first|refine q1 ?_|refine q2 ?_|refine q3 ?_|refine q4 ?_|refine q5 ?_|refine q6 ?_|refine w_seq ?_|refine w_region ?_|refine w_ops_nil ?_|refine w_skip ?_|refine w_block ?_|refine w_blk ?_|refine q7 ?_|refine q8 ?_|refine q9 ?_)
  refine d_begin none [] (by kernel_rfl) fun g2 hsd => ?_
  replace hst := hst.go hsd; replace hr := hr.go hsd; replace hq := hq.go hsd; replace hc2 := hc2.go hsd; replace hA := hA.go hsd; replace hc5 := hc5.go hsd; replace hr7 := hr7.go hsd
  have m1 : MsR g2 [.int .i64 id, .int .i64 256, .slice A7 1 c7, .slice none 0 0, .slice none 0 0, .slice none 0 0] (askM id name kind) := ⟨_, _, _, _, rfl, hr7.x, Rdx.nil _ _, Rdx.nil _ _, Rdx.nil _ _⟩
  have m2 : MsR g2 [.int .i64 id, .int .i64 33152, .slice A7 1 c7, .slice A3 l3.length c3, .slice none 0 0, .slice none 0 0] (ansM (askM id name kind) l3) := ⟨_, _, _, _, rfl, hr7.x, hr, Rdx.nil _ _, Rdx.nil _ _⟩
  refine d_read 0 calm_ret rfl (by kernel_rfl) rfl  (fun h hs => r_load (us := cs) (hc2.go hs) rfl rfl rfl (fun e => by cases e)) ?_
  refine d_pure 1 calm_ret rfl (by kernel_rfl) rfl rfl ?_; refine d_pure 2 calm_ret rfl (by kernel_rfl) rfl rfl ?_
  refine d_read 3 calm_ret rfl (by kernel_rfl) rfl  (fun h hs => r_build (vs := [(0, .int .i64 id), (1, .int .i64 256), (2, .slice A7 1 c7)]) (r := [.int .i64 id, .int .i64 256, .slice A7 1 c7, .slice none 0 0, .slice none 0 0, .slice none 0 0]) rfl rfl) ?_
  refine d_exec1 4 (by kernel_rfl) rfl ?_
  refine w_callF rfl (ref09_Same (askM id name kind) (askM id name kind) cs [.int .i64 id, .int .i64 256, .slice A7 1 c7, .slice none 0 0, .slice none 0 0, .slice none 0 0] g2 hq m1) rfl fun u k1 ks1 hu => ?_
  rw [decide_eq_true rfl] at hu
  subst hu
  repeat (first|refine q1 ?_|refine q2 ?_|refine q3 ?_|refine q4 ?_|refine q5 ?_|refine q6 ?_|refine w_seq ?_|refine w_region ?_|refine w_ops_nil ?_|refine w_skip ?_|refine w_block ?_|refine w_blk ?_|refine q7 ?_|refine q8 ?_|refine q9 ?_)
  refine d_next (fun _ => ⟨k1, rfl, ks1⟩) ?_
  refine d_pure 5 calm_ret rfl (by kernel_rfl) rfl rfl ?_
  refine d_readG 6 calm_ret rfl rfl rfl (by kernel_rfl) rfl  (fun h hs => r_load (us := ds) (hc5.go hs) rfl rfl rfl (fun e => by cases e)) ?_
  refine d_guard_pure 7 calm_ret rfl rfl rfl (by kernel_rfl) rfl rfl ?_; refine d_guard_pure 8 calm_ret rfl rfl rfl (by kernel_rfl) rfl rfl ?_; refine d_guard_pure 9 calm_ret rfl rfl rfl (by kernel_rfl) rfl rfl ?_
  refine d_readG 10 calm_ret rfl rfl rfl (by kernel_rfl) rfl  (fun h hs => r_build (vs := [(0, .int .i64 id), (1, .int .i64 33152), (2, .slice A7 1 c7), (3, .slice A3 l3.length c3)]) (r := [.int .i64 id, .int .i64 33152, .slice A7 1 c7, .slice A3 l3.length c3, .slice none 0 0, .slice none 0 0]) rfl rfl) ?_
  refine d_exec1 11 (by kernel_rfl) rfl ?_
  refine w_guard_yes' rfl rfl rfl rfl ?_
  refine w_callF rfl (ref09_Same (ansM (askM id name kind) l3) (ansM (askM id name kind) l3) ds [.int .i64 id, .int .i64 33152, .slice A7 1 c7, .slice A3 l3.length c3, .slice none 0 0, .slice none 0 0] k1 (hA.go ks1) (m2.go ks1)) rfl fun u k2 ks2 hu => ?_
  rw [decide_eq_true rfl] at hu
  subst hu
  replace ks2 := ks1.go ks2
  repeat (first|refine q1 ?_|refine q2 ?_|refine q3 ?_|refine q4 ?_|refine q5 ?_|refine q6 ?_|refine w_seq ?_|refine w_region ?_|refine w_ops_nil ?_|refine w_skip ?_|refine w_block ?_|refine w_blk ?_|refine q7 ?_|refine q8 ?_|refine q9 ?_)
  refine d_next (fun _ => ⟨k2, rfl, ks2⟩) ?_
  refine d_pure 12 calm_ret rfl (by kernel_rfl) rfl rfl ?_; refine d_pure 13 calm_ret rfl (by kernel_rfl) rfl rfl ?_
  refine d_readG 14 calm_ret rfl rfl rfl (by kernel_rfl) rfl  (fun h hs => r_load (us := ds) (hc5.go hs) rfl rfl rfl (fun e => by cases e)) ?_
  refine d_readG 15 calm_ret rfl rfl rfl (by kernel_rfl) rfl  (fun h hs => r_load (us := cs) (hc2.go hs) rfl rfl rfl (fun e => by cases e)) ?_
  refine d_readG 17 calm_ret rfl rfl rfl (by kernel_rfl) rfl  (fun h hs => r_load (us := ds) (hc5.go hs) rfl rfl rfl (fun e => by cases e)) ?_
  refine d_readG 18 calm_ret rfl rfl rfl (by kernel_rfl) rfl  (fun h hs => r_load (us := cs) (hc2.go hs) rfl rfl rfl (fun e => by cases e)) ?_
  refine d_exec1 16 (by kernel_rfl) rfl ?_
  refine w_guard_yes' rfl rfl rfl rfl ?_
  refine w_callF rfl (wire_Same (ansM (askM id name kind) l3) (askM id name kind) ds cs k2 (hA.go ks2) (hq.go ks2)) rfl fun u k3 ks3 hu3 => ?_
  replace ks3 := ks2.go ks3
  repeat (first|refine q1 ?_|refine q2 ?_|refine q3 ?_|refine q4 ?_|refine q5 ?_|refine q6 ?_|refine w_seq ?_|refine w_region ?_|refine w_ops_nil ?_|refine w_skip ?_|refine w_block ?_|refine w_blk ?_|refine q7 ?_|refine q8 ?_|refine q9 ?_)
  refine d_next (fun _ => ⟨k3, rfl, ks3⟩) ?_
  refine d_exec1 19 (by kernel_rfl) rfl ?_
  refine w_guard_yes' rfl rfl rfl rfl ?_
  refine w_callF rfl (ref09_Same (ansM (askM id name kind) l3) (askM id name kind) ds cs k3 (hA.go ks3) (hq.go ks3)) rfl fun u4 k4 ks4 hu4 => ?_
  replace ks4 := ks3.go ks4
  generalize decide (ansM (askM id name kind) l3 = askM id name kind) = β at hu3 hu4
  subst hu3 hu4
  repeat (first|refine q1 ?_|refine q2 ?_|refine q3 ?_|refine q4 ?_|refine q5 ?_|refine q6 ?_|refine w_seq ?_|refine w_region ?_|refine w_ops_nil ?_|refine w_skip ?_|refine w_block ?_|refine w_blk ?_|refine q7 ?_|refine q8 ?_|refine q9 ?_)
  refine d_next (fun _ => ⟨k4, rfl, ks4⟩) ?_
  refine d_readG 20 calm_ret rfl rfl rfl (by kernel_rfl) rfl  (fun h hs => r_eqBool rfl rfl) ?_
  refine d_known 48 (.bool true) rfl (congrArg Value.bool (decide_eq_true rfl)) ?_
  refine d_pure 21 calm_ret rfl (by kernel_rfl) rfl rfl ?_; refine d_pure 22 calm_ret rfl (by kernel_rfl) rfl rfl ?_
  refine d_exec1 23 (by kernel_rfl) rfl ?_
  refine w_guard_yes' rfl rfl rfl rfl ?_
  refine w_callF rfl (law09_lives k4) rfl fun u k5 ks5 hu => ?_
  subst hu
  replace ks5 := ks4.go ks5
  repeat (first|refine q1 ?_|refine q2 ?_|refine q3 ?_|refine q4 ?_|refine q5 ?_|refine q6 ?_|refine w_seq ?_|refine w_region ?_|refine w_ops_nil ?_|refine w_skip ?_|refine w_block ?_|refine w_blk ?_|refine q7 ?_|refine q8 ?_|refine q9 ?_)
  refine d_next (fun _ => ⟨k5, rfl, ks5⟩) ?_
  refine d_pure 24 calm_ret rfl (by kernel_rfl) rfl rfl ?_; refine d_pure 25 calm_ret rfl (by kernel_rfl) rfl rfl ?_
  refine d_done (by kernel_rfl) ?_
  repeat (first|refine q1 ?_|refine q2 ?_|refine q3 ?_|refine q4 ?_|refine q5 ?_|refine q6 ?_|refine w_seq ?_|refine w_region ?_|refine w_ops_nil ?_|refine w_skip ?_|refine w_block ?_|refine w_blk ?_|refine q7 ?_|refine q8 ?_|refine q9 ?_)
  exact w_retG (res1 rfl rfl) (hst.go ks5) fun h' _ => rfl
end Go.Proofs.Ytnfokdhgajanpaa
