/- Messages: what asks and answers; the document's example. No statement of the seat is proved here. -/
import Derived.Test.YtnfokdhgajanpaaWir8
set_option linter.unusedVariables false
set_option linter.unusedSimpArgs false
namespace Go.Proofs.Ytnfokdhgajanpaa
open Go
attribute [local irreducible] Wp

theorem Clone_qn (x : List Qn) (g : G) {v : Value} (hr : Rdx g El.qn v x) (hx : x.length ≤ 1000000) :
    Fn Try.prog 63 [v] g [] fun u h => Rd h 0 El.qn u x := by
  refine enterG [] [2] Try.func63 rfl Try.ntmps63 rfl (by simp) fun g1 hv ho => ?_
  obtain ⟨c', hc', hr1⟩ := hr.seen hv ho (by simp)
  obtain ⟨A, cap, rfl, h1, h2⟩ := hr1.len
  repeat (first|refine q1 ?_|refine q2 ?_|refine q3 ?_|refine q4 ?_|refine q5 ?_|refine q6 ?_|refine w_seq ?_|refine w_region ?_|refine w_ops_nil ?_|refine w_skip ?_|refine w_block ?_|refine w_blk ?_|refine q7 ?_|refine q8 ?_|refine q9 ?_)
  refine w_slEqNil rfl rfl rfl ?_
  repeat (first|refine q1 ?_|refine q2 ?_|refine q3 ?_|refine q4 ?_|refine q5 ?_|refine q6 ?_|refine w_seq ?_|refine w_region ?_|refine w_ops_nil ?_|refine w_skip ?_|refine w_block ?_|refine w_blk ?_|refine q7 ?_|refine q8 ?_|refine q9 ?_)
  refine w_cond rfl (fun hA => ?_) (fun hA => ?_)
  · repeat (first|refine q1 ?_|refine q2 ?_|refine q3 ?_|refine q4 ?_|refine q5 ?_|refine q6 ?_|refine w_seq ?_|refine w_region ?_|refine w_ops_nil ?_|refine w_skip ?_|refine w_block ?_|refine w_blk ?_|refine q7 ?_|refine q8 ?_|refine q9 ?_)
    refine w_retG (res1 rfl rfl) (Step.refl _ _ _) fun h' _ => ?_
    cases A with
    | some a => cases hA
    | none =>
      obtain ⟨A', cap', he, h3, h4, h5⟩ := hr1
      rcases h5 with h5 | ⟨a, ha, _⟩
      · subst h5; exact Rd.nil _ _ _ _ _ (by decide)
      · subst ha; injection he with he1; cases he1
  · repeat (first|refine q1 ?_|refine q2 ?_|refine q3 ?_|refine q4 ?_|refine q5 ?_|refine q6 ?_|refine w_seq ?_|refine w_region ?_|refine w_ops_nil ?_|refine w_skip ?_|refine w_block ?_|refine w_blk ?_|refine q7 ?_|refine q8 ?_|refine q9 ?_)
    refine w_buildSl 2 El.qn [] rfl rfl rfl rfl fun h1 v1 hs1 ho1 => ?_
    replace hr1 := hr1.go hs1
    repeat (first|refine q1 ?_|refine q2 ?_|refine q3 ?_|refine q4 ?_|refine q5 ?_|refine q6 ?_|refine w_seq ?_|refine w_region ?_|refine w_ops_nil ?_|refine w_skip ?_|refine w_block ?_|refine w_blk ?_|refine q7 ?_|refine q8 ?_|refine q9 ?_)
    refine w_append ho1 hr1 rfl rfl rfl (by decide) (by simp; omega) rfl fun h2 v2 hs2 ho2 => ?_
    repeat (first|refine q1 ?_|refine q2 ?_|refine q3 ?_|refine q4 ?_|refine q5 ?_|refine q6 ?_|refine w_seq ?_|refine w_region ?_|refine w_ops_nil ?_|refine w_skip ?_|refine w_block ?_|refine w_blk ?_|refine q7 ?_|refine q8 ?_|refine q9 ?_)
    obtain ⟨h4, hw4, hs4, hr4⟩ := ho2.freeze (by decide)
    rw [← hw4]
    refine w_retG (res1 rfl rfl) (((hs1.mono (by simp) (by simp)).go hs2).go hs4) fun h' hv' => ?_
    exact hr4.view hv' (.inl rfl)

theorem Clone_rc (x : List Rc) (g : G) {v : Value} (hr : Rdx g El.rc v x) (hx : x.length ≤ 1000000) :
    Fn Try.prog 64 [v] g [] fun u h => Rd h 0 El.rc u x := by
  refine enterG [] [2] Try.func64 rfl Try.ntmps64 rfl (by simp) fun g1 hv ho => ?_
  obtain ⟨c', hc', hr1⟩ := hr.seen hv ho (by simp)
  obtain ⟨A, cap, rfl, h1, h2⟩ := hr1.len
  repeat (first|refine q1 ?_|refine q2 ?_|refine q3 ?_|refine q4 ?_|refine q5 ?_|refine q6 ?_|refine w_seq ?_|refine w_region ?_|refine w_ops_nil ?_|refine w_skip ?_|refine w_block ?_|refine w_blk ?_|refine q7 ?_|refine q8 ?_|refine q9 ?_)
  refine w_slEqNil rfl rfl rfl ?_
  repeat (first|refine q1 ?_|refine q2 ?_|refine q3 ?_|refine q4 ?_|refine q5 ?_|refine q6 ?_|refine w_seq ?_|refine w_region ?_|refine w_ops_nil ?_|refine w_skip ?_|refine w_block ?_|refine w_blk ?_|refine q7 ?_|refine q8 ?_|refine q9 ?_)
  refine w_cond rfl (fun hA => ?_) (fun hA => ?_)
  · repeat (first|refine q1 ?_|refine q2 ?_|refine q3 ?_|refine q4 ?_|refine q5 ?_|refine q6 ?_|refine w_seq ?_|refine w_region ?_|refine w_ops_nil ?_|refine w_skip ?_|refine w_block ?_|refine w_blk ?_|refine q7 ?_|refine q8 ?_|refine q9 ?_)
    refine w_retG (res1 rfl rfl) (Step.refl _ _ _) fun h' _ => ?_
    cases A with
    | some a => cases hA
    | none =>
      obtain ⟨A', cap', he, h3, h4, h5⟩ := hr1
      rcases h5 with h5 | ⟨a, ha, _⟩
      · subst h5; exact Rd.nil _ _ _ _ _ (by decide)
      · subst ha; injection he with he1; cases he1
  · repeat (first|refine q1 ?_|refine q2 ?_|refine q3 ?_|refine q4 ?_|refine q5 ?_|refine q6 ?_|refine w_seq ?_|refine w_region ?_|refine w_ops_nil ?_|refine w_skip ?_|refine w_block ?_|refine w_blk ?_|refine q7 ?_|refine q8 ?_|refine q9 ?_)
    refine w_buildSl 2 El.rc [] rfl rfl rfl rfl fun h1 v1 hs1 ho1 => ?_
    replace hr1 := hr1.go hs1
    repeat (first|refine q1 ?_|refine q2 ?_|refine q3 ?_|refine q4 ?_|refine q5 ?_|refine q6 ?_|refine w_seq ?_|refine w_region ?_|refine w_ops_nil ?_|refine w_skip ?_|refine w_block ?_|refine w_blk ?_|refine q7 ?_|refine q8 ?_|refine q9 ?_)
    refine w_append ho1 hr1 rfl rfl rfl (by decide) (by simp; omega) rfl fun h2 v2 hs2 ho2 => ?_
    repeat (first|refine q1 ?_|refine q2 ?_|refine q3 ?_|refine q4 ?_|refine q5 ?_|refine q6 ?_|refine w_seq ?_|refine w_region ?_|refine w_ops_nil ?_|refine w_skip ?_|refine w_block ?_|refine w_blk ?_|refine q7 ?_|refine q8 ?_|refine q9 ?_)
    obtain ⟨h4, hw4, hs4, hr4⟩ := ho2.freeze (by decide)
    rw [← hw4]
    refine w_retG (res1 rfl rfl) (((hs1.mono (by simp) (by simp)).go hs2).go hs4) fun h' hv' => ?_
    exact hr4.view hv' (.inl rfl)


def msZ : List Value := [.int .i64 0, .int .i64 0, .slice none 0 0, .slice none 0 0, .slice none 0 0, .slice none 0 0]
theorem Rdx.nil {α : Type} (g : G) (E : El α) : Rdx g E (.slice none 0 0) [] := ⟨0, by decide, Rd.nil _ _ _ none 0 (by decide)⟩
theorem MsR.view0 {g h : G} {vs : List Value} {m : Ms} {vq va vu vm : Value} (he : vs = [.int .i64 m.id, .int .i64 m.flags, vq, va, vu, vm]) (h1 : Rd g 0 El.qn vq m.asked) (h2 : Rd g 0 El.rc va m.ans) (h3 : Rd g 0 El.rc vu m.auth) (h4 : Rd g 0 El.rc vm m.more) {M : List Nat} (hv : View M g h) : MsR h vs m :=
  ⟨vq, va, vu, vm, he, (h1.view hv (.inl rfl)).x, (h2.view hv (.inl rfl)).x, (h3.view hv (.inl rfl)).x, (h4.view hv (.inl rfl)).x⟩
def askM (id : Int) (name : List UInt8) (kind : Int) : Ms := ⟨id, 256, [⟨name, kind, 1⟩], [], [], []⟩
def ansM (q : Ms) (l : List Rc) : Ms := ⟨q.id, 33152, q.asked, l, [], []⟩

theorem wire_Ask (id : Int) (name : List UInt8) (kind : Int) (g : G) : Fn Try.prog 29 [.int .i64 id, str name, .int .i64 kind] g [] fun u h => ∃ vs, u = .agg vs.toArray ∧ MsR h vs (askM id name kind) := by
  refine enterG [] [41] Try.func29 rfl Try.ntmps29 rfl (by simp) fun g1 hv ho => ?_
  repeat (first|refine q1 ?_|refine q2 ?_|refine q3 ?_|refine q4 ?_|refine q5 ?_|refine q6 ?_|refine w_seq ?_|refine w_region ?_|refine w_ops_nil ?_|refine w_skip ?_|refine w_block ?_|refine w_blk ?_|refine q7 ?_|refine q8 ?_|refine q9 ?_)
  refine w_alloc 41 (vs := msZ) rfl rfl fun h1 b1 hs1 hc1 => ?_
  have hst : Step [] [41] g1 h1 := hs1.nil
  repeat (first|refine q1 ?_|refine q2 ?_|refine q3 ?_|refine q4 ?_|refine q5 ?_|refine q6 ?_|refine w_seq ?_|refine w_region ?_|refine w_ops_nil ?_|refine w_skip ?_|refine w_block ?_|refine w_blk ?_|refine q7 ?_|refine q8 ?_|refine q9 ?_)
  refine w_build (vs := [(0, str name), (1, .int .i64 kind), (2, .int .i64 1)]) (r := El.qn.enc ⟨name, kind, 1⟩) rfl rfl rfl ?_
  refine w_buildSlR El.qn [⟨name, kind, 1⟩] rfl rfl rfl rfl fun h2 v2 hs2 hr2 => ?_
  replace hst := hst.go hs2; replace hc1 := hc1.go hs2
  have h1' := hr2.isSl
  obtain ⟨A, cap, rfl, _⟩ := hr2.isSl
  refine w_build (vs := [(0, .int .i64 id), (1, .int .i64 256), (2, .slice A 1 cap)]) (r := [.int .i64 id, .int .i64 256, .slice A 1 cap, .slice none 0 0, .slice none 0 0, .slice none 0 0]) rfl rfl rfl ?_
  refine w_store (us := [.int .i64 id, .int .i64 256, .slice A 1 cap, .slice none 0 0, .slice none 0 0, .slice none 0 0]) (vs' := [.int .i64 id, .int .i64 256, .slice A 1 cap, .slice none 0 0, .slice none 0 0, .slice none 0 0]) hc1 rfl rfl rfl rfl (by
    intro u hu
    simp only [List.mem_cons, List.not_mem_nil, or_false] at hu
    rcases hu with rfl | rfl | rfl | rfl | rfl | rfl <;> rfl) (show 0 + 6 ≤ 6 by decide) rfl fun h3 hb3 hs3 hc3 => ?_
  replace hst := hst.go hs3; replace hr2 := hr2.go hs3
  repeat (first|refine q1 ?_|refine q2 ?_|refine q3 ?_|refine q4 ?_|refine q5 ?_|refine q6 ?_|refine w_seq ?_|refine w_region ?_|refine w_ops_nil ?_|refine w_skip ?_|refine w_block ?_|refine w_blk ?_|refine q7 ?_|refine q8 ?_|refine q9 ?_)
  exact w_retG (resCs hc3 rfl rfl rfl rfl) hst fun h' hv' => ⟨_, rfl, MsR.view0 (m := askM id name kind) rfl hr2 (Rd.nil _ _ _ none 0 (by decide)) (Rd.nil _ _ _ none 0 (by decide)) (Rd.nil _ _ _ none 0 (by decide)) hv'⟩

theorem wire_Answer (m : Ms) (l : List Rc) (vs : List Value) (v : Value) (g : G) (hm : MsR g vs m) (hr : Rdx g El.rc v l) (hl1 : m.asked.length ≤ 1000000) (hl2 : l.length ≤ 1000000) : Fn Try.prog 30 [.agg vs.toArray, v] g [] fun u h => ∃ vs, u = .agg vs.toArray ∧ MsR h vs (ansM m l) := by
  refine enterG [] [41, 42] Try.func30 rfl Try.ntmps30 rfl (by simp) fun g1 hv ho => ?_
  replace hm := hm.seen hv ho
  replace hr := hr.seen hv ho
  obtain ⟨vq, va, vu, vm, rfl, hq, ha, hu, hmo⟩ := hm
  let cs : List Value := [.int .i64 m.id, .int .i64 m.flags, vq, va, vu, vm]
  repeat (first|refine q1 ?_|refine q2 ?_|refine q3 ?_|refine q4 ?_|refine q5 ?_|refine q6 ?_|refine w_seq ?_|refine w_region ?_|refine w_ops_nil ?_|refine w_skip ?_|refine w_block ?_|refine w_blk ?_|refine q7 ?_|refine q8 ?_|refine q9 ?_)
  refine w_box 41 (vs := cs) rfl rfl rfl fun h1 b1 hs1 hc1 => ?_
  have hst : Step [] [41, 42] g1 h1 := hs1.nil
  replace hq := hq.go hs1; replace hr := hr.go hs1
  repeat (first|refine q1 ?_|refine q2 ?_|refine q3 ?_|refine q4 ?_|refine q5 ?_|refine q6 ?_|refine w_seq ?_|refine w_region ?_|refine w_ops_nil ?_|refine w_skip ?_|refine w_block ?_|refine w_blk ?_|refine q7 ?_|refine q8 ?_|refine q9 ?_)
  refine w_alloc 42 (vs := msZ) rfl rfl fun h2 b2 hs2 hc2 => ?_
  replace hst := hst.go hs2; replace hq := hq.go hs2; replace hr := hr.go hs2; replace hc1 := hc1.go hs2
  repeat (first|refine q1 ?_|refine q2 ?_|refine q3 ?_|refine q4 ?_|refine q5 ?_|refine q6 ?_|refine w_seq ?_|refine w_region ?_|refine w_ops_nil ?_|refine w_skip ?_|refine w_block ?_|refine w_blk ?_|refine q7 ?_|refine q8 ?_|refine q9 ?_)
  refine d_begin none [42] (by kernel_rfl) fun g2 hsd => ?_
  replace hst := hst.go hsd; replace hq := hq.go hsd; replace hr := hr.go hsd; replace hc1 := hc1.go hsd; replace hc2 := hc2.go hsd
  refine d_read 0 calm_ret rfl (by kernel_rfl) rfl  (fun h hs => r_fldA (by decide) rfl) ?_
  refine d_read 1 calm_ret rfl (by kernel_rfl) rfl  (fun h hs => r_load1 (v := .int .i64 m.id) (hc1.go hs) rfl rfl rfl) ?_
  refine d_read 2 calm_ret rfl (by kernel_rfl) rfl  (fun h hs => r_fldA (by decide) rfl) ?_
  refine d_read 3 calm_ret rfl (by kernel_rfl) rfl  (fun h hs => r_load1 (v := vq) (hc1.go hs) rfl rfl rfl) ?_
  refine d_pure 5 calm_ret rfl (by kernel_rfl) rfl rfl ?_
  refine d_exec1 4 (by kernel_rfl) rfl ?_
  refine w_callF rfl (Clone_qn m.asked g2 hq hl1) rfl fun w1 h3 hs3 hr3 => ?_
  repeat (first|refine q1 ?_|refine q2 ?_|refine q3 ?_|refine q4 ?_|refine q5 ?_|refine q6 ?_|refine w_seq ?_|refine w_region ?_|refine w_ops_nil ?_|refine w_skip ?_|refine w_block ?_|refine w_blk ?_|refine q7 ?_|refine q8 ?_|refine q9 ?_)
  refine d_next (fun _ => ⟨h3, rfl, hs3.nil⟩) ?_
  refine d_exec1 6 (by kernel_rfl) rfl ?_
  refine w_callF rfl (Clone_rc l h3 (hr.go hs3) hl2) rfl fun w2 h4 hs4 hr4 => ?_
  replace hr3 := hr3.go hs4
  have hs0 := hs3.go hs4
  have hss : Step [] [42] g2 h4 := hs0.nil
  replace hst := hst.go hs0; replace hc2 := hc2.go hs0
  obtain ⟨A1, c1, rfl, _⟩ := hr3.isSl
  obtain ⟨A2, c2, rfl, _⟩ := hr4.isSl
  repeat (first|refine q1 ?_|refine q2 ?_|refine q3 ?_|refine q4 ?_|refine q5 ?_|refine q6 ?_|refine w_seq ?_|refine w_region ?_|refine w_ops_nil ?_|refine w_skip ?_|refine w_block ?_|refine w_blk ?_|refine q7 ?_|refine q8 ?_|refine q9 ?_)
  refine d_next (fun _ => ⟨h4, rfl, hss⟩) ?_
  refine d_exec1 7 (by kernel_rfl) rfl ?_
  refine w_build (vs := [(0, .int .i64 m.id), (1, .int .i64 33152), (2, .slice A1 m.asked.length c1), (3, .slice A2 l.length c2)]) (r := [.int .i64 m.id, .int .i64 33152, .slice A1 m.asked.length c1, .slice A2 l.length c2, .slice none 0 0, .slice none 0 0]) rfl rfl rfl ?_
  repeat (first|refine q1 ?_|refine q2 ?_|refine q3 ?_|refine q4 ?_|refine q5 ?_|refine q6 ?_|refine w_seq ?_|refine w_region ?_|refine w_ops_nil ?_|refine w_skip ?_|refine w_block ?_|refine w_blk ?_|refine q7 ?_|refine q8 ?_|refine q9 ?_)
  refine d_next (fun _ => ⟨h4, rfl, hss⟩) ?_
  refine d_exec1 8 (by kernel_rfl) rfl ?_
  refine w_store (us := [.int .i64 m.id, .int .i64 33152, .slice A1 m.asked.length c1, .slice A2 l.length c2, .slice none 0 0, .slice none 0 0]) (vs' := [.int .i64 m.id, .int .i64 33152, .slice A1 m.asked.length c1, .slice A2 l.length c2, .slice none 0 0, .slice none 0 0]) hc2 rfl rfl rfl rfl (by
    intro u hu
    simp only [List.mem_cons, List.not_mem_nil, or_false] at hu
    rcases hu with rfl | rfl | rfl | rfl | rfl | rfl <;> rfl) (show 0 + 6 ≤ 6 by decide) rfl fun h5 hb5 hs5 hc5 => ?_
  replace hst := hst.go hs5; replace hr3 := hr3.go hs5; replace hr4 := hr4.go hs5
  repeat (first|refine q1 ?_|refine q2 ?_|refine q3 ?_|refine q4 ?_|refine q5 ?_|refine q6 ?_|refine w_seq ?_|refine w_region ?_|refine w_ops_nil ?_|refine w_skip ?_|refine w_block ?_|refine w_blk ?_|refine q7 ?_|refine q8 ?_|refine q9 ?_)
  refine d_next (fun _ => ⟨h5, rfl, hss.go hs5⟩) ?_
  refine d_done (by kernel_rfl) ?_
  repeat (first|refine q1 ?_|refine q2 ?_|refine q3 ?_|refine q4 ?_|refine q5 ?_|refine q6 ?_|refine w_seq ?_|refine w_region ?_|refine w_ops_nil ?_|refine w_skip ?_|refine w_block ?_|refine w_blk ?_|refine q7 ?_|refine q8 ?_|refine q9 ?_)
  exact w_retG (resCs hc5 rfl rfl rfl rfl) hst fun h' hv' => ⟨_, rfl, MsR.view0 (m := ansM m l) rfl hr3 hr4 (Rd.nil _ _ _ none 0 (by decide)) (Rd.nil _ _ _ none 0 (by decide)) hv'⟩

theorem law09_lives (g : G) : Fn Try.prog 20 [] g [] fun u _ => u = .bool true := by
  refine enterG [] [] Try.func20 rfl Try.ntmps20 rfl (by simp) fun g1 hv ho => ?_
  repeat (first|refine q1 ?_|refine q2 ?_|refine q3 ?_|refine q4 ?_|refine q5 ?_|refine q6 ?_|refine w_seq ?_|refine w_region ?_|refine w_ops_nil ?_|refine w_skip ?_|refine w_block ?_|refine w_blk ?_|refine q7 ?_|refine q8 ?_|refine q9 ?_)
  refine w_callF rfl (wire_Ask 1 [97] 1 g1) rfl fun u h1 hs1 hR => ?_
  obtain ⟨vs, rfl, hm⟩ := hR
  have hmay : msMay (askM 1 [97] 1) := by decide
  have hW : msW (askM 1 [97] 1) = [0, 1, 1, 0, 0, 1, 0, 0, 0, 0, 0, 0, 1, 97, 0, 0, 1, 0, 1] := by decide
  refine w_callF rfl (wire_Write (askM 1 [97] 1) vs h1 hm ⟨by simp [askM], by simp [askM], by simp [askM], by simp [askM]⟩ (fun _ => ⟨by rw [hW]; decide, by decide⟩)) rfl fun u h2 hs2 hR => ?_
  obtain ⟨v, rfl, hr⟩ := hR
  have hB : wrB (askM 1 [97] 1) = ([0, 1, 1, 0, 0, 1, 0, 0, 0, 0, 0, 0, 1, 97, 0, 0, 1, 0, 1], 0) := by
    rw [wrB, if_pos hmay, hW, if_pos (by decide)]
  rw [hB] at hr ⊢
  dsimp only at hr ⊢
  repeat (first|refine q1 ?_|refine q2 ?_|refine q3 ?_|refine q4 ?_|refine q5 ?_|refine q6 ?_|refine w_seq ?_|refine w_region ?_|refine w_ops_nil ?_|refine w_skip ?_|refine w_block ?_|refine w_blk ?_|refine q7 ?_|refine q8 ?_|refine q9 ?_)
  refine w_buildSlR El.u8 [0, 1, 1, 0, 0, 1, 0, 0, 0, 0, 0, 0, 1, 97, 0, 0, 1, 0, 1] rfl rfl rfl rfl fun h5 v5 hs5 hr5 => ?_
  repeat (first|refine q1 ?_|refine q2 ?_|refine q3 ?_|refine q4 ?_|refine q5 ?_|refine q6 ?_|refine w_seq ?_|refine w_region ?_|refine w_ops_nil ?_|refine w_skip ?_|refine w_block ?_|refine w_blk ?_|refine q7 ?_|refine q8 ?_|refine q9 ?_)
  refine w_callF rfl (ref08_SameBytes _ _ h5 (hr.go hs5) hr5) rfl fun u h6 hs6 hu => ?_
  subst hu
  repeat (first|refine q1 ?_|refine q2 ?_|refine q3 ?_|refine q4 ?_|refine q5 ?_|refine q6 ?_|refine w_seq ?_|refine w_region ?_|refine w_ops_nil ?_|refine w_skip ?_|refine w_block ?_|refine w_blk ?_|refine q7 ?_|refine q8 ?_|refine q9 ?_)
  exact w_retG (res1 rfl rfl) (((hs1.go hs2).go hs5).go hs6) fun h' _ => congrArg Value.bool (by decide)
end Go.Proofs.Ytnfokdhgajanpaa
