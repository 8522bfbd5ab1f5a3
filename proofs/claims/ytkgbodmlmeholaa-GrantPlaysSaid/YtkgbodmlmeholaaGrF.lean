/- Grants: the program's Put, whole. No statement of the seat is proved here. -/
import Derived.Test.YtkgbodmlmeholaaGrE
set_option linter.unusedVariables false
set_option linter.unusedSimpArgs false
namespace Go.Proofs.Ytkgbodmlmeholaa
open Go
attribute [local irreducible] Wp
def overB (now : Int) (m : BkM) : BkM := m.filter fun x => !(decide (x.2 ≤ now))
def tvOf (m : BkM) (k : Ky) : Int := (mget k m).getD 0
/-- Room for one more: what is left, who was let go, whether one was. -/
def mkRoom (now : Int) (m : BkM) : BkM × Ky × Bool :=
  if (overB now m).length < m.length then (overB now m, Ky.zero, false)
  else match keysOf m with
    | [] => (m, Ky.zero, false)
    | b :: ks => (m.filter fun y => decide (¬ leastBy (tvOf m) b ks = y.1), leastBy (tvOf m) b ks, true)

theorem Book_makeRoom1 (k : Ky) (v now : Int) (b : Nat) (g : G) {c : Nat} (hc : Cell g c b 3 [.int .i64 now]) : Fn Try.prog 43 [El.ky.val k, .int .i64 v, .pointer (some ⟨b, 0, none⟩)] g [] fun u _ => u = .bool (decide (v ≤ now)) := by
  refine enterG [] [41] Try.func43 rfl Try.ntmps43 rfl (by simp) fun g1 hv ho => ?_
  obtain ⟨c', _, hc⟩ := hc.seen hv ho (by simp)
  repeat (first|refine q1 ?_|refine q2 ?_|refine q3 ?_|refine q4 ?_|refine q5 ?_|refine q6 ?_|refine w_seq ?_|refine w_region ?_|refine w_ops_nil ?_|refine w_skip ?_|refine w_block ?_|refine w_blk ?_|refine q7 ?_|refine q8 ?_|refine q9 ?_)
  refine w_box 41 (vs := El.ky.enc k) rfl rfl rfl fun h1 b1 hs1 hc1 => ?_
  replace hc := hc.go hs1
  repeat (first|refine q1 ?_|refine q2 ?_|refine q3 ?_|refine q4 ?_|refine q5 ?_|refine q6 ?_|refine w_seq ?_|refine w_region ?_|refine w_ops_nil ?_|refine w_skip ?_|refine w_block ?_|refine w_blk ?_|refine q7 ?_|refine q8 ?_|refine q9 ?_)
  refine w_load1 (v := .int .i64 now) hc rfl rfl rfl rfl ?_
  repeat (first|refine q1 ?_|refine q2 ?_|refine q3 ?_|refine q4 ?_|refine q5 ?_|refine q6 ?_|refine w_seq ?_|refine w_region ?_|refine w_ops_nil ?_|refine w_skip ?_|refine w_block ?_|refine w_blk ?_|refine q7 ?_|refine q8 ?_|refine q9 ?_)
  exact w_retG (res1 rfl rfl) hs1.nil fun h' _ => rfl
theorem Book_makeRoom2 (x y : Ky) (b p q : Nat) (room : Int) (m : BkM) (g : G) {c1 c2 c3 : Nat} (hc : Cell g c1 b 35 [.pointer (some ⟨p, 0, none⟩)]) (hp : Cell g c2 p 74 [.int .i64 room, .map (some q)]) (hm : MapIs g c3 q El.ky El.int m) :
    Fn Try.prog 45 [El.ky.val x, El.ky.val y, .pointer (some ⟨b, 0, none⟩)] g [] fun u _ => u = .int .i64 (cmpI (tvOf m x) (tvOf m y)) := by
  refine enterG [] [41] Try.func45 rfl Try.ntmps45 rfl (by simp) fun g1 hv ho => ?_
  obtain ⟨d1, hd1, hc⟩ := hc.seen hv ho (by simp)
  obtain ⟨d2, hd2, hp⟩ := hp.seen hv ho (by simp)
  obtain ⟨d3, hd3, hm⟩ := hm.seen hv ho (by simp)
  have hz : ∀ k : Ky, optV El.int (.int .i64 0) (mget k m) = .int .i64 (tvOf m k) := fun k => by unfold tvOf optV; cases mget k m <;> rfl
  repeat (first|refine q1 ?_|refine q2 ?_|refine q3 ?_|refine q4 ?_|refine q5 ?_|refine q6 ?_|refine w_seq ?_|refine w_region ?_|refine w_ops_nil ?_|refine w_skip ?_|refine w_block ?_|refine w_blk ?_|refine q7 ?_|refine q8 ?_|refine q9 ?_)
  refine w_box 41 (vs := El.ky.enc x) rfl rfl rfl fun h1 b1 hs1 hc1 => ?_
  have hst : Step [] [41] g1 h1 := hs1.nil
  replace hm := hm.step hs1 (by simp) (by simp)
  replace hc := hc.go hs1; replace hp := hp.go hs1
  repeat (first|refine q1 ?_|refine q2 ?_|refine q3 ?_|refine q4 ?_|refine q5 ?_|refine q6 ?_|refine w_seq ?_|refine w_region ?_|refine w_ops_nil ?_|refine w_skip ?_|refine w_block ?_|refine w_blk ?_|refine q7 ?_|refine q8 ?_|refine q9 ?_)
  refine w_box 41 (vs := El.ky.enc y) rfl rfl rfl fun h2 b2 hs2 hc2 => ?_
  replace hm := hm.step hs2 (by simp) (by simp)
  replace hst := hst.go hs2; replace hc := hc.go hs2; replace hp := hp.go hs2; replace hc1 := hc1.go hs2
  repeat (first|refine q1 ?_|refine q2 ?_|refine q3 ?_|refine q4 ?_|refine q5 ?_|refine q6 ?_|refine w_seq ?_|refine w_region ?_|refine w_ops_nil ?_|refine w_skip ?_|refine w_blk ?_|refine q7 ?_|refine q8 ?_|refine q9 ?_)
  refine d_begin none [] (by kernel_rfl) fun g2 hsd => ?_
  replace hm := hm.step hsd (by simp) (by simp)
  replace hst := hst.go hsd; replace hc := hc.go hsd; replace hp := hp.go hsd; replace hc1 := hc1.go hsd; replace hc2 := hc2.go hsd
  refine d_read 0 calm_ret rfl (by kernel_rfl) rfl  (fun h hs => r_load1 (v := .pointer (some ⟨p, 0, none⟩)) (hc.go hs) rfl rfl rfl) ?_
  refine d_pure 1 calm_ret rfl (by kernel_rfl) rfl rfl ?_
  refine d_read 2 calm_ret rfl (by kernel_rfl) rfl  (fun h hs => r_fldA (by decide) rfl) ?_
  refine d_read 3 calm_ret rfl (by kernel_rfl) rfl  (fun h hs => r_load1 (v := .map (some q)) (hp.go hs) rfl rfl rfl) ?_
  refine d_read 4 calm_ret rfl (by kernel_rfl) rfl  (fun h hs => r_load (us := El.ky.enc x) (hc1.go hs) rfl rfl rfl (fun e => by cases e)) ?_
  refine d_read 5 calm_ret rfl (by kernel_rfl) rfl  (fun h hs => r_lookup (V := El.int) (key := x) (hm.step hs (by simp) (by simp)) rfl rfl) ?_
  refine d_read 6 calm_ret rfl (by kernel_rfl) rfl  (fun h hs => r_load1 (v := .pointer (some ⟨p, 0, none⟩)) (hc.go hs) rfl rfl rfl) ?_
  refine d_pure 7 calm_ret rfl (by kernel_rfl) rfl rfl ?_
  refine d_read 8 calm_ret rfl (by kernel_rfl) rfl  (fun h hs => r_fldA (by decide) rfl) ?_
  refine d_read 9 calm_ret rfl (by kernel_rfl) rfl  (fun h hs => r_load1 (v := .map (some q)) (hp.go hs) rfl rfl rfl) ?_
  refine d_read 10 calm_ret rfl (by kernel_rfl) rfl  (fun h hs => r_load (us := El.ky.enc y) (hc2.go hs) rfl rfl rfl (fun e => by cases e)) ?_
  refine d_read 11 calm_ret rfl (by kernel_rfl) rfl  (fun h hs => r_lookup (V := El.int) (key := y) (hm.step hs (by simp) (by simp)) rfl rfl) ?_
  refine d_exec1 12 (by kernel_rfl) rfl ?_
  refine w_callF (vs := [.int .i64 (tvOf m x), .int .i64 (tvOf m y)]) (congrArg some (congr (congrArg List.cons (hz x)) (congrArg (fun v => [v]) (hz y)))) (cmp_int (tvOf m x) (tvOf m y) g2) rfl fun u h3 hs3 hu => ?_
  subst hu
  have hsb := hs3
  replace hst := hst.go hs3
  repeat (first|refine q1 ?_|refine q2 ?_|refine q3 ?_|refine q4 ?_|refine q5 ?_|refine q6 ?_|refine w_seq ?_|refine w_region ?_|refine w_ops_nil ?_|refine w_skip ?_|refine w_block ?_|refine w_blk ?_|refine q7 ?_|refine q8 ?_|refine q9 ?_)
  refine d_next (fun _ => ⟨h3, rfl, hsb⟩) ?_
  refine d_pure 13 calm_ret rfl (by kernel_rfl) rfl rfl ?_
  refine d_done (by kernel_rfl) ?_
  repeat (first|refine q1 ?_|refine q2 ?_|refine q3 ?_|refine q4 ?_|refine q5 ?_|refine q6 ?_|refine w_seq ?_|refine w_region ?_|refine w_ops_nil ?_|refine w_skip ?_|refine w_block ?_|refine w_blk ?_|refine q7 ?_|refine q8 ?_|refine q9 ?_)
  exact w_retG (res1 rfl rfl) hst fun h' _ => rfl

theorem overB_full {now : Int} {m : BkM} (h : ¬ (overB now m).length < m.length) : overB now m = m := by
  have h1 := List.length_filter_le (fun x : Ky × Int => !(decide (x.2 ≤ now))) m
  unfold overB at h ⊢
  exact List.Sublist.eq_of_length List.filter_sublist (by omega)
theorem filter_key (m : BkM) (hn : Nd m) (x : Ky) : ∀ l : List (Ky × Int × Nat), m = l.map (fun y => (y.1, y.2.1)) → (edel x l).map (fun y => (y.1, y.2.1)) = m.filter fun y => decide (¬ x = y.1) := by
  rintro l rfl
  rw [edel_filter x l (by unfold Nd at hn; rw [List.map_map] at hn; exact hn), List.filter_map]
  rfl
theorem Book_makeRoom (p : Nat) (room : Int) (m : BkM) (now : Int) (g : G) (hb : Bk g p room m) (hnd : Nd m) (hl : m.length ≤ 1000) (hne : m ≠ []) :
    Fn Try.prog 31 [.pointer (some ⟨p, 0, none⟩), .int .i64 now] g [51, 52] fun u h => u = .tuple #[El.ky.val (mkRoom now m).2.1, .bool (mkRoom now m).2.2] ∧ Bk h p room (mkRoom now m).1 := by
  refine enterG [51, 52] [41, 42, 43, 44] Try.func31 rfl Try.ntmps31 rfl (by simp) fun g1 hv ho => ?_
  replace hb := hb.view hv
  obtain ⟨q, hcb, hmq⟩ := hb
  repeat (first|refine q1 ?_|refine q2 ?_|refine q3 ?_|refine q4 ?_|refine q5 ?_|refine q6 ?_|refine w_seq ?_|refine w_region ?_|refine w_ops_nil ?_|refine w_skip ?_|refine w_block ?_|refine w_blk ?_|refine q7 ?_|refine q8 ?_|refine q9 ?_)
  refine w_box 41 (vs := [.pointer (some ⟨p, 0, none⟩)]) rfl rfl rfl fun h1 b2 hs1 hc2 => ?_
  have hst : Step [] [51, 52, 41, 42, 43, 44] g1 h1 := hs1.nil
  replace hmq := hmq.step hs1 (by simp) (by simp)
  replace hcb := hcb.go hs1
  repeat (first|refine q1 ?_|refine q2 ?_|refine q3 ?_|refine q4 ?_|refine q5 ?_|refine q6 ?_|refine w_seq ?_|refine w_region ?_|refine w_ops_nil ?_|refine w_skip ?_|refine w_block ?_|refine w_blk ?_|refine q7 ?_|refine q8 ?_|refine q9 ?_)
  refine w_box 42 (vs := [.int .i64 now]) rfl rfl rfl fun h2 b3 hs2 hc3 => ?_
  replace hmq := hmq.step hs2 (by simp) (by simp)
  replace hst := hst.go hs2; replace hcb := hcb.go hs2; replace hc2 := hc2.go hs2
  repeat (first|refine q1 ?_|refine q2 ?_|refine q3 ?_|refine q4 ?_|refine q5 ?_|refine q6 ?_|refine w_seq ?_|refine w_region ?_|refine w_ops_nil ?_|refine w_skip ?_|refine w_block ?_|refine w_blk ?_|refine q7 ?_|refine q8 ?_|refine q9 ?_)
  refine w_alloc 43 (vs := El.ky.enc Ky.zero) rfl rfl fun h3 b4 hs3 hc4 => ?_
  replace hmq := hmq.step hs3 (by simp) (by simp)
  replace hst := hst.go hs3; replace hcb := hcb.go hs3; replace hc2 := hc2.go hs3; replace hc3 := hc3.go hs3
  clear hs1 hs2 hs3
  repeat (first|refine q1 ?_|refine q2 ?_|refine q3 ?_|refine q4 ?_|refine q5 ?_|refine q6 ?_|refine w_seq ?_|refine w_region ?_|refine w_ops_nil ?_|refine w_skip ?_|refine w_block ?_|refine w_blk ?_|refine q7 ?_|refine q8 ?_|refine q9 ?_)
  refine w_load1 (v := .pointer (some ⟨p, 0, none⟩)) hc2 rfl rfl rfl rfl ?_
  repeat (first|refine q1 ?_|refine q2 ?_|refine q3 ?_|refine q4 ?_|refine q5 ?_|refine q6 ?_|refine w_seq ?_|refine w_region ?_|refine w_ops_nil ?_|refine w_skip ?_|refine w_block ?_|refine w_blk ?_|refine q7 ?_|refine q8 ?_|refine q9 ?_)
  refine w_fldA (by decide) rfl rfl ?_
  refine w_load1 (v := .map (some q)) hcb rfl rfl rfl rfl ?_
  refine w_lenMap hmq rfl rfl ?_
  repeat (first|refine q1 ?_|refine q2 ?_|refine q3 ?_|refine q4 ?_|refine q5 ?_|refine q6 ?_|refine w_seq ?_|refine w_region ?_|refine w_ops_nil ?_|refine w_skip ?_|refine w_block ?_|refine w_blk ?_|refine q7 ?_|refine q8 ?_|refine q9 ?_)
  refine w_load1 (v := .pointer (some ⟨p, 0, none⟩)) hc2 rfl rfl rfl rfl ?_
  repeat (first|refine q1 ?_|refine q2 ?_|refine q3 ?_|refine q4 ?_|refine q5 ?_|refine q6 ?_|refine w_seq ?_|refine w_region ?_|refine w_ops_nil ?_|refine w_skip ?_|refine w_block ?_|refine w_blk ?_|refine q7 ?_|refine q8 ?_|refine q9 ?_)
  refine w_fldA (by decide) rfl rfl ?_
  refine w_load1 (v := .map (some q)) hcb rfl rfl rfl rfl ?_
  repeat (first|refine q1 ?_|refine q2 ?_|refine q3 ?_|refine q4 ?_|refine q5 ?_|refine q6 ?_|refine w_seq ?_|refine w_region ?_|refine w_ops_nil ?_|refine w_skip ?_|refine w_block ?_|refine w_blk ?_|refine q7 ?_|refine q8 ?_|refine q9 ?_)
  refine w_callF rfl (maps_DeleteFunc 43 #[.pointer (some ⟨b3, 0, none⟩)] (fun _ v => decide (v ≤ now)) (fun h => ∃ c, c < 2 ∧ Cell h c b3 3 [.int .i64 now])
    (fun g h M ⟨c, hc2, hc⟩ hs hM => ⟨c, hc2, hc.step hs (fun hx => by have := hM c hx; omega) (by simp)⟩) m q h3 (fun h hv ho => by obtain ⟨c', hc', hc⟩ := hc3.seen hv ho (by simp); exact ⟨c', hc', hc⟩) hmq hnd
    (fun k v g ⟨c, _, hc⟩ => Book_makeRoom1 k v now b3 g hc)) rfl fun u h4 hs4 hmq => ?_
  have hmq : MapIs h4 52 q El.ky El.int (overB now m) := hmq
  replace hst := hst.go hs4; replace hcb := hcb.go hs4; replace hc2 := hc2.go hs4; replace hc3 := hc3.go hs4; replace hc4 := hc4.go hs4
  clear hs4
  repeat (first|refine q1 ?_|refine q2 ?_|refine q3 ?_|refine q4 ?_|refine q5 ?_|refine q6 ?_|refine w_seq ?_|refine w_region ?_|refine w_ops_nil ?_|refine w_skip ?_|refine w_block ?_|refine w_blk ?_|refine q7 ?_|refine q8 ?_|refine q9 ?_)
  refine w_load1 (v := .pointer (some ⟨p, 0, none⟩)) hc2 rfl rfl rfl rfl ?_
  repeat (first|refine q1 ?_|refine q2 ?_|refine q3 ?_|refine q4 ?_|refine q5 ?_|refine q6 ?_|refine w_seq ?_|refine w_region ?_|refine w_ops_nil ?_|refine w_skip ?_|refine w_block ?_|refine w_blk ?_|refine q7 ?_|refine q8 ?_|refine q9 ?_)
  refine w_fldA (by decide) rfl rfl ?_
  refine w_load1 (v := .map (some q)) hcb rfl rfl rfl rfl ?_
  refine w_lenMap hmq rfl rfl ?_
  repeat (first|refine q1 ?_|refine q2 ?_|refine q3 ?_|refine q4 ?_|refine q5 ?_|refine q6 ?_|refine w_seq ?_|refine w_region ?_|refine w_ops_nil ?_|refine w_skip ?_|refine w_block ?_|refine w_blk ?_|refine q7 ?_|refine q8 ?_|refine q9 ?_)
  refine w_condP rfl (fun hlt => ?_) (fun hlt => ?_)
  · have hlt : (overB now m).length < m.length := by omega
    repeat (first|refine q1 ?_|refine q2 ?_|refine q3 ?_|refine q4 ?_|refine q5 ?_|refine q6 ?_|refine w_seq ?_|refine w_region ?_|refine w_ops_nil ?_|refine w_skip ?_|refine w_block ?_|refine w_blk ?_|refine q7 ?_|refine q8 ?_|refine q9 ?_)
    refine w_build (vs := []) (r := El.ky.enc Ky.zero) rfl rfl rfl ?_
    refine w_store (us := El.ky.enc Ky.zero) (vs' := El.ky.enc Ky.zero) hc4 rfl rfl rfl rfl (El.ky.flat _) (show 0 + 24 ≤ 24 by decide) rfl fun h5 hb5 hs5 hc4 => ?_
    replace hmq := hmq.step hs5 (by simp) (by simp)
    replace hst := hst.go hs5; replace hcb := hcb.go hs5
    repeat (first|refine q1 ?_|refine q2 ?_|refine q3 ?_|refine q4 ?_|refine q5 ?_|refine q6 ?_|refine w_seq ?_|refine w_region ?_|refine w_ops_nil ?_|refine w_skip ?_|refine w_block ?_|refine w_blk ?_|refine q7 ?_|refine q8 ?_|refine q9 ?_)
    have e : mkRoom now m = (overB now m, Ky.zero, false) := by unfold mkRoom; rw [if_pos hlt]
    have hB : Bk h5 p room (mkRoom now m).1 := by rw [e]; exact ⟨q, hcb, hmq⟩
    exact w_retG (resCs1 hc4 rfl rfl rfl rfl rfl) hst fun h' hv' => ⟨by rw [e]; rfl, hB.view hv'⟩
  · have hlt : ¬ (overB now m).length < m.length := by omega
    rw [overB_full hlt] at hmq
    obtain ⟨b, ks, hks⟩ : ∃ b ks, keysOf m = b :: ks := by
      cases hk : keysOf m with
      | nil =>
        have := congrArg List.length hk
        unfold keysOf at this
        rw [srt_len, List.length_map] at this
        exact absurd (List.eq_nil_of_length_eq_zero this) hne
      | cons b ks => exact ⟨b, ks, rfl⟩
    have hB : Bk h4 p room m := ⟨q, hcb, hmq⟩
    repeat (first|refine q1 ?_|refine q2 ?_|refine q3 ?_|refine q4 ?_|refine q5 ?_|refine q6 ?_|refine w_seq ?_|refine w_region ?_|refine w_ops_nil ?_|refine w_skip ?_|refine w_block ?_|refine w_blk ?_|refine q7 ?_|refine q8 ?_|refine q9 ?_)
    refine w_load1 (v := .pointer (some ⟨p, 0, none⟩)) hc2 rfl rfl rfl rfl ?_
    refine w_callF (vs := [.pointer (some ⟨p, 0, none⟩)]) rfl (Book_Keys p room m h4 hB hl) rfl fun v h5 hs5 hr5 => ?_
    rw [hks] at hr5
    replace hmq := hmq.step hs5 (by simp) (by simp)
    replace hst := hst.go hs5; replace hcb := hcb.go hs5; replace hc2 := hc2.go hs5; replace hc4 := hc4.go hs5
    repeat (first|refine q1 ?_|refine q2 ?_|refine q3 ?_|refine q4 ?_|refine q5 ?_|refine q6 ?_|refine w_seq ?_|refine w_region ?_|refine w_ops_nil ?_|refine w_skip ?_|refine w_block ?_|refine w_blk ?_|refine q7 ?_|refine q8 ?_|refine q9 ?_)
    refine w_callF rfl (minFunc 45 #[.pointer (some ⟨b2, 0, none⟩)] (tvOf m)
      (fun h => ∃ c1 c2 c3, (c1 < 2 ∧ c2 < 2 ∧ c3 < 2) ∧ Cell h c1 b2 35 [.pointer (some ⟨p, 0, none⟩)] ∧ Cell h c2 p 74 [.int .i64 room, .map (some q)] ∧ MapIs h c3 q El.ky El.int m)
      (fun g h M ⟨c1, c2, c3, hc, a1, a2, a3⟩ hs hM => ⟨c1, c2, c3, hc, a1.step hs (fun hx => by have := hM _ hx; omega) (by simp), a2.step hs (fun hx => by have := hM _ hx; omega) (by simp), a3.step hs (fun hx => by have := hM _ hx; omega) (by simp)⟩)
      b ks v h5 hr5 (fun h hv ho => by
        obtain ⟨d1, hd1, a1⟩ := hc2.seen hv ho (by simp)
        obtain ⟨d2, hd2, a2⟩ := hcb.seen hv ho (by simp)
        obtain ⟨d3, hd3, a3⟩ := hmq.seen hv ho (by simp)
        exact ⟨d1, d2, d3, ⟨hd1, hd2, hd3⟩, a1, a2, a3⟩)
      (fun x y g ⟨c1, c2, c3, hc, a1, a2, a3⟩ => Book_makeRoom2 x y b2 p q room m g a1 a2 a3)) rfl fun u h6 hs6 hu => ?_
    subst hu
    replace hmq := hmq.step hs6 (by simp) (by simp)
    replace hst := hst.go hs6; replace hcb := hcb.go hs6; replace hc2 := hc2.go hs6; replace hc4 := hc4.go hs6
    clear hs5 hs6 hr5 hB
    obtain ⟨x, hx⟩ : ∃ x, leastBy (tvOf m) b ks = x := ⟨_, rfl⟩
    rw [hx]
    have e : mkRoom now m = (m.filter fun y => decide (¬ x = y.1), x, true) := by unfold mkRoom; rw [if_neg hlt, hks]; dsimp only; rw [hx]
    repeat (first|refine q1 ?_|refine q2 ?_|refine q3 ?_|refine q4 ?_|refine q5 ?_|refine q6 ?_|refine w_seq ?_|refine w_region ?_|refine w_ops_nil ?_|refine w_skip ?_|refine w_block ?_|refine w_blk ?_|refine q7 ?_|refine q8 ?_|refine q9 ?_)
    refine w_alloc 44 (vs := El.ky.enc Ky.zero) rfl rfl fun h7 b7 hs7 hc7 => ?_
    replace hmq := hmq.step hs7 (by simp) (by simp)
    replace hst := hst.go hs7; replace hcb := hcb.go hs7; replace hc2 := hc2.go hs7; replace hc4 := hc4.go hs7
    refine w_store (us := El.ky.enc x) (vs' := El.ky.enc x) hc7 rfl rfl rfl rfl (El.ky.flat _) (show 0 + 24 ≤ 24 by decide) rfl fun h8 hb8 hs8 hc7 => ?_
    replace hmq := hmq.step hs8 (by simp) (by simp)
    replace hst := hst.go hs8; replace hcb := hcb.go hs8; replace hc2 := hc2.go hs8; replace hc4 := hc4.go hs8
    repeat (first|refine q1 ?_|refine q2 ?_|refine q3 ?_|refine q4 ?_|refine q5 ?_|refine q6 ?_|refine w_seq ?_|refine w_region ?_|refine w_ops_nil ?_|refine w_skip ?_|refine w_blk ?_|refine q7 ?_|refine q8 ?_|refine q9 ?_)
    refine d_begin none [52] (by kernel_rfl) fun g2 hsd => ?_
    replace hmq := hmq.step hsd (by simp) (by simp)
    replace hst := hst.go hsd; replace hcb := hcb.go hsd; replace hc2 := hc2.go hsd; replace hc4 := hc4.go hsd; replace hc7 := hc7.go hsd
    refine d_read 0 calm_ret rfl (by kernel_rfl) rfl  (fun h hs => r_load1 (v := .pointer (some ⟨p, 0, none⟩)) (hc2.go hs) rfl rfl rfl) ?_
    refine d_pure 1 calm_ret rfl (by kernel_rfl) rfl rfl ?_
    refine d_read 2 calm_ret rfl (by kernel_rfl) rfl  (fun h hs => r_fldA (by decide) rfl) ?_
    refine d_read 3 calm_ret rfl (by kernel_rfl) rfl  (fun h hs => r_load1 (v := .map (some q)) (hcb.go hs) rfl rfl rfl) ?_
    refine d_read 4 calm_ret rfl (by kernel_rfl) rfl  (fun h hs => r_load (us := El.ky.enc x) (hc7.go hs) rfl rfl rfl (fun e => by cases e)) ?_
    refine d_exec1 5 (by kernel_rfl) rfl ?_
    obtain ⟨l, clock, hE, hml⟩ := hmq.ent
    refine w_delE (T := 72) (key := x) hE rfl rfl rfl fun h9 hb9 hs9 hE => ?_
    have hm9 := hE.is
    rw [filter_key m hnd x l hml] at hm9
    have hsb := hs9
    replace hst := hst.go hs9; replace hcb := hcb.go hs9; replace hc4 := hc4.go hs9; replace hc7 := hc7.go hs9
    repeat (first|refine q1 ?_|refine q2 ?_|refine q3 ?_|refine q4 ?_|refine q5 ?_|refine q6 ?_|refine w_seq ?_|refine w_region ?_|refine w_ops_nil ?_|refine w_skip ?_|refine w_block ?_|refine w_blk ?_|refine q7 ?_|refine q8 ?_|refine q9 ?_)
    refine d_next (fun _ => ⟨h9, rfl, hsb⟩) ?_
    refine d_done (by kernel_rfl) ?_
    repeat (first|refine q1 ?_|refine q2 ?_|refine q3 ?_|refine q4 ?_|refine q5 ?_|refine q6 ?_|refine w_seq ?_|refine w_region ?_|refine w_ops_nil ?_|refine w_skip ?_|refine w_block ?_|refine w_blk ?_|refine q7 ?_|refine q8 ?_|refine q9 ?_)
    refine w_loadS (us := El.ky.enc x) hc7 rfl rfl rfl rfl rfl ?_
    repeat (first|refine q1 ?_|refine q2 ?_|refine q3 ?_|refine q4 ?_|refine q5 ?_|refine q6 ?_|refine w_seq ?_|refine w_region ?_|refine w_ops_nil ?_|refine w_skip ?_|refine w_block ?_|refine w_blk ?_|refine q7 ?_|refine q8 ?_|refine q9 ?_)
    refine w_store (us := El.ky.enc x) (vs' := El.ky.enc x) hc4 rfl rfl rfl rfl (El.ky.flat _) (show 0 + 24 ≤ 24 by decide) rfl fun h10 hb10 hs10 hc4 => ?_
    replace hm9 := hm9.step hs10 (by simp) (by simp)
    replace hst := hst.go hs10; replace hcb := hcb.go hs10
    repeat (first|refine q1 ?_|refine q2 ?_|refine q3 ?_|refine q4 ?_|refine q5 ?_|refine q6 ?_|refine w_seq ?_|refine w_region ?_|refine w_ops_nil ?_|refine w_skip ?_|refine w_block ?_|refine w_blk ?_|refine q7 ?_|refine q8 ?_|refine q9 ?_)
    have hB : Bk h10 p room (mkRoom now m).1 := by rw [e]; exact ⟨q, hcb, hm9⟩
    exact w_retG (resCs1 hc4 rfl rfl rfl rfl rfl) hst fun h' hv' => ⟨by rw [e]; rfl, hB.view hv'⟩
end Go.Proofs.Ytkgbodmlmeholaa
