/- Grants: the program's Put, whole; Until. No statement of the seat is proved here. -/
import Derived.Test.YtkgbodmlmeholaaGrF
set_option linter.unusedVariables false
set_option linter.unusedSimpArgs false
namespace Go.Proofs.Ytkgbodmlmeholaa
open Go
attribute [local irreducible] Wp
/-- What is made ready for a key: what is left, who was let go, whether one was. -/
def preP (room now : Int) (k : Ky) (m : BkM) : BkM × Ky × Bool := if (mget k m).isSome = false ∧ (m.length : Int) = room then mkRoom now m else (m, Ky.zero, false)
def putP (room t now : Int) (k : Ky) (m : BkM) : BkM × Ky × Bool := if t ≤ now then (m, Ky.zero, false) else (mput k t (preP room now k m).1, (preP room now k m).2)

theorem Book_PutF (p : Nat) (room : Int) (m : BkM) (k : Ky) (until_ now : Int) (g : G) (hb : Bk g p room m) (hnd : Nd m) (hl : m.length ≤ 1000) (hr1 : 1 ≤ room) :
    Fn Try.prog 13 [.pointer (some ⟨p, 0, none⟩), El.ky.val k, .int .i64 until_, .int .i64 now] g [51, 52] fun u h => u = .tuple #[El.ky.val (putP room until_ now k m).2.1, .bool (putP room until_ now k m).2.2] ∧ Bk h p room (putP room until_ now k m).1 := by
  refine enterG [51, 52] [41, 42, 43] Try.func13 rfl Try.ntmps13 rfl (by simp) fun g1 hv ho => ?_
  replace hb := hb.view hv
  repeat (first|refine q1 ?_|refine q2 ?_|refine q3 ?_|refine q4 ?_|refine q5 ?_|refine q6 ?_|refine w_seq ?_|refine w_region ?_|refine w_ops_nil ?_|refine w_skip ?_|refine w_block ?_|refine w_blk ?_|refine q7 ?_|refine q8 ?_|refine q9 ?_)
  refine w_box 41 (vs := El.ky.enc k) rfl rfl rfl fun h1 b1 hs1 hc1 => ?_
  have hst : Step [] [51, 52, 41, 42, 43] g1 h1 := hs1.nil
  replace hb := hb.go hs1
  repeat (first|refine q1 ?_|refine q2 ?_|refine q3 ?_|refine q4 ?_|refine q5 ?_|refine q6 ?_|refine w_seq ?_|refine w_region ?_|refine w_ops_nil ?_|refine w_skip ?_|refine w_block ?_|refine w_blk ?_|refine q7 ?_|refine q8 ?_|refine q9 ?_)
  refine w_alloc 42 (vs := El.ky.enc Ky.zero) rfl rfl fun h2 b2 hs2 hc2 => ?_
  replace hst := hst.go hs2; replace hc1 := hc1.go hs2; replace hb := hb.go hs2
  repeat (first|refine q1 ?_|refine q2 ?_|refine q3 ?_|refine q4 ?_|refine q5 ?_|refine q6 ?_|refine w_seq ?_|refine w_region ?_|refine w_ops_nil ?_|refine w_skip ?_|refine w_block ?_|refine w_blk ?_|refine q7 ?_|refine q8 ?_|refine q9 ?_)
  refine w_condP rfl (fun hle => ?_) (fun hle => ?_)
  · have e : putP room until_ now k m = (m, Ky.zero, false) := by unfold putP; rw [if_pos hle]
    repeat (first|refine q1 ?_|refine q2 ?_|refine q3 ?_|refine q4 ?_|refine q5 ?_|refine q6 ?_|refine w_seq ?_|refine w_region ?_|refine w_ops_nil ?_|refine w_skip ?_|refine w_block ?_|refine w_blk ?_|refine q7 ?_|refine q8 ?_|refine q9 ?_)
    refine w_build (vs := []) (r := El.ky.enc Ky.zero) rfl rfl rfl ?_
    refine w_store (us := El.ky.enc Ky.zero) (vs' := El.ky.enc Ky.zero) hc2 rfl rfl rfl rfl (El.ky.flat _) (show 0 + 24 ≤ 24 by decide) rfl fun h3 hb3 hs3 hc3 => ?_
    replace hst := hst.go hs3; replace hb := hb.go hs3
    repeat (first|refine q1 ?_|refine q2 ?_|refine q3 ?_|refine q4 ?_|refine q5 ?_|refine q6 ?_|refine w_seq ?_|refine w_region ?_|refine w_ops_nil ?_|refine w_skip ?_|refine w_block ?_|refine w_blk ?_|refine q7 ?_|refine q8 ?_|refine q9 ?_)
    refine w_retG (resCs1 hc3 rfl rfl rfl rfl rfl) hst fun h' hv' => ?_
    rw [e]
    exact ⟨rfl, hb.view hv'⟩
  have e : putP room until_ now k m = (mput k until_ (preP room now k m).1, (preP room now k m).2) := by unfold putP; rw [if_neg hle]
  rw [e]
  repeat (first|refine q1 ?_|refine q2 ?_|refine q3 ?_|refine q4 ?_|refine q5 ?_|refine q6 ?_|refine w_seq ?_|refine w_region ?_|refine w_ops_nil ?_|refine w_skip ?_|refine w_block ?_|refine w_blk ?_|refine q7 ?_|refine q8 ?_|refine q9 ?_)
  refine w_alloc 43 (vs := El.ky.enc Ky.zero) rfl rfl fun h3 b3 hs3 hc3 => ?_
  replace hst := hst.go hs3; replace hc1 := hc1.go hs3; replace hc2 := hc2.go hs3; replace hb := hb.go hs3
  have hbk := hb
  obtain ⟨q, hcb, hmq⟩ := hb
  repeat (first|refine q1 ?_|refine q2 ?_|refine q3 ?_|refine q4 ?_|refine q5 ?_|refine q6 ?_|refine w_seq ?_|refine w_region ?_|refine w_ops_nil ?_|refine w_skip ?_|refine w_blk ?_|refine q7 ?_|refine q8 ?_|refine q9 ?_)
  refine d_begin none [] (by kernel_rfl) fun g2 hsd => ?_
  replace hmq := hmq.step hsd (by simp) (by simp)
  replace hst := hst.go hsd; replace hc1 := hc1.go hsd; replace hc2 := hc2.go hsd; replace hc3 := hc3.go hsd; replace hcb := hcb.go hsd; replace hbk := hbk.go hsd
  refine d_pure 0 calm_ret rfl (by kernel_rfl) rfl rfl ?_; refine d_pure 1 calm_ret rfl (by kernel_rfl) rfl rfl ?_
  refine d_read 2 calm_ret rfl (by kernel_rfl) rfl  (fun h hs => r_fldA (by decide) rfl) ?_
  refine d_read 3 calm_ret rfl (by kernel_rfl) rfl  (fun h hs => r_load1 (v := .map (some q)) (hcb.go hs) rfl rfl rfl) ?_
  refine d_read 4 calm_ret rfl (by kernel_rfl) rfl  (fun h hs => r_load (us := El.ky.enc k) (hc1.go hs) rfl rfl rfl (fun e => by cases e)) ?_
  refine d_exec1 5 (by kernel_rfl) rfl ?_
  refine w_lookupOk (key := k) hmq rfl rfl rfl ?_
  repeat (first|refine q1 ?_|refine q2 ?_|refine q3 ?_|refine q4 ?_|refine q5 ?_|refine q6 ?_|refine w_seq ?_|refine w_region ?_|refine w_ops_nil ?_|refine w_skip ?_|refine w_block ?_|refine w_blk ?_|refine q7 ?_|refine q8 ?_|refine q9 ?_)
  refine d_next (fun _ => ⟨g2, rfl, Step.refl _ _ _⟩) ?_
  refine d_pure 6 calm_ret rfl (by kernel_rfl) rfl rfl ?_; refine d_pure 7 calm_ret rfl (by kernel_rfl) rfl rfl ?_; refine d_pure 8 calm_ret rfl (by kernel_rfl) rfl rfl ?_; refine d_pure 9 calm_ret rfl (by kernel_rfl) rfl rfl ?_; refine d_pure 10 calm_ret rfl (by kernel_rfl) rfl rfl ?_
  refine d_done (by kernel_rfl) ?_
  generalize (match mget k m with | some u => El.int.val u | none => Value.int .i64 0) = gv
  repeat (first|refine q1 ?_|refine q2 ?_|refine q3 ?_|refine q4 ?_|refine q5 ?_|refine q6 ?_|refine w_seq ?_|refine w_region ?_|refine w_ops_nil ?_|refine w_skip ?_|refine w_blk ?_|refine q7 ?_|refine q8 ?_|refine q9 ?_)
  refine w_cut (ι := Bool) (fun b => [(0, .pointer (some ⟨p, 0, none⟩)), (2, .int .i64 until_), (3, .int .i64 now), (5, .pointer (some ⟨b1, 0, none⟩)), (8, .pointer (some ⟨b2, 0, none⟩)), (10, .pointer (some ⟨b3, 0, none⟩)), (11, .bool false), (40, .bool b)])
    (fun b w => b = decide ((mget k m).isSome = false ∧ (m.length : Int) = room) ∧ ∃ h : G, h.w = w ∧ Step [] [] g2 h) ?_ ?_
  · refine d_begin none [] (by kernel_rfl) fun g3 hsd3 => ?_
    have hmq3 := hmq.step hsd3 (by simp) (by simp)
    have hcb3 := hcb.go hsd3
    cases hg : (mget k m).isSome with
    | true =>
      refine d_pure 0 calm_ret rfl (by kernel_rfl) rfl rfl ?_; refine d_pure 1 calm_ret rfl (by kernel_rfl) rfl rfl ?_; refine d_pure 2 calm_ret rfl (by kernel_rfl) rfl rfl ?_
      refine d_guard_no 3 calm_ret rfl rfl rfl (by kernel_rfl) rfl ?_; refine d_guard_no 4 calm_ret rfl rfl rfl (by kernel_rfl) rfl ?_; refine d_guard_no 5 calm_ret rfl rfl rfl (by kernel_rfl) rfl ?_; refine d_guard_no 6 calm_ret rfl rfl rfl (by kernel_rfl) rfl ?_; refine d_guard_no 7 calm_ret rfl rfl rfl (by kernel_rfl) rfl ?_; refine d_guard_no 8 calm_ret rfl rfl rfl (by kernel_rfl) rfl ?_; refine d_guard_no 9 calm_ret rfl rfl rfl (by kernel_rfl) rfl ?_; refine d_guard_no 10 calm_ret rfl rfl rfl (by kernel_rfl) rfl ?_; refine d_guard_no 11 calm_ret rfl rfl rfl (by kernel_rfl) rfl ?_; refine d_guard_no 12 calm_ret rfl rfl rfl (by kernel_rfl) rfl ?_
      refine d_pure 13 calm_ret rfl (by kernel_rfl) rfl rfl ?_
      refine d_done (by kernel_rfl) ?_
      exact w_meet false ⟨by simp, g3, rfl, hsd3⟩ ⟨rfl, rfl, rfl, rfl, rfl, rfl, rfl, rfl, trivial⟩
    | false =>
      refine d_pure 0 calm_ret rfl (by kernel_rfl) rfl rfl ?_; refine d_pure 1 calm_ret rfl (by kernel_rfl) rfl rfl ?_; refine d_pure 2 calm_ret rfl (by kernel_rfl) rfl rfl ?_
      refine d_guard_pure 3 calm_ret rfl rfl rfl (by kernel_rfl) rfl rfl ?_; refine d_guard_pure 4 calm_ret rfl rfl rfl (by kernel_rfl) rfl rfl ?_
      refine d_readG 5 calm_ret rfl rfl rfl (by kernel_rfl) rfl  (fun h hs => r_fldA (by decide) rfl) ?_
      refine d_readG 6 calm_ret rfl rfl rfl (by kernel_rfl) rfl  (fun h hs => r_load1 (v := .map (some q)) (hcb3.go hs) rfl rfl rfl) ?_
      refine d_readG 7 calm_ret rfl rfl rfl (by kernel_rfl) rfl  (fun h hs => r_lenMap (hmq3.step hs (by simp) (by simp)) rfl) ?_
      refine d_guard_pure 8 calm_ret rfl rfl rfl (by kernel_rfl) rfl rfl ?_; refine d_guard_pure 9 calm_ret rfl rfl rfl (by kernel_rfl) rfl rfl ?_
      refine d_readG 10 calm_ret rfl rfl rfl (by kernel_rfl) rfl  (fun h hs => r_fldA (by decide) rfl) ?_
      refine d_readG 11 calm_ret rfl rfl rfl (by kernel_rfl) rfl  (fun h hs => r_load1 (v := .int .i64 room) (hcb3.go hs) rfl rfl rfl) ?_
      refine d_guard_pure 12 calm_ret rfl rfl rfl (by kernel_rfl) rfl rfl ?_
      by_cases hne : (m.length : Int) = room
      · refine d_known 39 (.bool true) rfl (congrArg Value.bool (decide_eq_true hne)) ?_
        refine d_pure 13 calm_ret rfl (by kernel_rfl) rfl rfl ?_
        refine d_done (by kernel_rfl) ?_
        exact w_meet true ⟨by simp [hne], g3, rfl, hsd3⟩ ⟨rfl, rfl, rfl, rfl, rfl, rfl, rfl, rfl, trivial⟩
      · refine d_known 39 (.bool false) rfl (congrArg Value.bool (decide_eq_false hne)) ?_
        refine d_pure 13 calm_ret rfl (by kernel_rfl) rfl rfl ?_
        refine d_done (by kernel_rfl) ?_
        exact w_meet false ⟨by simp [hne], g3, rfl, hsd3⟩ ⟨rfl, rfl, rfl, rfl, rfl, rfl, rfl, rfl, trivial⟩
  clear hmq hcb
  rintro b _ ⟨hbe, h, rfl, hs0⟩
  replace hst := hst.go hs0; replace hc1 := hc1.go hs0; replace hc2 := hc2.go hs0; replace hc3 := hc3.go hs0; replace hbk := hbk.go hs0
  clear hs0
  obtain ⟨r, hr⟩ : ∃ r, preP room now k m = r := ⟨_, rfl⟩
  rw [hr]
  refine w_cut (ι := Unit) (fun _ => [(0, .pointer (some ⟨p, 0, none⟩)), (2, .int .i64 until_), (5, .pointer (some ⟨b1, 0, none⟩)), (8, .pointer (some ⟨b2, 0, none⟩)), (10, .pointer (some ⟨b3, 0, none⟩)), (11, .bool r.2.2)])
    (fun _ w => ∃ h2 : G, h2.w = w ∧ Step [] [51, 52, 43] h h2 ∧ Bk h2 p room r.1 ∧ Cell h2 43 b3 30 (El.ky.enc r.2.1)) ?_ ?_
  · refine w_cond rfl (fun hx => ?_) (fun hx => ?_)
    · rw [hx] at hbe
      have hfull := of_decide_eq_true hbe.symm
      have er : r = mkRoom now m := by rw [← hr]; unfold preP; rw [if_pos hfull]
      have hne : m ≠ [] := fun e => by rw [e] at hfull; have := hfull.2; simp only [List.length_nil] at this; omega
      repeat (first|refine q1 ?_|refine q2 ?_|refine q3 ?_|refine q4 ?_|refine q5 ?_|refine q6 ?_|refine w_seq ?_|refine w_region ?_|refine w_ops_nil ?_|refine w_skip ?_|refine w_block ?_|refine w_blk ?_|refine q7 ?_|refine q8 ?_|refine q9 ?_)
      refine w_callF (vs := [.pointer (some ⟨p, 0, none⟩), .int .i64 now]) rfl (Book_makeRoom p room m now h hbk hnd hl hne) rfl fun u h4 hs4 hu => ?_
      obtain ⟨rfl, hbk⟩ := hu
      rw [← er] at hbk ⊢
      replace hc3 := hc3.go hs4
      repeat (first|refine q1 ?_|refine q2 ?_|refine q3 ?_|refine q4 ?_|refine q5 ?_|refine q6 ?_|refine w_seq ?_|refine w_region ?_|refine w_ops_nil ?_|refine w_skip ?_|refine w_block ?_|refine w_blk ?_|refine q7 ?_|refine q8 ?_|refine q9 ?_)
      refine w_store (us := El.ky.enc r.2.1) (vs' := El.ky.enc r.2.1) hc3 rfl rfl rfl rfl (El.ky.flat _) (show 0 + 24 ≤ 24 by decide) rfl fun h5 hb5 hs5 hc3 => ?_
      replace hbk := hbk.go hs5
      repeat (first|refine q1 ?_|refine q2 ?_|refine q3 ?_|refine q4 ?_|refine q5 ?_|refine q6 ?_|refine w_seq ?_|refine w_region ?_|refine w_ops_nil ?_|refine w_skip ?_|refine w_block ?_|refine w_blk ?_|refine q7 ?_|refine q8 ?_|refine q9 ?_)
      exact w_meet () ⟨h5, rfl, (hs4.mono (by simp) (by simp)).trans (hs5.mono (by simp) (by simp)), hbk, hc3⟩ ⟨rfl, rfl, rfl, rfl, rfl, rfl, trivial⟩
    · rw [hx] at hbe
      have hfull := of_decide_eq_false hbe.symm
      have er : r = (m, Ky.zero, false) := by rw [← hr]; unfold preP; rw [if_neg hfull]
      repeat (first|refine q1 ?_|refine q2 ?_|refine q3 ?_|refine q4 ?_|refine q5 ?_|refine q6 ?_|refine w_seq ?_|refine w_region ?_|refine w_ops_nil ?_|refine w_skip ?_|refine w_block ?_|refine w_blk ?_|refine q7 ?_|refine q8 ?_|refine q9 ?_)
      exact w_meet () ⟨h, rfl, Step.refl _ _ _, by rw [er]; exact hbk, by rw [er]; exact hc3⟩ ⟨rfl, rfl, rfl, rfl, rfl, by rw [er]; rfl, trivial⟩
  clear hbk hc3
  rintro _ _ ⟨h2, rfl, hs0, hbk, hc3⟩
  replace hst := hst.trans (hs0.mono (by simp) (by simp))
  replace hc1 := hc1.go hs0; replace hc2 := hc2.go hs0
  clear hs0
  obtain ⟨q, hcb, hmq⟩ := hbk
  repeat (first|refine q1 ?_|refine q2 ?_|refine q3 ?_|refine q4 ?_|refine q5 ?_|refine q6 ?_|refine w_seq ?_|refine w_region ?_|refine w_ops_nil ?_|refine w_skip ?_|refine w_blk ?_|refine q7 ?_|refine q8 ?_|refine q9 ?_)
  refine d_begin none [52] (by kernel_rfl) fun g3 hsd3 => ?_
  replace hmq := hmq.step hsd3 (by simp) (by simp)
  replace hst := hst.go hsd3; replace hc1 := hc1.go hsd3; replace hc2 := hc2.go hsd3; replace hc3 := hc3.go hsd3; replace hcb := hcb.go hsd3
  refine d_pure 0 calm_ret rfl (by kernel_rfl) rfl rfl ?_; refine d_pure 1 calm_ret rfl (by kernel_rfl) rfl rfl ?_
  refine d_read 2 calm_ret rfl (by kernel_rfl) rfl  (fun h hs => r_fldA (by decide) rfl) ?_
  refine d_read 3 calm_ret rfl (by kernel_rfl) rfl  (fun h hs => r_load1 (v := .map (some q)) (hcb.go hs) rfl rfl rfl) ?_
  refine d_read 4 calm_ret rfl (by kernel_rfl) rfl  (fun h hs => r_load (us := El.ky.enc k) (hc1.go hs) rfl rfl rfl (fun e => by cases e)) ?_
  refine d_pure 5 calm_ret rfl (by kernel_rfl) rfl rfl ?_
  refine d_exec1 6 (by kernel_rfl) rfl ?_
  refine w_mapSet (key := k) (u := until_) hmq rfl rfl rfl fun h4 hb4 hs4 hm4 => ?_
  have hsb := hs4
  replace hst := hst.go hs4; replace hc2 := hc2.go hs4; replace hc3 := hc3.go hs4; replace hcb := hcb.go hs4
  repeat (first|refine q1 ?_|refine q2 ?_|refine q3 ?_|refine q4 ?_|refine q5 ?_|refine q6 ?_|refine w_seq ?_|refine w_region ?_|refine w_ops_nil ?_|refine w_skip ?_|refine w_block ?_|refine w_blk ?_|refine q7 ?_|refine q8 ?_|refine q9 ?_)
  refine d_next (fun _ => ⟨h4, rfl, hsb⟩) ?_
  refine d_done (by kernel_rfl) ?_
  repeat (first|refine q1 ?_|refine q2 ?_|refine q3 ?_|refine q4 ?_|refine q5 ?_|refine q6 ?_|refine w_seq ?_|refine w_region ?_|refine w_ops_nil ?_|refine w_skip ?_|refine w_block ?_|refine w_blk ?_|refine q7 ?_|refine q8 ?_|refine q9 ?_)
  refine w_loadS (us := El.ky.enc r.2.1) hc3 rfl rfl rfl rfl rfl ?_
  repeat (first|refine q1 ?_|refine q2 ?_|refine q3 ?_|refine q4 ?_|refine q5 ?_|refine q6 ?_|refine w_seq ?_|refine w_region ?_|refine w_ops_nil ?_|refine w_skip ?_|refine w_block ?_|refine w_blk ?_|refine q7 ?_|refine q8 ?_|refine q9 ?_)
  refine w_store (us := El.ky.enc r.2.1) (vs' := El.ky.enc r.2.1) hc2 rfl rfl rfl rfl (El.ky.flat _) (show 0 + 24 ≤ 24 by decide) rfl fun h5 hb5 hs5 hc5 => ?_
  have hB : Bk h5 p room (mput k until_ r.1) := ⟨q, hcb.go hs5, hm4.step hs5 (by simp) (by simp)⟩
  repeat (first|refine q1 ?_|refine q2 ?_|refine q3 ?_|refine q4 ?_|refine q5 ?_|refine q6 ?_|refine w_seq ?_|refine w_region ?_|refine w_ops_nil ?_|refine w_skip ?_|refine w_block ?_|refine w_blk ?_|refine q7 ?_|refine q8 ?_|refine q9 ?_)
  exact w_retG (resCs1 hc5 rfl rfl rfl rfl rfl) (hst.go hs5) fun h' hv' => ⟨rfl, hB.view hv'⟩

theorem Book_Until (p : Nat) (room : Int) (m : BkM) (k : Ky) (g : G) (hb : Bk g p room m) :
    Fn Try.prog 37 [.pointer (some ⟨p, 0, none⟩), El.ky.val k] g [] fun u _ => u = .tuple #[.int .i64 (tvOf m k), .bool (mget k m).isSome] := by
  obtain ⟨q, hcb, hmq⟩ := hb
  refine enterG [] [41] Try.func37 rfl Try.ntmps37 rfl (by simp) fun g1 hv ho => ?_
  obtain ⟨c, _, hcb⟩ := hcb.seen hv ho (by simp)
  obtain ⟨c2, hcl, hmq⟩ := hmq.seen hv ho (by simp)
  repeat (first|refine q1 ?_|refine q2 ?_|refine q3 ?_|refine q4 ?_|refine q5 ?_|refine q6 ?_|refine w_seq ?_|refine w_region ?_|refine w_ops_nil ?_|refine w_skip ?_|refine w_block ?_|refine w_blk ?_|refine q7 ?_|refine q8 ?_|refine q9 ?_)
  refine w_box 41 (vs := El.ky.enc k) rfl rfl rfl fun h1 b1 hs1 hc1 => ?_
  have hst : Step [] [41] g1 h1 := hs1.nil
  replace hcb := hcb.go hs1
  replace hmq := hmq.step hs1 (by simp) (by simp)
  repeat (first|refine q1 ?_|refine q2 ?_|refine q3 ?_|refine q4 ?_|refine q5 ?_|refine q6 ?_|refine w_seq ?_|refine w_region ?_|refine w_ops_nil ?_|refine w_skip ?_|refine w_blk ?_|refine q7 ?_|refine q8 ?_|refine q9 ?_)
  refine d_begin none [] (by kernel_rfl) fun g2 hsd => ?_
  replace hmq := hmq.step hsd (by simp) (by simp)
  replace hst := hst.go hsd; replace hc1 := hc1.go hsd; replace hcb := hcb.go hsd
  refine d_pure 0 calm_ret rfl (by kernel_rfl) rfl rfl ?_; refine d_pure 1 calm_ret rfl (by kernel_rfl) rfl rfl ?_
  refine d_read 2 calm_ret rfl (by kernel_rfl) rfl  (fun h hs => r_fldA (by decide) rfl) ?_
  refine d_read 3 calm_ret rfl (by kernel_rfl) rfl  (fun h hs => r_load1 (v := .map (some q)) (hcb.go hs) rfl rfl rfl) ?_
  refine d_read 4 calm_ret rfl (by kernel_rfl) rfl  (fun h hs => r_load (us := El.ky.enc k) (hc1.go hs) rfl rfl rfl (fun e => by cases e)) ?_
  refine d_exec1 5 (by kernel_rfl) rfl ?_
  refine w_lookupOk (key := k) hmq rfl rfl rfl ?_
  repeat (first|refine q1 ?_|refine q2 ?_|refine q3 ?_|refine q4 ?_|refine q5 ?_|refine q6 ?_|refine w_seq ?_|refine w_region ?_|refine w_ops_nil ?_|refine w_skip ?_|refine w_block ?_|refine w_blk ?_|refine q7 ?_|refine q8 ?_|refine q9 ?_)
  refine d_next (fun _ => ⟨g2, rfl, Step.refl _ _ _⟩) ?_
  refine d_pure 6 calm_ret rfl (by kernel_rfl) rfl rfl ?_; refine d_pure 7 calm_ret rfl (by kernel_rfl) rfl rfl ?_; refine d_pure 8 calm_ret rfl (by kernel_rfl) rfl rfl ?_; refine d_pure 9 calm_ret rfl (by kernel_rfl) rfl rfl ?_; refine d_pure 10 calm_ret rfl (by kernel_rfl) rfl rfl ?_
  refine d_done (by kernel_rfl) ?_
  repeat (first|refine q1 ?_|refine q2 ?_|refine q3 ?_|refine q4 ?_|refine q5 ?_|refine q6 ?_|refine w_seq ?_|refine w_region ?_|refine w_ops_nil ?_|refine w_skip ?_|refine w_block ?_|refine w_blk ?_|refine q7 ?_|refine q8 ?_|refine q9 ?_)
  exact w_retG (res2 rfl rfl rfl) hst fun h' _ => by unfold tvOf; cases mget k m <;> rfl
end Go.Proofs.Ytkgbodmlmeholaa
