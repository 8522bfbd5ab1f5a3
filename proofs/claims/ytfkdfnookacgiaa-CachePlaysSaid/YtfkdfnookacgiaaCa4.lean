/- Caches: the program's Until, Get, Put. No statement of the seat is proved here. -/
import Derived.Test.YtfkdfnookacgiaaCa3
set_option linter.unusedVariables false
set_option linter.unusedSimpArgs false
namespace Go.Proofs.Ytfkdfnookacgiaa
open Go
attribute [local irreducible] Wp
/-- What is made ready for a key. -/
def mkRoomC (now : Int) (m : CaM) : CaM × Ck × Bool :=
  if (overC now m).length < m.length then (overC now m, Ck.zero, false)
  else match keysC m with
    | [] => (m, Ck.zero, false)
    | b :: ks => (m.filter fun y => decide (¬ leastBy (tvC m) b ks = y.1), leastBy (tvC m) b ks, true)
def preC (room now : Int) (k : Ck) (m : CaM) : CaM × Ck × Bool := if (mget k m).isSome = false ∧ (m.length : Int) = room then mkRoomC now m else (m, Ck.zero, false)

theorem Cache_Until (p : Nat) (room : Int) (m : CaM) (name : List UInt8) (t : Int) (g : G) (hb : Cm g p room m) (hn : name.length ≤ 1000000) :
    Fn Try.prog 18 [.pointer (some ⟨p, 0, none⟩), str name, .int .i64 t] g [] fun u _ => u = .tuple #[.int .i64 (tvC m ⟨lowB name, t⟩), .bool (mget ⟨lowB name, t⟩ m).isSome] := by
  obtain ⟨q, hcb, hmq, _⟩ := hb
  refine enterG [] [41] Try.func18 rfl Try.ntmps18 rfl (by simp) fun g1 hv ho => ?_
  obtain ⟨c, _, hcb⟩ := hcb.seen hv ho (by simp)
  obtain ⟨c2, hcl, hmq⟩ := hmq.seen hv ho (by simp)
  generalize hk : (⟨lowB name, t⟩ : Ck) = k
  repeat (first|refine q1 ?_|refine q2 ?_|refine q3 ?_|refine q4 ?_|refine q5 ?_|refine q6 ?_|refine w_seq ?_|refine w_region ?_|refine w_ops_nil ?_|refine w_skip ?_|refine w_blk ?_|refine q7 ?_|refine q8 ?_|refine q9 ?_)
  refine w_cut (ι := Nat) (fun b8 => [(8, .pointer (some ⟨b8, 0, none⟩)), (9, .bool (mget k m).isSome)])
    (fun b8 w => ∃ h : G, h.w = w ∧ Step [] [41] g1 h ∧ Cell h 41 b8 76 (El.cv.enc (getD m k))) ?_ ?_
  · refine d_begin none [41] (by kernel_rfl) fun g2 hsd => ?_
    have hsd0 : Step [] [41] g1 g2 := hsd.nil
    have hss : Step [] [41] g2 g2 := Step.refl _ _ _
    replace hmq := hmq.step hsd (by simp) (by simp)
    replace hcb := hcb.go hsd
    refine d_pure 0 calm_ret rfl (by kernel_rfl) rfl rfl ?_; refine d_pure 1 calm_ret rfl (by kernel_rfl) rfl rfl ?_
    refine d_read 2 calm_ret rfl (by kernel_rfl) rfl  (fun h hs => r_fldA (by decide) rfl) ?_
    refine d_read 3 calm_ret rfl (by kernel_rfl) rfl  (fun h hs => r_load1 (v := .map (some q)) (hcb.go hs) rfl rfl rfl) ?_
    refine d_pure 4 calm_ret rfl (by kernel_rfl) rfl rfl ?_; refine d_pure 5 calm_ret rfl (by kernel_rfl) rfl rfl ?_
    refine d_exec2 6 11 (by kernel_rfl) rfl rfl ?_ ?_
    · refine w_callF (vs := [str name, .int .i64 t]) rfl (cache_key name t g2 hn) rfl fun u h1 hs1 hu => ?_
      rw [hk] at hu
      subst hu
      replace hss := hss.go hs1
      repeat (first|refine q1 ?_|refine q2 ?_|refine q3 ?_|refine q4 ?_|refine q5 ?_|refine q6 ?_|refine w_seq ?_|refine w_region ?_|refine w_ops_nil ?_|refine w_skip ?_|refine w_block ?_|refine w_blk ?_|refine q7 ?_|refine q8 ?_|refine q9 ?_)
      refine d_next (fun _ => ⟨h1, rfl, hss⟩) ?_
      refine d_read 7 calm_ret rfl (by kernel_rfl) rfl  (fun h hs => r_lookupOk (V := El.cv) (key := k) (hmq.step hs (by simp; omega) (by simp)) rfl rfl) ?_
      refine d_known 18 (.tuple #[El.cv.val (getD m k), .bool (mget k m).isSome]) rfl (by rw [← opt_cv]; rfl) ?_
      refine d_pure 8 calm_ret rfl (by kernel_rfl) rfl rfl ?_; refine d_pure 9 calm_ret rfl (by kernel_rfl) rfl rfl ?_; refine d_pure 10 calm_ret rfl (by kernel_rfl) rfl rfl ?_
      refine d_exec1 11 (by kernel_rfl) rfl ?_
      refine w_alloc 41 (vs := El.cv.enc Cv.zero) rfl rfl fun h2 b8 hs2 hc8 => ?_
      replace hss := hss.go hs2
      repeat (first|refine q1 ?_|refine q2 ?_|refine q3 ?_|refine q4 ?_|refine q5 ?_|refine q6 ?_|refine w_seq ?_|refine w_region ?_|refine w_ops_nil ?_|refine w_skip ?_|refine w_block ?_|refine w_blk ?_|refine q7 ?_|refine q8 ?_|refine q9 ?_)
      refine d_next (fun _ => ⟨h2, rfl, hss⟩) ?_
      refine d_exec1 12 (by kernel_rfl) rfl ?_
      refine w_store (us := El.cv.enc (getD m k)) (vs' := El.cv.enc (getD m k)) hc8 rfl rfl rfl rfl (El.cv.flat _) (show 0 + 2 ≤ 2 by decide) rfl fun h3 hb3 hs3 hc8 => ?_
      replace hss := hss.go hs3
      repeat (first|refine q1 ?_|refine q2 ?_|refine q3 ?_|refine q4 ?_|refine q5 ?_|refine q6 ?_|refine w_seq ?_|refine w_region ?_|refine w_ops_nil ?_|refine w_skip ?_|refine w_block ?_|refine w_blk ?_|refine q7 ?_|refine q8 ?_|refine q9 ?_)
      refine d_next (fun _ => ⟨h3, rfl, hss⟩) ?_
      refine d_pure 13 calm_ret rfl (by kernel_rfl) rfl rfl ?_
      refine d_done (by kernel_rfl) ?_
      exact w_meet b8 ⟨h3, rfl, hsd0.go hss, hc8⟩ ⟨rfl, rfl, trivial⟩
    · refine w_alloc 41 (vs := El.cv.enc Cv.zero) rfl rfl fun h2 b8 hs2 hc8 => ?_
      replace hss := hss.go hs2
      repeat (first|refine q1 ?_|refine q2 ?_|refine q3 ?_|refine q4 ?_|refine q5 ?_|refine q6 ?_|refine w_seq ?_|refine w_region ?_|refine w_ops_nil ?_|refine w_skip ?_|refine w_block ?_|refine w_blk ?_|refine q7 ?_|refine q8 ?_|refine q9 ?_)
      refine d_next (fun _ => ⟨h2, rfl, hss⟩) ?_
      refine d_exec1 6 (by kernel_rfl) rfl ?_
      refine w_callF (vs := [str name, .int .i64 t]) rfl (cache_key name t h2 hn) rfl fun u h1 hs1 hu => ?_
      rw [hk] at hu
      subst hu
      replace hss := hss.go hs1
      replace hc8 := hc8.go hs1
      repeat (first|refine q1 ?_|refine q2 ?_|refine q3 ?_|refine q4 ?_|refine q5 ?_|refine q6 ?_|refine w_seq ?_|refine w_region ?_|refine w_ops_nil ?_|refine w_skip ?_|refine w_block ?_|refine w_blk ?_|refine q7 ?_|refine q8 ?_|refine q9 ?_)
      refine d_next (fun _ => ⟨h1, rfl, hss⟩) ?_
      refine d_read 7 calm_ret rfl (by kernel_rfl) rfl  (fun h hs => r_lookupOk (V := El.cv) (key := k) (hmq.step hs (by simp; omega) (by simp)) rfl rfl) ?_
      refine d_known 18 (.tuple #[El.cv.val (getD m k), .bool (mget k m).isSome]) rfl (by rw [← opt_cv]; rfl) ?_
      refine d_pure 8 calm_ret rfl (by kernel_rfl) rfl rfl ?_; refine d_pure 9 calm_ret rfl (by kernel_rfl) rfl rfl ?_; refine d_pure 10 calm_ret rfl (by kernel_rfl) rfl rfl ?_
      refine d_exec1 12 (by kernel_rfl) rfl ?_
      refine w_store (us := El.cv.enc (getD m k)) (vs' := El.cv.enc (getD m k)) hc8 rfl rfl rfl rfl (El.cv.flat _) (show 0 + 2 ≤ 2 by decide) rfl fun h3 hb3 hs3 hc8 => ?_
      replace hss := hss.go hs3
      repeat (first|refine q1 ?_|refine q2 ?_|refine q3 ?_|refine q4 ?_|refine q5 ?_|refine q6 ?_|refine w_seq ?_|refine w_region ?_|refine w_ops_nil ?_|refine w_skip ?_|refine w_block ?_|refine w_blk ?_|refine q7 ?_|refine q8 ?_|refine q9 ?_)
      refine d_next (fun _ => ⟨h3, rfl, hss⟩) ?_
      refine d_pure 13 calm_ret rfl (by kernel_rfl) rfl rfl ?_
      refine d_done (by kernel_rfl) ?_
      exact w_meet b8 ⟨h3, rfl, hsd0.go hss, hc8⟩ ⟨rfl, rfl, trivial⟩
  rintro b8 _ ⟨h, rfl, hst, hc8⟩
  repeat (first|refine q1 ?_|refine q2 ?_|refine q3 ?_|refine q4 ?_|refine q5 ?_|refine q6 ?_|refine w_seq ?_|refine w_region ?_|refine w_ops_nil ?_|refine w_skip ?_|refine w_block ?_|refine w_blk ?_|refine q7 ?_|refine q8 ?_|refine q9 ?_)
  refine w_fldA (by decide) rfl rfl ?_
  refine w_load1 (v := .int .i64 (getD m k).till) hc8 rfl rfl rfl rfl ?_
  repeat (first|refine q1 ?_|refine q2 ?_|refine q3 ?_|refine q4 ?_|refine q5 ?_|refine q6 ?_|refine w_seq ?_|refine w_region ?_|refine w_ops_nil ?_|refine w_skip ?_|refine w_block ?_|refine w_blk ?_|refine q7 ?_|refine q8 ?_|refine q9 ?_)
  exact w_retG (res2 rfl rfl rfl) hst fun h' _ => rfl

theorem Cache_Get (p : Nat) (room : Int) (m : CaM) (name : List UInt8) (t now : Int) (g : G) (hb : Cm g p room m) (hn : name.length ≤ 1000000) (hal : ∀ x ∈ m, x.2.addrs.length ≤ 1000000) :
    Fn Try.prog 20 [.pointer (some ⟨p, 0, none⟩), str name, .int .i64 t, .int .i64 now] g [53] fun u h => ∃ v, u = .tuple #[v, .bool (hitC m ⟨lowB name, t⟩ now)] ∧ Own h 53 El.ad 51 v (addrsC m ⟨lowB name, t⟩ now) := by
  obtain ⟨q, hcb, hmq, hrd⟩ := hb
  refine enterG [53] [41] Try.func20 rfl Try.ntmps20 rfl (by simp) fun g1 hv ho => ?_
  generalize hk : (⟨lowB name, t⟩ : Ck) = k
  replace hrd : Rdx g1 El.ad (getD m k).sl.1 (getD m k).addrs := by
    unfold getD
    cases hg : mget k m with
    | none => exact ⟨0, by omega, Rd.nil _ _ _ none 0 (by decide)⟩
    | some x =>
      have hmem : (k, x) ∈ m := by
        clear hmq hrd hal hcb
        induction m with
        | nil => cases hg
        | cons a m ih =>
          rw [mget] at hg
          split at hg
          · rename_i e; injection hg with hg; rw [e, ← hg]; exact List.mem_cons_self
          · exact List.mem_cons_of_mem _ (ih hg)
      obtain ⟨c', hc', h⟩ := (hrd _ hmem).seen hv ho (by simp)
      exact ⟨c', hc', h⟩
  have hal2 : (getD m k).addrs.length ≤ 1000000 := by
    unfold getD
    cases hg : mget k m with
    | none => simp [Cv.zero]
    | some x =>
      have hmem : (k, x) ∈ m := by
        clear hmq hrd hal hcb
        induction m with
        | nil => cases hg
        | cons a m ih =>
          rw [mget] at hg
          split at hg
          · rename_i e; injection hg with hg; rw [e, ← hg]; exact List.mem_cons_self
          · exact List.mem_cons_of_mem _ (ih hg)
      exact hal _ hmem
  obtain ⟨c, hcl0, hcb⟩ := hcb.seen hv ho (by simp)
  obtain ⟨c2, hcl, hmq⟩ := hmq.seen hv ho (by simp)
  have hhit := hit_split m k now
  repeat (first|refine q1 ?_|refine q2 ?_|refine q3 ?_|refine q4 ?_|refine q5 ?_|refine q6 ?_|refine w_seq ?_|refine w_region ?_|refine w_ops_nil ?_|refine w_skip ?_|refine w_blk ?_|refine q7 ?_|refine q8 ?_|refine q9 ?_)
  refine w_cut (ι := Nat) (fun b8 => [(3, .int .i64 now), (10, .pointer (some ⟨b8, 0, none⟩)), (11, .bool (mget k m).isSome)])
    (fun b8 w => ∃ h : G, h.w = w ∧ Step [] [41] g1 h ∧ Cell h 41 b8 76 (El.cv.enc (getD m k))) ?_ ?_
  · refine d_begin none [41] (by kernel_rfl) fun g2 hsd => ?_
    have hsd0 : Step [] [41] g1 g2 := hsd.nil
    have hss : Step [] [41] g2 g2 := Step.refl _ _ _
    replace hmq := hmq.step hsd (by simp) (by simp)
    replace hcb := hcb.go hsd
    refine d_pure 0 calm_ret rfl (by kernel_rfl) rfl rfl ?_; refine d_pure 1 calm_ret rfl (by kernel_rfl) rfl rfl ?_
    refine d_read 2 calm_ret rfl (by kernel_rfl) rfl  (fun h hs => r_fldA (by decide) rfl) ?_
    refine d_read 3 calm_ret rfl (by kernel_rfl) rfl  (fun h hs => r_load1 (v := .map (some q)) (hcb.go hs) rfl rfl rfl) ?_
    refine d_pure 4 calm_ret rfl (by kernel_rfl) rfl rfl ?_; refine d_pure 5 calm_ret rfl (by kernel_rfl) rfl rfl ?_
    refine d_exec2 6 11 (by kernel_rfl) rfl rfl ?_ ?_
    · refine w_callF (vs := [str name, .int .i64 t]) rfl (cache_key name t g2 hn) rfl fun u h1 hs1 hu => ?_
      rw [hk] at hu
      subst hu
      replace hss := hss.go hs1
      repeat (first|refine q1 ?_|refine q2 ?_|refine q3 ?_|refine q4 ?_|refine q5 ?_|refine q6 ?_|refine w_seq ?_|refine w_region ?_|refine w_ops_nil ?_|refine w_skip ?_|refine w_block ?_|refine w_blk ?_|refine q7 ?_|refine q8 ?_|refine q9 ?_)
      refine d_next (fun _ => ⟨h1, rfl, hss⟩) ?_
      refine d_read 7 calm_ret rfl (by kernel_rfl) rfl  (fun h hs => r_lookupOk (V := El.cv) (key := k) (hmq.step hs (by simp; omega) (by simp)) rfl rfl) ?_
      refine d_known 20 (.tuple #[El.cv.val (getD m k), .bool (mget k m).isSome]) rfl (by rw [← opt_cv]; rfl) ?_
      refine d_pure 8 calm_ret rfl (by kernel_rfl) rfl rfl ?_; refine d_pure 9 calm_ret rfl (by kernel_rfl) rfl rfl ?_; refine d_pure 10 calm_ret rfl (by kernel_rfl) rfl rfl ?_
      refine d_exec1 11 (by kernel_rfl) rfl ?_
      refine w_alloc 41 (vs := El.cv.enc Cv.zero) rfl rfl fun h2 b8 hs2 hc8 => ?_
      replace hss := hss.go hs2
      repeat (first|refine q1 ?_|refine q2 ?_|refine q3 ?_|refine q4 ?_|refine q5 ?_|refine q6 ?_|refine w_seq ?_|refine w_region ?_|refine w_ops_nil ?_|refine w_skip ?_|refine w_block ?_|refine w_blk ?_|refine q7 ?_|refine q8 ?_|refine q9 ?_)
      refine d_next (fun _ => ⟨h2, rfl, hss⟩) ?_
      refine d_exec1 12 (by kernel_rfl) rfl ?_
      refine w_store (us := El.cv.enc (getD m k)) (vs' := El.cv.enc (getD m k)) hc8 rfl rfl rfl rfl (El.cv.flat _) (show 0 + 2 ≤ 2 by decide) rfl fun h3 hb3 hs3 hc8 => ?_
      replace hss := hss.go hs3
      repeat (first|refine q1 ?_|refine q2 ?_|refine q3 ?_|refine q4 ?_|refine q5 ?_|refine q6 ?_|refine w_seq ?_|refine w_region ?_|refine w_ops_nil ?_|refine w_skip ?_|refine w_block ?_|refine w_blk ?_|refine q7 ?_|refine q8 ?_|refine q9 ?_)
      refine d_next (fun _ => ⟨h3, rfl, hss⟩) ?_
      refine d_pure 13 calm_ret rfl (by kernel_rfl) rfl rfl ?_
      refine d_done (by kernel_rfl) ?_
      exact w_meet b8 ⟨h3, rfl, hsd0.go hss, hc8⟩ ⟨rfl, rfl, rfl, trivial⟩
    · refine w_alloc 41 (vs := El.cv.enc Cv.zero) rfl rfl fun h2 b8 hs2 hc8 => ?_
      replace hss := hss.go hs2
      repeat (first|refine q1 ?_|refine q2 ?_|refine q3 ?_|refine q4 ?_|refine q5 ?_|refine q6 ?_|refine w_seq ?_|refine w_region ?_|refine w_ops_nil ?_|refine w_skip ?_|refine w_block ?_|refine w_blk ?_|refine q7 ?_|refine q8 ?_|refine q9 ?_)
      refine d_next (fun _ => ⟨h2, rfl, hss⟩) ?_
      refine d_exec1 6 (by kernel_rfl) rfl ?_
      refine w_callF (vs := [str name, .int .i64 t]) rfl (cache_key name t h2 hn) rfl fun u h1 hs1 hu => ?_
      rw [hk] at hu
      subst hu
      replace hss := hss.go hs1
      replace hc8 := hc8.go hs1
      repeat (first|refine q1 ?_|refine q2 ?_|refine q3 ?_|refine q4 ?_|refine q5 ?_|refine q6 ?_|refine w_seq ?_|refine w_region ?_|refine w_ops_nil ?_|refine w_skip ?_|refine w_block ?_|refine w_blk ?_|refine q7 ?_|refine q8 ?_|refine q9 ?_)
      refine d_next (fun _ => ⟨h1, rfl, hss⟩) ?_
      refine d_read 7 calm_ret rfl (by kernel_rfl) rfl  (fun h hs => r_lookupOk (V := El.cv) (key := k) (hmq.step hs (by simp; omega) (by simp)) rfl rfl) ?_
      refine d_known 20 (.tuple #[El.cv.val (getD m k), .bool (mget k m).isSome]) rfl (by rw [← opt_cv]; rfl) ?_
      refine d_pure 8 calm_ret rfl (by kernel_rfl) rfl rfl ?_; refine d_pure 9 calm_ret rfl (by kernel_rfl) rfl rfl ?_; refine d_pure 10 calm_ret rfl (by kernel_rfl) rfl rfl ?_
      refine d_exec1 12 (by kernel_rfl) rfl ?_
      refine w_store (us := El.cv.enc (getD m k)) (vs' := El.cv.enc (getD m k)) hc8 rfl rfl rfl rfl (El.cv.flat _) (show 0 + 2 ≤ 2 by decide) rfl fun h3 hb3 hs3 hc8 => ?_
      replace hss := hss.go hs3
      repeat (first|refine q1 ?_|refine q2 ?_|refine q3 ?_|refine q4 ?_|refine q5 ?_|refine q6 ?_|refine w_seq ?_|refine w_region ?_|refine w_ops_nil ?_|refine w_skip ?_|refine w_block ?_|refine w_blk ?_|refine q7 ?_|refine q8 ?_|refine q9 ?_)
      refine d_next (fun _ => ⟨h3, rfl, hss⟩) ?_
      refine d_pure 13 calm_ret rfl (by kernel_rfl) rfl rfl ?_
      refine d_done (by kernel_rfl) ?_
      exact w_meet b8 ⟨h3, rfl, hsd0.go hss, hc8⟩ ⟨rfl, rfl, rfl, trivial⟩
  rintro b8 _ ⟨h, rfl, hst, hc8⟩
  replace hrd := hrd.go hst
  have hst' : Step [] [53, 41] g1 h := hst.mono (by simp) (by simp)
  cases hsm : (mget k m).isSome with
  | false =>
    rw [hsm] at hhit
    have hh : hitC m k now = false := by rw [hhit]; rfl
    repeat (first|refine q1 ?_|refine q2 ?_|refine q3 ?_|refine q4 ?_|refine q5 ?_|refine q6 ?_|refine w_seq ?_|refine w_region ?_|refine w_ops_nil ?_|refine w_skip ?_|refine w_block ?_|refine w_blk ?_|refine q7 ?_|refine q8 ?_|refine q9 ?_)
    refine w_retG (res2 rfl rfl rfl) hst' fun h' _ => ⟨.slice none 0 0, by rw [hh], ?_⟩
    unfold addrsC; rw [hh]
    exact Own.nil _ _ _ _
  | true =>
    rw [hsm] at hhit
    have hh : hitC m k now = decide (now < (getD m k).till) := by rw [hhit]; simp
    repeat (first|refine q1 ?_|refine q2 ?_|refine q3 ?_|refine q4 ?_|refine q5 ?_|refine q6 ?_|refine w_seq ?_|refine w_region ?_|refine w_ops_nil ?_|refine w_skip ?_|refine w_block ?_|refine w_blk ?_|refine q7 ?_|refine q8 ?_|refine q9 ?_)
    refine w_fldA (by decide) rfl rfl ?_
    repeat (first|refine q1 ?_|refine q2 ?_|refine q3 ?_|refine q4 ?_|refine q5 ?_|refine q6 ?_|refine w_seq ?_|refine w_region ?_|refine w_ops_nil ?_|refine w_skip ?_|refine w_block ?_|refine w_blk ?_|refine q7 ?_|refine q8 ?_|refine q9 ?_)
    refine w_load1 (v := .int .i64 (getD m k).till) hc8 rfl rfl rfl rfl ?_
    repeat (first|refine q1 ?_|refine q2 ?_|refine q3 ?_|refine q4 ?_|refine q5 ?_|refine q6 ?_|refine w_seq ?_|refine w_region ?_|refine w_ops_nil ?_|refine w_skip ?_|refine w_block ?_|refine w_blk ?_|refine q7 ?_|refine q8 ?_|refine q9 ?_)
    refine w_condP rfl (fun hx => ?_) (fun hx => ?_)
    · have hh2 : hitC m k now = false := by rw [hh]; exact decide_eq_false (by omega)
      repeat (first|refine q1 ?_|refine q2 ?_|refine q3 ?_|refine q4 ?_|refine q5 ?_|refine q6 ?_|refine w_seq ?_|refine w_region ?_|refine w_ops_nil ?_|refine w_skip ?_|refine w_block ?_|refine w_blk ?_|refine q7 ?_|refine q8 ?_|refine q9 ?_)
      refine w_retG (res2 rfl rfl rfl) hst' fun h' _ => ⟨.slice none 0 0, by rw [hh2], ?_⟩
      unfold addrsC; rw [hh2]
      exact Own.nil _ _ _ _
    · have hh2 : hitC m k now = true := by rw [hh]; exact decide_eq_true (by omega)
      repeat (first|refine q1 ?_|refine q2 ?_|refine q3 ?_|refine q4 ?_|refine q5 ?_|refine q6 ?_|refine w_seq ?_|refine w_region ?_|refine w_ops_nil ?_|refine w_skip ?_|refine w_block ?_|refine w_blk ?_|refine q7 ?_|refine q8 ?_|refine q9 ?_)
      refine w_fldA (by decide) rfl rfl ?_
      refine w_load1 (v := (getD m k).sl.1) hc8 rfl rfl rfl rfl ?_
      refine w_callF (vs := [(getD m k).sl.1]) rfl (CloneO_ad (getD m k).addrs h hrd hal2) rfl fun u h2 hs2 ho2 => ?_
      repeat (first|refine q1 ?_|refine q2 ?_|refine q3 ?_|refine q4 ?_|refine q5 ?_|refine q6 ?_|refine w_seq ?_|refine w_region ?_|refine w_ops_nil ?_|refine w_skip ?_|refine w_block ?_|refine w_blk ?_|refine q7 ?_|refine q8 ?_|refine q9 ?_)
      refine w_retG (res2 rfl rfl rfl) (hst'.trans (hs2.mono (by simp) (by simp))) fun h' hv' => ⟨u, by rw [hh2], ?_⟩
      unfold addrsC; rw [hh2]
      exact ho2.view hv' (.inr (by simp))
end Go.Proofs.Ytfkdfnookacgiaa
