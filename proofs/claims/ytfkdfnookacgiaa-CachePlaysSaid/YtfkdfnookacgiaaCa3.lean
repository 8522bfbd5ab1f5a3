/- Caches: the program's Keys, Sweep, first, Until, Get. No statement of the seat is proved here. -/
import Derived.Test.YtfkdfnookacgiaaCa2
set_option linter.unusedVariables false
set_option linter.unusedSimpArgs false
namespace Go.Proofs.Ytfkdfnookacgiaa
open Go
attribute [local irreducible] Wp
def keysC (m : CaM) : List Ck := srt cmpC (m.map (·.1))
theorem Cache_KeysX (p q : Nat) (room : Int) (m : CaM) (g : G) {d1 d2 : Nat} (hcb : Cell g d1 p 68 [.int .i64 room, .map (some q)]) (hmq : MapIs g d2 q El.ck El.cv m) (hl : m.length ≤ 1000) : Fn Try.prog 24 [.pointer (some ⟨p, 0, none⟩)] g [] fun u h => Rd h 0 El.ck u (keysC m) := by
  refine enterG [] [] Try.func24 rfl Try.ntmps24 rfl (by simp) fun g1 hv ho => ?_
  obtain ⟨c, _, hcb⟩ := hcb.seen hv ho (by simp)
  obtain ⟨c2, _, hmq⟩ := hmq.seen hv ho (by simp)
  repeat (first|refine q1 ?_|refine q2 ?_|refine q3 ?_|refine q4 ?_|refine q5 ?_|refine q6 ?_|refine w_seq ?_|refine w_region ?_|refine w_ops_nil ?_|refine w_skip ?_|refine w_block ?_|refine w_blk ?_|refine q7 ?_|refine q8 ?_|refine q9 ?_)
  refine w_fldA (by decide) rfl rfl ?_
  refine w_load1 (v := .map (some q)) hcb rfl rfl rfl rfl ?_
  refine w_callF (vs := [.map (some q)]) rfl (ca_keys q g1) rfl fun v h2 hs2 hr2 => ?_
  obtain ⟨bb, rfl, hbb⟩ := hr2
  replace hmq := hmq.step hs2 (by simp) (by simp)
  obtain ⟨l, clock, hE, rfl⟩ := hmq.ent
  rw [List.length_map] at hl
  refine w_callF (vs := [.func (.func 43) #[] #[.pointer (some ⟨bb, 0, none⟩)], .func (.func 36) #[] #[]]) rfl
    (ca_sorted _ _ (by omega) (ca_keys_gives hE.1.1 hE.2 hbb) (fun xs hp => by have := hp.length_eq; rw [List.length_map] at this; omega) h2 (Nat.le_refl _) (fun _ _ => rfl)) rfl fun v h3 hs3 hr3 => ?_
  obtain ⟨xs, hp, hr⟩ := hr3
  repeat (first|refine q1 ?_|refine q2 ?_|refine q3 ?_|refine q4 ?_|refine q5 ?_|refine q6 ?_|refine w_seq ?_|refine w_region ?_|refine w_ops_nil ?_|refine w_skip ?_|refine w_block ?_|refine w_blk ?_|refine q7 ?_|refine q8 ?_|refine q9 ?_)
  refine w_retG (res1 rfl rfl) (hs2.go hs3) fun h' hv' => ?_
  have e : keysC (l.map fun x => (x.1, x.2.1)) = srt cmpC xs := by
    unfold keysC
    rw [List.map_map]
    exact (srt_of_perm isCmpC hp).symm
  rw [e]
  exact hr.view hv' (.inl rfl)

theorem Cache_Keys (p : Nat) (room : Int) (m : CaM) (g : G) (hb : Cm g p room m) (hl : m.length ≤ 1000) : Fn Try.prog 24 [.pointer (some ⟨p, 0, none⟩)] g [] fun u h => Rd h 0 El.ck u (keysC m) := by
  obtain ⟨q, hcb, hmq, _⟩ := hb
  exact Cache_KeysX p q room m g hcb hmq hl

def overC (now : Int) (m : CaM) : CaM := m.filter fun x => !(decide (x.2.till ≤ now))
def getD (m : CaM) (k : Ck) : Cv := (mget k m).getD Cv.zero
def tvC (m : CaM) (k : Ck) : Int := (getD m k).till
theorem opt_cv (m : CaM) (k : Ck) : optV El.cv (El.cv.val Cv.zero) (mget k m) = El.cv.val (getD m k) := by unfold optV getD; cases mget k m <;> rfl

theorem Cache_Sweep1 (k : Ck) (v : Cv) (now : Int) (b : Nat) (g : G) {c : Nat} (hc : Cell g c b 3 [.int .i64 now]) : Fn Try.prog 32 [El.ck.val k, El.cv.val v, .pointer (some ⟨b, 0, none⟩)] g [] fun u _ => u = .bool (decide (v.till ≤ now)) := by
  refine enterG [] [41, 42] Try.func32 rfl Try.ntmps32 rfl (by simp) fun g1 hv ho => ?_
  obtain ⟨c', _, hc⟩ := hc.seen hv ho (by simp)
  repeat (first|refine q1 ?_|refine q2 ?_|refine q3 ?_|refine q4 ?_|refine q5 ?_|refine q6 ?_|refine w_seq ?_|refine w_region ?_|refine w_ops_nil ?_|refine w_skip ?_|refine w_block ?_|refine w_blk ?_|refine q7 ?_|refine q8 ?_|refine q9 ?_)
  refine w_box 41 (vs := El.ck.enc k) rfl rfl rfl fun h1 b1 hs1 hc1 => ?_
  have hst : Step [] [41, 42] g1 h1 := hs1.nil
  replace hc := hc.go hs1
  repeat (first|refine q1 ?_|refine q2 ?_|refine q3 ?_|refine q4 ?_|refine q5 ?_|refine q6 ?_|refine w_seq ?_|refine w_region ?_|refine w_ops_nil ?_|refine w_skip ?_|refine w_block ?_|refine w_blk ?_|refine q7 ?_|refine q8 ?_|refine q9 ?_)
  refine w_box 42 (vs := El.cv.enc v) rfl rfl rfl fun h2 b2 hs2 hc2 => ?_
  replace hst := hst.go hs2; replace hc := hc.go hs2
  repeat (first|refine q1 ?_|refine q2 ?_|refine q3 ?_|refine q4 ?_|refine q5 ?_|refine q6 ?_|refine w_seq ?_|refine w_region ?_|refine w_ops_nil ?_|refine w_skip ?_|refine w_block ?_|refine w_blk ?_|refine q7 ?_|refine q8 ?_|refine q9 ?_)
  refine w_fldA (by decide) rfl rfl ?_
  refine w_load1 (v := .int .i64 v.till) hc2 rfl rfl rfl rfl ?_
  refine w_load1 (v := .int .i64 now) hc rfl rfl rfl rfl ?_
  repeat (first|refine q1 ?_|refine q2 ?_|refine q3 ?_|refine q4 ?_|refine q5 ?_|refine q6 ?_|refine w_seq ?_|refine w_region ?_|refine w_ops_nil ?_|refine w_skip ?_|refine w_block ?_|refine w_blk ?_|refine q7 ?_|refine q8 ?_|refine q9 ?_)
  exact w_retG (res1 rfl rfl) hst fun h' _ => rfl
theorem Cache_Sweep (p : Nat) (room : Int) (m : CaM) (now : Int) (g : G) (hb : Cm g p room m) (hnd : (m.map (·.1)).Nodup) (hl : m.length ≤ 1000) :
    Fn Try.prog 17 [.pointer (some ⟨p, 0, none⟩), .int .i64 now] g [51, 52] fun u h => u = .int .i64 ((m.length : Int) - (overC now m).length) ∧ Cm h p room (overC now m) := by
  refine enterG [51, 52] [41] Try.func17 rfl Try.ntmps17 rfl (by simp) fun g1 hv ho => ?_
  replace hb := hb.view hv
  obtain ⟨q, hcb, hmq, hrd⟩ := hb
  repeat (first|refine q1 ?_|refine q2 ?_|refine q3 ?_|refine q4 ?_|refine q5 ?_|refine q6 ?_|refine w_seq ?_|refine w_region ?_|refine w_ops_nil ?_|refine w_skip ?_|refine w_block ?_|refine w_blk ?_|refine q7 ?_|refine q8 ?_|refine q9 ?_)
  refine w_box 41 (vs := [.int .i64 now]) rfl rfl rfl fun h1 b1 hs1 hc1 => ?_
  have hst : Step [] [51, 52, 41] g1 h1 := hs1.nil
  replace hcb := hcb.go hs1
  replace hmq := hmq.step hs1 (by simp) (by simp)
  repeat (first|refine q1 ?_|refine q2 ?_|refine q3 ?_|refine q4 ?_|refine q5 ?_|refine q6 ?_|refine w_seq ?_|refine w_region ?_|refine w_ops_nil ?_|refine w_skip ?_|refine w_block ?_|refine w_blk ?_|refine q7 ?_|refine q8 ?_|refine q9 ?_)
  refine w_fldA (by decide) rfl rfl ?_
  refine w_load1 (v := .map (some q)) hcb rfl rfl rfl rfl ?_
  refine w_lenMap hmq rfl rfl ?_
  repeat (first|refine q1 ?_|refine q2 ?_|refine q3 ?_|refine q4 ?_|refine q5 ?_|refine q6 ?_|refine w_seq ?_|refine w_region ?_|refine w_ops_nil ?_|refine w_skip ?_|refine w_block ?_|refine w_blk ?_|refine q7 ?_|refine q8 ?_|refine q9 ?_)
  refine w_fldA (by decide) rfl rfl ?_
  refine w_load1 (v := .map (some q)) hcb rfl rfl rfl rfl ?_
  repeat (first|refine q1 ?_|refine q2 ?_|refine q3 ?_|refine q4 ?_|refine q5 ?_|refine q6 ?_|refine w_seq ?_|refine w_region ?_|refine w_ops_nil ?_|refine w_skip ?_|refine w_block ?_|refine w_blk ?_|refine q7 ?_|refine q8 ?_|refine q9 ?_)
  refine w_callF rfl (maps_DeleteFunc 32 #[.pointer (some ⟨b1, 0, none⟩)] (fun _ v => decide (v.till ≤ now)) (fun h => ∃ c, c < 2 ∧ Cell h c b1 3 [.int .i64 now])
    (fun g h M ⟨c, hc2, hc⟩ hs hM => ⟨c, hc2, hc.step hs (fun hx => by have := hM c hx; omega) (by simp)⟩) m q h1 (fun h hv ho => by obtain ⟨c', hc', hc⟩ := hc1.seen hv ho (by simp); exact ⟨c', hc', hc⟩) hmq hnd
    (fun k v g ⟨c, _, hc⟩ => Cache_Sweep1 k v now b1 g hc)) rfl fun u h2 hs2 hm2 => ?_
  have hm2 : MapIs h2 52 q El.ck El.cv (overC now m) := hm2
  replace hst := hst.go hs2; replace hcb := hcb.go hs2
  repeat (first|refine q1 ?_|refine q2 ?_|refine q3 ?_|refine q4 ?_|refine q5 ?_|refine q6 ?_|refine w_seq ?_|refine w_region ?_|refine w_ops_nil ?_|refine w_skip ?_|refine w_block ?_|refine w_blk ?_|refine q7 ?_|refine q8 ?_|refine q9 ?_)
  refine w_fldA (by decide) rfl rfl ?_
  refine w_load1 (v := .map (some q)) hcb rfl rfl rfl rfl ?_
  refine w_lenMap hm2 rfl rfl ?_
  have hfl := List.length_filter_le (fun x : Ck × Cv => !(decide (x.2.till ≤ now))) m
  have hfl2 : (overC now m).length ≤ m.length := hfl
  repeat (first|refine q1 ?_|refine q2 ?_|refine q3 ?_|refine q4 ?_|refine q5 ?_|refine q6 ?_|refine w_seq ?_|refine w_region ?_|refine w_ops_nil ?_|refine w_skip ?_|refine w_block ?_|refine w_blk ?_|refine q7 ?_|refine q8 ?_|refine q9 ?_)
  have hB : Cm h2 p room (overC now m) := ⟨q, hcb, hm2, fun x hx => ((hrd x (List.mem_filter.1 hx).1).step hs1 (by simp)).step hs2 (by simp)⟩
  exact w_retG (res1 rfl rfl) hst fun h' hv' => ⟨rfl, hB.view hv'⟩

theorem Cache_first1 (x y : Ck) (b p q : Nat) (room : Int) (m : CaM) (g : G) {c1 c2 c3 : Nat} (hc : Cell g c1 b 23 [.pointer (some ⟨p, 0, none⟩)]) (hp : Cell g c2 p 68 [.int .i64 room, .map (some q)]) (hm : MapIs g c3 q El.ck El.cv m) :
    Fn Try.prog 39 [El.ck.val x, El.ck.val y, .pointer (some ⟨b, 0, none⟩)] g [] fun u _ => u = .int .i64 (cmpI (tvC m x) (tvC m y)) := by
  refine enterG [] [41] Try.func39 rfl Try.ntmps39 rfl (by simp) fun g1 hv ho => ?_
  obtain ⟨d1, hd1, hc⟩ := hc.seen hv ho (by simp)
  obtain ⟨d2, hd2, hp⟩ := hp.seen hv ho (by simp)
  obtain ⟨d3, hd3, hm⟩ := hm.seen hv ho (by simp)
  repeat (first|refine q1 ?_|refine q2 ?_|refine q3 ?_|refine q4 ?_|refine q5 ?_|refine q6 ?_|refine w_seq ?_|refine w_region ?_|refine w_ops_nil ?_|refine w_skip ?_|refine w_block ?_|refine w_blk ?_|refine q7 ?_|refine q8 ?_|refine q9 ?_)
  refine w_box 41 (vs := El.ck.enc x) rfl rfl rfl fun h1 b1 hs1 hc1 => ?_
  have hst : Step [] [41] g1 h1 := hs1.nil
  replace hm := hm.step hs1 (by simp) (by simp)
  replace hc := hc.go hs1; replace hp := hp.go hs1
  repeat (first|refine q1 ?_|refine q2 ?_|refine q3 ?_|refine q4 ?_|refine q5 ?_|refine q6 ?_|refine w_seq ?_|refine w_region ?_|refine w_ops_nil ?_|refine w_skip ?_|refine w_block ?_|refine w_blk ?_|refine q7 ?_|refine q8 ?_|refine q9 ?_)
  refine w_box 41 (vs := El.ck.enc y) rfl rfl rfl fun h2 b2 hs2 hc2 => ?_
  replace hm := hm.step hs2 (by simp) (by simp)
  replace hst := hst.go hs2; replace hc := hc.go hs2; replace hp := hp.go hs2; replace hc1 := hc1.go hs2
  repeat (first|refine q1 ?_|refine q2 ?_|refine q3 ?_|refine q4 ?_|refine q5 ?_|refine q6 ?_|refine w_seq ?_|refine w_region ?_|refine w_ops_nil ?_|refine w_skip ?_|refine w_blk ?_|refine q7 ?_|refine q8 ?_|refine q9 ?_)
  refine d_begin none [] (by kernel_rfl) fun g2 hsd => ?_
  replace hm := hm.step hsd (by simp) (by simp)
  replace hst := hst.go hsd; replace hc := hc.go hsd; replace hp := hp.go hsd; replace hc1 := hc1.go hsd; replace hc2 := hc2.go hsd
  refine d_read 0 calm_ret rfl (by kernel_rfl) rfl  (fun h hs => r_load1 (v := .pointer (some ⟨p, 0, none⟩)) (hc.go hs) rfl rfl rfl) ?_
  refine d_pure 1 calm_ret rfl (by kernel_rfl) rfl rfl ?_
  refine d_read 2 calm_ret rfl (by kernel_rfl) rfl  (fun h hs => r_fldA (by decide) rfl) ?_
  refine d_read 3 calm_ret rfl (by kernel_rfl) rfl  (fun h hs => r_load1 (v := .map (some q)) (hp.go hs) rfl rfl rfl) ?_
  refine d_read 4 calm_ret rfl (by kernel_rfl) rfl  (fun h hs => r_load (us := El.ck.enc x) (hc1.go hs) rfl rfl rfl (fun e => by cases e)) ?_
  refine d_read 5 calm_ret rfl (by kernel_rfl) rfl  (fun h hs => r_lookup (V := El.cv) (key := x) (hm.step hs (by simp) (by simp)) rfl rfl) ?_
  refine d_known 11 (El.cv.val (getD m x)) rfl (opt_cv m x) ?_
  refine d_read 6 calm_ret rfl (by kernel_rfl) rfl  (fun h hs => r_fld (cs := (El.cv.enc (getD m x)).toArray) (u := .int .i64 (tvC m x)) rfl rfl) ?_
  refine d_read 7 calm_ret rfl (by kernel_rfl) rfl  (fun h hs => r_load1 (v := .pointer (some ⟨p, 0, none⟩)) (hc.go hs) rfl rfl rfl) ?_
  refine d_pure 8 calm_ret rfl (by kernel_rfl) rfl rfl ?_
  refine d_read 9 calm_ret rfl (by kernel_rfl) rfl  (fun h hs => r_fldA (by decide) rfl) ?_
  refine d_read 10 calm_ret rfl (by kernel_rfl) rfl  (fun h hs => r_load1 (v := .map (some q)) (hp.go hs) rfl rfl rfl) ?_
  refine d_read 11 calm_ret rfl (by kernel_rfl) rfl  (fun h hs => r_load (us := El.ck.enc y) (hc2.go hs) rfl rfl rfl (fun e => by cases e)) ?_
  refine d_read 12 calm_ret rfl (by kernel_rfl) rfl  (fun h hs => r_lookup (V := El.cv) (key := y) (hm.step hs (by simp) (by simp)) rfl rfl) ?_
  refine d_known 18 (El.cv.val (getD m y)) rfl (opt_cv m y) ?_
  refine d_read 13 calm_ret rfl (by kernel_rfl) rfl  (fun h hs => r_fld (cs := (El.cv.enc (getD m y)).toArray) (u := .int .i64 (tvC m y)) rfl rfl) ?_
  refine d_exec1 14 (by kernel_rfl) rfl ?_
  refine w_callF (vs := [.int .i64 (tvC m x), .int .i64 (tvC m y)]) rfl (cmp_int (tvC m x) (tvC m y) g2) rfl fun u h3 hs3 hu => ?_
  subst hu
  have hsb := hs3
  replace hst := hst.go hs3
  repeat (first|refine q1 ?_|refine q2 ?_|refine q3 ?_|refine q4 ?_|refine q5 ?_|refine q6 ?_|refine w_seq ?_|refine w_region ?_|refine w_ops_nil ?_|refine w_skip ?_|refine w_block ?_|refine w_blk ?_|refine q7 ?_|refine q8 ?_|refine q9 ?_)
  refine d_next (fun _ => ⟨h3, rfl, hsb⟩) ?_
  refine d_pure 15 calm_ret rfl (by kernel_rfl) rfl rfl ?_
  refine d_done (by kernel_rfl) ?_
  repeat (first|refine q1 ?_|refine q2 ?_|refine q3 ?_|refine q4 ?_|refine q5 ?_|refine q6 ?_|refine w_seq ?_|refine w_region ?_|refine w_ops_nil ?_|refine w_skip ?_|refine w_block ?_|refine w_blk ?_|refine q7 ?_|refine q8 ?_|refine q9 ?_)
  exact w_retG (res1 rfl rfl) hst fun h' _ => rfl
theorem Cache_first (p : Nat) (room : Int) (m : CaM) (g : G) (hb : Cm g p room m) (hl : m.length ≤ 1000) (b : Ck) (ks : List Ck) (hks : keysC m = b :: ks) :
    Fn Try.prog 29 [.pointer (some ⟨p, 0, none⟩)] g [] fun u _ => u = El.ck.val (leastBy (tvC m) b ks) := by
  obtain ⟨q0, hcb0, hmq0, hrd0⟩ := hb
  refine enterG [] [41, 42, 51, 52] Try.func29 rfl Try.ntmps29 rfl (by simp) fun g1 hv ho => ?_
  have hb1 : ∃ c1 c2, c1 < 2 ∧ c2 < 2 ∧ Cell g1 c1 p 68 [.int .i64 room, .map (some q0)] ∧ MapIs g1 c2 q0 El.ck El.cv m := by
    obtain ⟨c1, hc1, a1⟩ := hcb0.seen hv ho (by simp)
    obtain ⟨c2, hc2, a2⟩ := hmq0.seen hv ho (by simp)
    exact ⟨c1, c2, hc1, hc2, a1, a2⟩
  obtain ⟨c1, c2, hc1l, hc2l, hcb, hmq⟩ := hb1
  repeat (first|refine q1 ?_|refine q2 ?_|refine q3 ?_|refine q4 ?_|refine q5 ?_|refine q6 ?_|refine w_seq ?_|refine w_region ?_|refine w_ops_nil ?_|refine w_skip ?_|refine w_block ?_|refine w_blk ?_|refine q7 ?_|refine q8 ?_|refine q9 ?_)
  refine w_box 41 (vs := [.pointer (some ⟨p, 0, none⟩)]) rfl rfl rfl fun h1 b1 hs1 hcp => ?_
  have hst : Step [] [41, 42, 51, 52] g1 h1 := hs1.nil
  replace hcb := hcb.go hs1
  replace hmq := hmq.step hs1 (by simp) (by simp)
  repeat (first|refine q1 ?_|refine q2 ?_|refine q3 ?_|refine q4 ?_|refine q5 ?_|refine q6 ?_|refine w_seq ?_|refine w_region ?_|refine w_ops_nil ?_|refine w_skip ?_|refine w_block ?_|refine w_blk ?_|refine q7 ?_|refine q8 ?_|refine q9 ?_)
  refine w_alloc 42 (vs := El.ck.enc Ck.zero) rfl rfl fun h2 b2 hs2 hc2 => ?_
  replace hst := hst.go hs2; replace hcb := hcb.go hs2; replace hcp := hcp.go hs2
  replace hmq := hmq.step hs2 (by simp) (by simp)
  repeat (first|refine q1 ?_|refine q2 ?_|refine q3 ?_|refine q4 ?_|refine q5 ?_|refine q6 ?_|refine w_seq ?_|refine w_region ?_|refine w_ops_nil ?_|refine w_skip ?_|refine w_block ?_|refine w_blk ?_|refine q7 ?_|refine q8 ?_|refine q9 ?_)
  refine w_load1 (v := .pointer (some ⟨p, 0, none⟩)) hcp rfl rfl rfl rfl ?_
  refine w_callF (vs := [.pointer (some ⟨p, 0, none⟩)]) rfl (Cache_KeysX p q0 room m h2 hcb hmq hl) rfl fun v h3 hs3 hrk => ?_
  rw [hks] at hrk
  replace hst := hst.go hs3; replace hcb := hcb.go hs3; replace hcp := hcp.go hs3; replace hc2 := hc2.go hs3
  replace hmq := hmq.step hs3 (by simp) (by simp)
  repeat (first|refine q1 ?_|refine q2 ?_|refine q3 ?_|refine q4 ?_|refine q5 ?_|refine q6 ?_|refine w_seq ?_|refine w_region ?_|refine w_ops_nil ?_|refine w_skip ?_|refine w_block ?_|refine w_blk ?_|refine q7 ?_|refine q8 ?_|refine q9 ?_)
  refine w_callF rfl (ca_min 39 #[.pointer (some ⟨b1, 0, none⟩)] (tvC m)
    (fun h => ∃ c1 c2 c3, (c1 < 2 ∧ c2 < 2 ∧ c3 < 2) ∧ Cell h c1 b1 23 [.pointer (some ⟨p, 0, none⟩)] ∧ Cell h c2 p 68 [.int .i64 room, .map (some q0)] ∧ MapIs h c3 q0 El.ck El.cv m)
    (fun g h M ⟨c1, c2, c3, hc, a1, a2, a3⟩ hs hM => ⟨c1, c2, c3, hc, a1.step hs (fun hx => by have := hM _ hx; omega) (by simp), a2.step hs (fun hx => by have := hM _ hx; omega) (by simp), a3.step hs (fun hx => by have := hM _ hx; omega) (by simp)⟩)
    b ks v h3 hrk (fun h hv ho => by
      obtain ⟨d1, hd1, a1⟩ := hcp.seen hv ho (by simp)
      obtain ⟨d2, hd2, a2⟩ := hcb.seen hv ho (by simp)
      obtain ⟨d3, hd3, a3⟩ := hmq.seen hv ho (by simp)
      exact ⟨d1, d2, d3, ⟨hd1, hd2, hd3⟩, a1, a2, a3⟩)
    (fun x y g ⟨c1, c2, c3, hc, a1, a2, a3⟩ => Cache_first1 x y b1 p q0 room m g a1 a2 a3)) rfl fun u h4 hs4 hu => ?_
  subst hu
  replace hst := hst.go hs4; replace hc2 := hc2.go hs4
  refine w_store (us := El.ck.enc (leastBy (tvC m) b ks)) (vs' := El.ck.enc (leastBy (tvC m) b ks)) hc2 rfl rfl rfl rfl (El.ck.flat _) (show 0 + 2 ≤ 2 by decide) rfl fun h5 hb5 hs5 hc2 => ?_
  replace hst := hst.go hs5
  repeat (first|refine q1 ?_|refine q2 ?_|refine q3 ?_|refine q4 ?_|refine q5 ?_|refine q6 ?_|refine w_seq ?_|refine w_region ?_|refine w_ops_nil ?_|refine w_skip ?_|refine w_block ?_|refine w_blk ?_|refine q7 ?_|refine q8 ?_|refine q9 ?_)
  exact w_retG (resCs hc2 rfl rfl rfl rfl) hst fun h' _ => rfl

def hitC (m : CaM) (k : Ck) (now : Int) : Bool := match mget k m with | some x => decide (now < x.till) | none => false
def addrsC (m : CaM) (k : Ck) (now : Int) : List Ad := if hitC m k now then (getD m k).addrs else []
theorem hit_split (m : CaM) (k : Ck) (now : Int) : hitC m k now = ((mget k m).isSome && decide (now < (getD m k).till)) := by unfold hitC getD; cases mget k m <;> rfl
end Go.Proofs.Ytfkdfnookacgiaa
